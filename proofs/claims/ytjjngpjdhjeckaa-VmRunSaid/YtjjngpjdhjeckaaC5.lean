/- Part of a proof; own work. -/
import Derived.Test.YtjjngpjdhjeckaaC4
/- Steps that may change places (own work). -/
namespace Go.Aw
open Go
set_option linter.unusedVariables false
set_option linter.unusedSimpArgs false

def GStep (P : Program) (i : EI) (env : Env) (H : AHeap) (K Rp : AV → AHeap → Prop) : Prop :=
  match wanted i env with
  | some true => IStep P i.op env H K Rp
  | some false => K .undef H
  | none => False
theorem DM_cons {P : Program} {i : EI} {l : List EI} {env : Env} {H : AHeap} {K : Env → AHeap → Prop} {Rp : AV → AHeap → Prop} : DM P (i :: l) env H K Rp ↔ GStep P i env H (fun v H' => DM P l (env.put i.dst v) H' K Rp) Rp := by
  simp only [DM, GStep]
  cases wanted i env with
  | none => exact Iff.rfl
  | some b => cases b <;> exact Iff.rfl
def EnvEq (e e' : Env) : Prop := ∀ k, e.get k = e'.get k
def OpdEq (op : EOp) (env env' : Env) : Prop := ∀ x ∈ op.opds, x.ev env = x.ev env'
def Agree (i : EI) (env env' : Env) : Prop := OpdEq i.op env env' ∧ ∀ j w, i.guard = some (j, w) → env.get j = env'.get j

theorem agree_of_reads {i : EI} {env env' : Env} (h : ∀ k ∈ i.reads, env.get k = env'.get k) : Agree i env env' := by
  refine ⟨fun x hx => ?_, fun j w hg => h j ?_⟩
  · cases x with
    | c a => rfl
    | t n => exact h n (by simp only [EI.reads, List.mem_append]; exact .inl (List.mem_filterMap.2 ⟨.t n, hx, rfl⟩))
  · simp [EI.reads, hg]
theorem wanted_congr {i : EI} {env env' : Env} (h : Agree i env env') : wanted i env = wanted i env' := by
  unfold wanted
  cases hg : i.guard with
  | none => rfl
  | some jw => obtain ⟨j, w⟩ := jw; simp only [h.2 j w hg]
theorem map_ev {xs : List EOpd} {env env' : Env} (h : ∀ x ∈ xs, x.ev env = x.ev env') : xs.map (EOpd.ev env) = xs.map (EOpd.ev env') := List.map_congr_left h
theorem buildParts_congr {env env' : Env} : ∀ (ps : List (Nat × Nat × EOpd)) (cs : List AV), (∀ x ∈ ps.map (·.2.2), x.ev env = x.ev env') → buildParts env cs ps = buildParts env' cs ps
  | [], _, _ => rfl
  | (o, s, x) :: ps, cs, h => by
    have h1 := h x (by simp)
    simp only [buildParts, h1]
    rw [buildParts_congr ps _ fun y hy => h y (by simp at hy ⊢; exact .inr hy)]
theorem peval_congr {op : EOp} {env env' : Env} (H : AHeap) (h : OpdEq op env env') : peval op env H = peval op env' H := by
  cases op <;> simp only [peval] <;> simp only [OpdEq, EOp.opds, List.mem_cons, List.not_mem_nil, or_false, forall_eq_or_imp, forall_eq] at h <;> first
    | rfl
    | (simp only [h]; done)
    | (rw [h]; done)
    | (obtain ⟨h1, h2⟩ := h; rw [h1, h2]; done)
    | (obtain ⟨h1, h2, h3⟩ := h; rw [h1, h2, h3]; done)
    | (rw [buildParts_congr _ _ h]; done)
    | (obtain ⟨h1, h2⟩ := h; simp only [EOpd.ev] at h1; rw [h1, h2]; done)
    | (rw [map_ev h]; done)
theorem optNat_congr {env env' : Env} {d : Nat} {x : Option EOpd} (h : ∀ y ∈ x.toList, y.ev env = y.ev env') : optNat env d x = optNat env' d x := by
  cases x with
  | none => rfl
  | some y => simp only [optNat, h y (by simp)]
theorem bslRows_congr {env env' : Env} {ps : List (Nat × EOpd)} (h : ∀ x ∈ ps.map (·.2), x.ev env = x.ev env') : bslRows env ps = bslRows env' ps := by
  unfold bslRows
  refine List.map_congr_left fun p hp => ?_
  rw [h p.2 (List.mem_map.2 ⟨p, hp, rfl⟩)]
theorem desc_congr {P : Program} {op : EOp} {env env' : Env} {H : AHeap} {d : D} (h : OpdEq op env env') (hd : Desc P op env H d) : Desc P op env' H d := by
  cases hd with
  | pure hp => exact .pure ((peval_congr H h).symm.trans hp)
  | quo hx hy hb => exact .quo ((h _ (by simp [EOp.opds])).symm.trans hx) ((h _ (by simp [EOp.opds])).symm.trans hy) hb
  | rem hx hy hb => exact .rem ((h _ (by simp [EOp.opds])).symm.trans hx) ((h _ (by simp [EOp.opds])).symm.trans hy) hb
  | cat hx hy hb => exact .cat ((h _ (by simp [EOp.opds])).symm.trans hx) ((h _ (by simp [EOp.opds])).symm.trans hy) hb
  | idxV hx hi h0 hr => exact .idxV ((h _ (by simp [EOp.opds])).symm.trans hx) ((h _ (by simp [EOp.opds])).symm.trans hi) h0 hr
  | idxO hx hi h0 hr => exact .idxO ((h _ (by simp [EOp.opds])).symm.trans hx) ((h _ (by simp [EOp.opds])).symm.trans hi) h0 hr
  | idxM hx hi h0 hr => exact .idxM ((h _ (by simp [EOp.opds])).symm.trans hx) ((h _ (by simp [EOp.opds])).symm.trans hi) h0 hr
  | idxP hx hi h0 hr => exact .idxP ((h _ (by simp [EOp.opds])).symm.trans hx) ((h _ (by simp [EOp.opds])).symm.trans hi) h0 hr
  | idxR hx hi h0 hr => exact .idxR ((h _ (by simp [EOp.opds])).symm.trans hx) ((h _ (by simp [EOp.opds])).symm.trans hi) h0 hr
  | idxA hx hi h0 h1 hl hv => exact .idxA ((h _ (by simp [EOp.opds])).symm.trans hx) ((h _ (by simp [EOp.opds])).symm.trans hi) h0 h1 hl hv
  | idxS hx hi h0 hc => exact .idxS ((h _ (by simp [EOp.opds])).symm.trans hx) ((h _ (by simp [EOp.opds])).symm.trans hi) h0 hc
  | slS hx hl hh h1 h2 => exact .slS ((h _ (by simp [EOp.opds])).symm.trans hx) ((optNat_congr fun y hy => h y (by simp only [EOp.opds, List.mem_cons, List.mem_append]; exact .inr (.inl hy))).symm.trans hl) ((optNat_congr fun y hy => h y (by simp only [EOp.opds, List.mem_cons, List.mem_append]; exact .inr (.inr hy))).symm.trans hh) h1 h2
  | slV hx hl hh h1 h2 => exact .slV ((h _ (by simp [EOp.opds])).symm.trans hx) ((optNat_congr fun y hy => h y (by simp only [EOp.opds, List.mem_cons, List.mem_append]; exact .inr (.inl (.inl hy)))).symm.trans hl) ((optNat_congr fun y hy => h y (by simp only [EOp.opds, List.mem_cons, List.mem_append]; exact .inr (.inl (.inr hy)))).symm.trans hh) h1 h2
  | box hx => rename_i T x; have e := h x (by simp [EOp.opds]); rw [e] at hx ⊢; exact .box hx
  | alloc hz => exact .alloc hz
  | bsliceV hr hs ho => exact .bsliceV ((bslRows_congr fun x hx => h x (by simpa [EOp.opds] using hx)).symm.trans hr) hs ho
  | bsliceO hr hs ho h0 => exact .bsliceO ((bslRows_congr fun x hx => h x (by simpa [EOp.opds] using hx)).symm.trans hr) hs ho h0
  | app0 hx hy hb hm h0 =>
    rename_i T size bytes x y rows
    exact .app0 ((h _ (by simp [EOp.opds])).symm.trans hx) (by rw [← h y (by simp [EOp.opds])]; exact hy) hb hm h0
  | pcall ha hp => exact .pcall (by rw [← map_ev fun x hx => h x (by simpa [EOp.opds] using hx)]; exact ha) hp
  | pcallv hx hf ha hp => exact .pcallv ((h _ (by simp [EOp.opds])).symm.trans hx) hf (by rw [← map_ev fun x hx => h x (by simp only [EOp.opds, List.mem_cons]; exact .inr hx)]; exact ha) hp
  | pcall' ha hp => exact .pcall' (by rw [← map_ev fun x hx => h x (by simpa [EOp.opds] using hx)]; exact ha) hp
  | pcallv' hx hf ha hp => exact .pcallv' ((h _ (by simp [EOp.opds])).symm.trans hx) hf (by rw [← map_ev fun x hx => h x (by simp only [EOp.opds, List.mem_cons]; exact .inr hx)]; exact ha) hp
  | lenM hx ht => exact .lenM ((h _ (by simp [EOp.opds])).symm.trans hx) ht
  | isnilT hx => exact .isnilT ((h _ (by simp [EOp.opds])).symm.trans hx)
  | isnilF hx hr => exact .isnilF ((h _ (by simp [EOp.opds])).symm.trans hx) hr
  | faddrM hx ht => exact .faddrM ((h _ (by simp [EOp.opds])).symm.trans hx) ht
  | iaddrM hx ht hi h0 h1 => exact .iaddrM ((h _ (by simp [EOp.opds])).symm.trans hx) ht ((h _ (by simp [EOp.opds])).symm.trans hi) h0 h1
  | loadM hx ht hl hv => exact .loadM ((h _ (by simp [EOp.opds])).symm.trans hx) ht hl hv
  | bsliceM hr hs ho h0 => exact .bsliceM ((bslRows_congr fun x hx => h x (by simpa [EOp.opds] using hx)).symm.trans hr) hs ho h0
  | appM0 hx hy hb hm h0 =>
    rename_i T size bytes x y rows
    exact .appM0 ((h _ (by simp [EOp.opds])).symm.trans hx) (by rw [← h y (by simp [EOp.opds])]; exact hy) hb hm h0
  | pcallM' ha hp => exact .pcallM' (by rw [← map_ev fun x hx => h x (by simpa [EOp.opds] using hx)]; exact ha) hp
theorem istep_congr {P : Program} {op : EOp} {env env' : Env} {H : AHeap} {K K' Rp Rp' : AV → AHeap → Prop} (h : OpdEq op env env') (hk : ∀ v H', K v H' → K' v H') (hr : ∀ v H', Rp v H' → Rp' v H') (hs : IStep P op env H K Rp) : IStep P op env' H K' Rp' := by
  cases hs with
  | sw d hd hh => exact .sw d (desc_congr h hd) fun x hx => hk _ _ (hh x hx)
  | store ha hb hn hl ho hh =>
    rename_i n a v b o T cs
    have e := h v (by simp [EOp.opds])
    exact .store ((h _ (by simp [EOp.opds])).symm.trans ha) hb (by rw [← e]; exact hn) hl (by rw [← e]; exact ho) (by rw [← e]; exact hk _ _ hh)
  | storeD hme hoth ha hb hn hl ho hh =>
    rename_i me others n a v b o T cs
    have e := h v (by simp [EOp.opds])
    refine .storeD ((h (.t me) (by simp [EOp.opds])).symm.trans hme) (fun s hs => ?_) ((h _ (by simp [EOp.opds])).symm.trans ha) hb (by rw [← e]; exact hn) hl (by rw [← e]; exact ho) (by rw [← e]; exact hk _ _ hh)
    obtain ⟨b', h1, h2⟩ := hoth s hs
    exact ⟨b', (h (.t s) (by simp [EOp.opds]; exact .inr (.inr (.inr hs)))).symm.trans h1, h2⟩
  | append hx ht hy hb hm hh =>
    rename_i T size bytes x y t rows new
    exact .append ((h _ (by simp [EOp.opds])).symm.trans hx) ht (by rw [← h y (by simp [EOp.opds])]; exact hy) hb hm (hk _ _ hh)
  | appendM hx ht hy hb hm hh =>
    rename_i T size bytes x y t ver rows new
    exact .appendM ((h _ (by simp [EOp.opds])).symm.trans hx) ht (by rw [← h y (by simp [EOp.opds])]; exact hy) hb hm (hk _ _ hh)
  | isnilU hx hh => exact .isnilU ((h _ (by simp [EOp.opds])).symm.trans hx) fun b => hk _ _ (hh b)
  | slM hx ht hl hh0 h1 hh => exact .slM ((h _ (by simp [EOp.opds])).symm.trans hx) ht ((optNat_congr fun y hy => h y (by simp only [EOp.opds, List.mem_cons, List.mem_append]; exact .inr (.inl hy))).symm.trans hl) ((optNat_congr fun y hy => h y (by simp only [EOp.opds, List.mem_cons, List.mem_append]; exact .inr (.inr hy))).symm.trans hh0) h1 (hk _ _ hh)
  | storeM ha ht hn hl ho hf hr' hlen hh =>
    rename_i n a v t ver k T size rows rows'
    have e := h v (by simp [EOp.opds])
    exact .storeM ((h _ (by simp [EOp.opds])).symm.trans ha) ht (by rw [← e]; exact hn) hl (by rw [← e]; exact ho) (by rw [← e]; exact hf) hr' hlen (hk _ _ hh)
  | call Q ha hc hh => exact .call Q (by rw [← map_ev fun x hx => h x (by simpa [EOp.opds] using hx)]; exact ha) hc fun o H' hq => by have := hh o H' hq; cases o <;> first | exact hk _ _ this | exact hr _ _ this
  | callv Q hx hf ha hc hh => exact .callv Q ((h _ (by simp [EOp.opds])).symm.trans hx) hf (by rw [← map_ev fun x hx => h x (by simp only [EOp.opds, List.mem_cons]; exact .inr hx)]; exact ha) hc fun o H' hq => by have := hh o H' hq; cases o <;> first | exact hk _ _ this | exact hr _ _ this
  | panic hx hh => exact .panic ((h _ (by simp [EOp.opds])).symm.trans hx) (hr _ _ hh)
theorem gstep_congr {P : Program} {i : EI} {env env' : Env} {H : AHeap} {K K' Rp Rp' : AV → AHeap → Prop} (h : Agree i env env') (hk : ∀ v H', K v H' → K' v H') (hr : ∀ v H', Rp v H' → Rp' v H') (hs : GStep P i env H K Rp) : GStep P i env' H K' Rp' := by
  unfold GStep at hs ⊢
  rw [← wanted_congr h]
  split at hs
  · exact istep_congr h.1 hk hr hs
  · exact hk _ _ hs
  · exact hs.elim
theorem put_get_eq {e e' : Env} (h : EnvEq e e') (d : Option Nat) (v : AV) : EnvEq (e.put d v) (e'.put d v) := fun k => by
  cases d with
  | none => exact h k
  | some d => simp only [Env.put, Env.get, h k]
theorem agree_of_eq {i : EI} {e e' : Env} (h : EnvEq e e') : Agree i e e' := agree_of_reads fun k _ => h k
theorem dm_congr {P : Program} {K : Env → AHeap → Prop} {Rp : AV → AHeap → Prop} (hK : ∀ e e' H, EnvEq e e' → K e H → K e' H) : ∀ (l : List EI) {e e' : Env} {H : AHeap}, EnvEq e e' → DM P l e H K Rp → DM P l e' H K Rp
  | [], e, e', H, h, hd => by simp only [DM] at hd ⊢; exact hK e e' H h hd
  | i :: l, e, e', H, h, hd => by
    rw [DM_cons] at hd ⊢
    exact gstep_congr (agree_of_eq h) (fun v H' hh => dm_congr hK l (put_get_eq h i.dst v) hh) (fun _ _ h => h) hd
end Go.Aw

/- Steps that may change places: the exchange (own work). -/
namespace Go.Aw
open Go
set_option linter.unusedVariables false
set_option linter.unusedSimpArgs false

theorem ofCells_inj {agg : Bool} {l : List AV} {a b : AV} (h : AV.ofCells agg l = some a) (k : AV.ofCells agg l = some b) : a = b := by rw [h] at k; simpa using k
def sp (op : EOp) (env : Env) : D :=
  match op with
  | .bin o x y => (match o, x.ev env, y.ev env with
    | .quo, .int k a, .int _ b => .det (.int k (k.wrap (a.tdiv b)))
    | .rem, .int k a, .int _ b => .det (.int k (a.tmod b))
    | .add, .str a, .str b => .det (.str (a ++ b))
    | _, _, _ => .det .top)
  | .iaddr size x i => (match x.ev env, i.ev env with
    | .vs _ rows, .int _ n => .det (.rp (rows.getD n.toNat []) 0)
    | .own _ _ rows, .int _ n => .det (.rp (rows.getD n.toNat []) 0)
    | .raw (.slice (some ⟨b, o, _⟩) _ _), .int _ n => .det (.ptr b (o + n.toNat * size))
    | _, _ => .det .top)
  | .iaddrA _ size x i => (match x.ev env, i.ev env with
    | .ptr b o, .int _ n => .det (.ptr b (o + n.toNat * size))
    | .rp r o, .int _ n => .det (.rp r (o + n.toNat * size))
    | _, _ => .det .top)
  | .idxA agg _ size x i => (match x.ev env, i.ev env with
    | .agg cs, .int _ n => .det ((AV.ofCells agg ((cs.drop (n.toNat * size)).take size)).getD .top)
    | _, _ => .det .top)
  | .idxS x i => (match x.ev env, i.ev env with
    | .str s, .int _ n => .det (.int .u8 (s.getD n.toNat 0).toNat)
    | _, _ => .det .top)
  | .slS x lo hi => (match x.ev env with
    | .str s => .det (.str ((s.take ((optNat env s.length hi).getD 0)).drop ((optNat env 0 lo).getD 0)))
    | _ => .det .top)
  | .slV size x lo hi _ => (match x.ev env with
    | .vs _ rows => .det (.vs size ((rows.take ((optNat env rows.length hi).getD 0)).drop ((optNat env 0 lo).getD 0)))
    | _ => .det .top)
  | .box T x => .nblk T (x.ev env).cells
  | .alloc T zero => .nblk T zero
  | .bslice _ size _ _ parts => .det (.vs size (bslRows env parts))
  | .bsliceO T size _ _ parts => .ntok T size (bslRows env parts)
  | .bsliceM T size _ _ parts => .nms T size (bslRows env parts)
  | .pcallMR T size _ _ rows => .nms T size rows
  | .append T size _ _ y => .ntok T size ((rowsOf size (y.ev env)).getD [])
  | .pcallR _ _ r => .det r
  | .pcallvR _ _ r => .det r
  | _ => .det .top
def dOf (op : EOp) (env : Env) (H : AHeap) : D :=
  match peval op env H with
  | some v => .det v
  | none => sp op env
theorem desc_dOf {P : Program} {op : EOp} {env : Env} {H : AHeap} {d : D} (hr : op.rank ≤ 2) (h : Desc P op env H d) : d = dOf op env H := by
  unfold dOf
  cases h with
  | pure hp => simp only [hp]
  | quo hx hy hb => simp [peval, hx, hy, binInt, sp]
  | rem hx hy hb => simp [peval, hx, hy, binInt, sp]
  | cat hx hy hb => simp [peval, hx, hy, binStr, sp]
  | idxV hx hi h0 hq => simp [peval, hx, hi, sp, hq, List.getD]
  | idxO hx hi h0 hq => simp [peval, hx, hi, sp, hq, List.getD]
  | idxM hx hi h0 hr => simp [peval, hx, hi, sp]
  | idxP hx hi h0 hr => simp [peval, hx, hi, sp]
  | idxR hx hi h0 hr => simp [peval, hx, hi, sp]
  | idxA hx hi h0 h1 hl hv => simp [peval, hx, hi, sp, hv]
  | idxS hx hi h0 hc => simp [peval, hx, hi, sp, hc, List.getD]
  | slS hx hl hh h1 h2 => simp [peval, hx, sp, hl, hh]
  | slV hx hl hh h1 h2 => simp [peval, hx, sp, hl, hh]
  | box hx => simp [peval, sp]
  | alloc hz => simp [peval, sp]
  | bsliceV hr hs ho => simp [peval, sp, hr]
  | bsliceO hr hs ho h0 => simp [peval, sp, hr]
  | app0 hx hy hb hm h0 => simp [peval, sp, hy]
  | pcall ha hp => simp [EOp.rank] at hr
  | pcallv hx hf ha hp => simp [EOp.rank] at hr
  | lenM hx ht => simp [EOp.rank] at hr
  | isnilT hx => simp [EOp.rank] at hr
  | isnilF hx _ => simp [EOp.rank] at hr
  | faddrM hx ht => simp [EOp.rank] at hr
  | iaddrM hx ht hi h0 h1 => simp [EOp.rank] at hr
  | loadM hx ht hl hv => simp [EOp.rank] at hr
  | bsliceM hq hs ho h0 => simp [peval, sp, hq]
  | appM0 hx hy hb hm h0 => simp [EOp.rank] at hr
  | pcallM' ha hp => simp [peval, sp]
  | pcall' ha hp => simp [peval, sp]
  | pcallv' hx hf ha hp => simp [peval, sp]
theorem desc_unique {P : Program} {op : EOp} {env : Env} {H : AHeap} {d d' : D} (hr : op.rank ≤ 2) (h : Desc P op env H d) (k : Desc P op env H d') : d = d' := by
  rw [desc_dOf hr h, desc_dOf hr k]
def HLe (H H' : AHeap) : Prop := ∀ b x, H.blk b = some x → H'.blk b = some x
theorem peval_up {op : EOp} {env : Env} {H H' : AHeap} {v : AV} (h : HLe H H') (hp : peval op env H = some v) : peval op env H' = some v := by
  cases op <;> try exact hp
  · rename_i agg n x
    simp only [peval] at hp ⊢
    split at hp
    · rename_i b o e
      cases hb : H.blk b with
      | none => simp [hb] at hp
      | some y => simp only [h b y hb]; simpa [hb] using hp
    · rename_i e; exact hp
    · cases hp
  · rename_i me agg n x
    simp only [peval] at hp ⊢
    split at hp
    · rename_i b b' o e1 e2
      cases hb : H.blk b' with
      | none => simp [hb] at hp
      | some y => simp only [h b' y hb]; simpa [hb] using hp
    · cases hp
theorem desc_up {P : Program} {op : EOp} {env : Env} {H H' : AHeap} {d : D} (hrk : op.rank ≤ 2) (h : HLe H H') (hd : Desc P op env H d) : Desc P op env H' d := by
  cases hd with
  | pure hp => exact .pure (peval_up h hp)
  | quo a b c => exact .quo a b c
  | rem a b c => exact .rem a b c
  | cat a b c => exact .cat a b c
  | idxV a b c d => exact .idxV a b c d
  | idxO a b c d => exact .idxO a b c d
  | idxM a b c d => exact .idxM a b c d
  | idxP a b c d => exact .idxP a b c d
  | idxR a b c d => exact .idxR a b c d
  | idxA a b c d e f => exact .idxA a b c d e f
  | idxS a b c d => exact .idxS a b c d
  | slS a b c d e => exact .slS a b c d e
  | slV a b c d e => exact .slV a b c d e
  | box a => exact .box a
  | alloc a => exact .alloc a
  | bsliceV a b c => exact .bsliceV a b c
  | bsliceO a b c d => exact .bsliceO a b c d
  | app0 a b c d e => exact .app0 a b c d e
  | pcall a b => exact .pcall a b
  | pcallv a b c d => exact .pcallv a b c d
  | lenM hx ht => simp [EOp.rank] at hrk
  | isnilT hx => simp [EOp.rank] at hrk
  | isnilF hx _ => simp [EOp.rank] at hrk
  | faddrM hx ht => simp [EOp.rank] at hrk
  | iaddrM hx ht hi h0 h1 => simp [EOp.rank] at hrk
  | loadM hx ht hl hv => simp [EOp.rank] at hrk
  | bsliceM a b c d => exact .bsliceM a b c d
  | appM0 hx hy hb hm h0 => simp [EOp.rank] at hrk
  | pcallM' a b => exact .pcallM' a b
  | pcall' a b => exact .pcall' a b
  | pcallv' a b c d => exact .pcallv' a b c d
/-- The number of a block, or of a token, that an operation looks at. -/
def refOf (op : EOp) (env : Env) : Nat :=
  match op with
  | .load _ _ x => match x.ev env with | .ptr b _ => b | _ => 0
  | .loadD _ _ _ x => match x.ev env with | .ptr b _ => b | _ => 0
  | .append _ _ _ x _ => match x.ev env with | .own t _ _ => t | _ => 0
  | _ => 0
theorem desc_down {P : Program} {op : EOp} {env : Env} {H H' : AHeap} {d : D} (hrk : op.rank ≤ 2) (h : H'.blk (refOf op env) = H.blk (refOf op env)) (hd : Desc P op env H' d) : Desc P op env H d := by
  cases hd with
  | pure hp =>
    refine .pure ?_
    cases op <;> try exact hp
    · rename_i agg n x
      simp only [peval, refOf] at hp h ⊢
      split at hp
      · rename_i b o e
        simp only [e] at h
        rw [← h]
        exact hp
      · exact hp
      · cases hp
    · rename_i me agg n x
      simp only [peval, refOf] at hp h ⊢
      split at hp
      · rename_i b b' o e1 e2
        simp only [e2] at h
        rw [← h]
        exact hp
      · cases hp
  | quo a b c => exact .quo a b c
  | rem a b c => exact .rem a b c
  | cat a b c => exact .cat a b c
  | idxV a b c d => exact .idxV a b c d
  | idxO a b c d => exact .idxO a b c d
  | idxM a b c d => exact .idxM a b c d
  | idxP a b c d => exact .idxP a b c d
  | idxR a b c d => exact .idxR a b c d
  | idxA a b c d e f => exact .idxA a b c d e f
  | idxS a b c d => exact .idxS a b c d
  | slS a b c d e => exact .slS a b c d e
  | slV a b c d e => exact .slV a b c d e
  | box a => exact .box a
  | alloc a => exact .alloc a
  | bsliceV a b c => exact .bsliceV a b c
  | bsliceO a b c d => exact .bsliceO a b c d
  | app0 a b c d e => exact .app0 a b c d e
  | pcall a b => exact .pcall a b
  | pcallv a b c d => exact .pcallv a b c d
  | lenM hx ht => simp [EOp.rank] at hrk
  | isnilT hx => simp [EOp.rank] at hrk
  | isnilF hx _ => simp [EOp.rank] at hrk
  | faddrM hx ht => simp [EOp.rank] at hrk
  | iaddrM hx ht hi h0 h1 => simp [EOp.rank] at hrk
  | loadM hx ht hl hv => simp [EOp.rank] at hrk
  | bsliceM a b c d => exact .bsliceM a b c d
  | appM0 hx hy hb hm h0 => simp [EOp.rank] at hrk
  | pcallM' a b => exact .pcallM' a b
  | pcall' a b => exact .pcall' a b
  | pcallv' a b c d => exact .pcallv' a b c d

/-- What a step of rank up to 2 gives. -/
inductive X where
  | d (d : D)
  | app (t T size : Nat) (rows new : List (List AV))
def X.fresh : X → Nat → AHeap → Prop
  | .d e, n, H => e.fresh n H
  | .app .., _, _ => True
def X.val : X → Nat → AV
  | .d e, n => e.val n
  | .app t _ size rows new, _ => .own t size (rows ++ new)
def X.heap : X → AHeap → Nat → AHeap
  | .d e, H, n => e.heap H n
  | .app t T size rows new, H, _ => H.setT t (.frz T size (rows.length + new.length))
def X.ok : X → AHeap → Prop
  | .d _, _ => True
  | .app t T size rows _, H => H.tok t = some (.frz T size rows.length)
inductive DescX (P : Program) (i : EI) (env : Env) (H : AHeap) : X → Prop
  | skip (hw : wanted i env = some false) : DescX P i env H (.d (.det .undef))
  | d {d} (hw : wanted i env = some true) (hd : Desc P i.op env H d) : DescX P i env H (.d d)
  | app {T size bytes x y t rows new} (hw : wanted i env = some true) (ho : i.op = .append T size bytes x y) (hx : x.ev env = .own t size rows) (hy : rowsOf size (y.ev env) = some new) (hb : (rows.length + new.length) * bytes ≤ 140737488355328) (hm : rows.length + new.length ≤ maxLen) : DescX P i env H (.app t T size rows new)
theorem gstep_iff {P : Program} {i : EI} {env : Env} {H : AHeap} {K Rp : AV → AHeap → Prop} (hr : i.op.rank ≤ 2) : GStep P i env H K Rp ↔ ∃ x, DescX P i env H x ∧ x.ok H ∧ ∀ n, x.fresh n H → K (x.val n) (x.heap H n) := by
  constructor
  · intro h
    unfold GStep at h
    split at h
    · rename_i hw
      generalize ho : i.op = op at h hr
      cases h with
      | sw d hd hh => exact ⟨.d d, .d hw (ho ▸ hd), trivial, hh⟩
      | append hx ht hy hb hm hh => exact ⟨.app _ _ _ _ _, .app hw ho hx hy hb hm, ht, fun _ _ => hh⟩
      | store => simp [EOp.rank] at hr
      | call => simp [EOp.rank] at hr
      | callv => simp [EOp.rank] at hr
      | panic => simp [EOp.rank] at hr
      | appendM => simp [EOp.rank] at hr
      | slM => simp [EOp.rank] at hr
      | isnilU => simp [EOp.rank] at hr
      | storeM => simp [EOp.rank] at hr
      | storeD => simp [EOp.rank] at hr
    · rename_i hw
      exact ⟨.d (.det .undef), .skip hw, trivial, fun _ _ => h⟩
    · exact h.elim
  · rintro ⟨x, hd, hok, hh⟩
    unfold GStep
    cases hd with
    | skip hw => rw [hw]; exact hh 0 trivial
    | d hw hd => rw [hw]; exact .sw _ hd hh
    | app hw ho hx hy hb hm => rw [hw, ho]; exact .append hx hok hy hb hm (hh 0 trivial)
theorem descX_congr {P : Program} {i : EI} {env env' : Env} {H : AHeap} {x : X} (h : Agree i env env') (hd : DescX P i env H x) : DescX P i env' H x := by
  have hw := wanted_congr h
  cases hd with
  | skip h1 => exact .skip (hw ▸ h1)
  | d h1 h2 => exact .d (hw ▸ h1) (desc_congr h.1 h2)
  | app h1 ho hx hy hb hm =>
    rename_i T size bytes x y t rows new
    have e1 := h.1 x (by simp [ho, EOp.opds])
    have e2 := h.1 y (by simp [ho, EOp.opds])
    exact .app (hw ▸ h1) ho (e1 ▸ hx) (e2 ▸ hy) hb hm
theorem descX_up {P : Program} {i : EI} {env : Env} {H H' : AHeap} {x : X} (hrk : i.op.rank ≤ 2) (h : HLe H H') (hd : DescX P i env H x) : DescX P i env H' x := by
  cases hd with
  | skip h1 => exact .skip h1
  | d h1 h2 => exact .d h1 (desc_up hrk h h2)
  | app h1 ho hx hy hb hm => exact .app h1 ho hx hy hb hm
theorem descX_down {P : Program} {i : EI} {env : Env} {H H' : AHeap} {x : X} (hrk : i.op.rank ≤ 2) (h : H'.blk (refOf i.op env) = H.blk (refOf i.op env)) (hd : DescX P i env H' x) : DescX P i env H x := by
  cases hd with
  | skip h1 => exact .skip h1
  | d h1 h2 => exact .d h1 (desc_down hrk h h2)
  | app h1 ho hx hy hb hm => exact .app h1 ho hx hy hb hm
theorem descX_unique {P : Program} {i : EI} {env : Env} {H : AHeap} {x x' : X} (hr : i.op.rank ≤ 2) (h : DescX P i env H x) (k : DescX P i env H x') : x = x' := by
  cases h with
  | skip h1 =>
    cases k with
    | skip => rfl
    | d k1 => rw [h1] at k1; cases k1
    | app k1 => rw [h1] at k1; cases k1
  | d h1 h2 =>
    cases k with
    | skip k1 => rw [h1] at k1; cases k1
    | d k1 k2 => rw [desc_unique hr h2 k2]
    | app k1 ho hx hy hb hm =>
      rw [ho] at h2
      cases h2 with
      | pure hp => simp [peval] at hp
      | app0 hx' => rw [hx] at hx'; cases hx'
  | app h1 ho hx hy hb hm =>
    cases k with
    | skip k1 => rw [h1] at k1; cases k1
    | d k1 k2 =>
      rw [ho] at k2
      cases k2 with
      | pure hp => simp [peval] at hp
      | app0 hx' => rw [hx] at hx'; cases hx'
    | app k1 ho' hx' hy' hb' hm' =>
      rw [ho] at ho'
      simp at ho'
      obtain ⟨rfl, rfl, _, rfl, rfl⟩ := ho'
      rw [hx] at hx'
      simp at hx'
      obtain ⟨rfl, rfl⟩ := hx'
      rw [hy] at hy'
      simp at hy'
      subst hy'
      rfl
end Go.Aw

/- Two steps exchanged; a list in another order (own work). -/
namespace Go.Aw
open Go
set_option linter.unusedVariables false
set_option linter.unusedSimpArgs false

/-- From some number on nothing is known. -/
def HFin (H : AHeap) : Prop := ∃ N, ∀ n, N ≤ n → H.blk n = none ∧ H.tok n = none
theorem fin_fresh {H : AHeap} (h : HFin H) (M : Nat) (x : X) : ∃ n, M < n ∧ x.fresh n H := by
  obtain ⟨N, hN⟩ := h
  refine ⟨max N (M + 1), by omega, ?_⟩
  have := hN (max N (M + 1)) (by omega)
  cases x with
  | d e => cases e <;> simp [X.fresh, D.fresh, this]
  | app => trivial
theorem hle_heap {H : AHeap} {x : X} {n : Nat} (h : x.fresh n H) : HLe H (x.heap H n) := by
  intro b y hb
  cases x with
  | d e =>
    cases e with
    | det => exact hb
    | nt => exact hb
    | nblk T cs =>
      simp only [X.fresh, D.fresh] at h
      simp only [X.heap, D.heap, AHeap.setB]
      rw [if_neg (fun e => by subst e; rw [h] at hb; cases hb)]
      exact hb
  | app => exact hb
theorem blk_heap {H : AHeap} {x : X} {n b : Nat} (h : b < n) : (x.heap H n).blk b = H.blk b := by
  cases x with
  | d e =>
    cases e with
    | det => rfl
    | nt => rfl
    | nblk T cs =>
      simp only [X.heap, D.heap, AHeap.setB]
      rw [if_neg (by omega)]
  | app => rfl
theorem fresh_down {H : AHeap} {x y : X} {n k : Nat} (hk : y.fresh k H) (h : x.fresh n (y.heap H k)) : x.fresh n H := by
  cases x with
  | d e =>
    cases e with
    | det => trivial
    | nblk T cs =>
      simp only [X.fresh, D.fresh] at h ⊢
      cases y with
      | d f =>
        cases f with
        | det => exact h
        | nt => exact h
        | nblk =>
          simp only [X.heap, D.heap, AHeap.setB] at h
          split at h
          · cases h
          · exact h
      | app => exact h
    | nt o v =>
      simp only [X.fresh, D.fresh] at h ⊢
      cases y with
      | d f =>
        cases f with
        | det => exact h
        | nblk => exact h
        | nt =>
          simp only [X.heap, D.heap, AHeap.setT] at h
          split at h
          · cases h
          · exact h
      | app =>
        simp only [X.heap, AHeap.setT] at h
        split at h
        · cases h
        · exact h
  | app => trivial
theorem fresh_swap {H : AHeap} {x y : X} {n k : Nat} (hx : x.ok H) (hk : y.fresh k H) (h : x.fresh n (y.heap H k)) : y.fresh k (x.heap H n) := by
  cases y with
  | d f =>
    cases f with
    | det => trivial
    | nblk T cs =>
      simp only [X.fresh, D.fresh] at hk ⊢
      cases x with
      | d e =>
        cases e with
        | det => exact hk
        | nt => exact hk
        | nblk =>
          simp only [X.fresh, D.fresh, X.heap, D.heap, AHeap.setB] at h ⊢
          by_cases e : k = n
          · subst e; simp at h
          · rw [if_neg e]; exact hk
      | app => exact hk
    | nt o v =>
      simp only [X.fresh, D.fresh] at hk ⊢
      cases x with
      | d e =>
        cases e with
        | det => exact hk
        | nblk => exact hk
        | nt =>
          simp only [X.fresh, D.fresh, X.heap, D.heap, AHeap.setT] at h ⊢
          by_cases e : k = n
          · subst e; simp at h
          · rw [if_neg e]; exact hk
      | app t T' s' rows new =>
        simp only [X.heap, AHeap.setT]
        simp only [X.ok] at hx
        rw [if_neg (fun e => by subst e; rw [hk] at hx; cases hx)]
        exact hk
  | app => trivial
theorem setB_comm {H : AHeap} {a b : Nat} {T U : TypeId} {c d : List AV} (h : a ≠ b) : (H.setB a T c).setB b U d = (H.setB b U d).setB a T c := by
  simp only [AHeap.setB, AHeap.mk.injEq, and_true]
  funext x
  by_cases e : x = b
  · subst e; simp [Ne.symm h]
  · simp [e]
theorem setT_comm {H : AHeap} {a b : Nat} {c d : Own} (h : a ≠ b) : (H.setT a c).setT b d = (H.setT b d).setT a c := by
  simp only [AHeap.setT, AHeap.mk.injEq, true_and]
  funext x
  by_cases e : x = b
  · subst e; simp [Ne.symm h]
  · simp [e]
theorem heap_swap {H : AHeap} {x y : X} {n k : Nat} (hx : x.ok H) (hy : y.ok H) (hk : y.fresh k H) (h : x.fresh n (y.heap H k)) (hn : x.fresh n H) (h2 : ∀ t T s r w t' T' s' r' w', x = .app t T s r w → y = .app t' T' s' r' w' → False) : x.heap (y.heap H k) n = y.heap (x.heap H n) k := by
  cases x with
  | d e =>
    cases e with
    | det => rfl
    | nblk T cs =>
      cases y with
      | d f =>
        cases f with
        | det => rfl
        | nt => rfl
        | nblk =>
          simp only [X.fresh, D.fresh, X.heap, D.heap, AHeap.setB] at h
          have hne : k ≠ n := fun e => by subst e; simp at h
          exact setB_comm hne
      | app => rfl
    | nt o v =>
      cases y with
      | d f =>
        cases f with
        | det => rfl
        | nblk => rfl
        | nt =>
          simp only [X.fresh, D.fresh, X.heap, D.heap, AHeap.setT] at h
          have hne : k ≠ n := fun e => by subst e; simp at h
          exact setT_comm hne
      | app t T' s' rows new =>
        simp only [X.ok] at hy
        simp only [X.fresh, D.fresh] at hn
        have hne : t ≠ n := fun e => by subst e; rw [hn] at hy; cases hy
        exact setT_comm hne
  | app t T s rows new =>
    cases y with
    | d f =>
      cases f with
      | det => rfl
      | nblk => rfl
      | nt =>
        simp only [X.ok] at hx
        simp only [X.fresh, D.fresh] at hk
        have hne : k ≠ t := fun e => by subst e; rw [hk] at hx; cases hx
        exact setT_comm hne
    | app => exact (h2 _ _ _ _ _ _ _ _ _ _ rfl rfl).elim
theorem get_put_ne {env : Env} {d : Option Nat} {v : AV} {k : Nat} (h : ∀ x, d = some x → x ≠ k) : (env.put d v).get k = env.get k := by
  cases d with
  | none => rfl
  | some x =>
    have := h x rfl
    simp only [Env.put, Env.get]
    have hb : (x == k) = false := by simpa using this
    simp [hb]
theorem put_comm {env : Env} {d e : Option Nat} {v u : AV} (h : ∀ x, d = some x → e ≠ some x) : EnvEq ((env.put d v).put e u) ((env.put e u).put d v) := by
  intro k
  cases d with
  | none => rfl
  | some x =>
    cases e with
    | none => rfl
    | some y =>
      have hne : y ≠ x := fun e => h x rfl (by rw [e])
      simp only [Env.put, Env.get]
      by_cases e1 : x = k
      · subst e1
        have hb : (y == x) = false := by simpa using hne
        simp [hb]
      · have hb : (x == k) = false := by simpa using e1
        simp [hb]
theorem indep_parts {i j : EI} (h : indep i j = true) : (∀ x, i.dst = some x → x ∉ j.reads ∧ j.dst ≠ some x) ∧ (∀ x, j.dst = some x → x ∉ i.reads) ∧ (i.op.rank = 0 ∨ (i.op.live = true ∧ j.op.rank = 0) ∨ stD i j = true ∨ (i.op.rank = 3 ∧ j.total = true) ∨ (i.op.rank ≤ 2 ∧ j.op.rank ≤ 2 ∧ ¬ (i.op.rank = 2 ∧ j.op.rank = 2))) := by
  simp only [indep, Bool.and_eq_true, Bool.or_eq_true, Bool.not_eq_true', decide_eq_true_eq, beq_iff_eq, Bool.and_eq_false_iff, beq_eq_false_iff_ne] at h
  obtain ⟨⟨h1, h2⟩, h3⟩ := h
  refine ⟨fun x hx => ?_, fun x hx => ?_, ?_⟩
  · rw [hx] at h1
    simp at h1
    exact ⟨h1.1, h1.2⟩
  · rw [hx] at h2
    simpa using h2
  · rcases h3 with (((h3 | h3) | h3) | h3) | h3
    · exact .inl h3
    · exact .inr (.inl h3)
    · exact .inr (.inr (.inl h3))
    · exact .inr (.inr (.inr (.inl h3)))
    · refine .inr (.inr (.inr (.inr ⟨h3.1.1, h3.1.2, fun e => ?_⟩)))
      rcases h3.2 with e' | e'
      · exact e' e.1
      · exact e' e.2
theorem agree_put {i : EI} {env : Env} {d : Option Nat} {v : AV} (h : ∀ x, d = some x → x ∉ i.reads) : Agree i env (env.put d v) :=
  agree_of_reads fun k hk => (get_put_ne fun x hx e => h x hx (e ▸ hk)).symm
theorem Agree.symm {i : EI} {e e' : Env} (h : Agree i e e') : Agree i e' e := ⟨fun x hx => (h.1 x hx).symm, fun j w hg => (h.2 j w hg).symm⟩
theorem descX_app {P : Program} {i : EI} {env : Env} {H : AHeap} {t T s : Nat} {r w : List (List AV)} (h : DescX P i env H (.app t T s r w)) : i.op.rank = 2 := by
  cases h with
  | app h1 ho => simp [ho, EOp.rank]
theorem descX_ref {P : Program} {i : EI} {env : Env} {H : AHeap} {t T s : Nat} {r w : List (List AV)} (h : DescX P i env H (.app t T s r w)) : refOf i.op env = t := by
  cases h with
  | app h1 ho hx => simp [ho, refOf, hx]
theorem rank0_det {P : Program} {i : EI} {env : Env} {H : AHeap} {x : X} (hr : i.op.rank = 0) (h : DescX P i env H x) : ∃ v, x = .d (.det v) ∧ ∀ H', DescX P i env H' x := by
  cases h with
  | skip hw => exact ⟨_, rfl, fun H' => .skip hw⟩
  | app hw ho => simp [ho, EOp.rank] at hr
  | d hw hd =>
    rename_i d
    have hdet : ∃ v, d = .det v := by
      generalize i.op = op at hd hr
      cases hd <;> first
        | exact ⟨_, rfl⟩
        | (simp [EOp.rank] at hr; done)
    obtain ⟨v, rfl⟩ := hdet
    refine ⟨v, rfl, fun H' => .d hw ?_⟩
    have hle : ∀ H1 H2 : AHeap, Desc P i.op env H1 (.det v) → Desc P i.op env H2 (.det v) := by
      intro H1 H2 hd
      generalize i.op = op at hd hr
      cases hd with
      | pure hp =>
        refine .pure ?_
        cases op <;> first
          | exact hp
          | (simp [EOp.rank] at hr; done)
      | quo a b c => exact .quo a b c
      | rem a b c => exact .rem a b c
      | cat a b c => exact .cat a b c
      | idxV a b c d => exact .idxV a b c d
      | idxO a b c d => exact .idxO a b c d
      | idxM a b c d => exact .idxM a b c d
      | idxP a b c d => exact .idxP a b c d
      | idxR a b c d => exact .idxR a b c d
      | idxA a b c d e f => exact .idxA a b c d e f
      | idxS a b c d => exact .idxS a b c d
      | slS a b c d e => exact .slS a b c d e
      | slV a b c d e => exact .slV a b c d e
      | bsliceV a b c => exact .bsliceV a b c
      | pcall a b => exact .pcall a b
      | pcallv a b c d => exact .pcallv a b c d
      | lenM => simp [EOp.rank] at hr
      | isnilT => simp [EOp.rank] at hr
      | isnilF => simp [EOp.rank] at hr
      | faddrM => simp [EOp.rank] at hr
      | iaddrM => simp [EOp.rank] at hr
      | loadM => simp [EOp.rank] at hr
      | pcall' a b => exact .pcall' a b
      | pcallv' a b c d => exact .pcallv' a b c d
    exact hle H H' hd
theorem total_step {P : Program} {j : EI} (h : j.total = true) (env : Env) (H : AHeap) : ∃ v, DescX P j env H (.d (.det v)) ∧ ∀ env', Agree j env env' → ∀ H', DescX P j env' H' (.d (.det v)) := by
  simp only [EI.total, Bool.and_eq_true, Option.isNone_iff_eq_none] at h
  obtain ⟨h1, h2⟩ := h
  have hw : ∀ env, wanted j env = some true := fun env => by simp [wanted, h1]
  have hv : ∃ v, ∀ H, peval j.op env H = some v := by
    split at h2 <;> first
      | (rename_i e; rw [e]; exact ⟨_, fun _ => rfl⟩)
      | cases h2
  obtain ⟨v, hv⟩ := hv
  exact ⟨v, .d (hw env) (.pure (hv H)), fun env' ha H' => .d (hw env') (.pure ((peval_congr H' ha.1).symm.trans (hv H')))⟩

theorem fin_heap {H : AHeap} {x : X} {n : Nat} (h : HFin H) : HFin (x.heap H n) := by
  obtain ⟨N, hN⟩ := h
  cases x with
  | d e =>
    cases e with
    | det => exact ⟨N, hN⟩
    | nblk T cs =>
      refine ⟨max N (n + 1), fun k hk => ?_⟩
      have := hN k (by omega)
      simp only [X.heap, D.heap, AHeap.setB]
      rw [if_neg (by omega)]
      exact this
    | nt o v =>
      refine ⟨max N (n + 1), fun k hk => ?_⟩
      have := hN k (by omega)
      simp only [X.heap, D.heap, AHeap.setT]
      rw [if_neg (by omega)]
      exact this
  | app t T s r w =>
    refine ⟨max N (t + 1), fun k hk => ?_⟩
    have := hN k (by omega)
    simp only [X.heap, AHeap.setT]
    rw [if_neg (by omega)]
    exact this
/-- A step with outcomes that do not hang on what follows. -/
theorem live_out {P : Program} {i : EI} {env : Env} {H : AHeap} {K Rp : AV → AHeap → Prop} (hl : i.op.live = true) (hF : HFin H) (h : GStep P i env H K Rp) : ∃ O : AV → AHeap → Prop, (∃ v H', O v H' ∧ HFin H') ∧ (∀ v H', O v H' → K v H') ∧ ∀ env', Agree i env env' → ∀ K' : AV → AHeap → Prop, (∀ v H', O v H' → K' v H') → GStep P i env' H K' Rp := by
  unfold GStep at h
  split at h
  · rename_i hw
    have key : ∀ {op : EOp}, op.live = true → IStep P op env H K Rp → ∃ O : AV → AHeap → Prop, (∃ v H', O v H' ∧ HFin H') ∧ (∀ v H', O v H' → K v H') ∧ ∀ K' : AV → AHeap → Prop, (∀ v H', O v H' → K' v H') → IStep P op env H K' Rp := by
      intro op hl h
      cases h with
      | sw d hd hh =>
        obtain ⟨n, _, hn⟩ := fin_fresh hF 0 (.d d)
        exact ⟨fun v H' => ∃ x, d.fresh x H ∧ v = d.val x ∧ H' = d.heap H x, ⟨_, _, ⟨n, hn, rfl, rfl⟩, fin_heap (x := .d d) hF⟩, fun v H' ⟨x, h1, h2, h3⟩ => by subst h2; subst h3; exact hh x h1, fun K' hk => .sw d hd fun x hx => hk _ _ ⟨x, hx, rfl, rfl⟩⟩
      | store ha hb hn hl' ho hh =>
        rename_i n a v b o T cs
        exact ⟨fun v' H' => v' = .undef ∧ H' = H.setB b T (setRange cs o (v.ev env).cells), ⟨_, _, ⟨rfl, rfl⟩, fin_heap (x := .d (.nblk T _)) (n := b) hF⟩, fun v' H' ⟨h1, h2⟩ => by subst h1; subst h2; exact hh, fun K' hk => .store ha hb hn hl' ho (hk _ _ ⟨rfl, rfl⟩)⟩
      | appendM hx ht hy hb hm hh =>
        rename_i T size bytes x y t ver rows new
        exact ⟨fun v' H' => v' = .ms t (ver + 1) ∧ H' = H.setT t (.mu T size (ver + 1) (rows ++ new)), ⟨_, _, ⟨rfl, rfl⟩, fin_heap (x := .d (.nt _ fun _ => .top)) (n := t) hF⟩, fun v' H' ⟨h1, h2⟩ => by subst h1; subst h2; exact hh, fun K' hk => .appendM hx ht hy hb hm (hk _ _ ⟨rfl, rfl⟩)⟩
      | slM hx ht hl' hh' h1 hh =>
        rename_i size x lo hi t ver T rows h
        exact ⟨fun v' H' => v' = .ms t (ver + 1) ∧ H' = H.setT t (.mu T size (ver + 1) (rows.take h)), ⟨_, _, ⟨rfl, rfl⟩, fin_heap (x := .d (.nt _ fun _ => .top)) (n := t) hF⟩, fun v' H' ⟨h1, h2⟩ => by subst h1; subst h2; exact hh, fun K' hk => .slM hx ht hl' hh' h1 (hk _ _ ⟨rfl, rfl⟩)⟩
      | storeD hme hoth ha hb hn hl' ho hh =>
        rename_i me others n a v b o T cs
        exact ⟨fun v' H' => v' = .undef ∧ H' = H.setB b T (setRange cs o (v.ev env).cells), ⟨_, _, ⟨rfl, rfl⟩, fin_heap (x := .d (.nblk T _)) (n := b) hF⟩, fun v' H' ⟨h1, h2⟩ => by subst h1; subst h2; exact hh, fun K' hk => .storeD hme hoth ha hb hn hl' ho (hk _ _ ⟨rfl, rfl⟩)⟩
      | storeM ha ht hn hl' ho hf hr hlen hh =>
        rename_i n a v t ver k T size rows rows'
        exact ⟨fun v' H' => v' = .undef ∧ H' = H.setT t (.mu T size ver rows'), ⟨_, _, ⟨rfl, rfl⟩, fin_heap (x := .d (.nt _ fun _ => .top)) (n := t) hF⟩, fun v' H' ⟨h1, h2⟩ => by subst h1; subst h2; exact hh, fun K' hk => .storeM ha ht hn hl' ho hf hr hlen (hk _ _ ⟨rfl, rfl⟩)⟩
      | isnilU => simp [EOp.live] at hl
      | append => simp [EOp.live] at hl
      | call => simp [EOp.live] at hl
      | callv => simp [EOp.live] at hl
      | panic => simp [EOp.live] at hl
    obtain ⟨O, h1, h2, h3⟩ := key hl h
    refine ⟨O, h1, h2, fun env' ha K' hk => ?_⟩
    unfold GStep
    rw [← wanted_congr ha, hw]
    exact istep_congr ha.1 (fun _ _ h => h) (fun _ _ h => h) (h3 K' hk)
  · rename_i hw
    refine ⟨fun v H' => v = .undef ∧ H' = H, ⟨_, _, ⟨rfl, rfl⟩, hF⟩, fun v H' ⟨h1, h2⟩ => by subst h1; subst h2; exact h, fun env' ha K' hk => ?_⟩
    unfold GStep
    rw [← wanted_congr ha, hw]
    exact hk _ _ ⟨rfl, rfl⟩
  · exact h.elim
theorem stInfo_of {i : EI} {me : Nat} {o : List Nat} (h : i.stInfo = some (true, me, o)) : i.guard = none ∧ ∃ n a v, i.op = .storeD me o n a v := by
  unfold EI.stInfo at h
  split at h
  · rename_i hg ho
    simp at h
    obtain ⟨rfl, rfl⟩ := h
    exact ⟨hg, _, _, _, ho⟩
  · simp at h
  · cases h
theorem ldInfo_of {i : EI} {me : Nat} {o : List Nat} (h : i.stInfo = some (false, me, o)) : i.guard = none ∧ ∃ g n a, i.op = .loadD me g n a := by
  unfold EI.stInfo at h
  split at h
  · simp at h
  · rename_i hg ho
    simp at h
    obtain ⟨rfl, rfl⟩ := h
    exact ⟨hg, _, _, _, ho⟩
  · cases h
/-- Two stores into different blocks. -/
theorem stD_swap {P : Program} {i j : EI} {env : Env} {H : AHeap} {C : Env → AHeap → Prop} {Rp : AV → AHeap → Prop} (hC : ∀ e e' H, EnvEq e e' → C e H → C e' H) (hF : HFin H) (p1 : ∀ x, i.dst = some x → x ∉ j.reads ∧ j.dst ≠ some x) (p2 : ∀ x, j.dst = some x → x ∉ i.reads) (hs : stD i j = true)
    (h : GStep P i env H (fun v H1 => HFin H1 → GStep P j (env.put i.dst v) H1 (fun u H2 => HFin H2 → C ((env.put i.dst v).put j.dst u) H2) Rp) Rp) :
    GStep P j env H (fun u H1 => HFin H1 → GStep P i (env.put j.dst u) H1 (fun v H2 => HFin H2 → C ((env.put j.dst u).put i.dst v) H2) Rp) Rp := by
  have aj : ∀ v, Agree j env (env.put i.dst v) := fun v => agree_put fun x hx => (p1 x hx).1
  have ai : ∀ v, Agree i env (env.put j.dst v) := fun v => agree_put p2
  have pc : ∀ v u, EnvEq ((env.put i.dst v).put j.dst u) ((env.put j.dst u).put i.dst v) := fun v u => put_comm fun x hx => (p1 x hx).2
  unfold stD at hs
  split at hs
  · rename_i m1 o1 m2 o2 e1 e2
    obtain ⟨g1, n1, a1, v1, q1⟩ := stInfo_of e1
    obtain ⟨g2, n2, a2, v2, q2⟩ := stInfo_of e2
    have wi : ∀ env, wanted i env = some true := fun env => by simp [wanted, g1]
    have wj : ∀ env, wanted j env = some true := fun env => by simp [wanted, g2]
    simp only [GStep, wi, q1] at h
    cases h with
    | sw d hd _ => cases hd with
      | pure hp => simp [peval] at hp
    | storeD hme hoth ha hb hn hl ho hh =>
      rename_i b o T cs
      obtain ⟨b', hb1, hb2⟩ := hoth m2 (by simpa using hs)
      have hF1 : HFin (H.setB b T (setRange cs o (v1.ev env).cells)) := fin_heap (x := .d (.nblk T _)) (n := b) hF
      have h2 := hh hF1
      simp only [GStep, wj, q2] at h2
      have hag : ∀ x ∈ (EOp.storeD m2 o2 n2 a2 v2).opds, x.ev env = x.ev (env.put i.dst .undef) := fun x hx => (aj .undef).1 x (by rw [q2]; exact hx)
      cases h2 with
      | sw d hd _ => cases hd with
        | pure hp => simp [peval] at hp
      | storeD hme2 hoth2 ha2 hbb2 hn2 hl2 ho2 hh2 =>
        rename_i c oc Tc csc
        have ec := (hag (.t m2) (by simp [EOp.opds])).trans hme2
        simp only [EOpd.ev] at ec
        rw [hb1] at ec
        have hcb : b' = c := by simpa using ec
        subst hcb
        have hvx := hag v2 (by simp [EOp.opds])
        have hblk : H.blk b' = some (Tc, csc) := by
          simp only [AHeap.setB] at hbb2
          rwa [if_neg hb2] at hbb2
        simp only [GStep, wj, q2]
        refine .storeD hb1 (fun s hs' => ?_) ((hag a2 (by simp [EOp.opds])).trans ha2) hblk (by rw [hvx]; exact hn2) hl2 (by rw [hvx]; exact ho2) fun hf => ?_
        · obtain ⟨y, y1, y2⟩ := hoth2 s hs'
          exact ⟨y, (hag (.t s) (by simp [EOp.opds]; exact .inr (.inr (.inr hs')))).trans y1, y2⟩
        · have hai : ∀ x ∈ (EOp.storeD m1 o1 n1 a1 v1).opds, x.ev env = x.ev (env.put j.dst .undef) := fun x hx => (ai .undef).1 x (by rw [q1]; exact hx)
          have hvy := hai v1 (by simp [EOp.opds])
          simp only [GStep, wi, q1]
          refine .storeD ((hai (.t m1) (by simp [EOp.opds])).symm.trans hme) (fun s hs' => ?_) ((hai a1 (by simp [EOp.opds])).symm.trans ha) (T := T) (cs := cs) ?_ (by rw [← hvy]; exact hn) hl (by rw [← hvy]; exact ho) fun hf' => ?_
          · obtain ⟨y, y1, y2⟩ := hoth s hs'
            exact ⟨y, (hai (.t s) (by simp [EOp.opds]; exact .inr (.inr (.inr hs')))).symm.trans y1, y2⟩
          · simp only [AHeap.setB]
            rw [if_neg (Ne.symm hb2)]
            exact hb
          · refine hC _ _ _ (pc .undef .undef) ?_
            rw [← hvy, hvx, setB_comm hb2]
            rw [hvx, ← hvy, setB_comm hb2] at hf'
            exact hh2 (by rw [← hvx]; rw [← hvx] at hf'; rw [setB_comm (Ne.symm hb2)] at hf'; rw [setB_comm (Ne.symm hb2)]; exact hf')
  · rename_i m1 o1 m2 o2 e1 e2
    obtain ⟨g1, ag, n1, a1, q1⟩ := ldInfo_of e1
    obtain ⟨g2, n2, a2, v2, q2⟩ := stInfo_of e2
    have wi : ∀ env, wanted i env = some true := fun env => by simp [wanted, g1]
    have wj : ∀ env, wanted j env = some true := fun env => by simp [wanted, g2]
    simp only [GStep, wi, q1] at h
    cases h with
    | sw d hd hh => cases hd with
      | pure hp =>
        rename_i r
        have h2 := hh 0 trivial hF
        simp only [D.val, D.heap, GStep, wj, q2] at h2
        obtain ⟨hp1, b, o, hm, hx⟩ := peval_loadD hp
        have hag : ∀ x ∈ (EOp.storeD m2 o2 n2 a2 v2).opds, x.ev env = x.ev (env.put i.dst r) := fun x hx => (aj r).1 x (by rw [q2]; exact hx)
        cases h2 with
        | sw d hd _ => cases hd with
          | pure hp => simp [peval] at hp
        | storeD hme hoth ha hb hn hl ho hh2 =>
          rename_i c oc Tc csc
          have hvx := hag v2 (by simp [EOp.opds])
          simp only [GStep, wj, q2]
          have hbc : c ≠ b := by
            obtain ⟨y, y1, y2⟩ := hoth m1 (by simpa using hs)
            have e := (hag (.t m1) (by simp [EOp.opds]; exact .inr (.inr (.inr (by simpa using hs))))).trans y1
            simp only [EOpd.ev] at e
            rw [hm] at e
            have : b = y := by simpa using e
            subst this
            exact Ne.symm y2
          refine .storeD ((hag (.t m2) (by simp [EOp.opds])).trans hme) (fun s hs' => ?_) ((hag a2 (by simp [EOp.opds])).trans ha) hb (by rw [hvx]; exact hn) hl (by rw [hvx]; exact ho) fun hf => ?_
          · obtain ⟨y, y1, y2⟩ := hoth s hs'
            exact ⟨y, (hag (.t s) (by simp [EOp.opds]; exact .inr (.inr (.inr hs')))).trans y1, y2⟩
          · have hai : ∀ x ∈ (EOp.loadD m1 ag n1 a1).opds, x.ev env = x.ev (env.put j.dst .undef) := fun x hx => (ai .undef).1 x (by rw [q1]; exact hx)
            simp only [GStep, wi, q1]
            refine .sw (.det r) (.pure ?_) fun n _ hf' => ?_
            · have e1 := hai (.t m1) (by simp [EOp.opds])
              have e2 := hai a1 (by simp [EOp.opds])
              refine peval_loadD' ?_ (e1.symm.trans hm) (e2.symm.trans hx)
              simp only [peval, hx] at hp1
              simp only [peval, e2.symm.trans hx, AHeap.setB]
              rw [if_neg (Ne.symm hbc)]
              exact hp1
            · refine hC _ _ _ (pc r .undef) ?_
              rw [hvx]
              exact hh2 (by rw [← hvx]; exact hf)
  · cases hs
/-- Two steps that do not disturb each other, in the other order. -/
theorem gswap {P : Program} {i j : EI} {env : Env} {H : AHeap} {C : Env → AHeap → Prop} {Rp : AV → AHeap → Prop} (hC : ∀ e e' H, EnvEq e e' → C e H → C e' H) (hF : HFin H) (hi : indep i j = true)
    (h : GStep P i env H (fun v H1 => HFin H1 → GStep P j (env.put i.dst v) H1 (fun u H2 => HFin H2 → C ((env.put i.dst v).put j.dst u) H2) Rp) Rp) :
    GStep P j env H (fun u H1 => HFin H1 → GStep P i (env.put j.dst u) H1 (fun v H2 => HFin H2 → C ((env.put j.dst u).put i.dst v) H2) Rp) Rp := by
  obtain ⟨p1, p2, p3⟩ := indep_parts hi
  have aj : ∀ v, Agree j env (env.put i.dst v) := fun v => agree_put fun x hx => (p1 x hx).1
  have ai : ∀ v, Agree i env (env.put j.dst v) := fun v => agree_put p2
  have pc : ∀ v u, EnvEq ((env.put i.dst v).put j.dst u) ((env.put j.dst u).put i.dst v) := fun v u => put_comm fun x hx => (p1 x hx).2
  rcases p3 with p3 | ⟨p3, p4⟩ | p3 | p3 | ⟨p3, p4, p5⟩
  rotate_left
  rotate_left
  · exact stD_swap hC hF p1 p2 p3 h
  rotate_right
  · obtain ⟨O, ⟨v0, H0, o1, o2⟩, o3, o4⟩ := live_out p3 hF h
    obtain ⟨x, d1, d2, d3⟩ := (gstep_iff (by omega)).1 (o3 _ _ o1 o2)
    obtain ⟨u, rfl, dd⟩ := rank0_det p4 d1
    refine (gstep_iff (by omega)).2 ⟨_, descX_congr (aj v0).symm (dd H), trivial, fun n _ hf => ?_⟩
    refine o4 _ (ai _) _ fun v H' ho hf' => ?_
    obtain ⟨y, e1, e2, e3⟩ := (gstep_iff (by omega)).1 (o3 _ _ ho hf')
    have := descX_unique (by omega) (descX_congr (aj v).symm e1) (descX_congr (aj v0).symm (dd H'))
    subst this
    exact hC _ _ _ (pc v u) (e3 0 trivial hf')
  rotate_right
  · obtain ⟨x, d1, d2, d3⟩ := (gstep_iff (by omega)).1 h
    obtain ⟨v, rfl, dd⟩ := rank0_det p3 d1
    have h1 := d3 0 trivial hF
    refine gstep_congr (aj v).symm (fun u H' hh hf => ?_) (fun _ _ h => h) h1
    refine (gstep_iff (by omega)).2 ⟨_, descX_congr (ai u) (dd H'), trivial, fun n _ hf2 => ?_⟩
    exact hC _ _ _ (pc v u) (hh hf)
  · obtain ⟨u, t1, t2⟩ := total_step p3.2 env H
    have hr : j.op.rank ≤ 2 := by
      have := p3.2
      simp only [EI.total, Bool.and_eq_true] at this
      have h2 := this.2
      split at h2 <;> first
        | (rename_i e; rw [e]; simp [EOp.rank])
        | cases h2
    refine (gstep_iff hr).2 ⟨_, t1, trivial, fun n _ hf0 => ?_⟩
    refine gstep_congr (ai u) (fun v H' hh hf => ?_) (fun _ _ h => h) h
    obtain ⟨y, e1, e2, e3⟩ := (gstep_iff hr).1 (hh hf)
    have := descX_unique hr e1 (t2 _ (aj v) H')
    subst this
    exact hC _ _ _ (pc v u) (e3 0 trivial hf)
  · obtain ⟨x, d1, d2, d3⟩ := (gstep_iff p3).1 h
    obtain ⟨n0, hn0, hf0⟩ := fin_fresh hF (refOf j.op env) x
    have g0 := d3 n0 hf0 (fin_heap hF)
    obtain ⟨y, e1, e2, e3⟩ := (gstep_iff p4).1 g0
    have e1' := descX_congr (aj (x.val n0)).symm e1
    have e4 : DescX P j env H y := descX_down p4 (blk_heap hn0) e1'
    have notboth : ∀ t T s r w t' T' s' r' w', x = .app t T s r w → y = .app t' T' s' r' w' → False := by
      rintro t T s r w t' T' s' r' w' rfl rfl
      exact p5 ⟨descX_app d1, descX_app e4⟩
    have hy : y.ok H := by
      cases y with
      | d e => trivial
      | app t T s r w =>
        have hr := descX_ref e4
        simp only [X.ok] at e2 ⊢
        cases x with
        | d f =>
          cases f with
          | det => exact e2
          | nblk => exact e2
          | nt =>
            simp only [X.heap, D.heap, AHeap.setT] at e2
            rw [if_neg (by omega)] at e2
            exact e2
        | app => exact (notboth _ _ _ _ _ _ _ _ _ _ rfl rfl).elim
    refine (gstep_iff p4).2 ⟨y, e4, hy, fun k hk hfk => ?_⟩
    have d1' := descX_up p3 (hle_heap hk) (descX_congr (ai (y.val k)) d1)
    have hx' : x.ok (y.heap H k) := by
      cases x with
      | d e => trivial
      | app t T s r w =>
        simp only [X.ok] at d2 ⊢
        cases y with
        | d f =>
          cases f with
          | det => exact d2
          | nblk => exact d2
          | nt =>
            simp only [X.fresh, D.fresh] at hk
            simp only [X.heap, D.heap, AHeap.setT]
            rw [if_neg (fun e => by subst e; rw [hk] at d2; cases d2)]
            exact d2
        | app => exact (notboth _ _ _ _ _ _ _ _ _ _ rfl rfl).elim
    refine (gstep_iff p3).2 ⟨x, d1', hx', fun n hn hfn => ?_⟩
    have hn' := fresh_down hk hn
    have g1 := d3 n hn' (fin_heap hF)
    obtain ⟨y', f1, f2, f3⟩ := (gstep_iff p4).1 g1
    have f1' := descX_congr (aj (x.val n)).symm f1
    have := descX_unique p4 f1' (descX_up p4 (hle_heap hn') e4)
    subst this
    rw [heap_swap d2 hy hk hn hn' notboth] at hfn ⊢
    exact hC _ _ _ (pc _ _) (f3 k (fresh_swap d2 hk hn) hfn)

/-- The list, where what is known stays finite. -/
def DMf (P : Program) : List EI → Env → AHeap → (Env → AHeap → Prop) → (AV → AHeap → Prop) → Prop
  | [], env, H, K, _ => K env H
  | i :: l, env, H, K, Rp => GStep P i env H (fun v H' => HFin H' → DMf P l (env.put i.dst v) H' K Rp) Rp
theorem dmf_of_dm {P : Program} {K : Env → AHeap → Prop} {Rp : AV → AHeap → Prop} : ∀ (l : List EI) {env : Env} {H : AHeap}, DM P l env H K Rp → DMf P l env H K Rp
  | [], _, _, h => by simpa only [DMf, DM] using h
  | i :: l, env, H, h => by
    rw [DM_cons] at h
    exact gstep_congr (agree_of_eq fun _ => rfl) (fun v H' hh _ => dmf_of_dm l hh) (fun _ _ h => h) h
theorem dmf_congr {P : Program} {K : Env → AHeap → Prop} {Rp : AV → AHeap → Prop} (hK : ∀ e e' H, EnvEq e e' → K e H → K e' H) : ∀ (l : List EI) {e e' : Env} {H : AHeap}, EnvEq e e' → DMf P l e H K Rp → DMf P l e' H K Rp
  | [], e, e', H, h, hd => by simp only [DMf] at hd ⊢; exact hK e e' H h hd
  | i :: l, e, e', H, h, hd => by
    simp only [DMf] at hd ⊢
    exact gstep_congr (agree_of_eq h) (fun v H' hh hf => dmf_congr hK l (put_get_eq h i.dst v) (hh hf)) (fun _ _ h => h) hd
theorem dmf_mono {P : Program} {K K' : Env → AHeap → Prop} {Rp : AV → AHeap → Prop} (hK : ∀ e H, K e H → K' e H) : ∀ (l : List EI) {e : Env} {H : AHeap}, DMf P l e H K Rp → DMf P l e H K' Rp
  | [], e, H, hd => by simp only [DMf] at hd ⊢; exact hK e H hd
  | i :: l, e, H, hd => by
    simp only [DMf] at hd ⊢
    exact gstep_congr (agree_of_eq fun _ => rfl) (fun v H' hh hf => dmf_mono hK l (hh hf)) (fun _ _ h => h) hd
/-- A step brought to the front. -/
theorem dmf_front {P : Program} {K : Env → AHeap → Prop} {Rp : AV → AHeap → Prop} (hK : ∀ e e' H, EnvEq e e' → K e H → K e' H) {i : EI} {T2 : List EI} : ∀ (T1 : List EI) {env : Env} {H : AHeap}, HFin H → (∀ y ∈ T1, indep y i = true) → DMf P (T1 ++ i :: T2) env H K Rp → DMf P (i :: (T1 ++ T2)) env H K Rp
  | [], _, _, _, _, h => h
  | y :: T1, env, H, hF, hi, h => by
    simp only [List.cons_append, DMf] at h
    have h2 : GStep P y env H (fun v H1 => HFin H1 → GStep P i (env.put y.dst v) H1 (fun u H2 => HFin H2 → DMf P (T1 ++ T2) ((env.put y.dst v).put i.dst u) H2 K Rp) Rp) Rp :=
      gstep_congr (agree_of_eq fun _ => rfl) (fun v H1 hh hf => dmf_front hK T1 hf (fun z hz => hi z (by simp [hz])) (hh hf)) (fun _ _ h => h) h
    exact gswap (C := fun e H => DMf P (T1 ++ T2) e H K Rp) (fun e e' H he hd => dmf_congr hK _ he hd) hF (hi y (by simp)) h2
end Go.Aw
