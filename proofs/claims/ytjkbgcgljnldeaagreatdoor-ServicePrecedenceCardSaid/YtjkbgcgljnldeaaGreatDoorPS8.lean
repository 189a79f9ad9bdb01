/- Part of a proof; own work. -/
import Derived.Test.YtjkbgcgljnldeaaGreatDoorP0
import Derived.Test.YtjkbgcgljnldeaaGreatDoorPS7
namespace Go.Aw.T.N
open Go Go.Aw Go.Proofs Go.RowKit
set_option maxRecDepth 100000
attribute [local irreducible] Go.Aw.DM Go.Aw.AHeap.setB Go.Aw.AHeap.setT
attribute [local go_sem] peval EOpd.ev Env.get binInt binStr binBool buildParts AV.cells AV.okc setRange minmaxAV AV.one AV.ofCells eqCells eqCell bslRows cond_true cond_false beq_self_eq_true Bool.not_true Bool.not_false beq_true beq_false eq_self if_true Option.some.injEq List.length_cons List.length_nil List.take_succ_cons List.take_zero List.drop_succ_cons List.drop_zero List.set_cons_succ List.set_cons_zero List.nil_append List.cons_append List.append_nil and_self Option.map_some List.map_cons List.map_nil Bool.false_eq_true if_false Nat.zero_add Nat.add_zero true_and and_true Bool.and_true Bool.true_and List.getElem?_cons_zero List.getElem?_cons_succ Nat.zero_le Nat.le_refl
set_option linter.unusedSimpArgs false
set_option linter.unusedVariables false
section
theorem DM.slF {P : Program} {d len size : Nat} {l : List EI} {env : Env} {H : AHeap} {K : Env → AHeap → Prop} {Rp : AV → AHeap → Prop} {x : EOpd} {b : Nat} {T : TypeId} {cs : List AV} {rows : List (List AV)} (hf : rows.flatten = cs) (hr : ∀ r ∈ rows, r.length = size) (hl : rows.length = len) (h0 : 0 < len) (hm : len ≤ maxLen) (hx : x.ev env = .ptr b 0) (hb : H.blk b = some (T, cs)) (h : DM P l ((d, .vs size rows) :: env) (H.dropB b) K Rp) : DM P (⟨some d, none, .slA len size x⟩ :: l) env H K Rp := by
 simp only [DM, wanted]
 exact IStep.slAF hx hb hf hr hl h0 hm h
theorem kw_rows : (kwords.map srow).flatten = kwords.map .str := rfl
theorem hsub_sd {H : AHeap} {b : Nat} {T1 T2 : TypeId} {c1 c2 : List AV} (hb : H.blk b = none) : HSub H (((H.setB b T1 c1).setB b T2 c2).dropB b) :=
 ⟨fun x y h => by
  simp only [AHeap.setB, AHeap.dropB]
  by_cases e : x = b
  ·subst e; rw [hb] at h; cases h
  ·rw [if_neg e, if_neg e, if_neg e]; exact h, fun _ _ h => by simpa [AHeap.setB, AHeap.dropB] using h⟩
theorem p45 (s : List UInt8) : Pure Tryz.prog 45 [.str s] (.bool (isWordB s)) := by
 have h101 := q101 s
 have h102 := q102 kwords s (by decide)
 unfold isWordB
 cases hn : isNameB s
 all_goals
  rw [hn] at h101
  refine pure_intro mo Tryz.func45 c45 fun H => ?_
  unfold e45 r45
  simp only [initEnv, initFrom]
  refine AM.seq ?_
  refine Sp.go .rg ?_
  refine DM.p (v := .bool false) rfl ?_
  refine Sp.go .nl ?_
  refine AM.seq ?_
  refine Sp.go .rg ?_
  refine DM.p (v := .agg (kwords.map .str)) (by kernel_rfl) ?_
  refine Sp.go (.al (by decide)) ?_
  intro b hb
  refine Sp.go (.sE (new := kwords.map .str) (o := 0) rfl g_same rfl rfl (by decide) (by decide) rfl rfl) ?_
  refine Sp.go .nl ?_
 ·repeat' first|refine Sp.g ?_|(intro b hb;repeat first|(refine fe hb ?_;intro _ _ hb)|(refine fT hb ?_;intro hb))|refine rt ?_|refine gA rfl ?_|refine gB rfl ?_|apply cT rfl|apply cF rfl|(apply DM.gbT;rfl)|(apply DM.gbF;rfl)|intro h
  (apply DM.pcs (h101); (· simp only [go_sem, Nat.reduceBEq, Nat.reduceAdd] <;> rfl); (· exact AVLes.refl _))
  repeat' first|refine Sp.g ?_|(intro b hb;repeat first|(refine fe hb ?_;intro _ _ hb)|(refine fT hb ?_;intro hb))|refine rt ?_|refine gA rfl ?_|refine gB rfl ?_|apply cT rfl|apply cF rfl|(apply DM.gbT;rfl)|(apply DM.gbF;rfl)|intro h
  refine Sr.g ?_
  exact AVLe.refl _
 ·repeat' first|refine Sp.g ?_|(intro b hb;repeat first|(refine fe hb ?_;intro _ _ hb)|(refine fT hb ?_;intro hb))|refine rt ?_|refine gA rfl ?_|refine gB rfl ?_|apply cT rfl|apply cF rfl|(apply DM.gbT;rfl)|(apply DM.gbF;rfl)|intro h
  (apply DM.pcs (h101); (· simp only [go_sem, Nat.reduceBEq, Nat.reduceAdd] <;> rfl); (· exact AVLes.refl _))
  repeat' first|refine Sp.g ?_|(intro b hb;repeat first|(refine fe hb ?_;intro _ _ hb)|(refine fT hb ?_;intro hb))|refine rt ?_|refine gA rfl ?_|refine gB rfl ?_|apply cT rfl|apply cF rfl|(apply DM.gbT;rfl)|(apply DM.gbF;rfl)|intro h
  (apply DM.slF (rows := kwords.map srow) kw_rows (by intro r hr; obtain ⟨_, _, rfl⟩ := List.mem_map.1 hr; rfl) rfl (by decide) (by decide); (· rfl); (· exact g_same))
  repeat' first|refine Sp.g ?_|(intro b hb;repeat first|(refine fe hb ?_;intro _ _ hb)|(refine fT hb ?_;intro hb))|refine rt ?_|refine gA rfl ?_|refine gB rfl ?_|apply cT rfl|apply cF rfl|(apply DM.gbT;rfl)|(apply DM.gbF;rfl)|intro h
  (apply DM.pcs (h102); (· simp only [go_sem, Nat.reduceBEq, Nat.reduceAdd] <;> rfl); (· exact AVLes.refl _))
  repeat' first|refine Sp.g ?_|(intro b hb;repeat first|(refine fe hb ?_;intro _ _ hb)|(refine fT hb ?_;intro hb))|refine rt ?_|refine gA rfl ?_|refine gB rfl ?_|apply cT rfl|apply cF rfl|(apply DM.gbT;rfl)|(apply DM.gbF;rfl)|intro h
  refine AM.forget H (hsub_sd hb) ?_
  refine Sr.g ?_
  exact AVLe.refl _
end
end Go.Aw.T.N
namespace Go.Aw.T.N
open Go Go.Aw Go.Proofs
set_option linter.unusedVariables false
theorem d31i (caps : List AV) (hc : caps.length = 3) : DIdle Tryz.prog 31 caps := by
 intro m vs rh hv
 have hl := RvL.length hv
 match vs, hl with
 | [p, q, r], _ =>
  refine (idle31 p q r m.w).mono ?_
  rintro e u' w' ⟨rfl, rfl, h1, h2, h3, h4, h5⟩
  exact ⟨⟨_, rfl⟩, rfl, m.L, m.T, RH.hid rh h1 h2 h3 (by omega) h5, Ev.hid h1 h2 h3 (by omega) h5⟩
 | [], h => simp [hc] at h
 | [_], h => simp [hc] at h
 | [_, _], h => simp [hc] at h
 | _ :: _ :: _ :: _ :: _, h => simp [hc] at h
end Go.Aw.T.N
namespace Go.Aw
open Go
set_option linter.unusedVariables false
structure Tk where
 kind : Int
 text : List UInt8
 val : Int
 frm : Int
def Tk.row (t : Tk) : List AV := [.int .i64 t.kind, .str t.text, .int .i64 t.val, .int .i64 t.frm]
inductive PRes (α : Type) where
 | ok (a : α) (r : List Tk)
 | err (p e : Int)
 | out
def PRes.bind {α β : Type} : PRes α → (α → List Tk → PRes β) → PRes β
 | .ok a r, f => f a r
 | .err p e, _ => .err p e
 | .out, _ => .out
def isT (s : List UInt8) : List Tk → Bool
 | [] => false
 | t :: _ => decide (t.text = s) && (decide (t.kind = 4) || decide (t.kind = 1))
def kindT (k : Int) : List Tk → Bool
 | [] => false
 | t :: _ => decide (t.kind = k)
def isWordT : List Tk → Bool
 | [] => false
 | t :: _ => decide (t.kind = 1) && isWordB t.text
def failAt (en : Int) : List Tk → Int
 | [] => en
 | t :: _ => t.frm
section
variable (en : Int)
def pExp (s : List UInt8) (l : List Tk) : PRes Unit := if isT s l = true then .ok () l.tail else .err (failAt en l) 3
def pNext (k : Int) : List Tk → PRes Tk
 | [] => .err en 3
 | t :: r => if t.kind = k then .ok t r else .err t.frm 3
def pWord (l : List Tk) : PRes (List UInt8) := if isWordT l = true then (pNext en 1 l).bind fun t r => .ok t.text r else .err (failAt en l) 3
def pPathL : Nat → List UInt8 → List Tk → PRes (List UInt8)
 | 0, _, _ => .out
 | n + 1, s, l => if isT [46] l = true then (pWord en l.tail).bind fun w r => pPathL n (s ++ ([46] ++ w)) r else .ok s l
def pPath (n : Nat) (l : List Tk) : PRes (List UInt8) := (pWord en l).bind fun w r => pPathL en n w r
def pSigned (l : List Tk) : PRes Int := if isT [45] l = true then (pNext en 2 l.tail).bind fun t r => .ok (IntKind.i64.wrap (0 - t.val)) r else (pNext en 2 l).bind fun t r => .ok t.val r
def precP (s : List UInt8) : Int :=
 if s = [124, 124] then 1 else if s = [38, 38] then 2 else if s = [61, 61] then 3 else if s = [33, 61] then 3
 else if s = [60] then 4 else if s = [60, 61] then 4 else if s = [62] then 4 else if s = [62, 61] then 4
 else if s = [43] then 5 else if s = [45] then 5 else if s = [42] then 6 else if s = [47] then 6 else if s = [37] then 6 else 0
theorem precP_le (s : List UInt8) : 0 ≤ precP s ∧ precP s ≤ 6 := by
 have key : ∀ (c : Prop) [Decidable c] (a b : Int), (0 ≤ a ∧ a ≤ 6) → (0 ≤ b ∧ b ≤ 6) → 0 ≤ (if c then a else b) ∧ (if c then a else b) ≤ 6 := by
  intro c _ a b h1 h2
  split
  ·exact h1
  ·exact h2
 unfold precP
 repeat' (refine key _ _ _ (by decide) ?_)
 decide
def bigT : List Tk → Bool
 | [] => false
 | t :: _ => decide (t.kind = 2) && decide (1000 < t.val)
def badTimes : List Tk → Bool
 | [] => false
 | t :: _ => decide (t.kind = 2) && (decide (t.val < 1) || decide (50 < t.val))
mutual
def pUn : Nat → List Tk → PRes Ex
 | 0, _ => .out
 | n + 1, l =>
  if isT [40] l = true then (pEx n 1 l.tail).bind fun x r => (pExp en [41] r).bind fun _ r => .ok x r
  else if isT [108, 101, 110] l = true then (pExp en [40] l.tail).bind fun _ r => (pEx n 1 r).bind fun x r => (pExp en [41] r).bind fun _ r => .ok (.mk 4 [] [] [] 0 [x]) r
  else if isT [45] l = true then (pUn n l.tail).bind fun x r => .ok (.mk 5 [45] [] [] 0 [x]) r
  else if isT [33] l = true then (pUn n l.tail).bind fun x r => .ok (.mk 5 [33] [] [] 0 [x]) r
  else if isWordT l = true then (pWord en l).bind fun w r => .ok (.mk 3 [] w [] 0 []) r
  else if kindT 3 l = true then (pNext en 3 l).bind fun t r => .ok (.mk 2 [] [] t.text 0 []) r
  else if bigT l = true then .err (failAt en l) 2
  else (pNext en 2 l).bind fun t r => .ok (.mk 1 [] [] [] t.val []) r
def pEx : Nat → Int → List Tk → PRes Ex
 | 0, _, _ => .out
 | n + 1, k, l => (pUn n l).bind fun x r => pLp n k x r
def pLp : Nat → Int → Ex → List Tk → PRes Ex
 | 0, _, _, _ => .out
 | n + 1, k, x, l => match l with
  | [] => .ok x []
  | t :: r => if t.kind = 4 then (if precP t.text < k then .ok x (t :: r) else (pEx n (precP t.text + 1) r).bind fun y r => pLp n k (.mk 6 t.text [] [] 0 [x, y]) r) else .ok x (t :: r)
end
mutual
def pBk : Nat → List Tk → PRes (List Sm)
 | 0, _ => .out
 | n + 1, l => (pExp en [123] l).bind fun _ r => pBl n [] r
def pBl : Nat → List Sm → List Tk → PRes (List Sm)
 | 0, _, _ => .out
 | n + 1, acc, l => if isT [125] l = true then .ok acc l.tail else (pSt n l).bind fun x r => pBl n (acc ++ [x]) r
def pSt : Nat → List Tk → PRes Sm
 | 0, _ => .out
 | n + 1, l => if isT [105, 102] l = true then pCh n l.tail
  else if isT [119, 104, 105, 108, 101] l = true then (pEx en n 1 l.tail).bind fun x r => (pExp en [116, 105, 109, 101, 115] r).bind fun _ r =>
   if badTimes r = true then .err (failAt en r) 2 else (pNext en 2 r).bind fun t r => (pBk n r).bind fun b r => .ok (.mk 3 [] x t.val b []) r
  else (pWord en l).bind fun w r => (pExp en [61] r).bind fun _ r => (pEx en n 1 r).bind fun x r => (pExp en [59] r).bind fun _ r => .ok (.mk 1 w x 0 [] []) r
def pCh : Nat → List Tk → PRes Sm
 | 0, _ => .out
 | n + 1, l => (pEx en n 1 l).bind fun x r => (pBk n r).bind fun b r =>
  if isT [101, 108, 115, 101] r = true then
   (if isT [105, 102] r.tail = true then (pCh n r.tail.tail).bind fun y r => .ok (.mk 2 [] x 0 b [y]) r
   else (pBk n r.tail).bind fun c r => .ok (.mk 2 [] x 0 b c) r)
  else .ok (.mk 2 [] x 0 b []) r
end
def pSort (l : List Tk) : PRes (Int × Int × Int) :=
 if isT [116, 101, 120, 116] l = true then (pNext en 2 l.tail).bind fun a r => (pExp en [46, 46] r).bind fun _ r => (pNext en 2 r).bind fun b r => .ok (2, a.val, b.val) r
 else (pExp en [105, 110, 116] l).bind fun _ r => (pSigned en r).bind fun a r => (pExp en [46, 46] r).bind fun _ r => (pSigned en r).bind fun b r => .ok (1, a, b) r
def pInit (l : List Tk) : PRes (Int × Int × List UInt8) :=
 if kindT 3 l = true then (pNext en 3 l).bind fun t r => .ok (2, 0, t.text) r else (pSigned en l).bind fun v r => .ok (1, v, []) r
def pVar (l : List Tk) : PRes Vr :=
 (pWord en l).bind fun w r => (pExp en [58] r).bind fun _ r => (pSort en r).bind fun s r => (pExp en [61] r).bind fun _ r => (pInit en r).bind fun i r => (pExp en [59] r).bind fun _ r =>
  .ok ⟨w, s.1, s.2.1, s.2.2, i.1, i.2.1, i.2.2⟩ r
def pPars : Nat → List (List UInt8) → List Tk → PRes (List (List UInt8))
 | 0, _, _ => .out
 | n + 1, acc, l => if isT [44] l = true then (pWord en l.tail).bind fun w r => pPars n (acc ++ [w]) r else .ok acc l
def pParL (n : Nat) (l : List Tk) : PRes (List (List UInt8)) :=
 if isT [41] l = true then .ok [] l.tail else (pWord en l).bind fun w r => (pPars en n [w] r).bind fun ps r => (pExp en [41] r).bind fun _ r => .ok ps r
def pHan (n : Nat) (l : List Tk) : PRes Ha :=
 (pPath en n l).bind fun m r => (pExp en [40] r).bind fun _ r => (pParL en n r).bind fun ps r => (pExp en [102, 114, 111, 109] r).bind fun _ r => (pWord en r).bind fun p r => (pBk en n r).bind fun b r => .ok ⟨m, p, ps, b⟩ r
def pArgs : Nat → List Ex → List Tk → PRes (List Ex)
 | 0, _, _ => .out
 | n + 1, acc, l => if isT [44] l = true then (pEx en n 1 l.tail).bind fun x r => pArgs n (acc ++ [x]) r else .ok acc l
def pArgL (n : Nat) (l : List Tk) : PRes (List Ex) :=
 if isT [41] l = true then .ok [] l.tail else (pEx en n 1 l).bind fun x r => (pArgs en n [x] r).bind fun xs r => (pExp en [41] r).bind fun _ r => .ok xs r
def pWhen (n : Nat) (l : List Tk) : PRes (List Ex) :=
 if isT [119, 104, 101, 114, 101] l = true then (pEx en n 1 l.tail).bind fun x r => .ok [x] r else .ok [] l
def pOff (n : Nat) (l : List Tk) : PRes Off :=
 (pPath en n l).bind fun m r => (pExp en [40] r).bind fun _ r => (pArgL en n r).bind fun xs r => (pExp en [116, 111] r).bind fun _ r => (pWord en r).bind fun p r => (pWhen en n r).bind fun w r => (pExp en [59] r).bind fun _ r => .ok ⟨m, p, xs, w⟩ r
def pVars (n : Nat) : Nat → List Vr → List Tk → PRes (List Vr)
 | 0, _, _ => .out
 | m + 1, acc, l => if isT [118, 97, 114] l = true then (pVar en l.tail).bind fun v r => pVars n m (acc ++ [v]) r else .ok acc l
def pParts (n : Nat) : Nat → List Ha → List Off → List Tk → PRes (List Ha × List Off)
 | 0, _, _, _ => .out
 | m + 1, hs, os, l => if isT [125] l = true then .ok (hs, os) l.tail
  else if isT [111, 110] l = true then (pHan en n l.tail).bind fun h r => pParts n m (hs ++ [h]) os r
  else (pExp en [111, 102, 102, 101, 114] l).bind fun _ r => (pOff en n r).bind fun o r => pParts n m hs (os ++ [o]) r
def pSv (n : Nat) (l : List Tk) : PRes Sv :=
 (pExp en [115, 101, 114, 118, 105, 99, 101] l).bind fun _ r => (pWord en r).bind fun a r => (pExp en [112, 108, 97, 121, 115] r).bind fun _ r => (pWord en r).bind fun b r => (pExp en [111, 102] r).bind fun _ r => (pWord en r).bind fun c r => (pExp en [123] r).bind fun _ r =>
  (pVars en n n [] r).bind fun vs r => (pParts en n n [] [] r).bind fun p r => match r with
   | [] => .ok ⟨a, b, c, vs, p.1, p.2⟩ []
   | t :: _ => .err t.frm 3
end
def failV (p e : Int) : AV := .ifc 79 (.agg [.int .i64 p, .int .i64 e])
def psC (l : List Tk) (en : Int) : List AV := [.vs 4 (l.map Tk.row), .int .i64 en]
abbrev ps (l : List Tk) (en : Int) : CS := CS.of 1 0 [(0, 83, psC l en)] []
def RP {α : Type} (f : α → AV) (en : Int) : PRes α → Out → CS → Prop
 | .ok a l => Ro (f a) [(0, 83, psC l en)] []
 | .err p e => Rpn (failV p e)
 | .out => fun _ _ => False
end Go.Aw
namespace Go.Aw
open Go Go.Proofs
set_option linter.unusedVariables false
set_option linter.unusedSimpArgs false
section
variable {Pr : Program} {anns : List AV} {l : List EI} {env : Env} {K : Env → CS → Prop} {f : FuncId} {args : List EOpd} {as0 : List AV} {α β : Type} {g : α → AV} {g' : β → AV} {en : Int} {R1 : PRes α} {R : PRes β} {F : α → List Tk → PRes β} {l0 : List Tk} {n t d : Nat} {bl bl2 : BL} {tl : TL} {Rp : AV → CS → Prop}
def FlatF (g : α → AV) : Prop := ∀ a, (g a).flat = true
theorem ps_upd {T : TypeId} {cs : List AV} (hr : renL ⟨[0], []⟩ cs = cs) (hb : rmB 0 bl = bl2) : (CS.of n t bl tl).upd ⟨[0], []⟩ [(0, T, cs)] [] = CS.of n t ((0, T, cs) :: bl2) tl := by
 rw [of_upd]
 simp only [renB, renT, getD_0, hr, List.filter_cons, List.filter_nil, List.contains_cons, List.contains_nil, beq_self_eq_true, Bool.true_or, if_true, rmBs, rmTs, hb, apB, apT]
theorem ps_bd (l : List Tk) (en : Int) : bdL 1 0 (psC l en) = true := by
 simp only [psC, bdL, AV.bd, show flatR (l.map Tk.row) = true from flatR_map (fun _ => rfl) l, Bool.and_self]
theorem ps_bdB (l : List Tk) (en : Int) : bdB 1 0 [(0, 83, psC l en)] = true := by
 simp only [bdB, ps_bd, Bool.and_true]
 rfl
theorem ps_ren (l : List Tk) (en : Int) : renL ⟨[0], []⟩ (psC l en) = psC l en := rfl
theorem D.Q (hg : FlatF g) (h : R1 ≠ .out → FC Pr f as0 (ps l0 en) (RP g en R1)) (hR : R = R1.bind F) (hno : R ≠ .out)
  (hk : ∀ a r, R1 = .ok a r → R = F a r → DJ Pr anns l ((d, g a) :: env) (CS.of n t ((0, 83, psC r en) :: bl2) tl) K Rp)
  (hc : (Nat.blt 0 n && bdL 1 0 as0) = true := by simp (disch := omega) only [go_sem, simprocAttr] <;> rfl) (hB : lkB bl 0 = some (83, psC l0 en) := by rfl)
  (ha : args.map (cev env) = renL ⟨[0], []⟩ as0 := by simp (disch := omega) only [go_sem, simprocAttr] <;> rfl) (hb2 : rmB 0 bl = bl2 := by simp (disch := omega) only [go_sem, simprocAttr] <;> with_reducible rfl) (hp : ∀ p e, R = .err p e → ∀ c', Rp (failV p e) c' := by intro p e h c'; rw [h]; exact rfl) :
  DJ Pr anns (⟨some d, none, .call f args⟩ :: l) env (CS.of n t bl tl) K Rp := by
 simp only [Bool.and_eq_true] at hc
 obtain ⟨c0, c1⟩ := hc
 have hH : hasP (CS.of n t bl tl).H.blk ⟨[0], []⟩ [(0, 83, psC l0 en)] := ⟨hB, trivial⟩
 match R1, h, hR, hk with
 | .out, _, hR, _ => exact absurd hR hno
 | .err p e, h, hR, _ =>
  refine D.FP (x := failV p e) ⟨[0], []⟩ (h (fun h => by cases h)) (fun c' => ?_) ?_ hH trivial ha rfl
  ·exact hp p e hR c'
  ·rw [c1]
   simp only [List.all_cons, List.all_nil, show (CS.of n t bl tl).nb = n from rfl, c0, ps_bdB]
   rfl
 | .ok a r, h, hR, hk =>
  refine DJ.fr (v := g a) (bl1 := [(0, 83, psC r en)]) (tl1 := []) ⟨[0], []⟩ (h (fun h => by cases h)) ?_ hH trivial ha ?_
  ·rw [c1, flat_bd _ (hg a)]
   simp only [List.all_cons, List.all_nil, show (CS.of n t bl tl).nb = n from rfl, c0, ps_bdB]
   rfl
  ·rw [flat_ren _ (hg a), ps_upd (ps_ren r en) hb2]
   exact hk a r rfl hR
theorem D.Q0 (hg : FlatF g) (h : R1 ≠ .out → FC Pr f as0 (ps l0 en) (RP g en R1)) (hR : R = R1.bind F) (hno : R ≠ .out)
  (hk : ∀ a r, R1 = .ok a r → R = F a r → DJ Pr anns l env (CS.of n t ((0, 83, psC r en) :: bl2) tl) K Rp)
  (hc : (Nat.blt 0 n && bdL 1 0 as0) = true := by simp (disch := omega) only [go_sem, simprocAttr] <;> rfl) (hB : lkB bl 0 = some (83, psC l0 en) := by rfl)
  (ha : args.map (cev env) = renL ⟨[0], []⟩ as0 := by simp (disch := omega) only [go_sem, simprocAttr] <;> rfl) (hb2 : rmB 0 bl = bl2 := by simp (disch := omega) only [go_sem, simprocAttr] <;> with_reducible rfl) (hp : ∀ p e, R = .err p e → ∀ c', Rp (failV p e) c' := by intro p e h c'; rw [h]; exact rfl) :
  DJ Pr anns (⟨none, none, .call f args⟩ :: l) env (CS.of n t bl tl) K Rp := by
 simp only [Bool.and_eq_true] at hc
 obtain ⟨c0, c1⟩ := hc
 have hH : hasP (CS.of n t bl tl).H.blk ⟨[0], []⟩ [(0, 83, psC l0 en)] := ⟨hB, trivial⟩
 match R1, h, hR, hk with
 | .out, _, hR, _ => exact absurd hR hno
 | .err p e, h, hR, _ =>
  refine D.FP (x := failV p e) ⟨[0], []⟩ (h (fun h => by cases h)) (fun c' => ?_) ?_ hH trivial ha rfl
  ·exact hp p e hR c'
  ·rw [c1]
   simp only [List.all_cons, List.all_nil, show (CS.of n t bl tl).nb = n from rfl, c0, ps_bdB]
   rfl
 | .ok a r, h, hR, hk =>
  refine DJ.fr (v := g a) (bl1 := [(0, 83, psC r en)]) (tl1 := []) ⟨[0], []⟩ (h (fun h => by cases h)) ?_ hH trivial ha ?_
  ·rw [c1, flat_bd _ (hg a)]
   simp only [List.all_cons, List.all_nil, show (CS.of n t bl tl).nb = n from rfl, c0, ps_bdB]
   rfl
  ·rw [flat_ren _ (hg a), ps_upd (ps_ren r en) hb2]
   exact hk a r rfl hR
theorem D.QD {others : List Nat} (a0 : α) (hg : FlatF g) (h : R1 ≠ .out → FC Pr f as0 (ps l0 en) (RP g en R1)) (hR : R = R1.bind F) (hno : R ≠ .out)
  (hk : ∀ a r, R1 = .ok a r → R = F a r → DJ Pr anns l ((d, g a) :: env) (CS.of n t ((0, 83, psC r en) :: bl2) tl) K Rp)
  (hd : DJ Pr anns l ((d, g a0) :: env) (CS.of n (t + 1) bl ((t, .frz 0 0 0) :: tl)) K Rp)
  (ho : ∀ s ∈ others, ∃ b' T' cs', env.get s = .ptr (b' + 1) 0 ∧ lkB bl (b' + 1) = some (T', cs') ∧ tfL cs' = true)
  (hc : (Nat.blt 0 n && bdL 1 0 as0) = true := by simp (disch := omega) only [go_sem, simprocAttr] <;> rfl) (hB : lkB bl 0 = some (83, psC l0 en) := by rfl)
  (ha : args.map (cev env) = renL ⟨[0], []⟩ as0 := by simp (disch := omega) only [go_sem, simprocAttr] <;> rfl) (hb2 : rmB 0 bl = bl2 := by simp (disch := omega) only [go_sem, simprocAttr] <;> with_reducible rfl) (hp : ∀ p e, R = .err p e → ∀ c', Rp (failV p e) c' := by intro p e h c'; rw [h]; exact rfl) :
  DJ Pr anns (⟨some d, none, .callD others f args⟩ :: l) env (CS.of n t bl tl) K Rp := by
 simp only [Bool.and_eq_true] at hc
 obtain ⟨c0, c1⟩ := hc
 have hH : hasP (CS.of n t bl tl).H.blk ⟨[0], []⟩ [(0, 83, psC l0 en)] := ⟨hB, trivial⟩
 have hnd : (nodupB [0] && nodupB [] && [0].all (fun x => Nat.blt x (CS.of n t bl tl).nb) && [].all (fun x => Nat.blt x (CS.of n t bl tl).nt)) = true := by
  simp only [List.all_cons, List.all_nil, show (CS.of n t bl tl).nb = n from rfl, c0, ps_bdB]
  rfl
 match R1, h, hR, hk with
 | .out, _, hR, _ => exact absurd hR hno
 | .err p e, h, hR, _ =>
  refine D.CP (x := failV p e) ⟨[0], []⟩ (g a0) (h (fun h => by cases h)) ?_ (fun c' => ?_) (fun s hs => ?_) (hg a0) ?_ hH trivial ha rfl
  ·rw [of_addT]
   exact hd
  ·exact hp p e hR c'
  ·obtain ⟨b', T', cs', e1, e2, e3⟩ := ho s hs
   refine ⟨b' + 1, T', cs', e1, e2, ?_, e3⟩
   rw [of_upd]
   simp only [renB, renT, List.filter_nil, rmBs, rmTs, apB, apT, of_blk]
   rw [lk_rmB (by rfl)]
   exact e2
  ·rw [c1]
   simp only [List.all_cons, List.all_nil, show (CS.of n t bl tl).nb = n from rfl, c0, ps_bdB]
   rfl
 | .ok a r, h, hR, hk =>
  refine DJ.cD (b := 0) (T := 83) (cs := psC r en) (c1 := CS.of n t ((0, 83, psC r en) :: bl2) tl) (v := g a) ?_ ha ?_ c0 ?_ (hg a) (fun s hs => ?_) (hk a r rfl hR)
  ·have := FC.fr (c := CS.of n t bl tl) ⟨[0], []⟩ (h (fun h => by cases h)) rfl rfl hnd hH trivial (by rw [c1, ps_bdB]; rfl) (by rw [flat_bd _ (hg a), ps_bdB]; rfl) rfl
   rw [flat_ren _ (hg a), ps_upd (ps_ren r en) hb2] at this
   exact this
  ·rw [of_setB, hb2]
  ·simp only [psC, bdL, AV.bd, show flatR (r.map Tk.row) = true from flatR_map (fun _ => rfl) r, Bool.and_self]
  ·obtain ⟨b', T', cs', e1, e2, e3⟩ := ho s hs
   exact ⟨b' + 1, T', cs', e1, e2, rfl, e3⟩
theorem D.PN {x : EOpd} {T : TypeId} {v : AV} {c : CS} (h : Rp (.ifc T v) c) (hx : cev env x = .ifc T v := by simp (disch := omega) only [go_sem, simprocAttr] <;> with_reducible rfl) : DJ Pr anns (⟨none, none, .panic x⟩ :: l) env c K Rp := DJ.pn rfl hx h
theorem nzP (n : Nat) : ((n : Int) + 1 = 0) = False := by simp only [eq_iff_iff, iff_false]; omega
theorem gzP (n : Nat) : (0 < (n : Int) + 1) = True := by simp only [eq_iff_iff, iff_true]; omega
theorem nzQ (n : Nat) : (((n + 1 : Nat) : Int) = 0) = False := by simp only [eq_iff_iff, iff_false]; omega
theorem gzQ (n : Nat) : (0 < ((n + 1 : Nat) : Int)) = True := by simp only [eq_iff_iff, iff_true]; omega
theorem D.T1 {size : Nat} {x : EOpd} {row : List AV} {rows : List (List AV)} {c : CS} (hk : DJ Pr anns l ((d, .vs size rows) :: env) c K Rp) (hx : cev env x = .vs size (row :: rows) := by simp (disch := omega) only [go_sem, simprocAttr] <;> with_reducible rfl) : DJ Pr anns (⟨some d, none, .slV size x (some (.c (.int .i64 1))) none none⟩ :: l) env c K Rp := by
 refine DJ.slv1 (rows := row :: rows) (z := 1) (ik := .i64) 1 ?_ rfl rfl (by simp) hk
 rw [hx]
 simp [slRows]
def RPw {α : Type} (f : α → AV) (en : Int) : PRes α → Out → CS → Prop
 | .ok a l => Rw (f a) [(0, 83, psC l en)] []
 | .err p e => Rpn (failV p e)
 | .out => fun _ _ => False
theorem FC.rpw {c : CS} (hg : FlatF g) (h : FC Pr f as0 c (RPw g en R1)) : FC Pr f as0 c (RP g en R1) := by
 cases R1 with
 | ok a l => exact FC.rw h (hg a)
 | err p e => exact h
 | out => exact h
def accL (s : List UInt8) (l : List Tk) : List Tk := if isT s l = true then l.tail else l
theorem D.A {s : List UInt8} (h : FC Pr f as0 (ps l0 en) (Ro (.bool (isT s l0)) [(0, 83, psC (accL s l0) en)] []))
  (h1 : isT s l0 = true → DJ Pr anns l ((d, .bool true) :: env) (CS.of n t ((0, 83, psC l0.tail en) :: bl2) tl) K Rp)
  (h2 : isT s l0 = false → DJ Pr anns l ((d, .bool false) :: env) (CS.of n t ((0, 83, psC l0 en) :: bl2) tl) K Rp)
  (hc : (Nat.blt 0 n && bdL 1 0 as0) = true := by simp (disch := omega) only [go_sem, simprocAttr] <;> rfl) (hB : lkB bl 0 = some (83, psC l0 en) := by rfl)
  (ha : args.map (cev env) = renL ⟨[0], []⟩ as0 := by simp (disch := omega) only [go_sem, simprocAttr] <;> rfl) (hb2 : rmB 0 bl = bl2 := by simp (disch := omega) only [go_sem, simprocAttr] <;> with_reducible rfl) :
  DJ Pr anns (⟨some d, none, .call f args⟩ :: l) env (CS.of n t bl tl) K Rp := by
 simp only [Bool.and_eq_true] at hc
 obtain ⟨c0, c1⟩ := hc
 refine DJ.fr (v := .bool (isT s l0)) (bl1 := [(0, 83, psC (accL s l0) en)]) (tl1 := []) ⟨[0], []⟩ h ?_ ⟨hB, trivial⟩ trivial ha ?_
 ·rw [c1]
  simp only [List.all_cons, List.all_nil, show (CS.of n t bl tl).nb = n from rfl, c0, ps_bdB]
  rfl
 ·rw [ps_upd (ps_ren _ en) hb2]
  simp only [AV.ren, accL]
  cases e : isT s l0 with
  | true => exact h1 e
  | false => exact h2 e
end
end Go.Aw
namespace Go.Aw
open Go
set_option linter.unusedVariables false
theorem bind_ok {α β : Type} {R : PRes α} {F : α → List Tk → PRes β} {a : β} {r : List Tk} (h : R.bind F = .ok a r) : ∃ b r', R = .ok b r' ∧ F b r' = .ok a r := by
 cases R with
 | ok b r' => exact ⟨b, r', rfl, h⟩
 | err p e => cases h
 | out => cases h
theorem okB {α β : Type} (a : α) (r : List Tk) (F : α → List Tk → PRes β) : (PRes.ok a r).bind F = F a r := rfl
theorem bind_assoc {α β γ : Type} (R : PRes α) (F : α → List Tk → PRes β) (G : β → List Tk → PRes γ) : (R.bind F).bind G = R.bind fun a r => (F a r).bind G := by cases R <;> rfl
theorem bind_abs {α β : Type} {R : PRes β} {R1 : PRes α} {F : α → List Tk → PRes β} (h : R = R1.bind F) : ∃ G, G = F ∧ R = R1.bind G := ⟨F, rfl, h⟩
theorem isT_len {s : List UInt8} {l : List Tk} (h : isT s l = true) : l.tail.length + 1 = l.length := by
 cases l with
 | nil => cases h
 | cons t l => rfl
section
variable {en : Int}
theorem pExp_len {s : List UInt8} {l r : List Tk} {a : Unit} (h : pExp en s l = .ok a r) : r.length + 1 = l.length := by
 unfold pExp at h
 split at h
 ·rename_i h1
  cases h
  exact isT_len h1
 ·cases h
theorem pNext_len {k : Int} {l r : List Tk} {a : Tk} (h : pNext en k l = .ok a r) : r.length + 1 = l.length := by
 cases l with
 | nil => cases h
 | cons t l =>
  simp only [pNext] at h
  split at h
  ·cases h; rfl
  ·cases h
theorem pWord_len {l r : List Tk} {a : List UInt8} (h : pWord en l = .ok a r) : r.length + 1 = l.length := by
 unfold pWord at h
 split at h
 ·obtain ⟨t, r', h1, h⟩ := bind_ok h
  cases h
  exact pNext_len h1
 ·cases h
theorem pPathL_len : ∀ {n : Nat} {s : List UInt8} {l r : List Tk} {a : List UInt8}, pPathL en n s l = .ok a r → r.length ≤ l.length
 | 0, _, _, _, _, h => by cases h
 | n + 1, s, l, r, a, h => by
  simp only [pPathL] at h
  split at h
  ·rename_i h0
   obtain ⟨w, r1, h1, h⟩ := bind_ok h
   have := pWord_len h1
   have := pPathL_len h
   have := isT_len h0
   omega
  ·cases h
   exact Nat.le_refl _
theorem pPath_len {n : Nat} {l r : List Tk} {a : List UInt8} (h : pPath en n l = .ok a r) : r.length < l.length := by
 obtain ⟨w, r1, h1, h⟩ := bind_ok h
 have := pWord_len h1
 have := pPathL_len h
 omega
theorem pE_len : ∀ n, (∀ l x r, pUn en n l = .ok x r → r.length < l.length) ∧ (∀ k l x r, pEx en n k l = .ok x r → r.length < l.length) ∧ (∀ k y l x r, pLp en n k y l = .ok x r → r.length ≤ l.length)
 | 0 => ⟨fun l x r h => by simp [pUn] at h, fun k l x r h => by simp [pEx] at h, fun k y l x r h => by simp [pLp] at h⟩
 | n + 1 => by
  obtain ⟨i1, i2, i3⟩ := pE_len n
  refine ⟨fun l x r h => ?_, fun k l x r h => ?_, fun k y l x r h => ?_⟩
  ·simp only [pUn] at h
   split at h
   ·rename_i h0
    obtain ⟨x, r1, h1, h⟩ := bind_ok h
    obtain ⟨_, r2, h2, h⟩ := bind_ok h
    cases h
    have := i2 _ _ _ _ h1
    have := pExp_len h2
    have := isT_len h0
    omega
   split at h
   ·rename_i h0
    obtain ⟨_, r1, h1, h⟩ := bind_ok h
    obtain ⟨x, r2, h2, h⟩ := bind_ok h
    obtain ⟨_, r3, h3, h⟩ := bind_ok h
    cases h
    have := i2 _ _ _ _ h2
    have := pExp_len h1
    have := pExp_len h3
    have := isT_len h0
    omega
   split at h
   ·rename_i h0
    obtain ⟨x, r1, h1, h⟩ := bind_ok h
    cases h
    have := i1 _ _ _ h1
    have := isT_len h0
    omega
   split at h
   ·rename_i h0
    obtain ⟨x, r1, h1, h⟩ := bind_ok h
    cases h
    have := i1 _ _ _ h1
    have := isT_len h0
    omega
   split at h
   ·obtain ⟨x, r1, h1, h⟩ := bind_ok h
    cases h
    have := pWord_len h1
    omega
   split at h
   ·obtain ⟨x, r1, h1, h⟩ := bind_ok h
    cases h
    have := pNext_len h1
    omega
   split at h
   ·cases h
   ·obtain ⟨x, r1, h1, h⟩ := bind_ok h
    cases h
    have := pNext_len h1
    omega
  ·simp only [pEx] at h
   obtain ⟨y, r1, h1, h⟩ := bind_ok h
   have := i1 _ _ _ h1
   have := i3 _ _ _ _ _ h
   omega
  ·simp only [pLp] at h
   cases l with
   | nil => cases h; exact Nat.le_refl _
   | cons t l =>
    simp only at h
    split at h
    ·split at h
     ·cases h; exact Nat.le_refl _
     ·obtain ⟨z, r1, h1, h⟩ := bind_ok h
      have := i2 _ _ _ _ h1
      have := i3 _ _ _ _ _ h
      simp only [List.length_cons]
      omega
    ·cases h; exact Nat.le_refl _
theorem pS_len : ∀ n, (∀ l x r, pBk en n l = .ok x r → r.length < l.length) ∧ (∀ acc l x r, pBl en n acc l = .ok x r → r.length < l.length) ∧ (∀ l x r, pSt en n l = .ok x r → r.length < l.length) ∧ (∀ l x r, pCh en n l = .ok x r → r.length < l.length)
 | 0 => ⟨fun l x r h => by simp [pBk] at h, fun a l x r h => by simp [pBl] at h, fun l x r h => by simp [pSt] at h, fun l x r h => by simp [pCh] at h⟩
 | n + 1 => by
  obtain ⟨i1, i2, i3, i4⟩ := pS_len n
  have e2 := (pE_len (en := en) n).2.1
  refine ⟨fun l x r h => ?_, fun a l x r h => ?_, fun l x r h => ?_, fun l x r h => ?_⟩
  ·simp only [pBk] at h
   obtain ⟨_, r1, h1, h⟩ := bind_ok h
   have := pExp_len h1
   have := i2 _ _ _ _ h
   omega
  ·simp only [pBl] at h
   split at h
   ·rename_i h0
    cases h
    have := isT_len h0
    omega
   ·obtain ⟨y, r1, h1, h⟩ := bind_ok h
    have := i3 _ _ _ h1
    have := i2 _ _ _ _ h
    omega
  ·simp only [pSt] at h
   split at h
   ·rename_i h0
    have := isT_len h0
    have := i4 _ _ _ h
    omega
   split at h
   ·rename_i h0
    have := isT_len h0
    obtain ⟨y, r1, h1, h⟩ := bind_ok h
    obtain ⟨_, r2, h2, h⟩ := bind_ok h
    split at h
    ·cases h
    obtain ⟨t, r3, h3, h⟩ := bind_ok h
    obtain ⟨b, r4, h4, h⟩ := bind_ok h
    cases h
    have := e2 _ _ _ _ h1
    have := pExp_len h2
    have := pNext_len h3
    have := i1 _ _ _ h4
    omega
   ·obtain ⟨w, r1, h1, h⟩ := bind_ok h
    obtain ⟨_, r2, h2, h⟩ := bind_ok h
    obtain ⟨y, r3, h3, h⟩ := bind_ok h
    obtain ⟨_, r4, h4, h⟩ := bind_ok h
    cases h
    have := pWord_len h1
    have := pExp_len h2
    have := e2 _ _ _ _ h3
    have := pExp_len h4
    omega
  ·simp only [pCh] at h
   obtain ⟨y, r1, h1, h⟩ := bind_ok h
   obtain ⟨b, r2, h2, h⟩ := bind_ok h
   have := e2 _ _ _ _ h1
   have := i1 _ _ _ h2
   split at h
   ·rename_i h0
    have := isT_len h0
    split at h
    ·rename_i h5
     have := isT_len h5
     obtain ⟨z, r3, h3, h⟩ := bind_ok h
     cases h
     have := i4 _ _ _ h3
     omega
    ·obtain ⟨z, r3, h3, h⟩ := bind_ok h
     cases h
     have := i1 _ _ _ h3
     omega
   ·cases h
    omega
theorem pSigned_len {l r : List Tk} {a : Int} (h : pSigned en l = .ok a r) : r.length < l.length := by
 unfold pSigned at h
 split at h
 ·rename_i h0
  obtain ⟨t, r1, h1, h⟩ := bind_ok h
  cases h
  have := pNext_len h1
  have := isT_len h0
  omega
 ·obtain ⟨t, r1, h1, h⟩ := bind_ok h
  cases h
  have := pNext_len h1
  omega
theorem pSort_len {l r : List Tk} {a : Int × Int × Int} (h : pSort en l = .ok a r) : r.length < l.length := by
 unfold pSort at h
 split at h
 ·rename_i h0
  obtain ⟨_, r1, h1, h⟩ := bind_ok h
  obtain ⟨_, r2, h2, h⟩ := bind_ok h
  obtain ⟨_, r3, h3, h⟩ := bind_ok h
  cases h
  have := pNext_len h1
  have := pExp_len h2
  have := pNext_len h3
  have := isT_len h0
  omega
 ·obtain ⟨_, r1, h1, h⟩ := bind_ok h
  obtain ⟨_, r2, h2, h⟩ := bind_ok h
  obtain ⟨_, r3, h3, h⟩ := bind_ok h
  obtain ⟨_, r4, h4, h⟩ := bind_ok h
  cases h
  have := pExp_len h1
  have := pSigned_len h2
  have := pExp_len h3
  have := pSigned_len h4
  omega
theorem pInit_len {l r : List Tk} {a : Int × Int × List UInt8} (h : pInit en l = .ok a r) : r.length < l.length := by
 unfold pInit at h
 split at h
 ·obtain ⟨_, r1, h1, h⟩ := bind_ok h
  cases h
  have := pNext_len h1
  omega
 ·obtain ⟨_, r1, h1, h⟩ := bind_ok h
  cases h
  exact pSigned_len h1
theorem pVar_len {l r : List Tk} {a : Vr} (h : pVar en l = .ok a r) : r.length < l.length := by
 obtain ⟨_, r1, h1, h⟩ := bind_ok h
 obtain ⟨_, r2, h2, h⟩ := bind_ok h
 obtain ⟨_, r3, h3, h⟩ := bind_ok h
 obtain ⟨_, r4, h4, h⟩ := bind_ok h
 obtain ⟨_, r5, h5, h⟩ := bind_ok h
 obtain ⟨_, r6, h6, h⟩ := bind_ok h
 cases h
 have := pWord_len h1
 have := pExp_len h2
 have := pSort_len h3
 have := pExp_len h4
 have := pInit_len h5
 have := pExp_len h6
 omega
theorem pPars_len : ∀ {n : Nat} {acc : List (List UInt8)} {l r : List Tk} {a : List (List UInt8)}, pPars en n acc l = .ok a r → r.length ≤ l.length
 | 0, _, _, _, _, h => by cases h
 | n + 1, s, l, r, a, h => by
  simp only [pPars] at h
  split at h
  ·rename_i h0
   obtain ⟨w, r1, h1, h⟩ := bind_ok h
   have := pWord_len h1
   have := pPars_len h
   have := isT_len h0
   omega
  ·cases h
   exact Nat.le_refl _
theorem pArgs_len : ∀ {n : Nat} {acc : List Ex} {l r : List Tk} {a : List Ex}, pArgs en n acc l = .ok a r → r.length ≤ l.length
 | 0, _, _, _, _, h => by cases h
 | n + 1, s, l, r, a, h => by
  simp only [pArgs] at h
  split at h
  ·rename_i h0
   obtain ⟨w, r1, h1, h⟩ := bind_ok h
   have := (pE_len n).2.1 _ _ _ _ h1
   have := pArgs_len h
   have := isT_len h0
   omega
  ·cases h
   exact Nat.le_refl _
theorem pHan_len {n : Nat} {l r : List Tk} {a : Ha} (h : pHan en n l = .ok a r) : r.length < l.length := by
 obtain ⟨_, r1, h1, h⟩ := bind_ok h
 obtain ⟨_, r2, h2, h⟩ := bind_ok h
 obtain ⟨_, r3, h3, h⟩ := bind_ok h
 obtain ⟨_, r4, h4, h⟩ := bind_ok h
 obtain ⟨_, r5, h5, h⟩ := bind_ok h
 obtain ⟨_, r6, h6, h⟩ := bind_ok h
 cases h
 have := pPath_len h1
 have := pExp_len h2
 have : r3.length ≤ r2.length := by
  unfold pParL at h3
  split at h3
  ·cases h3
   simp
  ·obtain ⟨_, s1, g1, h3⟩ := bind_ok h3
   obtain ⟨_, s2, g2, h3⟩ := bind_ok h3
   obtain ⟨_, s3, g3, h3⟩ := bind_ok h3
   cases h3
   have := pWord_len g1
   have := pPars_len g2
   have := pExp_len g3
   omega
 have := pExp_len h4
 have := pWord_len h5
 have := (pS_len n).1 _ _ _ h6
 omega
theorem pOff_len {n : Nat} {l r : List Tk} {a : Off} (h : pOff en n l = .ok a r) : r.length < l.length := by
 obtain ⟨_, r1, h1, h⟩ := bind_ok h
 obtain ⟨_, r2, h2, h⟩ := bind_ok h
 obtain ⟨_, r3, h3, h⟩ := bind_ok h
 obtain ⟨_, r4, h4, h⟩ := bind_ok h
 obtain ⟨_, r5, h5, h⟩ := bind_ok h
 obtain ⟨_, r6, h6, h⟩ := bind_ok h
 obtain ⟨_, r7, h7, h⟩ := bind_ok h
 cases h
 have := pPath_len h1
 have := pExp_len h2
 have : r3.length ≤ r2.length := by
  unfold pArgL at h3
  split at h3
  ·cases h3
   simp
  ·obtain ⟨_, s1, g1, h3⟩ := bind_ok h3
   obtain ⟨_, s2, g2, h3⟩ := bind_ok h3
   obtain ⟨_, s3, g3, h3⟩ := bind_ok h3
   cases h3
   have := (pE_len n).2.1 _ _ _ _ g1
   have := pArgs_len g2
   have := pExp_len g3
   omega
 have := pExp_len h4
 have := pWord_len h5
 have : r6.length ≤ r5.length := by
  unfold pWhen at h6
  split at h6
  ·rename_i h0
   obtain ⟨_, s1, g1, h6⟩ := bind_ok h6
   cases h6
   have := (pE_len n).2.1 _ _ _ _ g1
   have := isT_len h0
   omega
  ·cases h6
   exact Nat.le_refl _
 have := pExp_len h7
 omega
end
end Go.Aw
namespace Go.Aw.T.N
open Go Go.Aw Go.Proofs Go.RowKit
set_option maxRecDepth 100000
attribute [local irreducible] Go.Aw.J Go.Aw.DJ Go.Aw.FC
attribute [local go_sem] wrap64 wrapu64 wrapu8 nnif decide_true decide_false dst gst gv_b gv_u jst jpop bdL bdB bdT bdO AV.bd tfL AV.tf o_mv o_pick o_nilck o_build o_load o_loadD o_loadR o_faddr o_field o_iaddr o_iaddrA o_idxA o_idxS o_bin o_binB o_eqA o_not o_pnil o_neg o_conv o_lenS o_len o_lenA o_minmax o_slS o_slV o_extract o_mkfn o_mkfnB o_convS o_convBS o_mkif o_isnil o_bslice o_box o_alloc o_store o_storeD o_bsliceO o_bsliceM cpv cev_t cev_c Env.get put_some' put_none' of_setB of_addB of_setT of_addT of_upd of_blk of_tok of_nb of_nt of_new rmB rmT rmBs rmTs renB renT apB apT lkB lkT getD_0 getD_s renL AV.ren crange_if cstB_if one_nilS one_pnil oc_nil oc_pnil cbin binInt shInt binStr binBool cbuild_nil cbuild_cons cidx_if AV.cells AV.okc AV.flat flatL flatR setRange minmaxAV AV.one AV.ofCells eqCells eqCell slRows initEnv initFrom cres cresv cresL cond_true cond_false beq_self_eq_true Bool.not_true Bool.not_false beq_true beq_false eq_self if_true Option.some.injEq List.length_cons List.length_nil List.take_succ_cons List.take_zero List.drop_succ_cons List.drop_zero List.set_cons_succ List.set_cons_zero List.nil_append List.cons_append List.append_nil and_self Option.map_some Option.map_none List.map_cons List.map_nil Bool.false_eq_true if_false Nat.zero_add Nat.add_zero true_and and_true Bool.and_true Bool.true_and List.getElem?_cons_zero List.getElem?_cons_succ Nat.zero_le Nat.le_refl List.all_cons List.all_nil List.flatten_cons List.flatten_nil crows crowsOk List.filter_cons List.filter_nil List.contains_cons List.contains_nil Bool.or_false Bool.or_true Bool.false_or Bool.true_or
set_option linter.unusedSimpArgs false
set_option linter.unusedVariables false
section
attribute [local go_sem] psC Tk.row List.tail_cons List.tail_nil nzP gzP nzQ gzQ
theorem tk_flat (l : List Tk) : flatR (l.map Tk.row) = true := flatR_map (fun _ => rfl) l
attribute [local go_sem] tk_flat
def gU : Unit → AV := fun _ => .tup []
def gS : List UInt8 → AV := .str
def gI : Int → AV := .int .i64
def gTk : Tk → AV := fun t => .agg t.row
theorem fU : FlatF gU := fun _ => rfl
theorem fS : FlatF gS := fun _ => rfl
theorem fI : FlatF gI := fun _ => rfl
theorem fTk : FlatF gTk := fun _ => rfl
theorem q91 (l : List Tk) (en e : Int) : FC Tryz.prog 91 [.ptr 0 0, .int .i64 e] (ps l en) (Rpn (failV (failAt en l) e)) := by
 refine FC.intro mo Tryz.func91 c91 ?_
 unfold e91 r91
 simp(disch:=omega)only[go_sem,simprocAttr]
 cases l with
 | nil =>
  (repeat' first|refine D.S ?_|refine D.JJ true true ?_|refine DJ.nil ?_|refine J.reg0 ?_|refine D.W ?_|refine D.Z ?_|refine D.G ?_ ?_|refine D.X ‹_› ?_|refine D.XO ‹_› ?_|refine D.XS ‹_› ?_|intro h|refine D.C ?_ ?_)
  refine D.PN ?_
  exact rfl
 | cons t r =>
  (repeat' first|refine D.S ?_|refine D.JJ true true ?_|refine DJ.nil ?_|refine J.reg0 ?_|refine D.W ?_|refine D.Z ?_|refine D.G ?_ ?_|refine D.X ‹_› ?_|refine D.XO ‹_› ?_|refine D.XS ‹_› ?_|intro h|refine D.C ?_ ?_)
  refine D.PN ?_
  exact rfl
theorem q151 (k : Int) (l : List Tk) (en : Int) : pNext en k l ≠ .out → FC Tryz.prog 151 [.ptr 0 0, .int .i64 k] (ps l en) (RP gTk en (pNext en k l)) := by
 intro hno
 refine FC.intro mo Tryz.func151 c151 ?_
 unfold e151 r151
 simp(disch:=omega)only[go_sem,simprocAttr]
 cases l with
 | nil =>
  (repeat' first|refine D.S ?_|refine D.JJ true true ?_|refine DJ.nil ?_|refine J.reg0 ?_|refine D.W ?_|refine D.Z ?_|refine D.G ?_ ?_|refine D.X ‹_› ?_|refine D.XO ‹_› ?_|refine D.XS ‹_› ?_|intro h|refine D.C ?_ ?_)
  exact D.FP ⟨[0], []⟩ (q91 [] en 3) fun _ => rfl
 | cons t r =>
  simp only [pNext]
  (repeat' first|refine D.S ?_|refine D.JJ true true ?_|refine DJ.nil ?_|refine J.reg0 ?_|refine D.W ?_|refine D.Z ?_|refine D.G ?_ ?_|refine D.X ‹_› ?_|refine D.XO ‹_› ?_|refine D.XS ‹_› ?_|intro h|refine D.C ?_ ?_)
  ·have : t.kind ≠ k := by simpa using h
   rw [if_neg this]
   exact D.FP ⟨[0], []⟩ (q91 (t :: r) en 3) fun _ => rfl
  ·have : t.kind = k := by simpa using h
   rw [if_pos this]
   refine D.T1 ?_
   refine GoG ?_
   first|refine D.R ?_|refine D.E ?_
   exact ⟨rfl, ⟨rfl, trivial⟩, trivial⟩
theorem q152 (s : List UInt8) (l : List Tk) (en : Int) : FC Tryz.prog 152 [.ptr 0 0, .str s] (ps l en) (Ro (.bool (isT s l)) [(0, 83, psC l en)] []) := by
 refine FC.intro mo Tryz.func152 c152 ?_
 unfold e152 r152
 simp(disch:=omega)only[go_sem,simprocAttr]
 cases l with
 | nil =>
  (repeat' first|refine D.S ?_|refine D.JJ true true ?_|refine DJ.nil ?_|refine J.reg0 ?_|refine D.W ?_|refine D.Z ?_|refine D.G ?_ ?_|refine D.X ‹_› ?_|refine D.XO ‹_› ?_|refine D.XS ‹_› ?_|intro h|refine D.C ?_ ?_)
  first|refine D.R ?_|refine D.E ?_
  exact ⟨rfl, ⟨rfl, trivial⟩, trivial⟩
 | cons t r =>
  (repeat' first|refine D.S ?_|refine D.JJ true true ?_|refine DJ.nil ?_|refine J.reg0 ?_|refine D.W ?_|refine D.Z ?_|refine D.G ?_ ?_|refine D.X ‹_› ?_|refine D.XO ‹_› ?_|refine D.XS ‹_› ?_|intro h|refine D.C ?_ ?_)
  all_goals
   first|refine D.R ?_|refine D.E ?_
   refine ⟨?_, ⟨rfl, trivial⟩, trivial⟩
   simp_all [isT]
theorem q87 (s : List UInt8) (l : List Tk) (en : Int) : FC Tryz.prog 87 [.ptr 0 0, .str s] (ps l en) (Ro (.bool (isT s l)) [(0, 83, psC (accL s l) en)] []) := by
 refine FC.intro mo Tryz.func87 c87 ?_
 unfold e87 r87
 simp(disch:=omega)only[go_sem,simprocAttr]
 refine GoG ?_
 refine D.F ⟨[0],[]⟩ (q152 s l en) ?_
 (repeat' first|refine D.S ?_|refine D.JJ true true ?_|refine DJ.nil ?_|refine J.reg0 ?_|refine D.W ?_|refine D.Z ?_|refine D.G ?_ ?_|refine D.X ‹_› ?_|refine D.XO ‹_› ?_|refine D.XS ‹_› ?_|intro h|refine D.C ?_ ?_)
 ·cases l with
  | nil => cases h
  | cons t r =>
   refine GoG ?_
   refine D.T1 ?_
   refine GoG ?_
   first|refine D.R ?_|refine D.E ?_
   unfold accL
   rw [if_pos h, h]
   exact ⟨rfl, ⟨rfl, trivial⟩, trivial⟩
 ·first|refine D.R ?_|refine D.E ?_
  unfold accL
  rw [if_neg (by rw [h]; decide), h]
  exact ⟨rfl, ⟨rfl, trivial⟩, trivial⟩
theorem q85 (s : List UInt8) (l : List Tk) (en : Int) : pExp en s l ≠ .out → FC Tryz.prog 85 [.ptr 0 0, .str s] (ps l en) (RP gU en (pExp en s l)) := by
 intro hno
 unfold pExp
 refine FC.intro mo Tryz.func85 c85 ?_
 unfold e85 r85
 simp(disch:=omega)only[go_sem,simprocAttr]
 refine GoG ?_
 refine D.A (q87 s l en) (fun h => ?_) (fun h => ?_)
 ·rw [if_pos h]
  refine GoG ?_
  first|refine D.R ?_|refine D.E ?_
  exact ⟨rfl, ⟨rfl, trivial⟩, trivial⟩
 ·rw [if_neg (by rw [h]; decide)]
  refine GoG ?_
  exact D.FP ⟨[0], []⟩ (q91 l en 3) fun _ => rfl
end
section
attribute [local go_sem] psC Tk.row List.tail_cons List.tail_nil nzP gzP nzQ gzQ tk_flat gU gS gI gTk
theorem q150 (l : List Tk) (en : Int) : FC Tryz.prog 150 [.ptr 0 0] (ps l en) (Ro (.bool (isWordT l)) [(0, 83, psC l en)] []) := by
 refine FC.intro mo Tryz.func150 c150 ?_
 unfold e150 r150
 simp(disch:=omega)only[go_sem,simprocAttr]
 cases l with
 | nil =>
  (repeat' first|refine D.S ?_|refine D.JJ true true ?_|refine DJ.nil ?_|refine J.reg0 ?_|refine D.W ?_|refine D.Z ?_|refine D.G ?_ ?_|refine D.X ‹_› ?_|refine D.XO ‹_› ?_|refine D.XS ‹_› ?_|intro h|refine D.C ?_ ?_)
  first|refine D.R ?_|refine D.E ?_
  exact ⟨rfl, ⟨rfl, trivial⟩, trivial⟩
 | cons t r =>
  (repeat' first|refine D.S ?_|refine D.JJ true true ?_|refine DJ.nil ?_|refine J.reg0 ?_|refine D.W ?_|refine D.Z ?_|refine D.G ?_ ?_|refine D.X ‹_› ?_|refine D.XO ‹_› ?_|refine D.XS ‹_› ?_|intro h|refine D.C ?_ ?_)
  ·refine D.P (p45 t.text) ?_
   refine GoG ?_
   first|refine D.R ?_|refine D.E ?_
   refine ⟨?_, ⟨rfl, trivial⟩, trivial⟩
   simp_all [isWordT]
  ·first|refine D.R ?_|refine D.E ?_
   refine ⟨?_, ⟨rfl, trivial⟩, trivial⟩
   simp_all [isWordT]
theorem q86 (l : List Tk) (en : Int) : pWord en l ≠ .out → FC Tryz.prog 86 [.ptr 0 0] (ps l en) (RP gS en (pWord en l)) := by
 intro hno
 obtain ⟨R, hR⟩ : ∃ R, R = pWord en l := ⟨_, rfl⟩
 rw [← hR] at hno ⊢
 unfold pWord at hR
 refine FC.intro mo Tryz.func86 c86 ?_
 unfold e86 r86
 simp(disch:=omega)only[go_sem,simprocAttr]
 refine GoG ?_
 refine D.F ⟨[0],[]⟩ (q150 l en) ?_
 cases hw : isWordT l
 all_goals rw [hw] at hR
 all_goals (repeat' first|refine D.S ?_|refine D.JJ true true ?_|refine DJ.nil ?_|refine J.reg0 ?_|refine D.W ?_|refine D.Z ?_|refine D.G ?_ ?_|refine D.X ‹_› ?_|refine D.XO ‹_› ?_|refine D.XS ‹_› ?_|intro h|refine D.C ?_ ?_)
 ·rw [hR]
  exact D.FP ⟨[0], []⟩ (q91 l en 3) fun _ => rfl
 ·refine D.Q fTk (q151 1 l en) hR hno fun a r h hR => ?_
  refine GoG ?_
  first|refine D.R ?_|refine D.E ?_
  rw [hR]
  exact ⟨rfl, ⟨rfl, trivial⟩, trivial⟩
theorem q153 (l : List Tk) (en : Int) : pSigned en l ≠ .out → FC Tryz.prog 153 [.ptr 0 0] (ps l en) (RP gI en (pSigned en l)) := by
 intro hno
 obtain ⟨R, hR⟩ : ∃ R, R = pSigned en l := ⟨_, rfl⟩
 rw [← hR] at hno ⊢
 unfold pSigned at hR
 refine FC.intro mo Tryz.func153 c153 ?_
 unfold e153 r153
 simp(disch:=omega)only[go_sem,simprocAttr]
 refine GoG ?_
 refine D.A (q87 _ l en) (fun h => ?_) (fun h => ?_)
 ·rw [if_pos h] at hR
  refine GoG ?_
  refine D.Q fTk (q151 2 l.tail en) hR hno fun a r h hR => ?_
  refine GoG ?_
  first|refine D.R ?_|refine D.E ?_
  rw [hR]
  exact ⟨rfl, ⟨rfl, trivial⟩, trivial⟩
 ·rw [if_neg (by rw [h]; decide)] at hR
  refine GoG ?_
  refine D.Q fTk (q151 2 l en) hR hno fun a r h hR => ?_
  refine GoG ?_
  first|refine D.R ?_|refine D.E ?_
  rw [hR]
  exact ⟨rfl, ⟨rfl, trivial⟩, trivial⟩
set_option maxHeartbeats 2000000 in
theorem q175 (s : List UInt8) : Pure Tryz.prog 175 [.str s] (.int .i64 (precP s)) := by
 refine pure_of mo Tryz.func175 c175 rfl rfl ?_
 unfold e175 r175
 simp(disch:=omega)only[go_sem,simprocAttr]
 (repeat' first|refine D.S ?_|refine D.JJ true true ?_|refine DJ.nil ?_|refine J.reg0 ?_|refine D.W ?_|refine D.Z ?_|refine D.G ?_ ?_|refine D.X ‹_› ?_|refine D.XO ‹_› ?_|refine D.XS ‹_› ?_|intro h|refine D.C ?_ ?_)
 all_goals
  simp only [decide_eq_true_eq, decide_eq_false_iff_not] at *
  first|refine D.R ?_|refine D.E ?_
  refine ⟨_, rfl, .wk ?_ rfl, trivial, trivial⟩
  simp_all [precP, AV.wk]
theorem isWord_len {s : List UInt8} (h : isWordB s = true) : s.length ≤ 16 := by
 cases s with
 | nil => simp
 | cons c s =>
  simp only [isWordB, isNameB, Bool.and_eq_true, decide_eq_true_eq] at h
  exact h.1.1
theorem pWord_ok {en : Int} {l r : List Tk} {a : List UInt8} (h : pWord en l = .ok a r) : isWordB a = true ∧ r.length + 1 = l.length := by
 unfold pWord at h
 cases l with
 | nil => simp [isWordT] at h
 | cons t l =>
  simp only [isWordT, Bool.and_eq_true, decide_eq_true_eq, pNext] at h
  split at h
  ·rename_i h1
   rw [if_pos h1.1] at h
   cases h
   exact ⟨h1.2, rfl⟩
  ·cases h
theorem isT_tail {s : List UInt8} {l : List Tk} (h : isT s l = true) : l.tail.length + 1 = l.length := by
 cases l with
 | nil => cases h
 | cons t l => rfl
theorem q154 (n : Nat) (l : List Tk) (en : Int) (hl : l.length ≤ 1000000) : pPath en n l ≠ .out → FC Tryz.prog 154 [.ptr 0 0] (ps l en) (RP gS en (pPath en n l)) := by
 intro hno
 obtain ⟨R, hR⟩ : ∃ R, R = pPath en n l := ⟨_, rfl⟩
 rw [← hR] at hno ⊢
 unfold pPath at hR
 refine FC.intro mo Tryz.func154 c154 ?_
 unfold e154 r154
 simp(disch:=omega)only[go_sem,simprocAttr]
 refine GoG ?_
 refine D.Q fS (q86 l en) hR hno fun a r h0 hR => ?_
 have b1 := isWord_len (pWord_ok h0).1
 have b2 := (pWord_ok h0).2
 refine GoG ?_
 refine J.loopX (X := List UInt8 × List Tk × Nat) (a, r, n) (fun x => [(0, .ptr 0 0), (3, .str x.1)]) (fun x => [(0, 83, psC x.2.1 en)]) (fun _ => []) (fun x => x.1.length + 17 * x.2.1.length ≤ 17000016 ∧ R = pPathL en x.2.2 x.1 x.2.1) (fun x => x.2.2) ⟨by simp only; omega, hR⟩ ⟨rfl, rfl, trivial⟩ ⟨rfl, trivial⟩ trivial ?_
 rintro ⟨s, l, n⟩ ⟨hb, hR⟩
 simp only at hb hR
 match n, hR with
 | 0, hR => exact absurd hR hno
 | n + 1, hR =>
 simp only [pPathL] at hR
 refine GoG ?_
 refine D.A (q87 _ l en) (fun h => ?_) (fun h => ?_)
 ·rw [if_pos h] at hR
  have b0 := isT_tail h
  refine GoG ?_
  refine D.Q fS (q86 l.tail en) hR hno fun a r h1 hR => ?_
  have b1 := isWord_len (pWord_ok h1).1
  have b2 := (pWord_ok h1).2
  refine D.cat ?_
  refine GoG ?_
  refine D.cat ?_
  refine GoG ?_
  refine J.roundX (s ++ ([46] ++ a), r, n) ⟨by simp only [List.length_cons, List.length_nil, List.length_append]; omega, hR⟩ ⟨rfl, rfl, trivial⟩ ⟨rfl, trivial⟩ trivial rfl rfl (by show n < n + 1; omega)
 ·rw [if_neg (by rw [h]; decide)] at hR
  refine GoG ?_
  first|refine D.R ?_|refine D.E ?_
  rw [hR]
  exact ⟨rfl, ⟨rfl, trivial⟩, trivial⟩
end
section
attribute [local go_sem] psC Tk.row List.tail_cons List.tail_nil nzP gzP nzQ gzQ tk_flat gU gS gI gTk Ex.row_mk Ex.rowsF Ex.row_flat
def gEx : Ex → AV := fun x => .agg x.row
theorem fEx : FlatF gEx := fun x => by simp only [gEx, AV.flat, Ex.row_flat]
theorem wkE (k : Int) (o m t : List UInt8) (n : Int) : Wk (.agg [.int .i64 k, .str o, .str m, .str t, .int .i64 n, .nilS]) (gEx (.mk k o m t n [])) :=
 .agg (.cons (.wk rfl rfl) (.cons (.wk rfl rfl) (.cons (.wk rfl rfl) (.cons (.wk rfl rfl) (.cons (.wk rfl rfl) (.cons .nil .nil))))))
theorem wkX (x : Ex) {v : AV} (h : v = .agg x.row) : Wk v (gEx x) := by
 subst h
 exact .wk (wk_flat _ (fEx x)) (fEx x)
attribute [local go_sem] gEx
set_option maxHeartbeats 4000000 in
theorem q191A (en : Int) : ∀ N n, n ≤ N → (∀ l, pUn en n l ≠ .out → FC Tryz.prog 191 [.ptr 0 0] (ps l en) (RP gEx en (pUn en n l))) ∧ (∀ k l, pEx en n k l ≠ .out → FC Tryz.prog 156 [.ptr 0 0, .int .i64 k] (ps l en) (RP gEx en (pEx en n k l)))
 | N, 0, _ => ⟨fun l h => absurd (by simp only [pUn]) h, fun k l h => absurd (by simp only [pEx]) h⟩
 | N + 1, n + 1, hN => by
  refine ⟨fun l hno => FC.rpw fEx ?_, fun k l hno => FC.rpw fEx ?_⟩
  ·obtain ⟨R, hR⟩ : ∃ R, R = pUn en (n + 1) l := ⟨_, rfl⟩
   rw [← hR] at hno ⊢
   simp only [pUn] at hR
   refine FC.intro mo Tryz.func191 c191 ?_
   unfold e191 r191
   simp(disch:=omega)only[go_sem,simprocAttr]
   refine GoG ?_
   refine D.A (q87 _ l en) (fun h => ?_) (fun h => ?_)
   ·rw [if_pos h] at hR
    refine GoG ?_
    refine D.Q fEx ((q191A en N n (by omega)).2 1 l.tail) hR hno fun x r h0 hR => ?_
    rcases x with ⟨xk, xo, xm, xt, xn, xl⟩
    refine GoG ?_
    refine D.Q fU (q85 _ r en) hR hno fun a r h0 hR => ?_
    refine GoG ?_
    first|refine D.R ?_|refine D.E ?_
    rw [hR]
    exact ⟨_, rfl, wkX _ (by simp only [Ex.row_mk]), ⟨rfl, trivial⟩, trivial⟩
   rw [if_neg (by rw [h]; decide)] at hR
   refine GoG ?_
   refine D.A (q87 _ l en) (fun h => ?_) (fun h => ?_)
   ·rw [if_pos h] at hR
    refine GoG ?_
    refine D.Q fU (q85 _ l.tail en) hR hno fun a r h0 hR => ?_
    refine GoG ?_
    refine D.Q fEx ((q191A en N n (by omega)).2 1 r) hR hno fun x r h0 hR => ?_
    rcases x with ⟨xk, xo, xm, xt, xn, xl⟩
    refine GoG ?_
    refine D.Q fU (q85 _ r en) hR hno fun a r h0 hR => ?_
    refine GoG ?_
    first|refine D.R ?_|refine D.E ?_
    rw [hR]
    exact ⟨_, rfl, wkX _ (by simp only [Ex.row_mk, List.map_cons, List.map_nil]), ⟨rfl, trivial⟩, trivial⟩
   rw [if_neg (by rw [h]; decide)] at hR
   refine GoG ?_
   refine D.A (q87 _ l en) (fun h => ?_) (fun h => ?_)
   ·rw [if_pos h] at hR
    refine GoG ?_
    refine D.Q fEx ((q191A en N n (by omega)).1 l.tail) hR hno fun x r h0 hR => ?_
    rcases x with ⟨xk, xo, xm, xt, xn, xl⟩
    refine GoG ?_
    first|refine D.R ?_|refine D.E ?_
    rw [hR]
    exact ⟨_, rfl, wkX _ (by simp only [Ex.row_mk, List.map_cons, List.map_nil]), ⟨rfl, trivial⟩, trivial⟩
   rw [if_neg (by rw [h]; decide)] at hR
   refine GoG ?_
   refine D.A (q87 _ l en) (fun h => ?_) (fun h => ?_)
   ·rw [if_pos h] at hR
    refine GoG ?_
    refine D.Q fEx ((q191A en N n (by omega)).1 l.tail) hR hno fun x r h0 hR => ?_
    rcases x with ⟨xk, xo, xm, xt, xn, xl⟩
    refine GoG ?_
    first|refine D.R ?_|refine D.E ?_
    rw [hR]
    exact ⟨_, rfl, wkX _ (by simp only [Ex.row_mk, List.map_cons, List.map_nil]), ⟨rfl, trivial⟩, trivial⟩
   rw [if_neg (by rw [h]; decide)] at hR
   refine GoG ?_
   refine D.F ⟨[0],[]⟩ (q150 l en) ?_
   cases hw : isWordT l
   rotate_left
   ·rw [if_pos hw] at hR
    refine GoG ?_
    refine D.Q fS (q86 l en) hR hno fun a r h0 hR => ?_
    refine GoG ?_
    first|refine D.R ?_|refine D.E ?_
    rw [hR]
    exact ⟨_, rfl, wkE _ _ _ _ _, ⟨rfl, trivial⟩, trivial⟩
   rw [if_neg (by rw [hw]; decide)] at hR
   cases l with
   | nil =>
    simp only [kindT, bigT, Bool.false_eq_true, if_false] at hR
    refine GoG ?_
    refine D.Q fTk (q151 2 [] en) hR hno fun a r h0 hR => ?_
    cases h0
   | cons t l =>
    simp only [kindT, bigT, decide_eq_true_eq, Bool.and_eq_true] at hR
    (repeat' first|refine D.S ?_|refine D.JJ true true ?_|refine DJ.nil ?_|refine J.reg0 ?_|refine D.W ?_|refine D.Z ?_|refine D.G ?_ ?_|refine D.X ‹_› ?_|refine D.XO ‹_› ?_|refine D.XS ‹_› ?_|intro h|refine D.C ?_ ?_)
    all_goals simp only [decide_eq_true_eq, decide_eq_false_iff_not] at *
    ·rw [if_pos h] at hR
     refine D.Q fTk (q151 3 _ en) hR hno fun a r h0 hR => ?_
     refine GoG ?_
     first|refine D.R ?_|refine D.E ?_
     rw [hR]
     exact ⟨_, rfl, wkE _ _ _ _ _, ⟨rfl, trivial⟩, trivial⟩
    ·rename_i g3 g2
     rw [if_neg g3, if_pos ⟨g2, h⟩] at hR
     exact D.FP ⟨[0], []⟩ (q91 (t :: l) en 2) fun _ => by rw [hR]; exact rfl
    ·rename_i g3 g2
     rw [if_neg g3, if_neg fun hh => h hh.2] at hR
     refine D.Q fTk (q151 2 _ en) hR hno fun a r h0 hR => ?_
     refine GoG ?_
     first|refine D.R ?_|refine D.E ?_
     rw [hR]
     exact ⟨_, rfl, wkE _ _ _ _ _, ⟨rfl, trivial⟩, trivial⟩
    ·rename_i g3
     rw [if_neg g3, if_neg fun hh => h hh.1] at hR
     refine D.Q fTk (q151 2 _ en) hR hno fun a r h0 hR => ?_
     refine GoG ?_
     first|refine D.R ?_|refine D.E ?_
     rw [hR]
     exact ⟨_, rfl, wkE _ _ _ _ _, ⟨rfl, trivial⟩, trivial⟩
  ·obtain ⟨R, hR⟩ : ∃ R, R = pEx en (n + 1) k l := ⟨_, rfl⟩
   rw [← hR] at hno ⊢
   simp only [pEx] at hR
   refine FC.intro mo Tryz.func156 c156 ?_
   unfold e156 r156
   simp(disch:=omega)only[go_sem,simprocAttr]
   refine GoG ?_
   refine D.Q fEx ((q191A en N n (by omega)).1 l) hR hno fun x r h0 hR => ?_
   rcases x with ⟨xk, xo, xm, xt, xn, xl⟩
   refine GoG ?_
   refine J.loopX (X := Ex × List Tk × Nat) (.mk xk xo xm xt xn xl, r, n) (fun x => [(0, .ptr 0 0), (1, .int .i64 k), (4, .ptr 1 0), (5, .ptr 2 0)]) (fun x => [(0, 83, psC x.2.1 en), (1, 131, [.int .i64 0, .str [], .str [], .str [], .int .i64 0, .nilS]), (2, 131, x.1.row)]) (fun _ => []) (fun x => x.2.2 ≤ n ∧ R = pLp en x.2.2 k x.1 x.2.1) (fun x => x.2.2) ⟨Nat.le_refl _, hR⟩ ⟨rfl, rfl, rfl, rfl, trivial⟩ ⟨rfl, rfl, by rw [Ex.row_mk]; rfl, trivial⟩ trivial ?_
   rintro ⟨x, l, m⟩ ⟨hm, hR⟩
   rcases x with ⟨xk, xo, xm, xt, xn, xl⟩
   simp only [Ex.row_mk] at hm hR ⊢
   match m, hm, hR with
   | 0, _, hR => exact absurd hR hno
   | m + 1, hm, hR =>
   cases l with
   | nil =>
    simp only [pLp] at hR
    refine GoG ?_
    first|refine D.R ?_|refine D.E ?_
    rw [hR]
    exact ⟨_, rfl, wkX _ (by simp only [Ex.row_mk]), ⟨rfl, trivial⟩, trivial⟩
   | cons t l =>
   simp only [pLp] at hR
   (repeat' first|refine D.S ?_|refine D.JJ true true ?_|refine DJ.nil ?_|refine J.reg0 ?_|refine D.W ?_|refine D.Z ?_|refine D.G ?_ ?_|refine D.X ‹_› ?_|refine D.XO ‹_› ?_|refine D.XS ‹_› ?_|intro h|refine D.C ?_ ?_)
   ·have h4 : t.kind = 4 := by simpa using h
    rw [if_pos h4] at hR
    refine D.P (q175 t.text) ?_
    (repeat' first|refine D.S ?_|refine D.JJ true true ?_|refine DJ.nil ?_|refine J.reg0 ?_|refine D.W ?_|refine D.Z ?_|refine D.G ?_ ?_|refine D.X ‹_› ?_|refine D.XO ‹_› ?_|refine D.XS ‹_› ?_|intro h|refine D.C ?_ ?_)
    ·rw [if_pos (by simpa using h)] at hR
     first|refine D.R ?_|refine D.E ?_
     rw [hR]
     exact ⟨_, rfl, wkX _ (by simp only [Ex.row_mk]), ⟨rfl, trivial⟩, trivial⟩
    ·rw [if_neg (by simpa using h)] at hR
     have e85 := q85 t.text (t :: l) en
     rw [show pExp en t.text (t :: l) = .ok () l by simp [pExp, isT, h4]] at e85
     have e85' : FC Tryz.prog 85 [.ptr 0 0, .str t.text] (ps (t :: l) en) (Ro (.tup []) [(0, 83, psC l en)] []) := e85 (by nofun)
     clear e85
     refine D.F ⟨[0],[]⟩ (e85') ?_
     have hp := precP_le t.text
     refine GoG ?_
     refine D.QD (.mk 0 [] [] [] 0 []) fEx ((q191A en N m (by omega)).2 (precP t.text + 1) l) hR hno (fun y r h1 hR => ?_) ?_ ?_
     ·rcases y with ⟨yk, yo, ym, yt, yn, yl⟩
      refine GoG ?_
      refine J.roundX (.mk 6 t.text [] [] 0 [.mk xk xo xm xt xn xl, .mk yk yo ym yt yn yl], r, m) ⟨by simp only; omega, hR⟩ ⟨rfl, rfl, rfl, rfl, trivial⟩ ⟨rfl, rfl, by simp only [Ex.row_mk, List.map_cons, List.map_nil]; rfl, trivial⟩ trivial rfl rfl (by show m < m + 1; omega)
     ·refine GoG ?_
      exact J.dead 0 0 rfl
     ·intro s hs
      simp only [List.mem_singleton] at hs
      subst hs
      exact ⟨1, _, _, rfl, rfl, by simp only [tfL, AV.tf, tk_flat, Ex.rowsF, Bool.and_self]⟩
   ·have h4 : ¬ t.kind = 4 := by simpa using h
    rw [if_neg h4] at hR
    first|refine D.R ?_|refine D.E ?_
    rw [hR]
    exact ⟨_, rfl, wkX _ (by simp only [Ex.row_mk]), ⟨rfl, trivial⟩, trivial⟩
end
section
attribute [local go_sem] psC Tk.row List.tail_cons List.tail_nil nzP gzP nzQ gzQ tk_flat gU gS gI gTk Ex.row_mk Ex.rowsF Ex.row_flat gEx Sm.row_mk Sm.rowsF Sm.row_flat
def gSm : Sm → AV := fun x => .agg x.row
def gSs : List Sm → AV := fun l => .vs 11 (l.map Sm.row)
theorem fSm : FlatF gSm := fun x => by simp only [gSm, AV.flat, Sm.row_flat]
theorem fSs : FlatF gSs := fun l => by simp only [gSs, AV.flat, Sm.rowsF]
attribute [local go_sem] gSm gSs
theorem bindR {α : Type} {R R1 : PRes α} (h : R = R1) : R = R1.bind PRes.ok := by
 subst h
 cases R <;> rfl
theorem wkV {l : List Sm} : Wk (.vs 11 (l.map Sm.row)) (.vs 11 (l.map Sm.row)) := .wk rfl (by simp only [AV.flat, Sm.rowsF])
theorem wkN : Wk .nilS (.vs 11 (([] : List Sm).map Sm.row)) := .nil
theorem wkS {k xk xn t : Int} {m xo xm xt : List UInt8} {xl : List Ex} {A B : AV} {a b : List Sm} (hA : Wk A (.vs 11 (a.map Sm.row))) (hB : Wk B (.vs 11 (b.map Sm.row))) : Wk (.agg [.int .i64 k, .str m, .int .i64 xk, .str xo, .str xm, .str xt, .int .i64 xn, .vs 6 (xl.map Ex.row), .int .i64 t, A, B]) (gSm (.mk k m (.mk xk xo xm xt xn xl) t a b)) := by
 unfold gSm
 rw [Sm.row_mk, Ex.row_mk]
 exact .agg (.cons (.wk rfl rfl) (.cons (.wk rfl rfl) (.cons (.wk rfl rfl) (.cons (.wk rfl rfl) (.cons (.wk rfl rfl) (.cons (.wk rfl rfl) (.cons (.wk rfl rfl) (.cons (.wk rfl (by simp only [AV.flat, Ex.rowsF])) (.cons (.wk rfl rfl) (.cons hA (.cons hB .nil)))))))))))
set_option maxHeartbeats 4000000 in
theorem q155A (en : Int) : ∀ N n, n ≤ N → (∀ l, l.length ≤ 1000000 → pBk en n l ≠ .out → FC Tryz.prog 155 [.ptr 0 0] (ps l en) (RP gSs en (pBk en n l))) ∧ (∀ l, l.length ≤ 1000000 → pSt en n l ≠ .out → FC Tryz.prog 190 [.ptr 0 0] (ps l en) (RP gSm en (pSt en n l))) ∧ (∀ l, l.length ≤ 1000000 → pCh en n l ≠ .out → FC Tryz.prog 209 [.ptr 0 0] (ps l en) (RP gSm en (pCh en n l)))
 | N, 0, _ => ⟨fun l _ h => absurd (by simp only [pBk]) h, fun l _ h => absurd (by simp only [pSt]) h, fun l _ h => absurd (by simp only [pCh]) h⟩
 | N + 1, n + 1, hN => by
  refine ⟨fun l hl hno => FC.rpw fSs ?_, fun l hl hno => FC.rpw fSm ?_, fun l hl hno => FC.rpw fSm ?_⟩
  ·obtain ⟨R, hR⟩ : ∃ R, R = pBk en (n + 1) l := ⟨_, rfl⟩
   rw [← hR] at hno ⊢
   simp only [pBk] at hR
   refine FC.intro mo Tryz.func155 c155 ?_
   unfold e155 r155
   simp(disch:=omega)only[go_sem,simprocAttr]
   refine GoG ?_
   refine D.Q fU (q85 _ l en) hR hno fun a r h0 hR => ?_
   have b0 := pExp_len h0
   refine GoB ?_
   refine J.ghE 3 11 133 rfl (by decide) ?_
   simp(disch:=omega)only[go_sem,simprocAttr]
   refine GoG ?_
   refine J.loopX (X := List Sm × List Tk × Nat) ([], r, n) (fun x => [(0, .ptr 0 0), (3, .own 0 11 (x.1.map Sm.row))]) (fun x => [(0, 83, psC x.2.1 en)]) (fun x => [(0, .frz 133 11 (x.1.map Sm.row).length)]) (fun x => x.2.2 ≤ n ∧ x.1.length + x.2.1.length ≤ 1000000 ∧ R = pBl en x.2.2 x.1 x.2.1) (fun x => x.2.2) ⟨Nat.le_refl _, by simp only [List.length_nil]; omega, hR⟩ ⟨rfl, rfl, trivial⟩ ⟨rfl, trivial⟩ ⟨rfl, trivial⟩ ?_
   rintro ⟨acc, l, m⟩ ⟨hm, hb, hR⟩
   simp only at hm hb hR ⊢
   match m, hm, hR with
   | 0, _, hR => exact absurd hR hno
   | m + 1, hm, hR =>
   simp only [pBl] at hR
   refine GoG ?_
   refine D.A (q87 _ l en) (fun h => ?_) (fun h => ?_)
   ·rw [if_pos h] at hR
    refine GoG ?_
    first|refine D.R ?_|refine D.E ?_
    rw [hR]
    exact ⟨_, rfl, .wk rfl (fSs _), ⟨rfl, trivial⟩, trivial⟩
   ·rw [if_neg (by rw [h]; decide)] at hR
    refine GoG ?_
    refine D.Q fSm ((q155A en N m (by omega)).2.1 l (by omega)) hR hno fun x r h1 hR => ?_
    have b1 := (pS_len m).2.2.1 _ _ _ h1
    rcases x with ⟨k, nm, ⟨xk, xo, xm, xt, xn, xl⟩, t, a, b⟩
    refine GoG ?_
    refine D.ap ?_
    refine GoG ?_
    refine J.roundX (acc ++ [.mk k nm (.mk xk xo xm xt xn xl) t a b], r, m) ⟨by simp only; omega, by simp only [List.length_append, List.length_cons, List.length_nil]; omega, hR⟩ ⟨rfl, by simp only [List.map_append, List.map_cons, List.map_nil, Sm.row_mk, Ex.row_mk]; rfl, trivial⟩ ⟨rfl, trivial⟩ ⟨by simp only [List.map_append, List.map_cons, List.map_nil, List.length_append]; rfl, trivial⟩ rfl rfl (by show m < m + 1; omega)
  ·obtain ⟨R, hR⟩ : ∃ R, R = pSt en (n + 1) l := ⟨_, rfl⟩
   rw [← hR] at hno ⊢
   simp only [pSt] at hR
   refine FC.intro mo Tryz.func190 c190 ?_
   unfold e190 r190
   simp(disch:=omega)only[go_sem,simprocAttr]
   refine GoG ?_
   refine D.A (q87 _ l en) (fun h => ?_) (fun h => ?_)
   ·rw [if_pos h] at hR
    have b0 := isT_len h
    refine GoG ?_
    refine D.Q fSm ((q155A en N n (by omega)).2.2 l.tail (by omega)) (bindR hR) hno fun x r h0 hR => ?_
    rcases x with ⟨k, nm, ⟨xk, xo, xm, xt, xn, xl⟩, t, a, b⟩
    refine GoG ?_
    first|refine D.R ?_|refine D.E ?_
    rw [hR]
    exact ⟨_, rfl, wkS wkV wkV, ⟨rfl, trivial⟩, trivial⟩
   rw [if_neg (by rw [h]; decide)] at hR
   refine GoG ?_
   refine D.A (q87 _ l en) (fun h => ?_) (fun h => ?_)
   ·rw [if_pos h] at hR
    have b0 := isT_len h
    refine GoG ?_
    refine D.Q fEx ((q191A en n n (Nat.le_refl _)).2 1 l.tail) hR hno fun x r h0 hR => ?_
    have b1 := (pE_len n).2.1 _ _ _ _ h0
    rcases x with ⟨xk, xo, xm, xt, xn, xl⟩
    refine GoG ?_
    refine D.Q fU (q85 _ r en) hR hno fun a r2 h0 hR => ?_
    have b2 := pExp_len h0
    clear h0
    cases r2 with
    | nil =>
     simp only [badTimes, Bool.false_eq_true, if_false] at hR
     refine GoG ?_
     refine D.Q fTk (q151 2 [] en) hR hno fun a r h0 hR => ?_
     cases h0
    | cons t r3 =>
    simp only [badTimes, decide_eq_true_eq, Bool.and_eq_true, Bool.or_eq_true] at hR
    simp only [List.length_cons] at b2
    (repeat' first|refine D.S ?_|refine D.JJ true true ?_|refine DJ.nil ?_|refine J.reg0 ?_|refine D.W ?_|refine D.Z ?_|refine D.G ?_ ?_|refine D.X ‹_› ?_|refine D.XO ‹_› ?_|refine D.XS ‹_› ?_|intro h|refine D.C ?_ ?_)
    all_goals simp only [decide_eq_true_eq, decide_eq_false_iff_not] at *
    ·rename_i g2
     rw [if_pos ⟨g2, .inl h⟩] at hR
     exact D.FP ⟨[0], []⟩ (q91 (t :: r3) en 2) fun _ => by rw [hR]; exact rfl
    ·rename_i g2 g1
     rw [if_pos ⟨g2, .inr h⟩] at hR
     exact D.FP ⟨[0], []⟩ (q91 (t :: r3) en 2) fun _ => by rw [hR]; exact rfl
    all_goals
     rw [if_neg (by omega)] at hR
     refine D.Q fTk (q151 2 _ en) hR hno fun a r h0 hR => ?_
     have b3 := pNext_len h0
     simp only [List.length_cons] at b3
    ·refine GoG ?_
     refine D.Q fSs ((q155A en N n (by omega)).1 r (by omega)) hR hno fun b r h0 hR => ?_
     refine GoG ?_
     first|refine D.R ?_|refine D.E ?_
     rw [hR]
     exact ⟨_, rfl, wkS wkV wkN, ⟨rfl, trivial⟩, trivial⟩
    ·refine GoG ?_
     refine D.Q fSs ((q155A en N n (by omega)).1 r (by omega)) hR hno fun b r h0 hR => ?_
     refine GoG ?_
     first|refine D.R ?_|refine D.E ?_
     rw [hR]
     exact ⟨_, rfl, wkS wkV wkN, ⟨rfl, trivial⟩, trivial⟩
   rw [if_neg (by rw [h]; decide)] at hR
   refine GoG ?_
   refine D.Q fS (q86 l en) hR hno fun w r h0 hR => ?_
   refine GoG ?_
   refine D.Q fU (q85 _ r en) hR hno fun a r h0 hR => ?_
   refine GoG ?_
   refine D.Q fEx ((q191A en n n (Nat.le_refl _)).2 1 r) hR hno fun x r h0 hR => ?_
   rcases x with ⟨xk, xo, xm, xt, xn, xl⟩
   refine GoG ?_
   refine D.Q fU (q85 _ r en) hR hno fun a r h0 hR => ?_
   refine GoG ?_
   first|refine D.R ?_|refine D.E ?_
   rw [hR]
   exact ⟨_, rfl, wkS wkN wkN, ⟨rfl, trivial⟩, trivial⟩
  ·obtain ⟨R, hR⟩ : ∃ R, R = pCh en (n + 1) l := ⟨_, rfl⟩
   rw [← hR] at hno ⊢
   simp only [pCh] at hR
   refine FC.intro mo Tryz.func209 c209 ?_
   unfold e209 r209
   simp(disch:=omega)only[go_sem,simprocAttr]
   refine GoG ?_
   refine D.Q fEx ((q191A en n n (Nat.le_refl _)).2 1 l) hR hno fun x r h0 hR => ?_
   have b1 := (pE_len n).2.1 _ _ _ _ h0
   rcases x with ⟨xk, xo, xm, xt, xn, xl⟩
   clear h0
   refine GoG ?_
   refine D.Q fSs ((q155A en N n (by omega)).1 r (by omega)) hR hno fun b r h0 hR => ?_
   have b2 := (pS_len n).1 _ _ _ h0
   clear h0
   refine GoG ?_
   refine D.A (q87 _ r en) (fun h => ?_) (fun h => ?_)
   ·rw [if_pos h] at hR
    have b3 := isT_len h
    refine GoG ?_
    refine D.A (q87 _ r.tail en) (fun h => ?_) (fun h => ?_)
    ·rw [if_pos h] at hR
     have b4 := isT_len h
     refine GoG ?_
     refine D.Q fSm ((q155A en N n (by omega)).2.2 r.tail.tail (by omega)) hR hno fun y r h0 hR => ?_
     rcases y with ⟨k, nm, ⟨yk, yo, ym, yt, yn, yl⟩, t, a, c⟩
     refine GoG ?_
     first|refine D.R ?_|refine D.E ?_
     rw [hR]
     exact ⟨_, rfl, wkS wkV (.wk (by simp only [List.map_cons, List.map_nil, Sm.row_mk, Ex.row_mk]; rfl) (by simp only [AV.flat, Sm.rowsF])), ⟨rfl, trivial⟩, trivial⟩
    ·rw [if_neg (by rw [h]; decide)] at hR
     refine GoG ?_
     refine D.Q fSs ((q155A en N n (by omega)).1 r.tail (by omega)) hR hno fun c r h0 hR => ?_
     refine GoG ?_
     first|refine D.R ?_|refine D.E ?_
     rw [hR]
     exact ⟨_, rfl, wkS wkV wkV, ⟨rfl, trivial⟩, trivial⟩
   ·rw [if_neg (by rw [h]; decide)] at hR
    refine GoG ?_
    first|refine D.R ?_|refine D.E ?_
    rw [hR]
    exact ⟨_, rfl, wkS wkV wkN, ⟨rfl, trivial⟩, trivial⟩
end
section
attribute [local go_sem] psC Tk.row List.tail_cons List.tail_nil nzP gzP nzQ gzQ tk_flat gU gS gI gTk Ex.row_mk Ex.rowsF Ex.row_flat gEx Vr.row
def gVr : Vr → AV := fun v => .agg v.row
theorem fVr : FlatF gVr := fun _ => rfl
set_option maxHeartbeats 4000000 in
theorem q88 (l : List Tk) (en : Int) : pVar en l ≠ .out → FC Tryz.prog 88 [.ptr 0 0] (ps l en) (RP gVr en (pVar en l)) := by
 intro hno
 refine FC.rpw fVr ?_
 obtain ⟨R, hR⟩ : ∃ R, R = pVar en l := ⟨_, rfl⟩
 rw [← hR] at hno ⊢
 simp only [pVar, pSort] at hR
 refine FC.intro mo Tryz.func88 c88 ?_
 unfold e88 r88
 simp(disch:=omega)only[go_sem,simprocAttr]
 refine GoG ?_
 refine D.Q fS (q86 l en) hR hno fun w r h0 hR => ?_
 refine GoG ?_
 refine D.Q fU (q85 _ r en) hR hno fun a r h0 hR => ?_
 clear h0
 refine GoG ?_
 refine D.A (q87 _ r en) (fun h => ?_) (fun h => ?_)
 rw [if_pos h] at hR
 simp only [bind_assoc] at hR
 clear h
 refine GoG ?_
 refine D.Q fTk (q151 2 _ en) hR hno fun a r h0 hR => ?_
 clear h0
 refine GoG ?_
 refine D.Q fU (q85 _ r en) hR hno fun _ r h0 hR => ?_
 clear h0
 refine GoG ?_
 refine D.Q fTk (q151 2 _ en) hR hno fun b r h0 hR => ?_
 clear h0
 simp only [okB] at hR
 (repeat' first|refine D.S ?_|refine D.JJ true true ?_|refine DJ.nil ?_|refine J.reg0 ?_|refine D.W ?_|refine D.Z ?_|refine D.G ?_ ?_|refine D.X ‹_› ?_|refine D.XO ‹_› ?_|refine D.XS ‹_› ?_|intro h)
 rotate_left
 rw [if_neg (by rw [h]; decide)] at hR
 simp only [bind_assoc] at hR
 clear h
 refine GoG ?_
 refine D.Q fU (q85 _ r en) hR hno fun _ r h0 hR => ?_
 clear h0
 refine GoG ?_
 refine D.Q fI (q153 r en) hR hno fun a r h0 hR => ?_
 clear h0
 refine GoG ?_
 refine D.Q fU (q85 _ r en) hR hno fun _ r h0 hR => ?_
 clear h0
 refine GoG ?_
 refine D.Q fI (q153 r en) hR hno fun b r h0 hR => ?_
 clear h0
 simp only [okB] at hR
 (repeat' first|refine D.S ?_|refine D.JJ true true ?_|refine DJ.nil ?_|refine J.reg0 ?_|refine D.W ?_|refine D.Z ?_|refine D.G ?_ ?_|refine D.X ‹_› ?_|refine D.XO ‹_› ?_|refine D.XS ‹_› ?_|intro h)
 all_goals
  refine D.Q fU (q85 _ r en) hR hno fun _ r h0 hR => ?_
  clear h0
  simp only [pInit] at hR
  cases r with
  | nil =>
   simp only [kindT, Bool.false_eq_true, if_false, bind_assoc] at hR
   refine GoG ?_
   refine D.Q fI (q153 [] en) hR hno fun v r h0 hR => ?_
   simp [pSigned, isT, pNext, PRes.bind] at h0
  | cons t r =>
  simp only [kindT, decide_eq_true_eq] at hR
  (repeat' first|refine D.S ?_|refine D.JJ true true ?_|refine DJ.nil ?_|refine J.reg0 ?_|refine D.W ?_|refine D.Z ?_|refine D.G ?_ ?_|refine D.X ‹_› ?_|refine D.XO ‹_› ?_|refine D.XS ‹_› ?_|intro h|refine D.C ?_ ?_)
  ·rw [if_pos (by simpa using h)] at hR
   simp only [bind_assoc] at hR
   refine D.Q fTk (q151 3 _ en) hR hno fun t r h0 hR => ?_
   clear h0
   simp only [okB] at hR
   refine GoG ?_
   refine D.Q fU (q85 _ r en) hR hno fun _ r h0 hR => ?_
   refine GoG ?_
   first|refine D.R ?_|refine D.E ?_
   rw [hR]
   exact ⟨_, rfl, .wk rfl rfl, ⟨rfl, trivial⟩, trivial⟩
  ·rw [if_neg (by simpa using h)] at hR
   simp only [bind_assoc] at hR
   refine D.Q fI (q153 _ en) hR hno fun v r h0 hR => ?_
   clear h0
   simp only [okB] at hR
   refine GoG ?_
   refine D.Q fU (q85 _ r en) hR hno fun _ r h0 hR => ?_
   refine GoG ?_
   first|refine D.R ?_|refine D.E ?_
   rw [hR]
   exact ⟨_, rfl, .wk rfl rfl, ⟨rfl, trivial⟩, trivial⟩
end
section
attribute [local go_sem] psC Tk.row List.tail_cons List.tail_nil nzP gzP nzQ gzQ tk_flat gU gS gI gTk Ex.row_mk Ex.rowsF Ex.row_flat gEx Sm.row_mk Sm.rowsF Sm.row_flat gSm gSs srow srow_flat
def gHa : Ha → AV := fun h => .agg [.str h.msg, .str h.peer, .vs 1 (h.ps.map srow), .vs 11 (h.body.map Sm.row)]
theorem fHa : FlatF gHa := fun h => by simp only [gHa, AV.flat, flatL, srow_flat, Sm.rowsF, Bool.and_self]
theorem wkP {l : List (List UInt8)} {t : Nat} : Wk (.own t 1 (l.map srow)) (.vs 1 (l.map srow)) := .wk rfl (by simp only [AV.flat, srow_flat])
set_option maxHeartbeats 8000000 in
theorem q89 (n : Nat) (l : List Tk) (en : Int) (hl : l.length ≤ 1000000) : pHan en n l ≠ .out → FC Tryz.prog 89 [.ptr 0 0] (ps l en) (RP gHa en (pHan en n l)) := by
 intro hno
 refine FC.rpw fHa ?_
 obtain ⟨R, hR⟩ : ∃ R, R = pHan en n l := ⟨_, rfl⟩
 rw [← hR] at hno ⊢
 simp only [pHan, pParL] at hR
 refine FC.intro mo Tryz.func89 c89 ?_
 unfold e89 r89
 simp(disch:=omega)only[go_sem,simprocAttr]
 refine GoG ?_
 refine D.Q fS (q154 n l en hl) hR hno fun m r h0 hR => ?_
 have b1 := pPath_len h0
 clear h0
 refine GoG ?_
 refine D.Q fU (q85 _ r en) hR hno fun _ r h0 hR => ?_
 have b2 := pExp_len h0
 clear h0
 refine GoG ?_
 refine D.A (q87 _ r en) (fun h => ?_) (fun h => ?_)
 ·rw [if_pos h] at hR
  simp only [okB] at hR
  have b3 := isT_len h
  clear h
  refine GoG ?_
  refine D.Q fU (q85 _ _ en) hR hno fun _ r h0 hR => ?_
  have b4 := pExp_len h0
  clear h0
  refine GoG ?_
  refine D.Q fS (q86 r en) hR hno fun p r h0 hR => ?_
  have b5 := pWord_len h0
  clear h0
  refine GoG ?_
  refine D.Q fSs ((q155A en n n (Nat.le_refl _)).1 r (by omega)) hR hno fun b r h0 hR => ?_
  refine GoG ?_
  first|refine D.R ?_|refine D.E ?_
  rw [hR]
  exact ⟨_, rfl, .agg (.cons (.wk rfl rfl) (.cons (.wk rfl rfl) (.cons .nil (.cons wkV .nil)))), ⟨rfl, trivial⟩, trivial⟩
 ·rw [if_neg (by rw [h]; decide)] at hR
  simp only [bind_assoc] at hR
  clear h
  refine GoD ?_
  refine J.ghB 2 2 1 9 rfl rfl (by decide) ?_
  simp(disch:=omega)only[go_sem,simprocAttr]
  refine GoG ?_
  refine D.QD [] fS (q86 r en) hR hno (fun w r h0 hR => ?_) ?_ ?_
  rotate_left
  ·refine GoG ?_
   refine D.ap ?_
   refine GoG ?_
   exact J.dead 1 0 rfl
  ·intro s hs
   simp only [List.mem_singleton] at hs
   subst hs
   exact ⟨1, _, _, rfl, rfl, by simp only [tfL, AV.tf, flatR, Bool.and_self]⟩
  have b3 := pWord_len h0
  clear h0
  refine GoG ?_
  refine D.ap ?_
  refine GoG ?_
  obtain ⟨G, hG, hR⟩ := bind_abs hR
  refine J.loopX (X := List (List UInt8) × List Tk × Nat) ([w], r, n) (fun x => [(0, .ptr 0 0), (2, .ptr 1 0), (3, .ptr 2 0)]) (fun x => [(0, 83, psC x.2.1 en), (1, 109, [.str [], .str [], .nilS, .nilS]), (2, 109, [.str m, .str [], .own 0 1 (x.1.map srow), .nilS])]) (fun x => [(0, .frz 9 1 (x.1.map srow).length)]) (fun x => x.1.length + x.2.1.length ≤ 1000000 ∧ R = (pPars en x.2.2 x.1 x.2.1).bind G) (fun x => x.2.2) ⟨by simp only [List.length_cons, List.length_nil]; omega, hR⟩ ⟨rfl, rfl, rfl, trivial⟩ ⟨rfl, rfl, rfl, trivial⟩ ⟨rfl, trivial⟩ ?_
  rintro ⟨acc, l, k⟩ ⟨hb, hR⟩
  simp only at hb hR ⊢
  match k, hR with
  | 0, hR => exact absurd hR hno
  | k + 1, hR =>
  simp only [pPars] at hR
  refine GoG ?_
  refine D.A (q87 _ l en) (fun h => ?_) (fun h => ?_)
  ·rw [if_pos h] at hR
   simp only [bind_assoc] at hR
   have b4 := isT_len h
   refine GoG ?_
   refine D.QD [] fS (q86 l.tail en) hR hno (fun w r h0 hR => ?_) ?_ ?_
   rotate_left
   ·refine GoG ?_
    refine D.ap ?_
    refine GoG ?_
    exact J.dead 1 0 rfl
   ·intro s hs
    simp only [List.mem_singleton] at hs
    subst hs
    exact ⟨1, _, _, rfl, rfl, by simp only [tfL, AV.tf, srow_flat, flatR, Bool.and_self]⟩
   have b5 := pWord_len h0
   clear h0
   refine GoG ?_
   refine D.ap ?_
   refine GoG ?_
   refine J.roundX (acc ++ [w], r, k) ⟨by simp only [List.length_append, List.length_cons, List.length_nil]; omega, hR⟩ ⟨rfl, rfl, rfl, trivial⟩ ⟨rfl, rfl, by simp only [List.map_append, List.map_cons, List.map_nil, srow]; rfl, trivial⟩ ⟨by simp only [List.map_append, List.map_cons, List.map_nil, List.length_append]; rfl, trivial⟩ rfl rfl (by show k < k + 1; omega)
  ·rw [if_neg (by rw [h]; decide)] at hR
   simp only [okB] at hR
   rw [hG] at hR
   clear h
   refine GoG ?_
   refine D.Q fU (q85 _ l en) hR hno fun _ r h0 hR => ?_
   have b3 := pExp_len h0
   clear h0
   simp only [okB] at hR
   refine GoG ?_
   refine D.Q fU (q85 _ r en) hR hno fun _ r h0 hR => ?_
   have b4 := pExp_len h0
   clear h0
   refine GoG ?_
   refine D.Q fS (q86 r en) hR hno fun p r h0 hR => ?_
   have b5 := pWord_len h0
   clear h0
   refine GoG ?_
   refine D.Q fSs ((q155A en n n (Nat.le_refl _)).1 r (by omega)) hR hno fun b r h0 hR => ?_
   refine GoG ?_
   first|refine D.R ?_|refine D.E ?_
   rw [hR]
   exact ⟨_, rfl, .agg (.cons (.wk rfl rfl) (.cons (.wk rfl rfl) (.cons wkP (.cons wkV .nil)))), ⟨rfl, trivial⟩, trivial⟩
end
section
attribute [local go_sem] psC Tk.row List.tail_cons List.tail_nil nzP gzP nzQ gzQ tk_flat gU gS gI gTk Ex.row_mk Ex.rowsF Ex.row_flat gEx Sm.row_mk Sm.rowsF Sm.row_flat gSm gSs
def gOf : Off → AV := fun o => .agg [.str o.msg, .str o.peer, .vs 6 (o.args.map Ex.row), .vs 6 (o.whn.map Ex.row)]
theorem fOf : FlatF gOf := fun h => by simp only [gOf, AV.flat, flatL, Ex.rowsF, Bool.and_self]
theorem wkO {l : List Ex} {t : Nat} : Wk (.own t 6 (l.map Ex.row)) (.vs 6 (l.map Ex.row)) := .wk rfl (by simp only [AV.flat, Ex.rowsF])
theorem wkO1 {l : List Ex} {rows : List (List AV)} (h : rows = l.map Ex.row) : Wk (.vs 6 rows) (.vs 6 (l.map Ex.row)) := by subst h; exact .wk rfl (by simp only [AV.flat, Ex.rowsF])
set_option maxHeartbeats 8000000 in
theorem q90 (n : Nat) (l : List Tk) (en : Int) (hl : l.length ≤ 1000000) : pOff en n l ≠ .out → FC Tryz.prog 90 [.ptr 0 0] (ps l en) (RP gOf en (pOff en n l)) := by
 intro hno
 refine FC.rpw fOf ?_
 obtain ⟨R, hR⟩ : ∃ R, R = pOff en n l := ⟨_, rfl⟩
 rw [← hR] at hno ⊢
 simp only [pOff, pArgL, pWhen] at hR
 refine FC.intro mo Tryz.func90 c90 ?_
 unfold e90 r90
 simp(disch:=omega)only[go_sem,simprocAttr]
 refine GoG ?_
 refine D.Q fS (q154 n l en hl) hR hno fun m r h0 hR => ?_
 have b1 := pPath_len h0
 clear h0
 refine GoG ?_
 refine D.Q fU (q85 _ r en) hR hno fun _ r h0 hR => ?_
 have b2 := pExp_len h0
 clear h0
 refine GoG ?_
 refine D.A (q87 _ r en) (fun h => ?_) (fun h => ?_)
 focus
  rw [if_pos h] at hR
  simp only [okB] at hR
  clear h
  (repeat' first|refine D.S ?_|refine D.JJ true true ?_|refine DJ.nil ?_|refine J.reg0 ?_|refine D.W ?_|refine D.Z ?_|refine D.G ?_ ?_|refine D.X ‹_› ?_|refine D.XO ‹_› ?_|refine D.XS ‹_› ?_|intro h)
 rotate_left
 focus
  rw [if_neg (by rw [h]; decide)] at hR
  simp only [bind_assoc] at hR
  clear h
  refine GoD ?_
  refine J.ghB 2 2 6 131 rfl rfl (by decide) ?_
  simp(disch:=omega)only[go_sem,simprocAttr]
  refine GoG ?_
  refine D.QD (.mk 0 [] [] [] 0 []) fEx ((q191A en n n (Nat.le_refl _)).2 1 r) hR hno (fun x r h0 hR => ?_) ?_ ?_
  rotate_left
  ·refine GoG ?_
   refine D.ap ?_
   refine GoG ?_
   exact J.dead 1 0 rfl
  ·intro s hs
   simp only [List.mem_singleton] at hs
   subst hs
   exact ⟨1, _, _, rfl, rfl, by simp only [tfL, AV.tf, flatR, Bool.and_self]⟩
  have b3 := (pE_len n).2.1 _ _ _ _ h0
  clear h0
  rcases x with ⟨xk, xo, xm, xt, xn, xl⟩
  refine GoG ?_
  refine D.ap ?_
  refine GoG ?_
  obtain ⟨G, hG, hR⟩ := bind_abs hR
  refine J.loopX (X := List Ex × List Tk × Nat) ([.mk xk xo xm xt xn xl], r, n) (fun x => [(0, .ptr 0 0), (2, .ptr 1 0), (3, .ptr 2 0)]) (fun x => [(0, 83, psC x.2.1 en), (1, 74, [.str [], .str [], .nilS, .nilS]), (2, 74, [.str m, .str [], .own 0 6 (x.1.map Ex.row), .nilS])]) (fun x => [(0, .frz 131 6 (x.1.map Ex.row).length)]) (fun x => x.2.2 ≤ n ∧ x.1.length + x.2.1.length ≤ 1000000 ∧ R = (pArgs en x.2.2 x.1 x.2.1).bind G) (fun x => x.2.2) ⟨Nat.le_refl _, by simp only [List.length_cons, List.length_nil]; omega, hR⟩ ⟨rfl, rfl, rfl, trivial⟩ ⟨rfl, rfl, by simp only [List.map_cons, List.map_nil, Ex.row_mk]; rfl, trivial⟩ ⟨rfl, trivial⟩ ?_
  rintro ⟨acc, l, k⟩ ⟨hk, hb, hR⟩
  simp only at hk hb hR ⊢
  rcases k with _ | k
  ·exact absurd hR hno
  simp only [pArgs] at hR
  refine GoG ?_
  refine D.A (q87 _ l en) (fun h => ?_) (fun h => ?_)
  ·rw [if_pos h] at hR
   simp only [bind_assoc] at hR
   have b4 := isT_len h
   refine GoG ?_
   refine D.QD (.mk 0 [] [] [] 0 []) fEx ((q191A en n k (by omega)).2 1 l.tail) hR hno (fun x r h0 hR => ?_) ?_ ?_
   rotate_left
   ·refine GoG ?_
    refine D.ap ?_
    refine GoG ?_
    exact J.dead 1 0 rfl
   ·intro s hs
    simp only [List.mem_singleton] at hs
    subst hs
    exact ⟨1, _, _, rfl, rfl, by simp only [tfL, AV.tf, Ex.rowsF, flatR, Bool.and_self]⟩
   have b5 := (pE_len k).2.1 _ _ _ _ h0
   clear h0
   rcases x with ⟨xk, xo, xm, xt, xn, xl⟩
   refine GoG ?_
   refine D.ap ?_
   refine GoG ?_
   refine J.roundX (acc ++ [.mk xk xo xm xt xn xl], r, k) ⟨by simp only; omega, by simp only [List.length_append, List.length_cons, List.length_nil]; omega, hR⟩ ⟨rfl, rfl, rfl, trivial⟩ ⟨rfl, rfl, by simp only [List.map_append, List.map_cons, List.map_nil, Ex.row_mk]; rfl, trivial⟩ ⟨by simp only [List.map_append, List.map_cons, List.map_nil, List.length_append]; rfl, trivial⟩ rfl rfl (by show k < k + 1; omega)
  rw [if_neg (by rw [h]; decide)] at hR
  simp only [okB] at hR
  rw [hG] at hR
  clear h
  refine GoG ?_
  refine D.Q fU (q85 _ l en) hR hno fun _ r h0 hR => ?_
  clear h0
  simp only [okB] at hR
  (repeat' first|refine D.S ?_|refine D.JJ true true ?_|refine DJ.nil ?_|refine J.reg0 ?_|refine D.W ?_|refine D.Z ?_|refine D.G ?_ ?_|refine D.X ‹_› ?_|refine D.XO ‹_› ?_|refine D.XS ‹_› ?_|intro h)
 all_goals
  refine D.Q fU (q85 _ _ en) hR hno fun _ r h0 hR => ?_
  clear h0
  refine GoG ?_
  refine D.Q fS (q86 r en) hR hno fun p r h0 hR => ?_
  clear h0
  refine GoG ?_
  refine D.A (q87 _ r en) (fun h => ?_) (fun h => ?_)
  ·rw [if_pos h] at hR
   simp only [bind_assoc, okB] at hR
   clear h
   refine GoG ?_
   refine D.Q fEx ((q191A en n n (Nat.le_refl _)).2 1 r.tail) hR hno fun x r h0 hR => ?_
   clear h0
   rcases x with ⟨xk, xo, xm, xt, xn, xl⟩
   refine GoG ?_
   refine D.Q fU (q85 _ r en) hR hno fun _ r h0 hR => ?_
   refine GoG ?_
   first|refine D.R ?_|refine D.E ?_
   rw [hR]
   exact ⟨_, rfl, .agg (.cons (.wk rfl rfl) (.cons (.wk rfl rfl) (.cons (by first | exact .nil | exact wkO) (.cons (wkO1 (by simp only [List.map_cons, List.map_nil, Ex.row_mk])) .nil)))), ⟨rfl, trivial⟩, trivial⟩
  ·rw [if_neg (by rw [h]; decide)] at hR
   simp only [okB] at hR
   clear h
   refine GoG ?_
   refine D.Q fU (q85 _ r en) hR hno fun _ r h0 hR => ?_
   refine GoG ?_
   first|refine D.R ?_|refine D.E ?_
   rw [hR]
   exact ⟨_, rfl, .agg (.cons (.wk rfl rfl) (.cons (.wk rfl rfl) (.cons (by first | exact .nil | exact wkO) (.cons .nil .nil)))), ⟨rfl, trivial⟩, trivial⟩
end
end Go.Aw.T.N
