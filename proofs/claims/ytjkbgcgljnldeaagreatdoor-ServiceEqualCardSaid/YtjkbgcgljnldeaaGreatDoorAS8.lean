/- Part of a proof; own work. -/
import Derived.Test.YtjkbgcgljnldeaaGreatDoorA0
import Derived.Test.YtjkbgcgljnldeaaGreatDoorAS7
namespace Go.Aw.T.N
open Go Go.Aw Go.Proofs Go.RowKit
set_option maxRecDepth 100000
attribute [local irreducible] Go.Aw.DM Go.Aw.AHeap.setB Go.Aw.AHeap.setT
attribute [local go_sem] peval EOpd.ev Env.get binInt binStr binBool buildParts AV.cells AV.okc setRange minmaxAV AV.one AV.ofCells eqCells eqCell bslRows cond_true cond_false beq_self_eq_true Bool.not_true Bool.not_false beq_true beq_false eq_self if_true Option.some.injEq List.length_cons List.length_nil List.take_succ_cons List.take_zero List.drop_succ_cons List.drop_zero List.set_cons_succ List.set_cons_zero List.nil_append List.cons_append List.append_nil and_self Option.map_some List.map_cons List.map_nil Bool.false_eq_true if_false Nat.zero_add Nat.add_zero true_and and_true Bool.and_true Bool.true_and List.getElem?_cons_zero List.getElem?_cons_succ Nat.zero_le Nat.le_refl
set_option linter.unusedSimpArgs false
set_option linter.unusedVariables false
theorem DM.slF {P : Program} {d len size : Nat} {l : List EI} {env : Env} {H : AHeap} {K : Env → AHeap → Prop} {Rp : AV → AHeap → Prop} {x : EOpd} {b : Nat} {T : TypeId} {cs : List AV} {rows : List (List AV)} (hf : rows.flatten = cs) (hr : ∀ r ∈ rows, r.length = size) (hl : rows.length = len) (h0 : 0 < len) (hm : len ≤ maxLen) (hx : x.ev env = .ptr b 0) (hb : H.blk b = some (T, cs)) (h : DM P l ((d, .vs size rows) :: env) (H.dropB b) K Rp) : DM P (⟨some d, none, .slA len size x⟩ :: l) env H K Rp := by
 simp only [DM, wanted]
 exact IStep.slAF hx hb hf hr hl h0 hm h
theorem kw_rows : (kwords.map srow).flatten = kwords.map .str := rfl
theorem hsub_sd {H : AHeap} {b : Nat} {T1 T2 : TypeId} {c1 c2 : List AV} (hb : H.blk b = none) : HSub H (((H.setB b T1 c1).setB b T2 c2).dropB b) :=
 ⟨fun x y h => by
  simp only [AHeap.setB, AHeap.dropB]
  by_cases e : x = b
  ·subst e; rw [hb] at h; cases h
  ·rw [if_neg e, if_neg e, if_neg e]; exact h, fun _ _ h => by simpa [AHeap.setB, AHeap.dropB] using h⟩
theorem p45 (s : List UInt8) (hs : s.length ≤ maxLen) : Pure Tryz.prog 45 [.str s] (.bool (isWordB s)) := by
 have h101 := q101 s hs
 have h102 := q102 kwords s (by decide)
 unfold isWordB
 cases hn : isNameB s
 all_goals
  rw [hn] at h101
  refine pure_intro mo Tryz.func45 c45 fun H => ?_
  unfold e45 r45
  simp only [initEnv, initFrom]
  refine AM.seq ?_
  refine Sp.go .rg ?_
  refine DM.p (v := .bool false) rfl ?_
  refine Sp.go .nl ?_
  refine AM.seq ?_
  refine Sp.go .rg ?_
  refine DM.p (v := .agg (kwords.map .str)) (by kernel_rfl) ?_
  refine Sp.go (.al (by decide)) ?_
  intro b hb
  refine Sp.go (.sE (new := kwords.map .str) (o := 0) rfl g_same rfl rfl (by decide) (by decide) rfl rfl) ?_
  refine Sp.go .nl ?_
 ·repeat' first|refine Sp.g ?_|(intro b hb;repeat first|(refine fe hb ?_;intro _ _ hb)|(refine fT hb ?_;intro hb))|refine rt ?_|refine gA rfl ?_|refine gB rfl ?_|apply cT rfl|apply cF rfl|(apply DM.gbT;rfl)|(apply DM.gbF;rfl)|intro h
  (apply DM.pcs (h101); (· simp only [go_sem, Nat.reduceBEq, Nat.reduceAdd] <;> rfl); (· exact AVLes.refl _))
  repeat' first|refine Sp.g ?_|(intro b hb;repeat first|(refine fe hb ?_;intro _ _ hb)|(refine fT hb ?_;intro hb))|refine rt ?_|refine gA rfl ?_|refine gB rfl ?_|apply cT rfl|apply cF rfl|(apply DM.gbT;rfl)|(apply DM.gbF;rfl)|intro h
  refine Sr.g ?_
  exact AVLe.refl _
 ·repeat' first|refine Sp.g ?_|(intro b hb;repeat first|(refine fe hb ?_;intro _ _ hb)|(refine fT hb ?_;intro hb))|refine rt ?_|refine gA rfl ?_|refine gB rfl ?_|apply cT rfl|apply cF rfl|(apply DM.gbT;rfl)|(apply DM.gbF;rfl)|intro h
  (apply DM.pcs (h101); (· simp only [go_sem, Nat.reduceBEq, Nat.reduceAdd] <;> rfl); (· exact AVLes.refl _))
  repeat' first|refine Sp.g ?_|(intro b hb;repeat first|(refine fe hb ?_;intro _ _ hb)|(refine fT hb ?_;intro hb))|refine rt ?_|refine gA rfl ?_|refine gB rfl ?_|apply cT rfl|apply cF rfl|(apply DM.gbT;rfl)|(apply DM.gbF;rfl)|intro h
  (apply DM.slF (rows := kwords.map srow) kw_rows (by intro r hr; obtain ⟨_, _, rfl⟩ := List.mem_map.1 hr; rfl) rfl (by decide) (by decide); (· rfl); (· exact g_same))
  repeat' first|refine Sp.g ?_|(intro b hb;repeat first|(refine fe hb ?_;intro _ _ hb)|(refine fT hb ?_;intro hb))|refine rt ?_|refine gA rfl ?_|refine gB rfl ?_|apply cT rfl|apply cF rfl|(apply DM.gbT;rfl)|(apply DM.gbF;rfl)|intro h
  (apply DM.pcs (h102); (· simp only [go_sem, Nat.reduceBEq, Nat.reduceAdd] <;> rfl); (· exact AVLes.refl _))
  repeat' first|refine Sp.g ?_|(intro b hb;repeat first|(refine fe hb ?_;intro _ _ hb)|(refine fT hb ?_;intro hb))|refine rt ?_|refine gA rfl ?_|refine gB rfl ?_|apply cT rfl|apply cF rfl|(apply DM.gbT;rfl)|(apply DM.gbF;rfl)|intro h
  refine AM.forget H (hsub_sd hb) ?_
  refine Sr.g ?_
  exact AVLe.refl _
end Go.Aw.T.N
namespace Go.Aw.T.N
open Go Go.Aw Go.Proofs
set_option linter.unusedVariables false
theorem d31i (caps : List AV) (hc : caps.length = 3) : DIdle Tryz.prog 31 caps := by
 intro m vs rh hv
 have hl := RvL.length hv
 match vs, hl with
 | [p, q, r], _ =>
  refine (idle31 p q r m.w).mono ?_
  rintro e u' w' ⟨rfl, rfl, h1, h2, h3, h4, h5⟩
  exact ⟨⟨_, rfl⟩, rfl, m.L, m.T, RH.hid rh h1 h2 h3 (by omega) h5, Ev.hid h1 h2 h3 (by omega) h5⟩
 | [], h => simp [hc] at h
 | [_], h => simp [hc] at h
 | [_, _], h => simp [hc] at h
 | _ :: _ :: _ :: _ :: _, h => simp [hc] at h
end Go.Aw.T.N
set_option linter.unusedVariables false
set_option maxRecDepth 1000000
namespace Go.Aw.T.N
open Go Go.Aw Go.Proofs Go.Shelf
def tabS : List (Nat × EC × List ERes × Nat) := [(11, e11, r11, 0), (12, e12, r12, 1), (16, e16, r16, 1), (18, e18, r18, 1), (22, e22, r22, 2), (30, e30, r30, 1), (32, e32, r32, 1), (46, e46, r46, 2), (47, e47, r47, 1), (48, e48, r48, 2), (49, e49, r49, 1), (50, e50, r50, 2), (51, e51, r51, 1), (52, e52, r52, 1), (63, e63, r63, 2), (64, e64, r64, 3), (65, e65, r65, 2), (66, e66, r66, 2), (67, e67, r67, 3), (68, e68, r68, 2), (69, e69, r69, 3), (70, e70, r70, 2), (71, e71, r71, 3), (72, e72, r72, 2), (78, e78, r78, 1), (79, e79, r79, 1), (80, e80, r80, 1), (81, e81, r81, 1), (82, e82, r82, 1), (83, e83, r83, 1), (85, e85, r85, 2), (86, e86, r86, 1), (87, e87, r87, 2), (88, e88, r88, 1), (89, e89, r89, 1), (90, e90, r90, 1), (91, e91, r91, 2), (103, e103, r103, 2), (104, e104, r104, 2), (105, e105, r105, 1), (106, e106, r106, 1), (107, e107, r107, 2), (108, e108, r108, 2), (109, e109, r109, 1), (110, e110, r110, 1), (111, e111, r111, 1), (112, e112, r112, 2), (113, e113, r113, 2), (114, e114, r114, 1), (115, e115, r115, 2), (116, e116, r116, 2), (117, e117, r117, 1), (118, e118, r118, 1), (119, e119, r119, 1), (120, e120, r120, 2), (121, e121, r121, 1), (122, e122, r122, 2), (124, e124, r124, 1), (126, e126, r126, 2), (127, e127, r127, 1), (128, e128, r128, 1), (145, e145, r145, 2), (148, e148, r148, 2), (149, e149, r149, 1), (150, e150, r150, 1), (151, e151, r151, 2), (152, e152, r152, 2), (153, e153, r153, 1), (154, e154, r154, 1), (155, e155, r155, 1), (156, e156, r156, 2), (160, e160, r160, 2), (163, e163, r163, 2), (164, e164, r164, 1), (165, e165, r165, 2), (167, e167, r167, 1), (168, e168, r168, 2), (169, e169, r169, 2), (170, e170, r170, 2), (171, e171, r171, 2), (173, e173, r173, 2), (174, e174, r174, 2), (175, e175, r175, 1), (176, e176, r176, 2), (178, e178, r178, 2), (182, e182, r182, 2), (183, e183, r183, 2), (187, e187, r187, 2), (190, e190, r190, 1), (191, e191, r191, 1), (195, e195, r195, 2), (197, e197, r197, 2), (198, e198, r198, 2), (209, e209, r209, 1)]
theorem tab_mem {f : Nat} {x : EC × List ERes × Nat} : ∀ {l : List (Nat × EC × List ERes × Nat)}, l.lookup f = some x → (f, x) ∈ l
 | [], h => by cases h
 | (g, y) :: l, h => by
  simp only [List.lookup] at h
  split at h
  ·rename_i e
   have : f = g := by simpa using e
   subst this
   simp only [Option.some.injEq] at h
   subst h
   exact List.mem_cons_self
  ·exact List.mem_cons_of_mem _ (tab_mem h)
def TabL (P : Program) : List (Nat × EC × List ERes × Nat) → Prop
 | [] => True
 | x :: l => (∃ fn, P.funcs[x.1]? = some fn ∧ chkF P fn x.2.2.2 x.2.1 x.2.2.1 = true) ∧ TabL P l
theorem TabL.mem {P : Program} : ∀ {l : List (Nat × EC × List ERes × Nat)}, TabL P l → ∀ x ∈ l, ∃ fn, P.funcs[x.1]? = some fn ∧ chkF P fn x.2.2.2 x.2.1 x.2.2.1 = true
 | _ :: _, h, x, hx => by
  rcases List.mem_cons.1 hx with rfl | hx
  ·exact h.1
  ·exact TabL.mem h.2 x hx
theorem tabS_all : TabL Tryz.prog tabS := ⟨⟨_, Tryz.func11, c11⟩, ⟨_, Tryz.func12, c12⟩, ⟨_, Tryz.func16, c16⟩, ⟨_, Tryz.func18, c18⟩, ⟨_, Tryz.func22, c22⟩, ⟨_, Tryz.func30, c30⟩, ⟨_, Tryz.func32, c32⟩, ⟨_, Tryz.func46, c46⟩, ⟨_, Tryz.func47, c47⟩, ⟨_, Tryz.func48, c48⟩, ⟨_, Tryz.func49, c49⟩, ⟨_, Tryz.func50, c50⟩, ⟨_, Tryz.func51, c51⟩, ⟨_, Tryz.func52, c52⟩, ⟨_, Tryz.func63, c63⟩, ⟨_, Tryz.func64, c64⟩, ⟨_, Tryz.func65, c65⟩, ⟨_, Tryz.func66, c66⟩, ⟨_, Tryz.func67, c67⟩, ⟨_, Tryz.func68, c68⟩, ⟨_, Tryz.func69, c69⟩, ⟨_, Tryz.func70, c70⟩, ⟨_, Tryz.func71, c71⟩, ⟨_, Tryz.func72, c72⟩, ⟨_, Tryz.func78, c78⟩, ⟨_, Tryz.func79, c79⟩, ⟨_, Tryz.func80, c80⟩, ⟨_, Tryz.func81, c81⟩, ⟨_, Tryz.func82, c82⟩, ⟨_, Tryz.func83, c83⟩, ⟨_, Tryz.func85, c85⟩, ⟨_, Tryz.func86, c86⟩, ⟨_, Tryz.func87, c87⟩, ⟨_, Tryz.func88, c88⟩, ⟨_, Tryz.func89, c89⟩, ⟨_, Tryz.func90, c90⟩, ⟨_, Tryz.func91, c91⟩, ⟨_, Tryz.func103, c103⟩, ⟨_, Tryz.func104, c104⟩, ⟨_, Tryz.func105, c105⟩, ⟨_, Tryz.func106, c106⟩, ⟨_, Tryz.func107, c107⟩, ⟨_, Tryz.func108, c108⟩, ⟨_, Tryz.func109, c109⟩, ⟨_, Tryz.func110, c110⟩, ⟨_, Tryz.func111, c111⟩, ⟨_, Tryz.func112, c112⟩, ⟨_, Tryz.func113, c113⟩, ⟨_, Tryz.func114, c114⟩, ⟨_, Tryz.func115, c115⟩, ⟨_, Tryz.func116, c116⟩, ⟨_, Tryz.func117, c117⟩, ⟨_, Tryz.func118, c118⟩, ⟨_, Tryz.func119, c119⟩, ⟨_, Tryz.func120, c120⟩, ⟨_, Tryz.func121, c121⟩, ⟨_, Tryz.func122, c122⟩, ⟨_, Tryz.func124, c124⟩, ⟨_, Tryz.func126, c126⟩, ⟨_, Tryz.func127, c127⟩, ⟨_, Tryz.func128, c128⟩, ⟨_, Tryz.func145, c145⟩, ⟨_, Tryz.func148, c148⟩, ⟨_, Tryz.func149, c149⟩, ⟨_, Tryz.func150, c150⟩, ⟨_, Tryz.func151, c151⟩, ⟨_, Tryz.func152, c152⟩, ⟨_, Tryz.func153, c153⟩, ⟨_, Tryz.func154, c154⟩, ⟨_, Tryz.func155, c155⟩, ⟨_, Tryz.func156, c156⟩, ⟨_, Tryz.func160, c160⟩, ⟨_, Tryz.func163, c163⟩, ⟨_, Tryz.func164, c164⟩, ⟨_, Tryz.func165, c165⟩, ⟨_, Tryz.func167, c167⟩, ⟨_, Tryz.func168, c168⟩, ⟨_, Tryz.func169, c169⟩, ⟨_, Tryz.func170, c170⟩, ⟨_, Tryz.func171, c171⟩, ⟨_, Tryz.func173, c173⟩, ⟨_, Tryz.func174, c174⟩, ⟨_, Tryz.func175, c175⟩, ⟨_, Tryz.func176, c176⟩, ⟨_, Tryz.func178, c178⟩, ⟨_, Tryz.func182, c182⟩, ⟨_, Tryz.func183, c183⟩, ⟨_, Tryz.func187, c187⟩, ⟨_, Tryz.func190, c190⟩, ⟨_, Tryz.func191, c191⟩, ⟨_, Tryz.func195, c195⟩, ⟨_, Tryz.func197, c197⟩, ⟨_, Tryz.func198, c198⟩, ⟨_, Tryz.func209, c209⟩, trivial⟩
theorem tabS_ok : TabOK Tryz.prog (fun f => tabS.lookup f) := fun f e rs m h => TabL.mem tabS_all (f, e, rs, m) (tab_mem h)
def strRows : List (List AV) → Option (List (List UInt8))
 | [] => some []
 | [.str s] :: rs => match strRows rs with
  | some l => some (s :: l)
  | none => none
 | _ => none
theorem strRows_ok : ∀ {rows : List (List AV)} {l : List (List UInt8)}, strRows rows = some l → rows = l.map srow
 | [], l, h => by simp only [strRows, Option.some.injEq] at h; subst h; rfl
 | r :: rs, l, h => by
  unfold strRows at h
  split at h
  ·rename_i heq; cases heq
  ·rename_i s rs' heq
   cases heq
   split at h
   ·rename_i l' hl
    simp only [Option.some.injEq] at h
    subst h
    rw [strRows_ok hl]
    rfl
   ·cases h
  ·cases h
def libS : Lib := fun f xs => match f, xs with
 | 45, [.str s] => bif Nat.ble s.length 1000000 then some (.bool (isWordB s)) else none
 | 123, [.int .i64 n] => bif decide (-1000000000 ≤ n) && decide (n ≤ 1000000000) then some (.str (Lib.itoa n)) else none
 | 177, [.str [9], .int .i64 (.ofNat n)] => bif Nat.ble n 1000000 then some (.str (List.replicate n 9)) else none
 | 125, [.vs 1 rows, .str sep] => match strRows rows with
  | some l => bif Nat.ble l.length 1000000 && Nat.ble (Lib.join l sep).length 1000000000 then some (.str (Lib.join l sep)) else none
  | none => none
 | 166, [.str s, .str [46]] => bif Nat.ble s.length 1000 then some (.vs 1 ((splitP s).map srow)) else none
 | 144, [.str s, .int .i32 r] => bif decide (0 ≤ r) && decide (r < 128) then some (.bool (decide (0 ≤ Lib.indexByte s r.toNat.toUInt8))) else none
 | 147, [.str s, .str [c]] => some (.bool (decide (0 ≤ Lib.indexByte s c)))
 | 146, [.str s, .int .u8 c] => some (.int .i64 (Lib.indexByte s c.toNat.toUInt8))
 | _, _ => none
theorem libS_ok : LibOK Tryz.prog libS := fun f xs r h hf => by
 clear hf
 unfold libS at h
 split at h
 ·rename_i s
  cases hv : Nat.ble s.length 1000000 with
  | false => rw [hv] at h; cases h
  | true => rw [hv] at h; cases h; have := Nat.le_of_ble_eq_true hv; exact p45 s (by unfold maxLen; omega)
 ·rename_i n
  cases hv : decide (-1000000000 ≤ n) && decide (n ≤ 1000000000) with
  | false => rw [hv] at h; cases h
  | true => rw [hv] at h; cases h; simp only [Bool.and_eq_true, decide_eq_true_eq] at hv; exact p123 n hv.1 hv.2
 ·rename_i n
  cases hv : Nat.ble n 1000000 with
  | false => rw [hv] at h; cases h
  | true => rw [hv] at h; cases h; exact p177 n (Nat.le_of_ble_eq_true hv)
 ·rename_i rows sep
  split at h
  ·rename_i l hl
   cases hv : Nat.ble l.length 1000000 && Nat.ble (Lib.join l sep).length 1000000000 with
   | false => rw [hv] at h; cases h
   | true =>
    rw [hv] at h; cases h
    simp only [Bool.and_eq_true, Nat.ble_eq] at hv
    rw [strRows_ok hl]
    exact p125 l sep hv.1 hv.2
  ·cases h
 ·rename_i s
  cases hv : Nat.ble s.length 1000 with
  | false => rw [hv] at h; cases h
  | true => rw [hv] at h; cases h; exact p166 s (Nat.le_of_ble_eq_true hv)
 ·rename_i s r
  cases hv : decide (0 ≤ r) && decide (r < 128) with
  | false => rw [hv] at h; cases h
  | true => rw [hv] at h; cases h; simp only [Bool.and_eq_true, decide_eq_true_eq] at hv; exact p144 s r hv.1 hv.2
 ·cases h; exact p147 _ _
 ·cases h; exact p146 _ _
 ·cases h
def typS : List (TypeId × Nat) := [(180, 2), (182, 3)]
theorem typS_ok : ∀ p ∈ typS, liesAt Tryz.prog Tryz.prog.depth p.1 (p.2 / Tryz.prog.cellsOf p.1) 0 (Tryz.lays156_ren.t 72) 1 = true := by
 intro p hp
 simp only [typS, List.mem_cons, List.not_mem_nil, or_false] at hp
 rcases hp with rfl | rfl
 ·kernel_rfl
 ·kernel_rfl
theorem info_at {P : Program} {t : TypeId} {z : Value} {n b : Nat} (h : (P.info? t).map (fun i => (i.zero, i.size, i.bytes)) = some (some z, n, b)) : ∃ i, P.info? t = some i ∧ i.zero = some z ∧ i.size = n ∧ i.bytes = b := by
 cases hi : P.info? t with
 | none => rw [hi] at h; cases h
 | some i =>
  rw [hi] at h
  simp only [Option.map_some, Option.some.injEq, Prod.mk.injEq] at h
  exact ⟨i, rfl, h.1, h.2.1, h.2.2⟩
def zE : Value := .agg #[.int .i64 0, .string ByteArray.empty, .string ByteArray.empty, .string ByteArray.empty, .int .i64 0, .slice none 0 0]
def zT : Value := .agg #[.int .i64 0, .string ByteArray.empty, .int .i64 0, .string ByteArray.empty, .string ByteArray.empty, .string ByteArray.empty, .int .i64 0, .slice none 0 0, .int .i64 0, .slice none 0 0, .slice none 0 0]
theorem growE_ok : CallOK Tryz.prog (growCl 172 131 6 88) := by
 obtain ⟨i, h1, h2, h3, h4⟩ := info_at (P := Tryz.prog) (t := 131) (z := zE) (n := 6) (b := 88) (by kernel_rfl)
 exact growCl_ok Tryz.growE (i0 := i) (z := zE) h1 h2 (by omega) (by rw [h3]; rfl) rfl rfl h3 h4
theorem growS_ok : CallOK Tryz.prog (growCl 194 133 11 168) := by
 obtain ⟨i, h1, h2, h3, h4⟩ := info_at (P := Tryz.prog) (t := 133) (z := zT) (n := 11) (b := 168) (by kernel_rfl)
 exact growCl_ok Tryz.growS (i0 := i) (z := zT) h1 h2 (by omega) (by rw [h3]; rfl) rfl rfl h3 h4
def clS : Cl := clOr (clP libS) (clOr (bldCl 199 129 5 typS) (clOr (growCl 172 131 6 88) (growCl 194 133 11 168)))
theorem clS_ok : CallOK Tryz.prog clS := clOr_ok (clP_ok libS_ok) (clOr_ok (bldCl_ok Tryz.lays240 Tryz.lays169 Tryz.extra156 rfl rfl rfl typS_ok) (clOr_ok growE_ok growS_ok))
def cvsS : List FuncId := [45, 47, 49, 51, 65, 68, 70, 72, 79, 80, 81, 82, 83, 104, 108, 109, 114, 116, 117, 121, 149, 167, 168, 170, 174]
theorem cvsS_ok : ∀ f ∈ cvsS, callable Tryz.prog f = true := fun f h => by
 have : cvsS.all (callable Tryz.prog) = true := by kernel_rfl
 exact List.all_eq_true.1 this f h
def idlS : List (FuncId × Nat) := [(31, 3)]
theorem idlS_ok : ∀ p ∈ idlS, callable Tryz.prog p.1 = true ∧ ∀ caps : List AV, caps.length = p.2 → DIdle Tryz.prog p.1 caps := fun p h => by
 simp only [idlS, List.mem_cons, List.not_mem_nil, or_false] at h
 subst h
 exact ⟨by kernel_rfl, fun caps hc => d31i caps hc⟩
theorem runS {f : FuncId} {fn : Func} {e : EC} {rs : List ERes} {n : Nat} {xs : List AV} {r : AV} (hf : Tryz.prog.funcs[f]? = some fn) (hc : chkF Tryz.prog fn xs.length e rs = true) (ha : flatL xs = true) (hr : r.flat = true) (h : (runD (fun f => tabS.lookup f) clS cvsS idlS n rs [.c e] (initEnv xs) .new).map (fun x => x.1.wk) = some r) : Pure Tryz.prog f xs r := by
 obtain ⟨x, hx, e⟩ := Option.map_eq_some_iff.1 h
 exact pure_runD mo tabS_ok clS_ok cvsS_ok idlS_ok hf hc ha hx e hr
end Go.Aw.T.N
set_option maxRecDepth 1000000
namespace Go.Aw.T.N
open Go Go.Aw Go.Proofs
set_option maxHeartbeats 4000000 in
theorem h11 : Pure Tryz.prog 11 [] (.bool true) := runS (n := 20000) Tryz.func11 c11 rfl rfl (by kernel_rfl)
end Go.Aw.T.N
