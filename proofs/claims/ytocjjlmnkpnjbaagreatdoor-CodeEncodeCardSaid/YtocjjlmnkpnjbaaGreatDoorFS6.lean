/- Part of a proof; own work. -/
import Derived.Below
import Derived.KernelRfl
import Derived.Shelf.Strconv.Itoa3
import Derived.Shelf.Strconv.AtoiAll
import Derived.Shelf.Strings.BuilderK
import Derived.Shelf.Strings.Search1
import Derived.Test.YtocjjlmnkpnjbaaGreatDoorProg
import Derived.Lib.SmallJoins
import Derived.Lib.OthersKept
import Derived.Deep.LoopGhost
import Derived.Laws.RangeAny
import Derived.BigCall
import Derived.Lib.Bytealg
import Derived.Lib.Walk
import Derived.BigGuard
import Derived.Test.YtocjjlmnkpnjbaaGreatDoorFS5
namespace Go.Aw.T
open Go Go.Aw Go.Proofs Go.RowKit
set_option maxRecDepth 100000
attribute [local irreducible] Go.Aw.DM Go.Aw.AHeap.setB Go.Aw.AHeap.setT
attribute [local go_sem] peval EOpd.ev Env.get binInt binStr binBool buildParts AV.cells AV.okc setRange minmaxAV AV.one AV.ofCells eqCells eqCell bslRows cond_true cond_false beq_self_eq_true Bool.not_true Bool.not_false beq_true beq_false eq_self if_true Option.some.injEq List.length_cons List.length_nil List.take_succ_cons List.take_zero List.drop_succ_cons List.drop_zero List.set_cons_succ List.set_cons_zero List.nil_append List.cons_append List.append_nil and_self Option.map_some List.map_cons List.map_nil Bool.false_eq_true if_false Nat.zero_add Nat.add_zero true_and and_true Bool.and_true Bool.true_and List.getElem?_cons_zero List.getElem?_cons_succ Nat.zero_le Nat.le_refl
set_option linter.unusedSimpArgs false
set_option linter.unusedVariables false
theorem p105n (s : List UInt8) (H : AHeap) (hs : s.length ≤ 1000) : ACalls Tryz.prog 105 [.vs 1 (s.map fun c => [.int .u8 c.toNat])] H (Ret (NW H ((encT s).map brow))) := by
 refine ACalls.mono (acalls_of (args := [.vs 1 (s.map fun c => [.int .u8 c.toNat])]) (H := H) (R := fun o H2 => ∃ t, H.tok t = none ∧ ∃ a, o = .ret a ∧ AVLe a (.own t 1 ((encT s).map brow)) ∧ HSub (H.setT t (.frz 5 1 ((encT s).map brow).length)) H2) mo Tryz.func105 c105 ?_) fun o H2 ⟨t, h0, a, e, ha, hs⟩ => ⟨.ret (.own t 1 ((encT s).map brow)), H.setT t (.frz 5 1 ((encT s).map brow).length), by subst e; exact ha, hs, _, rfl, t, h0, rfl, rfl⟩
 unfold e105 r105
 simp only [initEnv, initFrom]
 have hel := enc_len s.length
 repeat' first|refine Sp.g ?_|(intro b hb;repeat first|(refine fe hb ?_;intro _ _ hb)|(refine fT hb ?_;intro hb))|refine rt ?_|refine gA rfl ?_|refine gB rfl ?_|apply cT rfl|apply cF rfl|(apply DM.gbT;rfl)|(apply DM.gbF;rfl)|intro h
 (apply DM.cal (p106n ((s.map fun c => [AV.int .u8 c.toNat]).length : Int) H (by simp only [List.length_map]; omega) (by simp only [List.length_map]; omega)); (· simp only [go_sem, Nat.reduceBEq, Nat.reduceAdd] <;> rfl); (· exact AVLes.refl _))
 rintro r H1 ⟨t, h0, rfl, rfl⟩
 rw [show (s.map fun c => [AV.int .u8 c.toNat]).length = s.length from List.length_map ..]
 simp only [put_some]
 repeat' first|refine Sp.g ?_|(intro b hb;repeat first|(refine fe hb ?_;intro _ _ hb)|(refine fT hb ?_;intro hb))|refine rt ?_|refine gA rfl ?_|refine gB rfl ?_|apply cT rfl|apply cF rfl|(apply DM.gbT;rfl)|(apply DM.gbF;rfl)|intro h
 (apply DM.apO (t := t); (· rfl); (· exact t_same); (· rfl); (· simp only [List.length_map]; omega); (· simp only [List.length_map]; unfold maxLen; omega))
 repeat' first|refine Sp.g ?_|(intro b hb;repeat first|(refine fe hb ?_;intro _ _ hb)|(refine fT hb ?_;intro hb))|refine rt ?_|refine gA rfl ?_|refine gB rfl ?_|apply cT rfl|apply cF rfl|(apply DM.gbT;rfl)|(apply DM.gbF;rfl)|intro h
 rw [setT_setT]
 have e1 : ((enc (s.length : Int)).map brow) ++ s.map (fun c => [AV.int .u8 c.toNat]) = (encT s).map brow := by
  simp only [encT, List.map_append, List.map_map]
  rfl
 refine AM.eqH (show _ = H.setT t (.frz 5 1 ((encT s).map brow).length) by rw [← e1]; simp) ?_
 (apply AM.ret; (· apply Lk.go;constructor<;>first|exact ss|(change _=_;first|(simp only[go_sem,Nat.reduceBEq,Nat.reduceAdd,Nat.reduceLeDiff,reduceIte]<;>rfl)|rfl)|exact Nat.le_of_ble_eq_true rfl|decide|(repeat' first|(apply Lk.go;constructor)|assumption|exact nb ‹_› ‹_›|exact nt ‹_› ‹_›)))
 refine ⟨t, h0, _, rfl, ?_, HSub.refl _⟩
 rw [← e1]
 exact AVLe.refl _
theorem p66n (s : List UInt8) (H : AHeap) (hs : s.length ≤ 1000) : ACalls Tryz.prog 66 [.str s] H (Ret (NW H ((encT s).map brow))) := by
 refine ACalls.mono (acalls_of (args := [.str s]) (H := H) (R := fun o H2 => ∃ t, H.tok t = none ∧ ∃ a, o = .ret a ∧ AVLe a (.own t 1 ((encT s).map brow)) ∧ HSub (H.setT t (.frz 5 1 ((encT s).map brow).length)) H2) mo Tryz.func66 c66 ?_) fun o H2 ⟨t, h0, a, e, ha, hs⟩ => ⟨.ret (.own t 1 ((encT s).map brow)), H.setT t (.frz 5 1 ((encT s).map brow).length), by subst e; exact ha, hs, _, rfl, t, h0, rfl, rfl⟩
 unfold e66 r66
 simp only [initEnv, initFrom]
 repeat' first|refine Sp.g ?_|(intro b hb;repeat first|(refine fe hb ?_;intro _ _ hb)|(refine fT hb ?_;intro hb))|refine rt ?_|refine gA rfl ?_|refine gB rfl ?_|apply cT rfl|apply cF rfl|(apply DM.gbT;rfl)|(apply DM.gbF;rfl)|intro h
 (apply DM.cbs; (· rfl))
 repeat' first|refine Sp.g ?_|(intro b hb;repeat first|(refine fe hb ?_;intro _ _ hb)|(refine fT hb ?_;intro hb))|refine rt ?_|refine gA rfl ?_|refine gB rfl ?_|apply cT rfl|apply cF rfl|(apply DM.gbT;rfl)|(apply DM.gbF;rfl)|intro h
 (apply DM.cal (p105n s H hs); (· simp only [go_sem, Nat.reduceBEq, Nat.reduceAdd] <;> rfl); (· exact AVLes.refl _))
 rintro r H1 ⟨t, h0, rfl, rfl⟩
 simp only [put_some]
 repeat' first|refine Sp.g ?_|(intro b hb;repeat first|(refine fe hb ?_;intro _ _ hb)|(refine fT hb ?_;intro hb))|refine rt ?_|refine gA rfl ?_|refine gB rfl ?_|apply cT rfl|apply cF rfl|(apply DM.gbT;rfl)|(apply DM.gbF;rfl)|intro h
 (apply AM.ret; (· apply Lk.go;constructor<;>first|exact ss|(change _=_;first|(simp only[go_sem,Nat.reduceBEq,Nat.reduceAdd,Nat.reduceLeDiff,reduceIte]<;>rfl)|rfl)|exact Nat.le_of_ble_eq_true rfl|decide|(repeat' first|(apply Lk.go;constructor)|assumption|exact nb ‹_› ‹_›|exact nt ‹_› ‹_›)))
 exact ⟨t, h0, _, rfl, AVLe.refl _, HSub.refl _⟩
theorem p66 (s : List UInt8) (hs : s.length ≤ 1000) : Pure Tryz.prog 66 [.str s] (.vs 1 ((encT s).map brow)) := pure_of_new fun H => p66n s H hs
theorem p67 (ns : List Int) (hr : ns.length ≤ 1000) (hn : ∀ n ∈ ns, -1000 ≤ n ∧ n ≤ 1000) : Pure Tryz.prog 67 [.vs 1 (ns.map irow1)] (.vs 1 ((ns.flatMap enc).map brow)) := by
 refine pure_intro mo Tryz.func67 c67 fun H => ?_
 unfold e67 r67
 simp only [initEnv, initFrom]
 have hnl : ns.length ≤ maxLen := by unfold maxLen; omega
 repeat' first|refine Sp.g ?_|(intro b hb;repeat first|(refine fe hb ?_;intro _ _ hb)|(refine fT hb ?_;intro hb))|refine rt ?_|refine gA rfl ?_|refine gB rfl ?_|apply cT rfl|apply cF rfl|(apply DM.gbT;rfl)|(apply DM.gbF;rfl)|intro h
 refine AM.ghostO 3 5 1 (by decide) rfl fun t h0 => ?_
 refine AM.loopX (X := Nat) 0 (fun i => [(0, .vs 1 (ns.map irow1)), (3, .own t 1 (((ns.take i).flatMap enc).map brow)), (4, .int .i64 (i : Int))]) (fun i H' => H' = H.setT t (.frz 5 1 (((ns.take i).flatMap enc).map brow).length) ∧ i ≤ ns.length) (fun i => ns.length - i) ⟨by simp, by omega⟩ ?_ ?_
 ·(repeat first | exact envle_nil _ | (refine envle_cons ?_ ?_; · (simp only [go_sem, Nat.reduceBEq, Nat.reduceAdd]; exact AVLe.refl _)))
 rintro i H' ⟨rfl, hi⟩
 repeat' first|refine Sp.g ?_|(intro b hb;repeat first|(refine fe hb ?_;intro _ _ hb)|(refine fT hb ?_;intro hb))|refine rt ?_|refine gA rfl ?_|refine gB rfl ?_|apply cT rfl|apply cF rfl|(apply DM.gbT;rfl)|(apply DM.gbF;rfl)|intro h
 (apply AM.cond; (· rfl))
 ·intro h3
  simp at h3
  obtain ⟨v, hvx⟩ := some_of h3
  have hmem := hn v (List.mem_of_getElem? hvx)
  have hlen : (((ns.take i).flatMap enc).map brow).length ≤ 2000 := by
   have := encs_len (ns.take i)
   simp only [List.length_map, List.length_take] at *
   omega
  have hel := enc_len v
  repeat' first|refine Sp.g ?_|(intro b hb;repeat first|(refine fe hb ?_;intro _ _ hb)|(refine fT hb ?_;intro hb))|refine rt ?_|refine gA rfl ?_|refine gB rfl ?_|apply cT rfl|apply cF rfl|(apply DM.gbT;rfl)|(apply DM.gbF;rfl)|intro h
  (apply DM.ixV (row := irow1 v) (z := (i : Int)) (by omega) (row_get irow1 hvx); (· rfl); (· rfl))
  repeat' first|refine Sp.g ?_|(intro b hb;repeat first|(refine fe hb ?_;intro _ _ hb)|(refine fT hb ?_;intro hb))|refine rt ?_|refine gA rfl ?_|refine gB rfl ?_|apply cT rfl|apply cF rfl|(apply DM.gbT;rfl)|(apply DM.gbF;rfl)|intro h
  (apply DM.pcs (p106 v hmem.1 hmem.2); (· simp only [go_sem, Nat.reduceBEq, Nat.reduceAdd] <;> rfl); (· exact AVLes.refl _))
  repeat' first|refine Sp.g ?_|(intro b hb;repeat first|(refine fe hb ?_;intro _ _ hb)|(refine fT hb ?_;intro hb))|refine rt ?_|refine gA rfl ?_|refine gB rfl ?_|apply cT rfl|apply cF rfl|(apply DM.gbT;rfl)|(apply DM.gbF;rfl)|intro h
  (apply DM.apO (t := t); (· rfl); (· exact t_same); (· rfl); (· simp only [List.length_map] at *; omega); (· simp only [List.length_map] at *; unfold maxLen; omega))
  repeat' first|refine Sp.g ?_|(intro b hb;repeat first|(refine fe hb ?_;intro _ _ hb)|(refine fT hb ?_;intro hb))|refine rt ?_|refine gA rfl ?_|refine gB rfl ?_|apply cT rfl|apply cF rfl|(apply DM.gbT;rfl)|(apply DM.gbF;rfl)|intro h
  rw [setT_setT]
  have e1 : (((ns.take i).flatMap enc).map brow) ++ (enc v).map brow = ((ns.take (i + 1)).flatMap enc).map brow := by
   rw [List.take_add_one, hvx]; simp
  refine AM.eqH (show _ = H.setT t (.frz 5 1 (((ns.take (i + 1)).flatMap enc).map brow).length) by rw [← e1]; simp) ?_
  rw [e1]
  refine AM.roundX (i + 1) ⟨rfl, by omega⟩ ?_ (show ns.length - (i + 1) < ns.length - i by omega)
  (repeat first | exact envle_nil _ | (refine envle_cons ?_ ?_; · (simp only [go_sem, Nat.reduceBEq, Nat.reduceAdd]; exact AVLe.refl _)))
  refine envle_cons ?_ ?_
  ·simp only [go_sem, Nat.reduceBEq, Nat.reduceAdd]
   refine avle_int ?_
   rw [inc64 h3 hnl]
  exact envle_nil _
 intro h3
 simp at h3
 rw [show i = ns.length by omega, List.take_length]
 refine AM.forget H (hsub_new h0) ?_
 repeat' first|refine Sp.g ?_|(intro b hb;repeat first|(refine fe hb ?_;intro _ _ hb)|(refine fT hb ?_;intro hb))|refine rt ?_|refine gA rfl ?_|refine gB rfl ?_|apply cT rfl|apply cF rfl|(apply DM.gbT;rfl)|(apply DM.gbF;rfl)|intro h
 refine Sr.g ?_
 exact AVLe.own
theorem p68 (v : Val) (hk : -1000 ≤ v.k ∧ v.k ≤ 1000) (hn : -1000 ≤ v.n ∧ v.n ≤ 1000) (hs : v.s.length ≤ 1000) : Pure Tryz.prog 68 [v.av] (.vs 1 ((encV v).map brow)) := by
 refine pure_intro mo Tryz.func68 c68 fun H => ?_
 unfold e68 r68
 simp only [initEnv, initFrom]
 have hl := enc_len v.k
 have hl2 := enc_len v.n
 have hl3 := encT_len v.s
 repeat' first|refine Sp.g ?_|(intro b hb;repeat first|(refine fe hb ?_;intro _ _ hb)|(refine fT hb ?_;intro hb))|refine rt ?_|refine gA rfl ?_|refine gB rfl ?_|apply cT rfl|apply cF rfl|(apply DM.gbT;rfl)|(apply DM.gbF;rfl)|intro h
 rename Nat => b1
 have hb1 : H.blk b1 = none := by assumption
 (apply DM.cal (p106n v.k _ hk.1 hk.2); (· simp only [go_sem, Nat.reduceBEq, Nat.reduceAdd] <;> rfl); (· exact AVLes.refl _))
 rintro r H1 ⟨t, h0, rfl, rfl⟩
 have h0' : H.tok t = none := by rw [← h0]; exact (t_B rfl).symm
 simp only [put_some]
 have hret : ∀ rows, HSub H ((H.setB b1 66 [.int .i64 v.k, .int .i64 v.n, .str v.s]).setT t (.frz 5 1 rows)) := fun rows =>
  HSub.trans (HSub.setB (HSub.refl H) hb1) (hsub_new h0)
 repeat' first|refine Sp.g ?_|(intro b hb;repeat first|(refine fe hb ?_;intro _ _ hb)|(refine fT hb ?_;intro hb))|refine rt ?_|refine gA rfl ?_|refine gB rfl ?_|apply cT rfl|apply cF rfl|(apply DM.gbT;rfl)|(apply DM.gbF;rfl)|intro h
 (apply AM.cond; (· rfl))
 ·intro h1
  simp at h1
  have e1 : encV v = enc v.k ++ enc v.n := by unfold encV; rw [if_pos h1]
  rw [e1, List.map_append]
  repeat' first|refine Sp.g ?_|(intro b hb;repeat first|(refine fe hb ?_;intro _ _ hb)|(refine fT hb ?_;intro hb))|refine rt ?_|refine gA rfl ?_|refine gB rfl ?_|apply cT rfl|apply cF rfl|(apply DM.gbT;rfl)|(apply DM.gbF;rfl)|intro h
  (apply DM.pcs (p106 v.n hn.1 hn.2); (· simp only [go_sem, Nat.reduceBEq, Nat.reduceAdd] <;> rfl); (· exact AVLes.refl _))
  repeat' first|refine Sp.g ?_|(intro b hb;repeat first|(refine fe hb ?_;intro _ _ hb)|(refine fT hb ?_;intro hb))|refine rt ?_|refine gA rfl ?_|refine gB rfl ?_|apply cT rfl|apply cF rfl|(apply DM.gbT;rfl)|(apply DM.gbF;rfl)|intro h
  (apply DM.apO (t := t); (· rfl); (· exact t_same); (· rfl); (· simp only [List.length_map] at *; omega); (· simp only [List.length_map] at *; unfold maxLen; omega))
  repeat' first|refine Sp.g ?_|(intro b hb;repeat first|(refine fe hb ?_;intro _ _ hb)|(refine fT hb ?_;intro hb))|refine rt ?_|refine gA rfl ?_|refine gB rfl ?_|apply cT rfl|apply cF rfl|(apply DM.gbT;rfl)|(apply DM.gbF;rfl)|intro h
  rw [setT_setT]
  refine AM.forget H (hret _) ?_
  refine Sr.g ?_
  exact AVLe.own
 ·intro h1
  simp at h1
  repeat' first|refine Sp.g ?_|(intro b hb;repeat first|(refine fe hb ?_;intro _ _ hb)|(refine fT hb ?_;intro hb))|refine rt ?_|refine gA rfl ?_|refine gB rfl ?_|apply cT rfl|apply cF rfl|(apply DM.gbT;rfl)|(apply DM.gbF;rfl)|intro h
  (apply AM.cond; (· rfl))
  ·intro h2
   simp at h2
   have e1 : encV v = enc v.k ++ encT v.s := by unfold encV; rw [if_neg h1, if_pos h2]
   rw [e1, List.map_append]
   repeat' first|refine Sp.g ?_|(intro b hb;repeat first|(refine fe hb ?_;intro _ _ hb)|(refine fT hb ?_;intro hb))|refine rt ?_|refine gA rfl ?_|refine gB rfl ?_|apply cT rfl|apply cF rfl|(apply DM.gbT;rfl)|(apply DM.gbF;rfl)|intro h
   (apply DM.pcs (p66 v.s hs); (· simp only [go_sem, Nat.reduceBEq, Nat.reduceAdd] <;> rfl); (· exact AVLes.refl _))
   repeat' first|refine Sp.g ?_|(intro b hb;repeat first|(refine fe hb ?_;intro _ _ hb)|(refine fT hb ?_;intro hb))|refine rt ?_|refine gA rfl ?_|refine gB rfl ?_|apply cT rfl|apply cF rfl|(apply DM.gbT;rfl)|(apply DM.gbF;rfl)|intro h
   (apply DM.apO (t := t); (· rfl); (· exact t_same); (· rfl); (· simp only [List.length_map] at *; omega); (· simp only [List.length_map] at *; unfold maxLen; omega))
   repeat' first|refine Sp.g ?_|(intro b hb;repeat first|(refine fe hb ?_;intro _ _ hb)|(refine fT hb ?_;intro hb))|refine rt ?_|refine gA rfl ?_|refine gB rfl ?_|apply cT rfl|apply cF rfl|(apply DM.gbT;rfl)|(apply DM.gbF;rfl)|intro h
   rw [setT_setT]
   refine AM.forget H (hret _) ?_
   refine Sr.g ?_
   exact AVLe.own
  ·intro h2
   simp at h2
   have e1 : encV v = enc v.k := by unfold encV; rw [if_neg h1, if_neg h2]; simp
   rw [e1]
   repeat' first|refine Sp.g ?_|(intro b hb;repeat first|(refine fe hb ?_;intro _ _ hb)|(refine fT hb ?_;intro hb))|refine rt ?_|refine gA rfl ?_|refine gB rfl ?_|apply cT rfl|apply cF rfl|(apply DM.gbT;rfl)|(apply DM.gbF;rfl)|intro h
   refine AM.forget H (hret _) ?_
   refine Sr.g ?_
   exact AVLe.own
theorem byteRows_brow (bs : List Nat) : byteRows (bs.map brow) = some (bs.map fun b => UInt8.ofNat b) := by
 induction bs with
 | nil => rfl
 | cons b l ih => simp only [List.map_cons, brow, byteRows, ih]; rfl
theorem setT_eq {H : AHeap} {t n m : Nat} (e : n = m) : H.setT t (.frz 5 1 n) = H.setT t (.frz 5 1 m) := by rw [e]
set_option maxHeartbeats 16000000 in
theorem p23 (p : Prog) : Pure Tryz.prog 23 [p.av] (.vs 1 ((encQ p).map brow)) := by
 refine ok_args fun ok => ?_
 refine pure_intro mo Tryz.func23 c23 fun H => ?_
 unfold e23 r23
 simp only [initEnv, initFrom]
 repeat' first|refine Sp.g ?_|(intro b hb;repeat first|(refine fe hb ?_;intro _ _ hb)|(refine fT hb ?_;intro hb))|refine rt ?_|refine gA rfl ?_|refine gB rfl ?_|apply cT rfl|apply cF rfl|(apply DM.gbT;rfl)|(apply DM.gbF;rfl)|intro h
 (apply DM.pcs (p13 p); (· simp only [go_sem, Nat.reduceBEq, Nat.reduceAdd] <;> rfl); (· exact AVLes.refl _))
 repeat' first|refine Sp.g ?_|(intro b hb;repeat first|(refine fe hb ?_;intro _ _ hb)|(refine fT hb ?_;intro hb))|refine rt ?_|refine gA rfl ?_|refine gB rfl ?_|apply cT rfl|apply cF rfl|(apply DM.gbT;rfl)|(apply DM.gbF;rfl)|intro h
 (apply AM.cond; (· rfl))
 ·intro hv
  have hv' : validP p = false := by simpa using hv
  repeat' first|refine Sp.g ?_|(intro b hb;repeat first|(refine fe hb ?_;intro _ _ hb)|(refine fT hb ?_;intro hb))|refine rt ?_|refine gA rfl ?_|refine gB rfl ?_|apply cT rfl|apply cF rfl|(apply DM.gbT;rfl)|(apply DM.gbF;rfl)|intro h
  refine Sr.g ?_
  unfold encQ
  rw [hv']
  exact AVLe.nil
 intro hv
 have hv' : validP p = true := by simpa using hv
 have vp := VP.of hv'
 have hq : encQ p = encP p := if_pos hv'
 rw [hq]
 clear hv hq
 rename Nat => b1
 have hb1 : H.blk b1 = none := by assumption
 have hnm := vp.name
 have hrole := vp.role
 have nv := vp.nv; have nh := vp.nh; have no := vp.no; have c0 := vp.code0
 have hln := encT_len p.name
 have hlr := encs_len [p.role, ((p.vars.map Var_.row).length : Int)]
 simp only [List.length_cons, List.length_nil] at hlr
 repeat' first|refine Sp.g ?_|(intro b hb;repeat first|(refine fe hb ?_;intro _ _ hb)|(refine fT hb ?_;intro hb))|refine gA rfl ?_|refine gB rfl ?_|apply cT rfl|apply cF rfl|(apply DM.gbT;rfl)|(apply DM.gbF;rfl)|intro h
 (refine AM.reg [.vs 1 (([p.role, ((p.vars.map Var_.row).length : Int)].flatMap enc).map brow)] ?_; simp only [annotate, AV.rows])
 repeat' first|refine Sp.g ?_|(intro b hb;repeat first|(refine fe hb ?_;intro _ _ hb)|(refine fT hb ?_;intro hb))|refine rt ?_|refine gA rfl ?_|refine gB rfl ?_|apply cT rfl|apply cF rfl|(apply DM.gbT;rfl)|(apply DM.gbF;rfl)|intro h|(apply DM.ldD1;(· rfl);(· rfl);(· repeat' first|(apply Lk.go;constructor)|assumption|exact nb ‹_› ‹_›|exact nt ‹_› ‹_›);(· rfl))|(apply DM.ldDA;(· rfl);(· rfl);(· repeat' first|(apply Lk.go;constructor)|assumption|exact nb ‹_› ‹_›|exact nt ‹_› ‹_›);(· exact Nat.le_of_ble_eq_true rfl))
 (apply DM.calD (p66n p.name _ (by omega)); (· intro s hs; simp only [List.mem_singleton] at hs; subst hs; exact ⟨_, rfl, fun r H' h => by (obtain ⟨t, _, _, h⟩ := h; rw [h]; exact setT_blk)⟩); (· rintro ⟨N, hN⟩; exact ⟨_, _, ⟨N, (hN N (Nat.le_refl _)).2, rfl, rfl⟩, fin_setT ⟨N, hN⟩⟩); (· simp only [go_sem, Nat.reduceBEq, Nat.reduceAdd] <;> rfl); (· exact AVLes.refl _))
 rintro r H1 ⟨tk, htk, rfl, rfl⟩
 simp only [put_some]
 have htk0 : H.tok tk = none := by rw [← htk]; exact (t_B rfl).symm
 repeat' first|refine Sp.g ?_|(intro b hb;repeat first|(refine fe hb ?_;intro _ _ hb)|(refine fT hb ?_;intro hb))|refine rt ?_|refine gA rfl ?_|refine gB rfl ?_|apply cT rfl|apply cF rfl|(apply DM.gbT;rfl)|(apply DM.gbF;rfl)|intro h|(apply DM.ldD1;(· rfl);(· rfl);(· repeat' first|(apply Lk.go;constructor)|assumption|exact nb ‹_› ‹_›|exact nt ‹_› ‹_›);(· rfl))|(apply DM.ldDA;(· rfl);(· rfl);(· repeat' first|(apply Lk.go;constructor)|assumption|exact nb ‹_› ‹_›|exact nt ‹_› ‹_›);(· exact Nat.le_of_ble_eq_true rfl))
 (apply DM.pcRs (p67 [p.role, ((p.vars.map Var_.row).length : Int)] (by simp) (by intro n hn; simp at hn; rcases hn with rfl | rfl <;> omega)); (· simp only [go_sem, Nat.reduceBEq, Nat.reduceAdd] <;> rfl); (· exact AVLes.refl _))
 repeat' first|refine Sp.g ?_|(intro b hb;repeat first|(refine fe hb ?_;intro _ _ hb)|(refine fT hb ?_;intro hb))|refine rt ?_|refine gA rfl ?_|refine gB rfl ?_|apply cT rfl|apply cF rfl|(apply DM.gbT;rfl)|(apply DM.gbF;rfl)|intro h
 (apply DM.apO (t := tk); (· rfl); (· exact t_same); (· rfl); (· simp only [List.length_append, List.length_map] at *; omega); (· simp only [List.length_append, List.length_map] at *; unfold maxLen; omega))
 repeat' first|refine Sp.g ?_|(intro b hb;repeat first|(refine fe hb ?_;intro _ _ hb)|(refine fT hb ?_;intro hb))|refine rt ?_|refine gA rfl ?_|refine gB rfl ?_|apply cT rfl|apply cF rfl|(apply DM.gbT;rfl)|(apply DM.gbF;rfl)|intro h
 have hl0 := (vp.lens 0).1
 rw [setT_setT, show (p.vars.map Var_.row).length = p.vars.length from List.length_map .., show (encT p.name).map brow ++ ([p.role, (p.vars.length : Int)].flatMap enc).map brow = (encHd p).map brow from by rw [← List.map_append]; rfl]
 refine AM.eqH (H2 := (H.setB b1 27 p.cells).setT tk (.frz 5 1 ((encHd p).map brow).length)) (setT_eq (by simp [encHd])) ?_
 repeat' first|refine Sp.g ?_|(intro b hb;repeat first|(refine fe hb ?_;intro _ _ hb)|(refine fT hb ?_;intro hb))|refine rt ?_|refine gA rfl ?_|refine gB rfl ?_|apply cT rfl|apply cF rfl|(apply DM.gbT;rfl)|(apply DM.gbF;rfl)|intro h
 refine AM.loopX (X := Nat) 0 (fun i => [(1, .ptr b1 0), (4, .int .i64 (i : Int)), (3, .own tk 1 ((encHd p ++ (p.vars.take i).flatMap encVar).map brow))]) (fun i H' => H' = (H.setB b1 27 p.cells).setT tk (.frz 5 1 ((encHd p ++ (p.vars.take i).flatMap encVar).map brow).length) ∧ i ≤ p.vars.length) (fun i => p.vars.length - i) ?_ ?_ ?_
 ·refine ⟨?_, by omega⟩
  simp
 ·(repeat first | exact envle_nil _ | (refine envle_cons ?_ ?_; · (simp only [go_sem, Nat.reduceBEq, Nat.reduceAdd]; exact AVLe.refl _)))
  all_goals (refine envle_cons ?_ (envle_nil _); simp only [Env.get, Nat.reduceBEq, cond_true, cond_false, beq_self_eq_true]; refine avle_eq ?_; simp)
 rintro i H' ⟨rfl, hi⟩
 repeat' first|refine Sp.g ?_|(intro b hb;repeat first|(refine fe hb ?_;intro _ _ hb)|(refine fT hb ?_;intro hb))|refine rt ?_|refine gA rfl ?_|refine gB rfl ?_|apply cT rfl|apply cF rfl|(apply DM.gbT;rfl)|(apply DM.gbF;rfl)|intro h
 (apply AM.cond; (· rfl))
 ·intro h3
  simp at h3
  obtain ⟨v, hvx⟩ := some_of h3
  have hmem := List.mem_of_getElem? hvx
  have hlen : ((encHd p ++ (p.vars.take i).flatMap encVar).map brow).length ≤ 60000 := by have l1 := vp.lens i; have l2 := vp.lens 1000; have e1 := encs_len [(p.hs.length : Int)]; have e2 := encs_len [(p.os.length : Int)]; have e3 := encs_len [(p.code.length : Int)]; rw [List.take_of_length_le (show p.vars.length ≤ 1000 by omega), List.take_of_length_le (show p.hs.length ≤ 1000 by omega), List.take_of_length_le (show p.os.length ≤ 1000 by omega)] at l2; simp only [List.length_append, List.length_map, List.length_cons, List.length_nil] at *; omega
  generalize hC : (encHd p ++ (p.vars.take i).flatMap encVar).map brow = C at hlen
  have hD : ((encHd p ++ (p.vars.take (i + 1)).flatMap encVar).map brow) = C ++ (encVar v).map brow := by
   rw [← hC, ← List.map_append, List.append_assoc, List.take_add_one, hvx, List.flatMap_append]
   simp
  have hv1 := vp.vars v hmem
  have hv2 := val_facts hv1.2.2.2.2.2.2.2
  have la := encT_len v.name
  have lb := encs_len [v.sort.k, v.sort.lo, v.sort.hi]
  have lc := encV_len v.init
  simp only [List.length_cons, List.length_nil] at lb
  repeat' first|refine Sp.g ?_|(intro b hb;repeat first|(refine fe hb ?_;intro _ _ hb)|(refine fT hb ?_;intro hb))|refine rt ?_|refine gA rfl ?_|refine gB rfl ?_|apply cT rfl|apply cF rfl|(apply DM.gbT;rfl)|(apply DM.gbF;rfl)|intro h
  (apply DM.ixV (row := v.row) (z := (i : Int)) (by omega) (row_get Var_.row hvx); (· rfl); (· rfl))
  repeat' first|refine Sp.g ?_|(intro b hb;repeat first|(refine fe hb ?_;intro _ _ hb)|(refine fT hb ?_;intro hb))|refine gA rfl ?_|refine gB rfl ?_|apply cT rfl|apply cF rfl|(apply DM.gbT;rfl)|(apply DM.gbF;rfl)|intro h
  (refine AM.reg [.vs 1 ((encT v.name).map brow), .vs 1 (([v.sort.k, v.sort.lo, v.sort.hi].flatMap enc).map brow)] ?_; simp only [annotate, AV.rows])
  repeat' first|refine Sp.g ?_|(intro b hb;repeat first|(refine fe hb ?_;intro _ _ hb)|(refine fT hb ?_;intro hb))|refine rt ?_|refine gA rfl ?_|refine gB rfl ?_|apply cT rfl|apply cF rfl|(apply DM.gbT;rfl)|(apply DM.gbF;rfl)|intro h
  (apply DM.pcRs (p66 v.name (by omega)); (· simp only [go_sem, Nat.reduceBEq, Nat.reduceAdd] <;> rfl); (· exact AVLes.refl _))
  repeat' first|refine Sp.g ?_|(intro b hb;repeat first|(refine fe hb ?_;intro _ _ hb)|(refine fT hb ?_;intro hb))|refine rt ?_|refine gA rfl ?_|refine gB rfl ?_|apply cT rfl|apply cF rfl|(apply DM.gbT;rfl)|(apply DM.gbF;rfl)|intro h
  (apply DM.apO (t := tk); (· rfl); (· exact t_B t_same); (· rfl); (· simp only [List.length_append, List.length_map] at *; omega); (· simp only [List.length_append, List.length_map] at *; unfold maxLen; omega))
  repeat' first|refine Sp.g ?_|(intro b hb;repeat first|(refine fe hb ?_;intro _ _ hb)|(refine fT hb ?_;intro hb))|refine rt ?_|refine gA rfl ?_|refine gB rfl ?_|apply cT rfl|apply cF rfl|(apply DM.gbT;rfl)|(apply DM.gbF;rfl)|intro h
  (apply DM.pcRs (p67 [v.sort.k, v.sort.lo, v.sort.hi] (by simp) (by intro n hn; simp at hn; rcases hn with rfl | rfl | rfl <;> omega)); (· simp only [go_sem, Nat.reduceBEq, Nat.reduceAdd] <;> rfl); (· exact AVLes.refl _))
  repeat' first|refine Sp.g ?_|(intro b hb;repeat first|(refine fe hb ?_;intro _ _ hb)|(refine fT hb ?_;intro hb))|refine rt ?_|refine gA rfl ?_|refine gB rfl ?_|apply cT rfl|apply cF rfl|(apply DM.gbT;rfl)|(apply DM.gbF;rfl)|intro h
  (apply DM.apO (t := tk); (· rfl); (· exact (by simp only [List.length_append]; exact t_same)); (· rfl); (· simp only [List.length_append, List.length_map] at *; omega); (· simp only [List.length_append, List.length_map] at *; unfold maxLen; omega))
  repeat' first|refine Sp.g ?_|(intro b hb;repeat first|(refine fe hb ?_;intro _ _ hb)|(refine fT hb ?_;intro hb))|refine rt ?_|refine gA rfl ?_|refine gB rfl ?_|apply cT rfl|apply cF rfl|(apply DM.gbT;rfl)|(apply DM.gbF;rfl)|intro h
  (apply DM.pcs (p68 v.init hv2.1 hv2.2.1 (by omega)); (· simp only [go_sem, Nat.reduceBEq, Nat.reduceAdd] <;> rfl); (· exact AVLes.refl _))
  repeat' first|refine Sp.g ?_|(intro b hb;repeat first|(refine fe hb ?_;intro _ _ hb)|(refine fT hb ?_;intro hb))|refine rt ?_|refine gA rfl ?_|refine gB rfl ?_|apply cT rfl|apply cF rfl|(apply DM.gbT;rfl)|(apply DM.gbF;rfl)|intro h
  rw [setT_setT]
  (apply DM.apO (t := tk); (· rfl); (· exact (by simp only [List.length_append]; exact t_same)); (· rfl); (· simp only [List.length_append, List.length_map] at *; omega); (· simp only [List.length_append, List.length_map] at *; unfold maxLen; omega))
  repeat' first|refine Sp.g ?_|(intro b hb;repeat first|(refine fe hb ?_;intro _ _ hb)|(refine fT hb ?_;intro hb))|refine rt ?_|refine gA rfl ?_|refine gB rfl ?_|apply cT rfl|apply cF rfl|(apply DM.gbT;rfl)|(apply DM.gbF;rfl)|intro h
  rw [setT_setT, show (((C ++ (encT v.name).map brow) ++ ([v.sort.k, v.sort.lo, v.sort.hi].flatMap enc).map brow) ++ (encV v.init).map brow) = C ++ (encVar v).map brow from by unfold encVar; simp only [List.map_append, List.append_assoc]]
  refine AM.forget ((H.setB b1 27 p.cells).setT tk (.frz 5 1 (C ++ (encVar v).map brow).length)) (hsub_own' ?_ ?_) ?_
  ·exact g_ne (by assumption) (by assumption)
  ·simp [encVar, Nat.add_assoc]
  refine AM.roundX (i + 1) ⟨by rw [hD], by omega⟩ ?_ (show p.vars.length - (i + 1) < p.vars.length - i by omega)
  rw [hD]
  (repeat first | exact envle_nil _ | (refine envle_cons ?_ ?_; · (simp only [go_sem, Nat.reduceBEq, Nat.reduceAdd]; exact AVLe.refl _)))
  refine envle_cons ?_ ?_
  ·simp only [go_sem, Nat.reduceBEq, Nat.reduceAdd]
   refine avle_int ?_
   rw [inc64 h3 ok.vars]
  exact envle_cons (AVLe.refl _) (envle_nil _)
 intro h3
 simp at h3
 rw [show i = p.vars.length by omega, List.take_length]
 clear h3 hi
 repeat' first|refine Sp.g ?_|(intro b hb;repeat first|(refine fe hb ?_;intro _ _ hb)|(refine fT hb ?_;intro hb))|refine rt ?_|refine gA rfl ?_|refine gB rfl ?_|apply cT rfl|apply cF rfl|(apply DM.gbT;rfl)|(apply DM.gbF;rfl)|intro h
 (apply DM.pcs (p67 [((p.hs.map Hd.row).length : Int)] (by simp) (by intro n hn; simp at hn; subst hn; omega)); (· simp only [go_sem, Nat.reduceBEq, Nat.reduceAdd] <;> rfl); (· exact AVLes.refl _))
 repeat' first|refine Sp.g ?_|(intro b hb;repeat first|(refine fe hb ?_;intro _ _ hb)|(refine fT hb ?_;intro hb))|refine rt ?_|refine gA rfl ?_|refine gB rfl ?_|apply cT rfl|apply cF rfl|(apply DM.gbT;rfl)|(apply DM.gbF;rfl)|intro h
 have hnl1 := encs_len [((p.hs.map Hd.row).length : Int)]
 simp only [List.length_cons, List.length_nil] at hnl1
 have hpl1 : ((encHd p ++ p.vars.flatMap encVar).map brow).length ≤ 60000 := by have l1 := vp.lens 0; have l2 := vp.lens 1000; have e1 := encs_len [(p.hs.length : Int)]; have e2 := encs_len [(p.os.length : Int)]; have e3 := encs_len [(p.code.length : Int)]; rw [List.take_of_length_le (show p.vars.length ≤ 1000 by omega), List.take_of_length_le (show p.hs.length ≤ 1000 by omega), List.take_of_length_le (show p.os.length ≤ 1000 by omega)] at l2; simp only [List.length_append, List.length_map, List.length_cons, List.length_nil] at *; omega
 generalize hC : (encHd p ++ p.vars.flatMap encVar).map brow = C at hpl1
 (apply DM.apO (t := tk); (· rfl); (· exact t_same); (· rfl); (· simp only [List.length_append, List.length_map] at *; omega); (· simp only [List.length_append, List.length_map] at *; unfold maxLen; omega))
 repeat' first|refine Sp.g ?_|(intro b hb;repeat first|(refine fe hb ?_;intro _ _ hb)|(refine fT hb ?_;intro hb))|refine rt ?_|refine gA rfl ?_|refine gB rfl ?_|apply cT rfl|apply cF rfl|(apply DM.gbT;rfl)|(apply DM.gbF;rfl)|intro h
 rw [setT_setT]
 have hD : (encHd p ++ p.vars.flatMap encVar ++ [(p.hs.length : Int)].flatMap enc).map brow = C ++ ([((p.hs.map Hd.row).length : Int)].flatMap enc).map brow := by rw [← hC, ← List.map_append, List.length_map]
 refine AM.eqH (H2 := (H.setB b1 27 p.cells).setT tk (.frz 5 1 ((encHd p ++ p.vars.flatMap encVar ++ [(p.hs.length : Int)].flatMap enc).map brow).length)) (setT_eq (by rw [hD]; simp)) ?_
 rw [← hD]
 clear hD hpl1 hC hnl1
 repeat' first|refine Sp.g ?_|(intro b hb;repeat first|(refine fe hb ?_;intro _ _ hb)|(refine fT hb ?_;intro hb))|refine rt ?_|refine gA rfl ?_|refine gB rfl ?_|apply cT rfl|apply cF rfl|(apply DM.gbT;rfl)|(apply DM.gbF;rfl)|intro h
 refine AM.loopX (X := Nat) 0 (fun i => [(1, .ptr b1 0), (6, .int .i64 (i : Int)), (3, .own tk 1 ((encHd p ++ p.vars.flatMap encVar ++ [(p.hs.length : Int)].flatMap enc ++ (p.hs.take i).flatMap encH).map brow))]) (fun i H' => H' = (H.setB b1 27 p.cells).setT tk (.frz 5 1 ((encHd p ++ p.vars.flatMap encVar ++ [(p.hs.length : Int)].flatMap enc ++ (p.hs.take i).flatMap encH).map brow).length) ∧ i ≤ p.hs.length) (fun i => p.hs.length - i) ?_ ?_ ?_
 ·refine ⟨?_, by omega⟩
  simp
 ·(repeat first | exact envle_nil _ | (refine envle_cons ?_ ?_; · (simp only [go_sem, Nat.reduceBEq, Nat.reduceAdd]; exact AVLe.refl _)))
  all_goals (refine envle_cons ?_ (envle_nil _); simp only [Env.get, Nat.reduceBEq, cond_true, cond_false, beq_self_eq_true]; refine avle_eq ?_; simp)
 rintro i H' ⟨rfl, hi⟩
 repeat' first|refine Sp.g ?_|(intro b hb;repeat first|(refine fe hb ?_;intro _ _ hb)|(refine fT hb ?_;intro hb))|refine rt ?_|refine gA rfl ?_|refine gB rfl ?_|apply cT rfl|apply cF rfl|(apply DM.gbT;rfl)|(apply DM.gbF;rfl)|intro h
 (apply AM.cond; (· rfl))
 ·intro h3
  simp at h3
  obtain ⟨v, hvx⟩ := some_of h3
  have hmem := List.mem_of_getElem? hvx
  have hlen : ((encHd p ++ p.vars.flatMap encVar ++ [(p.hs.length : Int)].flatMap enc ++ (p.hs.take i).flatMap encH).map brow).length ≤ 60000 := by have l1 := vp.lens i; have l2 := vp.lens 1000; have e1 := encs_len [(p.hs.length : Int)]; have e2 := encs_len [(p.os.length : Int)]; have e3 := encs_len [(p.code.length : Int)]; rw [List.take_of_length_le (show p.vars.length ≤ 1000 by omega), List.take_of_length_le (show p.hs.length ≤ 1000 by omega), List.take_of_length_le (show p.os.length ≤ 1000 by omega)] at l2; simp only [List.length_append, List.length_map, List.length_cons, List.length_nil] at *; omega
  generalize hC : (encHd p ++ p.vars.flatMap encVar ++ [(p.hs.length : Int)].flatMap enc ++ (p.hs.take i).flatMap encH).map brow = C at hlen
  have hD : ((encHd p ++ p.vars.flatMap encVar ++ [(p.hs.length : Int)].flatMap enc ++ (p.hs.take (i + 1)).flatMap encH).map brow) = C ++ (encH v).map brow := by
   rw [← hC, ← List.map_append, List.append_assoc, List.take_add_one, hvx, List.flatMap_append]
   simp
  have hv1 := vp.hs v hmem
  have lb := encs_len [v.peer, v.label, v.entry]
  simp only [List.length_cons, List.length_nil] at lb
  repeat' first|refine Sp.g ?_|(intro b hb;repeat first|(refine fe hb ?_;intro _ _ hb)|(refine fT hb ?_;intro hb))|refine rt ?_|refine gA rfl ?_|refine gB rfl ?_|apply cT rfl|apply cF rfl|(apply DM.gbT;rfl)|(apply DM.gbF;rfl)|intro h
  (apply DM.ixV (row := v.row) (z := (i : Int)) (by omega) (row_get Hd.row hvx); (· rfl); (· rfl))
  repeat' first|refine Sp.g ?_|(intro b hb;repeat first|(refine fe hb ?_;intro _ _ hb)|(refine fT hb ?_;intro hb))|refine rt ?_|refine gA rfl ?_|refine gB rfl ?_|apply cT rfl|apply cF rfl|(apply DM.gbT;rfl)|(apply DM.gbF;rfl)|intro h
  (apply DM.pcs (p67 [v.peer, v.label, v.entry] (by simp) (by intro n hn; simp at hn; rcases hn with rfl | rfl | rfl <;> omega)); (· simp only [go_sem, Nat.reduceBEq, Nat.reduceAdd] <;> rfl); (· exact AVLes.refl _))
  repeat' first|refine Sp.g ?_|(intro b hb;repeat first|(refine fe hb ?_;intro _ _ hb)|(refine fT hb ?_;intro hb))|refine rt ?_|refine gA rfl ?_|refine gB rfl ?_|apply cT rfl|apply cF rfl|(apply DM.gbT;rfl)|(apply DM.gbF;rfl)|intro h
  (apply DM.apO (t := tk); (· rfl); (· exact t_B t_same); (· rfl); (· simp only [List.length_append, List.length_map] at *; omega); (· simp only [List.length_append, List.length_map] at *; unfold maxLen; omega))
  repeat' first|refine Sp.g ?_|(intro b hb;repeat first|(refine fe hb ?_;intro _ _ hb)|(refine fT hb ?_;intro hb))|refine rt ?_|refine gA rfl ?_|refine gB rfl ?_|apply cT rfl|apply cF rfl|(apply DM.gbT;rfl)|(apply DM.gbF;rfl)|intro h
  rw [show C ++ ([v.peer, v.label, v.entry].flatMap enc).map brow = C ++ (encH v).map brow from rfl]
  refine AM.forget ((H.setB b1 27 p.cells).setT tk (.frz 5 1 (C ++ (encH v).map brow).length)) (hsub_own' ?_ ?_) ?_
  ·exact g_ne (by assumption) (by assumption)
  ·simp only [List.length_append]; rfl
  refine AM.roundX (i + 1) ⟨by rw [hD], by omega⟩ ?_ (show p.hs.length - (i + 1) < p.hs.length - i by omega)
  rw [hD]
  (repeat first | exact envle_nil _ | (refine envle_cons ?_ ?_; · (simp only [go_sem, Nat.reduceBEq, Nat.reduceAdd]; exact AVLe.refl _)))
  refine envle_cons ?_ ?_
  ·simp only [go_sem, Nat.reduceBEq, Nat.reduceAdd]
   refine avle_int ?_
   rw [inc64 h3 ok.hs]
  exact envle_cons (AVLe.refl _) (envle_nil _)
 intro h3
 simp at h3
 rw [show i = p.hs.length by omega, List.take_length]
 clear h3 hi
 repeat' first|refine Sp.g ?_|(intro b hb;repeat first|(refine fe hb ?_;intro _ _ hb)|(refine fT hb ?_;intro hb))|refine rt ?_|refine gA rfl ?_|refine gB rfl ?_|apply cT rfl|apply cF rfl|(apply DM.gbT;rfl)|(apply DM.gbF;rfl)|intro h
 (apply DM.pcs (p67 [((p.os.map Of_.row).length : Int)] (by simp) (by intro n hn; simp at hn; subst hn; omega)); (· simp only [go_sem, Nat.reduceBEq, Nat.reduceAdd] <;> rfl); (· exact AVLes.refl _))
 repeat' first|refine Sp.g ?_|(intro b hb;repeat first|(refine fe hb ?_;intro _ _ hb)|(refine fT hb ?_;intro hb))|refine rt ?_|refine gA rfl ?_|refine gB rfl ?_|apply cT rfl|apply cF rfl|(apply DM.gbT;rfl)|(apply DM.gbF;rfl)|intro h
 have hnl2 := encs_len [((p.os.map Of_.row).length : Int)]
 simp only [List.length_cons, List.length_nil] at hnl2
 have hpl2 : ((encHd p ++ p.vars.flatMap encVar ++ [(p.hs.length : Int)].flatMap enc ++ p.hs.flatMap encH).map brow).length ≤ 60000 := by have l1 := vp.lens 0; have l2 := vp.lens 1000; have e1 := encs_len [(p.hs.length : Int)]; have e2 := encs_len [(p.os.length : Int)]; have e3 := encs_len [(p.code.length : Int)]; rw [List.take_of_length_le (show p.vars.length ≤ 1000 by omega), List.take_of_length_le (show p.hs.length ≤ 1000 by omega), List.take_of_length_le (show p.os.length ≤ 1000 by omega)] at l2; simp only [List.length_append, List.length_map, List.length_cons, List.length_nil] at *; omega
 generalize hC : (encHd p ++ p.vars.flatMap encVar ++ [(p.hs.length : Int)].flatMap enc ++ p.hs.flatMap encH).map brow = C at hpl2
 (apply DM.apO (t := tk); (· rfl); (· exact t_same); (· rfl); (· simp only [List.length_append, List.length_map] at *; omega); (· simp only [List.length_append, List.length_map] at *; unfold maxLen; omega))
 repeat' first|refine Sp.g ?_|(intro b hb;repeat first|(refine fe hb ?_;intro _ _ hb)|(refine fT hb ?_;intro hb))|refine rt ?_|refine gA rfl ?_|refine gB rfl ?_|apply cT rfl|apply cF rfl|(apply DM.gbT;rfl)|(apply DM.gbF;rfl)|intro h
 rw [setT_setT]
 have hD : (encHd p ++ p.vars.flatMap encVar ++ [(p.hs.length : Int)].flatMap enc ++ p.hs.flatMap encH ++ [(p.os.length : Int)].flatMap enc).map brow = C ++ ([((p.os.map Of_.row).length : Int)].flatMap enc).map brow := by rw [← hC, ← List.map_append, List.length_map]
 refine AM.eqH (H2 := (H.setB b1 27 p.cells).setT tk (.frz 5 1 ((encHd p ++ p.vars.flatMap encVar ++ [(p.hs.length : Int)].flatMap enc ++ p.hs.flatMap encH ++ [(p.os.length : Int)].flatMap enc).map brow).length)) (setT_eq (by rw [hD]; simp)) ?_
 rw [← hD]
 clear hD hpl2 hC hnl2
 repeat' first|refine Sp.g ?_|(intro b hb;repeat first|(refine fe hb ?_;intro _ _ hb)|(refine fT hb ?_;intro hb))|refine rt ?_|refine gA rfl ?_|refine gB rfl ?_|apply cT rfl|apply cF rfl|(apply DM.gbT;rfl)|(apply DM.gbF;rfl)|intro h
 refine AM.loopX (X := Nat) 0 (fun i => [(1, .ptr b1 0), (8, .int .i64 (i : Int)), (3, .own tk 1 ((encHd p ++ p.vars.flatMap encVar ++ [(p.hs.length : Int)].flatMap enc ++ p.hs.flatMap encH ++ [(p.os.length : Int)].flatMap enc ++ (p.os.take i).flatMap encO).map brow))]) (fun i H' => H' = (H.setB b1 27 p.cells).setT tk (.frz 5 1 ((encHd p ++ p.vars.flatMap encVar ++ [(p.hs.length : Int)].flatMap enc ++ p.hs.flatMap encH ++ [(p.os.length : Int)].flatMap enc ++ (p.os.take i).flatMap encO).map brow).length) ∧ i ≤ p.os.length) (fun i => p.os.length - i) ?_ ?_ ?_
 ·refine ⟨?_, by omega⟩
  simp
 ·(repeat first | exact envle_nil _ | (refine envle_cons ?_ ?_; · (simp only [go_sem, Nat.reduceBEq, Nat.reduceAdd]; exact AVLe.refl _)))
  all_goals (refine envle_cons ?_ (envle_nil _); simp only [Env.get, Nat.reduceBEq, cond_true, cond_false, beq_self_eq_true]; refine avle_eq ?_; simp)
 rintro i H' ⟨rfl, hi⟩
 repeat' first|refine Sp.g ?_|(intro b hb;repeat first|(refine fe hb ?_;intro _ _ hb)|(refine fT hb ?_;intro hb))|refine rt ?_|refine gA rfl ?_|refine gB rfl ?_|apply cT rfl|apply cF rfl|(apply DM.gbT;rfl)|(apply DM.gbF;rfl)|intro h
 (apply AM.cond; (· rfl))
 ·intro h3
  simp at h3
  obtain ⟨v, hvx⟩ := some_of h3
  have hmem := List.mem_of_getElem? hvx
  have hlen : ((encHd p ++ p.vars.flatMap encVar ++ [(p.hs.length : Int)].flatMap enc ++ p.hs.flatMap encH ++ [(p.os.length : Int)].flatMap enc ++ (p.os.take i).flatMap encO).map brow).length ≤ 60000 := by have l1 := vp.lens i; have l2 := vp.lens 1000; have e1 := encs_len [(p.hs.length : Int)]; have e2 := encs_len [(p.os.length : Int)]; have e3 := encs_len [(p.code.length : Int)]; rw [List.take_of_length_le (show p.vars.length ≤ 1000 by omega), List.take_of_length_le (show p.hs.length ≤ 1000 by omega), List.take_of_length_le (show p.os.length ≤ 1000 by omega)] at l2; simp only [List.length_append, List.length_map, List.length_cons, List.length_nil] at *; omega
  generalize hC : (encHd p ++ p.vars.flatMap encVar ++ [(p.hs.length : Int)].flatMap enc ++ p.hs.flatMap encH ++ [(p.os.length : Int)].flatMap enc ++ (p.os.take i).flatMap encO).map brow = C at hlen
  have hD : ((encHd p ++ p.vars.flatMap encVar ++ [(p.hs.length : Int)].flatMap enc ++ p.hs.flatMap encH ++ [(p.os.length : Int)].flatMap enc ++ (p.os.take (i + 1)).flatMap encO).map brow) = C ++ (encO v).map brow := by
   rw [← hC, ← List.map_append, List.append_assoc, List.take_add_one, hvx, List.flatMap_append]
   simp
  have hv1 := vp.os v hmem
  have lb := encs_len [v.peer, v.label, v.cond, v.args]
  simp only [List.length_cons, List.length_nil] at lb
  repeat' first|refine Sp.g ?_|(intro b hb;repeat first|(refine fe hb ?_;intro _ _ hb)|(refine fT hb ?_;intro hb))|refine rt ?_|refine gA rfl ?_|refine gB rfl ?_|apply cT rfl|apply cF rfl|(apply DM.gbT;rfl)|(apply DM.gbF;rfl)|intro h
  (apply DM.ixV (row := v.row) (z := (i : Int)) (by omega) (row_get Of_.row hvx); (· rfl); (· rfl))
  repeat' first|refine Sp.g ?_|(intro b hb;repeat first|(refine fe hb ?_;intro _ _ hb)|(refine fT hb ?_;intro hb))|refine rt ?_|refine gA rfl ?_|refine gB rfl ?_|apply cT rfl|apply cF rfl|(apply DM.gbT;rfl)|(apply DM.gbF;rfl)|intro h
  (apply DM.pcs (p67 [v.peer, v.label, v.cond, v.args] (by simp) (by intro n hn; simp at hn; rcases hn with rfl | rfl | rfl | rfl <;> omega)); (· simp only [go_sem, Nat.reduceBEq, Nat.reduceAdd] <;> rfl); (· exact AVLes.refl _))
  repeat' first|refine Sp.g ?_|(intro b hb;repeat first|(refine fe hb ?_;intro _ _ hb)|(refine fT hb ?_;intro hb))|refine rt ?_|refine gA rfl ?_|refine gB rfl ?_|apply cT rfl|apply cF rfl|(apply DM.gbT;rfl)|(apply DM.gbF;rfl)|intro h
  (apply DM.apO (t := tk); (· rfl); (· exact t_B t_same); (· rfl); (· simp only [List.length_append, List.length_map] at *; omega); (· simp only [List.length_append, List.length_map] at *; unfold maxLen; omega))
  repeat' first|refine Sp.g ?_|(intro b hb;repeat first|(refine fe hb ?_;intro _ _ hb)|(refine fT hb ?_;intro hb))|refine rt ?_|refine gA rfl ?_|refine gB rfl ?_|apply cT rfl|apply cF rfl|(apply DM.gbT;rfl)|(apply DM.gbF;rfl)|intro h
  rw [show C ++ ([v.peer, v.label, v.cond, v.args].flatMap enc).map brow = C ++ (encO v).map brow from rfl]
  refine AM.forget ((H.setB b1 27 p.cells).setT tk (.frz 5 1 (C ++ (encO v).map brow).length)) (hsub_own' ?_ ?_) ?_
  ·exact g_ne (by assumption) (by assumption)
  ·simp only [List.length_append]; rfl
  refine AM.roundX (i + 1) ⟨by rw [hD], by omega⟩ ?_ (show p.os.length - (i + 1) < p.os.length - i by omega)
  rw [hD]
  (repeat first | exact envle_nil _ | (refine envle_cons ?_ ?_; · (simp only [go_sem, Nat.reduceBEq, Nat.reduceAdd]; exact AVLe.refl _)))
  refine envle_cons ?_ ?_
  ·simp only [go_sem, Nat.reduceBEq, Nat.reduceAdd]
   refine avle_int ?_
   rw [inc64 h3 ok.os]
  exact envle_cons (AVLe.refl _) (envle_nil _)
 intro h3
 simp at h3
 rw [show i = p.os.length by omega, List.take_length]
 clear h3 hi
 repeat' first|refine Sp.g ?_|(intro b hb;repeat first|(refine fe hb ?_;intro _ _ hb)|(refine fT hb ?_;intro hb))|refine rt ?_|refine gA rfl ?_|refine gB rfl ?_|apply cT rfl|apply cF rfl|(apply DM.gbT;rfl)|(apply DM.gbF;rfl)|intro h
 (apply DM.pcs (p67 [((p.code.map Ins_.row).length : Int)] (by simp) (by intro n hn; simp at hn; subst hn; omega)); (· simp only [go_sem, Nat.reduceBEq, Nat.reduceAdd] <;> rfl); (· exact AVLes.refl _))
 repeat' first|refine Sp.g ?_|(intro b hb;repeat first|(refine fe hb ?_;intro _ _ hb)|(refine fT hb ?_;intro hb))|refine rt ?_|refine gA rfl ?_|refine gB rfl ?_|apply cT rfl|apply cF rfl|(apply DM.gbT;rfl)|(apply DM.gbF;rfl)|intro h
 have hnl3 := encs_len [((p.code.map Ins_.row).length : Int)]
 simp only [List.length_cons, List.length_nil] at hnl3
 have hpl3 : ((encHd p ++ p.vars.flatMap encVar ++ [(p.hs.length : Int)].flatMap enc ++ p.hs.flatMap encH ++ [(p.os.length : Int)].flatMap enc ++ p.os.flatMap encO).map brow).length ≤ 60000 := by have l1 := vp.lens 0; have l2 := vp.lens 1000; have e1 := encs_len [(p.hs.length : Int)]; have e2 := encs_len [(p.os.length : Int)]; have e3 := encs_len [(p.code.length : Int)]; rw [List.take_of_length_le (show p.vars.length ≤ 1000 by omega), List.take_of_length_le (show p.hs.length ≤ 1000 by omega), List.take_of_length_le (show p.os.length ≤ 1000 by omega)] at l2; simp only [List.length_append, List.length_map, List.length_cons, List.length_nil] at *; omega
 generalize hC : (encHd p ++ p.vars.flatMap encVar ++ [(p.hs.length : Int)].flatMap enc ++ p.hs.flatMap encH ++ [(p.os.length : Int)].flatMap enc ++ p.os.flatMap encO).map brow = C at hpl3
 (apply DM.apO (t := tk); (· rfl); (· exact t_same); (· rfl); (· simp only [List.length_append, List.length_map] at *; omega); (· simp only [List.length_append, List.length_map] at *; unfold maxLen; omega))
 repeat' first|refine Sp.g ?_|(intro b hb;repeat first|(refine fe hb ?_;intro _ _ hb)|(refine fT hb ?_;intro hb))|refine rt ?_|refine gA rfl ?_|refine gB rfl ?_|apply cT rfl|apply cF rfl|(apply DM.gbT;rfl)|(apply DM.gbF;rfl)|intro h
 rw [setT_setT]
 have hD : (encHd p ++ p.vars.flatMap encVar ++ [(p.hs.length : Int)].flatMap enc ++ p.hs.flatMap encH ++ [(p.os.length : Int)].flatMap enc ++ p.os.flatMap encO ++ [(p.code.length : Int)].flatMap enc).map brow = C ++ ([((p.code.map Ins_.row).length : Int)].flatMap enc).map brow := by rw [← hC, ← List.map_append, List.length_map]
 refine AM.eqH (H2 := (H.setB b1 27 p.cells).setT tk (.frz 5 1 ((encHd p ++ p.vars.flatMap encVar ++ [(p.hs.length : Int)].flatMap enc ++ p.hs.flatMap encH ++ [(p.os.length : Int)].flatMap enc ++ p.os.flatMap encO ++ [(p.code.length : Int)].flatMap enc).map brow).length)) (setT_eq (by rw [hD]; simp)) ?_
 rw [← hD]
 clear hD hpl3 hC hnl3
 repeat' first|refine Sp.g ?_|(intro b hb;repeat first|(refine fe hb ?_;intro _ _ hb)|(refine fT hb ?_;intro hb))|refine rt ?_|refine gA rfl ?_|refine gB rfl ?_|apply cT rfl|apply cF rfl|(apply DM.gbT;rfl)|(apply DM.gbF;rfl)|intro h
 refine AM.loopX (X := Nat) 0 (fun i => [(1, .ptr b1 0), (10, .int .i64 (i : Int)), (3, .own tk 1 ((encHd p ++ p.vars.flatMap encVar ++ [(p.hs.length : Int)].flatMap enc ++ p.hs.flatMap encH ++ [(p.os.length : Int)].flatMap enc ++ p.os.flatMap encO ++ [(p.code.length : Int)].flatMap enc ++ (p.code.take i).flatMap encI).map brow))]) (fun i H' => H' = (H.setB b1 27 p.cells).setT tk (.frz 5 1 ((encHd p ++ p.vars.flatMap encVar ++ [(p.hs.length : Int)].flatMap enc ++ p.hs.flatMap encH ++ [(p.os.length : Int)].flatMap enc ++ p.os.flatMap encO ++ [(p.code.length : Int)].flatMap enc ++ (p.code.take i).flatMap encI).map brow).length) ∧ i ≤ p.code.length) (fun i => p.code.length - i) ?_ ?_ ?_
 ·refine ⟨?_, by omega⟩
  simp
 ·(repeat first | exact envle_nil _ | (refine envle_cons ?_ ?_; · (simp only [go_sem, Nat.reduceBEq, Nat.reduceAdd]; exact AVLe.refl _)))
  all_goals (refine envle_cons ?_ (envle_nil _); simp only [Env.get, Nat.reduceBEq, cond_true, cond_false, beq_self_eq_true]; refine avle_eq ?_; simp)
 rintro i H' ⟨rfl, hi⟩
 repeat' first|refine Sp.g ?_|(intro b hb;repeat first|(refine fe hb ?_;intro _ _ hb)|(refine fT hb ?_;intro hb))|refine rt ?_|refine gA rfl ?_|refine gB rfl ?_|apply cT rfl|apply cF rfl|(apply DM.gbT;rfl)|(apply DM.gbF;rfl)|intro h
 (apply AM.cond; (· rfl))
 ·intro h3
  simp at h3
  obtain ⟨v, hvx⟩ := some_of h3
  have hmem := List.mem_of_getElem? hvx
  have hlen : ((encHd p ++ p.vars.flatMap encVar ++ [(p.hs.length : Int)].flatMap enc ++ p.hs.flatMap encH ++ [(p.os.length : Int)].flatMap enc ++ p.os.flatMap encO ++ [(p.code.length : Int)].flatMap enc ++ (p.code.take i).flatMap encI).map brow).length ≤ 60000 := by have l1 := vp.lens i; have l2 := vp.lens 1000; have e1 := encs_len [(p.hs.length : Int)]; have e2 := encs_len [(p.os.length : Int)]; have e3 := encs_len [(p.code.length : Int)]; rw [List.take_of_length_le (show p.vars.length ≤ 1000 by omega), List.take_of_length_le (show p.hs.length ≤ 1000 by omega), List.take_of_length_le (show p.os.length ≤ 1000 by omega)] at l2; simp only [List.length_append, List.length_map, List.length_cons, List.length_nil] at *; omega
  generalize hC : (encHd p ++ p.vars.flatMap encVar ++ [(p.hs.length : Int)].flatMap enc ++ p.hs.flatMap encH ++ [(p.os.length : Int)].flatMap enc ++ p.os.flatMap encO ++ [(p.code.length : Int)].flatMap enc ++ (p.code.take i).flatMap encI).map brow = C at hlen
  have hD : ((encHd p ++ p.vars.flatMap encVar ++ [(p.hs.length : Int)].flatMap enc ++ p.hs.flatMap encH ++ [(p.os.length : Int)].flatMap enc ++ p.os.flatMap encO ++ [(p.code.length : Int)].flatMap enc ++ (p.code.take (i + 1)).flatMap encI).map brow) = C ++ (encI v).map brow := by
   rw [← hC, ← List.map_append, List.append_assoc, List.take_add_one, hvx, List.flatMap_append]
   simp
  have hv1 := formed_facts (vp.code v hmem)
  have lb := encs_len [v.op, v.n]
  have la := encT_len v.s
  simp only [List.length_cons, List.length_nil] at lb
  repeat' first|refine Sp.g ?_|(intro b hb;repeat first|(refine fe hb ?_;intro _ _ hb)|(refine fT hb ?_;intro hb))|refine gA rfl ?_|refine gB rfl ?_|apply cT rfl|apply cF rfl|(apply DM.gbT;rfl)|(apply DM.gbF;rfl)|intro h
  (refine AM.reg [.vs 1 (([v.op, v.n].flatMap enc).map brow), .vs 1 ((encT v.s).map brow)] ?_; simp only [annotate, AV.rows])
  repeat' first|refine Sp.g ?_|(intro b hb;repeat first|(refine fe hb ?_;intro _ _ hb)|(refine fT hb ?_;intro hb))|refine rt ?_|refine gA rfl ?_|refine gB rfl ?_|apply cT rfl|apply cF rfl|(apply DM.gbT;rfl)|(apply DM.gbF;rfl)|intro h
  (apply DM.ixV (row := v.row) (z := (i : Int)) (by omega) (row_get Ins_.row hvx); (· rfl); (· rfl))
  repeat' first|refine Sp.g ?_|(intro b hb;repeat first|(refine fe hb ?_;intro _ _ hb)|(refine fT hb ?_;intro hb))|refine rt ?_|refine gA rfl ?_|refine gB rfl ?_|apply cT rfl|apply cF rfl|(apply DM.gbT;rfl)|(apply DM.gbF;rfl)|intro h
  (apply DM.ixV (row := v.row) (z := (i : Int)) (by omega) (row_get Ins_.row hvx); (· rfl); (· rfl))
  repeat' first|refine Sp.g ?_|(intro b hb;repeat first|(refine fe hb ?_;intro _ _ hb)|(refine fT hb ?_;intro hb))|refine rt ?_|refine gA rfl ?_|refine gB rfl ?_|apply cT rfl|apply cF rfl|(apply DM.gbT;rfl)|(apply DM.gbF;rfl)|intro h
  (apply DM.pcRs (p67 [v.op, v.n] (by simp) (by intro n hn; simp at hn; rcases hn with rfl | rfl <;> omega)); (· simp only [go_sem, Nat.reduceBEq, Nat.reduceAdd] <;> rfl); (· exact AVLes.refl _))
  repeat' first|refine Sp.g ?_|(intro b hb;repeat first|(refine fe hb ?_;intro _ _ hb)|(refine fT hb ?_;intro hb))|refine rt ?_|refine gA rfl ?_|refine gB rfl ?_|apply cT rfl|apply cF rfl|(apply DM.gbT;rfl)|(apply DM.gbF;rfl)|intro h
  (apply DM.apO (t := tk); (· rfl); (· exact t_same); (· rfl); (· simp only [List.length_append, List.length_map] at *; omega); (· simp only [List.length_append, List.length_map] at *; unfold maxLen; omega))
  repeat' first|refine Sp.g ?_|(intro b hb;repeat first|(refine fe hb ?_;intro _ _ hb)|(refine fT hb ?_;intro hb))|refine rt ?_|refine gA rfl ?_|refine gB rfl ?_|apply cT rfl|apply cF rfl|(apply DM.gbT;rfl)|(apply DM.gbF;rfl)|intro h
  (apply DM.ixV (row := v.row) (z := (i : Int)) (by omega) (row_get Ins_.row hvx); (· rfl); (· rfl))
  repeat' first|refine Sp.g ?_|(intro b hb;repeat first|(refine fe hb ?_;intro _ _ hb)|(refine fT hb ?_;intro hb))|refine rt ?_|refine gA rfl ?_|refine gB rfl ?_|apply cT rfl|apply cF rfl|(apply DM.gbT;rfl)|(apply DM.gbF;rfl)|intro h
  (apply DM.pcRs (p66 v.s (by omega)); (· simp only [go_sem, Nat.reduceBEq, Nat.reduceAdd] <;> rfl); (· exact AVLes.refl _))
  repeat' first|refine Sp.g ?_|(intro b hb;repeat first|(refine fe hb ?_;intro _ _ hb)|(refine fT hb ?_;intro hb))|refine rt ?_|refine gA rfl ?_|refine gB rfl ?_|apply cT rfl|apply cF rfl|(apply DM.gbT;rfl)|(apply DM.gbF;rfl)|intro h
  (apply DM.apO (t := tk); (· rfl); (· exact (by simp only [List.length_append]; exact t_same)); (· rfl); (· simp only [List.length_append, List.length_map] at *; omega); (· simp only [List.length_append, List.length_map] at *; unfold maxLen; omega))
  repeat' first|refine Sp.g ?_|(intro b hb;repeat first|(refine fe hb ?_;intro _ _ hb)|(refine fT hb ?_;intro hb))|refine rt ?_|refine gA rfl ?_|refine gB rfl ?_|apply cT rfl|apply cF rfl|(apply DM.gbT;rfl)|(apply DM.gbF;rfl)|intro h
  rw [setT_setT, setT_setT, show ((C ++ ([v.op, v.n].flatMap enc).map brow) ++ (encT v.s).map brow) = C ++ (encI v).map brow from by unfold encI; simp only [List.map_append, List.append_assoc]]
  refine AM.eqH (H2 := (H.setB b1 27 p.cells).setT tk (.frz 5 1 (C ++ (encI v).map brow).length)) (setT_eq (by simp [encI, Nat.add_assoc])) ?_
  refine AM.roundX (i + 1) ⟨by rw [hD], by omega⟩ ?_ (show p.code.length - (i + 1) < p.code.length - i by omega)
  rw [hD]
  (repeat first | exact envle_nil _ | (refine envle_cons ?_ ?_; · (simp only [go_sem, Nat.reduceBEq, Nat.reduceAdd]; exact AVLe.refl _)))
  refine envle_cons ?_ ?_
  ·simp only [go_sem, Nat.reduceBEq, Nat.reduceAdd]
   refine avle_int ?_
   rw [inc64 h3 ok.code]
  exact envle_cons (AVLe.refl _) (envle_nil _)
 intro h3
 simp at h3
 rw [show i = p.code.length by omega, List.take_length]
 clear h3 hi
 repeat' first|refine Sp.g ?_|(intro b hb;repeat first|(refine fe hb ?_;intro _ _ hb)|(refine fT hb ?_;intro hb))|refine rt ?_|refine gA rfl ?_|refine gB rfl ?_|apply cT rfl|apply cF rfl|(apply DM.gbT;rfl)|(apply DM.gbF;rfl)|intro h
 refine Sr.g ?_
 exact AVLe.own
section
variable {P : Program} {d : Nat} {l : List EI} {env : Env} {H : AHeap} {K : Env → AHeap → Prop} {Rp : AV → AHeap → Prop} {x : EOpd} {rows : List (List AV)} {s : List UInt8}
theorem DM.cvS (hb : byteRows rows = some s) (hx : x.ev env = .vs 1 rows) (h : DM P l ((d, .str s) :: env) H K Rp) : DM P (⟨some d, none, .convS false x⟩ :: l) env H K Rp := by
 refine DM.de (.det (.str s)) rfl (.pure ?_) fun _ _ => h
 simp only [peval, hx, hb]
 rfl
end
theorem p22 (xs ys : List Nat) : Pure Tryz.prog 22 [.vs 1 (xs.map brow), .vs 1 (ys.map brow)] (.bool (decide (xs.map UInt8.ofNat = ys.map UInt8.ofNat))) := by
 refine pure_intro mo Tryz.func22 c22 fun H => ?_
 unfold e22 r22
 simp only [initEnv, initFrom]
 repeat' first|refine Sp.g ?_|(intro b hb;repeat first|(refine fe hb ?_;intro _ _ hb)|(refine fT hb ?_;intro hb))|refine rt ?_|refine gA rfl ?_|refine gB rfl ?_|apply cT rfl|apply cF rfl|(apply DM.gbT;rfl)|(apply DM.gbF;rfl)|intro h
 apply DM.cvS (byteRows_brow xs) (by rfl)
 repeat' first|refine Sp.g ?_|(intro b hb;repeat first|(refine fe hb ?_;intro _ _ hb)|(refine fT hb ?_;intro hb))|refine rt ?_|refine gA rfl ?_|refine gB rfl ?_|apply cT rfl|apply cF rfl|(apply DM.gbT;rfl)|(apply DM.gbF;rfl)|intro h
 apply DM.cvS (byteRows_brow ys) (by rfl)
 repeat' first|refine Sp.g ?_|(intro b hb;repeat first|(refine fe hb ?_;intro _ _ hb)|(refine fT hb ?_;intro hb))|refine rt ?_|refine gA rfl ?_|refine gB rfl ?_|apply cT rfl|apply cF rfl|(apply DM.gbT;rfl)|(apply DM.gbF;rfl)|intro h
 refine Sr.g ?_
 refine avle_eq ?_
 rw [AV.bool.injEq]
end Go.Aw.T
namespace Go.Proofs
open Go.Shelf
def Tryz.laysM171_ren : Go.Shelf.Ren := ⟨fun | 171 => 46 | 243 => 89 | 246 => 117 | 283 => 133 | 284 => 134 | 285 => 135 | 286 => 136 | 129 => 147 | 317 => 146 | 318 => 148 | 319 => 149 | 320 => 150 | 337 => 157 | 338 => 158 | n => n, fun | 3 => 3 | 9 => 9 | 2 => 2 | 4 => 4 | 171 => 167 | 0 => 0 | 53 => 144 | 37 => 49 | 5 => 5 | 173 => 170 | 212 => 183 | 51 => 184 | 20 => 20 | 213 => 185 | 46 => 160 | 232 => 195 | 233 => 196 | n => n, fun | 17 => 3 | 18 => 4 | 19 => 5 | n => n⟩
theorem Tryz.laysM171 : Go.Proofs.LaysM.n171 Tryz.prog Tryz.laysM171_ren := {
 mixed := by kernel_rfl
 f129 := Tryz.func147.trans (congrArg some (by kernel_rfl))
 f171 := Tryz.func46.trans (congrArg some (by kernel_rfl))
 f243 := Tryz.func89.trans (congrArg some (by kernel_rfl))
 f246 := Tryz.func117.trans (congrArg some (by kernel_rfl))
 f283 := Tryz.func133.trans (congrArg some (by kernel_rfl))
 f284 := Tryz.func134.trans (congrArg some (by kernel_rfl))
 f285 := Tryz.func135.trans (congrArg some (by kernel_rfl))
 f286 := Tryz.func136.trans (congrArg some (by kernel_rfl))
 f317 := Tryz.func146.trans (congrArg some (by kernel_rfl))
 f318 := Tryz.func148.trans (congrArg some (by kernel_rfl))
 f319 := Tryz.func149.trans (congrArg some (by kernel_rfl))
 f320 := Tryz.func150.trans (congrArg some (by kernel_rfl))
 f337 := Tryz.func157.trans (congrArg some (by kernel_rfl))
 f338 := Tryz.func158.trans (congrArg some (by kernel_rfl))
 t0 := Tryz.underlying0
 a0 := Tryz.isAgg0
 z0 := Tryz.sizeOf0
 v0 := Tryz.zeroValue0
 t2 := Tryz.underlying2
 a2 := Tryz.isAgg2
 z2 := Tryz.sizeOf2
 v2 := Tryz.zeroValue2
 t3 := Tryz.underlying3
 a3 := Tryz.isAgg3
 z3 := Tryz.sizeOf3
 v3 := Tryz.zeroValue3
 t4 := Tryz.underlying4
 a4 := Tryz.isAgg4
 z4 := Tryz.sizeOf4
 v4 := Tryz.zeroValue4
 t5 := Tryz.underlying5
 a5 := Tryz.isAgg5
 z5 := Tryz.sizeOf5
 v5 := Tryz.zeroValue5
 t9 := Tryz.underlying9
 a9 := Tryz.isAgg9
 z9 := Tryz.sizeOf9
 v9 := Tryz.zeroValue9
 t20 := Tryz.underlying20
 a20 := Tryz.isAgg20
 z20 := Tryz.sizeOf20
 v20 := Tryz.zeroValue20
 t37 := Tryz.underlying49
 a37 := Tryz.isAgg49
 z37 := Tryz.sizeOf49
 v37 := Tryz.zeroValue49
 t46 := Tryz.underlying160
 a46 := Tryz.isAgg160
 z46 := Tryz.sizeOf160
 v46 := Tryz.zeroValue160
 t51 := Tryz.underlying184
 a51 := Tryz.isAgg184
 z51 := Tryz.sizeOf184
 v51 := Tryz.zeroValue184
 t53 := Tryz.underlying144
 a53 := Tryz.isAgg144
 z53 := Tryz.sizeOf144
 v53 := Tryz.zeroValue144
 t171 := Tryz.underlying167
 a171 := Tryz.isAgg167
 z171 := Tryz.sizeOf167
 v171 := Tryz.zeroValue167
 t173 := Tryz.underlying170
 a173 := Tryz.isAgg170
 z173 := Tryz.sizeOf170
 v173 := Tryz.zeroValue170
 t212 := Tryz.underlying183
 a212 := Tryz.isAgg183
 z212 := Tryz.sizeOf183
 v212 := Tryz.zeroValue183
 t213 := Tryz.underlying185
 a213 := Tryz.isAgg185
 z213 := Tryz.sizeOf185
 t232 := Tryz.underlying195
 a232 := Tryz.isAgg195
 z232 := Tryz.sizeOf195
 v232 := Tryz.zeroValue195
 t233 := Tryz.underlying196
 a233 := Tryz.isAgg196
 z233 := Tryz.sizeOf196
 v233 := Tryz.zeroValue196
 g17 := by kernel_rfl
 g18 := by kernel_rfl
 g19 := by kernel_rfl
 i0 := by kernel_rfl
 i2 := by kernel_rfl
 i3 := by kernel_rfl
 i4 := by kernel_rfl
 i5 := by kernel_rfl
 i9 := by kernel_rfl
 i20 := by kernel_rfl
 i37 := by kernel_rfl
 i46 := by kernel_rfl
 i51 := by kernel_rfl
 i53 := by kernel_rfl
 i171 := by kernel_rfl
 i173 := by kernel_rfl
 i212 := by kernel_rfl
 i232 := by kernel_rfl
 i233 := by kernel_rfl
 m17 := by kernel_rfl
 m18 := by kernel_rfl
 m19 := by kernel_rfl }
def Tryz.lays217_ren : Go.Shelf.Ren := ⟨fun | 217 => 137 | 266 => 151 | n => n, fun | 9 => 9 | 5 => 5 | 3 => 3 | n => n, fun | n => n⟩
theorem Tryz.lays217 : Go.Proofs.Lays.n217 Tryz.prog Tryz.lays217_ren := {
 mixed := by kernel_rfl
 f217 := Tryz.func137.trans (congrArg some (by kernel_rfl))
 f266 := Tryz.func151.trans (congrArg some (by kernel_rfl))
 t3 := Tryz.underlying3
 a3 := Tryz.isAgg3
 z3 := Tryz.sizeOf3
 v3 := Tryz.zeroValue3
 t5 := Tryz.underlying5
 a5 := Tryz.isAgg5
 z5 := Tryz.sizeOf5
 v5 := Tryz.zeroValue5
 t9 := Tryz.underlying9
 a9 := Tryz.isAgg9
 z9 := Tryz.sizeOf9
 v9 := Tryz.zeroValue9 }
def Tryz.ren : Go.Shelf.Ren := ⟨fun | 169 => 88 | 167 => 87 | 240 => 116 | 276 => 132 | n => n, fun | 70 => 129 | 9 => 9 | 0 => 0 | 72 => 131 | 37 => 49 | 127 => 148 | 3 => 3 | 5 => 5 | 4 => 4 | 75 => 97 | 164 => 165 | 80 => 133 | 20 => 20 | n => n, fun | n => n⟩
theorem Tryz.lays167b : Go.Proofs.Lays.n167 Tryz.prog Tryz.ren := {
 mixed := by kernel_rfl
 f167 := Tryz.func87.trans (congrArg some (by kernel_rfl))
 f240 := Tryz.func116.trans (congrArg some (by kernel_rfl))
 f276 := Tryz.func132.trans (congrArg some (by kernel_rfl))
 t0 := Tryz.underlying0
 a0 := Tryz.isAgg0
 z0 := Tryz.sizeOf0
 v0 := Tryz.zeroValue0
 t4 := Tryz.underlying4
 a4 := Tryz.isAgg4
 z4 := Tryz.sizeOf4
 v4 := Tryz.zeroValue4
 t5 := Tryz.underlying5
 a5 := Tryz.isAgg5
 z5 := Tryz.sizeOf5
 v5 := Tryz.zeroValue5
 t9 := Tryz.underlying9
 a9 := Tryz.isAgg9
 z9 := Tryz.sizeOf9
 v9 := Tryz.zeroValue9
 t20 := Tryz.underlying20
 a20 := Tryz.isAgg20
 z20 := Tryz.sizeOf20
 v20 := Tryz.zeroValue20
 t37 := Tryz.underlying49
 a37 := Tryz.isAgg49
 z37 := Tryz.sizeOf49
 v37 := Tryz.zeroValue49
 t70 := Tryz.underlying129
 a70 := Tryz.isAgg129
 z70 := Tryz.sizeOf129
 v70 := Tryz.zeroValue129
 t72 := Tryz.underlying131
 a72 := Tryz.isAgg131
 z72 := Tryz.sizeOf131
 v72 := Tryz.zeroValue131
 t75 := Tryz.underlying97
 a75 := Tryz.isAgg97
 z75 := Tryz.sizeOf97
 v75 := Tryz.zeroValue97
 t164 := Tryz.underlying165
 a164 := Tryz.isAgg165
 z164 := Tryz.sizeOf165
 v164 := Tryz.zeroValue165 }
theorem Tryz.lays169b : Go.Proofs.Lays.n169 Tryz.prog Tryz.ren := {
 mixed := by kernel_rfl
 f169 := Tryz.func88.trans (congrArg some (by kernel_rfl))
 t0 := Tryz.underlying0
 a0 := Tryz.isAgg0
 z0 := Tryz.sizeOf0
 v0 := Tryz.zeroValue0
 t3 := Tryz.underlying3
 a3 := Tryz.isAgg3
 z3 := Tryz.sizeOf3
 v3 := Tryz.zeroValue3
 t9 := Tryz.underlying9
 a9 := Tryz.isAgg9
 z9 := Tryz.sizeOf9
 v9 := Tryz.zeroValue9
 t37 := Tryz.underlying49
 a37 := Tryz.isAgg49
 z37 := Tryz.sizeOf49
 v37 := Tryz.zeroValue49
 t70 := Tryz.underlying129
 a70 := Tryz.isAgg129
 z70 := Tryz.sizeOf129
 v70 := Tryz.zeroValue129
 t72 := Tryz.underlying131
 a72 := Tryz.isAgg131
 z72 := Tryz.sizeOf131
 v72 := Tryz.zeroValue131
 t127 := Tryz.underlying148
 a127 := Tryz.isAgg148
 z127 := Tryz.sizeOf148
 v127 := Tryz.zeroValue148 }
theorem Tryz.extra : Builder.Extra Tryz.prog Tryz.ren := {
 sizeBuilder := by kernel_rfl
 liesBuilder := by kernel_rfl
 t5 := Tryz.underlying5
 a5 := Tryz.isAgg5
 z5 := Tryz.sizeOf5
 v5 := Tryz.zeroValue5
 infoByte := by kernel_rfl
 cellsByte := by kernel_rfl
 sizeByte := by kernel_rfl
 neB5 := by decide }
open Go.RowKit
theorem Tryz.WriteByte (B b : Nat) (bs : List Value) (c : Int) (w : World) (h : Lib.IsBuilderF 131 5 B b bs w) (hlen : bs.length + 1 ≤ 140737488355328) (hBw : B ≤ w.heap.size) :
  Calls Tryz.prog 87 #[.pointer (some ⟨b, 0, none⟩), .int .u8 c] w fun e w' => e = .returned .nilIface ∧ (Lib.BuilderAtF 131 5 B b (.pointer (some ⟨b, 0, none⟩)) (bs ++ [.int .u8 c]) w' ∧ Below B w w' ∧ Lib.OthersKept 5 (some b) w w') :=
 Any.Builder_WriteByte_k Tryz.lays167b Tryz.extra B b bs c w h hlen hBw
theorem Tryz.String (B b : Nat) (l : List UInt8) (w : World) (h : Lib.IsBuilderF 131 5 B b (Lib.byteCells l) w) (hBw : B ≤ w.heap.size) :
  Calls Tryz.prog 88 #[.pointer (some ⟨b, 0, none⟩)] w fun e w' => e = .returned (.string ⟨l.toArray⟩) ∧ (Lib.IsBuilderF 131 5 B b (Lib.byteCells l) w' ∧ Below B w w' ∧ Lib.OthersKept 5 (some b) w w') :=
 Any.Builder_String_any_k Tryz.lays169b Tryz.extra B b l w h hBw
theorem Tryz.strconv_Itoa (n : Int) (h0 : -9223372036854775808 ≤ n) (h1 : n ≤ 9223372036854775807) (w : World) (htab : Lib.TabIs Tryz.prog w "internal/strconv.uint64pow10" .u64 Lib.pow10Tab) :
  Calls Tryz.prog 46 #[.int .i64 n] w fun e w' => e = .returned (.string ⟨(Lib.itoa n).toArray⟩) ∧ ∃ k os, w' = Go.Sort.grow (w.drewN k) os := Any.strconv_Itoa Tryz.laysM171 n h0 h1 w htab
theorem Tryz.IndexByte (s : ByteArray) (c : Int) (w : World) : Calls Tryz.prog 137 #[.string s, .int .u8 c] w fun e w' => e = .returned (.int .i64 (Lib.indexByte s.data.toList c.toNat.toUInt8)) ∧ w' = w := Any.stringslite_IndexByte Tryz.lays217 s c w
end Go.Proofs
namespace Go.Aw.T
open Go Go.Aw Go.Proofs Go.RowKit
set_option maxRecDepth 100000
attribute [local irreducible] Go.Aw.DM Go.Aw.AHeap.setB Go.Aw.AHeap.setT
attribute [local go_sem] peval EOpd.ev Env.get binInt binStr binBool buildParts AV.cells AV.okc setRange minmaxAV AV.one AV.ofCells eqCells eqCell bslRows cond_true cond_false beq_self_eq_true Bool.not_true Bool.not_false beq_true beq_false eq_self if_true Option.some.injEq List.length_cons List.length_nil List.take_succ_cons List.take_zero List.drop_succ_cons List.drop_zero List.set_cons_succ List.set_cons_zero List.nil_append List.cons_append List.append_nil and_self Option.map_some List.map_cons List.map_nil Bool.false_eq_true if_false Nat.zero_add Nat.add_zero true_and and_true Bool.and_true Bool.true_and List.getElem?_cons_zero List.getElem?_cons_succ Nat.zero_le Nat.le_refl
set_option linter.unusedSimpArgs false
set_option linter.unusedVariables false
theorem dec_step {u : Nat} (h : ¬ u < 10) : Lib.decDigits u = Lib.decDigits (u / 10) ++ [UInt8.ofNat (48 + u % 10)] := by rw [Lib.decDigits, dif_neg h]
theorem dec_small {u : Nat} (h : u < 10) : Lib.decDigits u = [UInt8.ofNat (48 + u)] := by rw [Lib.decDigits, dif_pos h]
theorem tr (m : Nat) : (-(m : Int)).tmod 10 = -((m % 10 : Nat) : Int) := by rw [Int.neg_tmod]; rfl
theorem dec_len (u : Nat) : (Lib.decDigits u).length ≤ u + 1 := by
 induction u using Nat.strongRecOn with
 | ind u ih =>
  by_cases h : u < 10
  ·rw [dec_small h]; simp
  ·rw [dec_step h]
   have := ih (u / 10) (by omega)
   rw [List.length_append, List.length_cons, List.length_nil]
   omega
theorem itoa_len {z : Int} (h0 : -1000 ≤ z) (h1 : z ≤ 1000) : (Lib.itoa z).length ≤ 1002 := by
 unfold Lib.itoa
 split
 ·have := dec_len z.natAbs; simp only [List.length_cons]; omega
 ·have := dec_len z.toNat; omega
theorem below_grow (w : World) (q : Nat) (os : Array Obj) : Below w.heap.size w (Go.Sort.grow (w.drewN q) os) :=
 ⟨rfl, rfl, rfl, by simp [Go.Sort.grow, World.drewN], fun i hi => by
  show ((w.drewN q).heap ++ os)[i]? = _
  rw [Array.getElem?_append_left (by exact hi)]
  rfl⟩
theorem gTab : Tryz.prog.globalNamed "internal/strconv.uint64pow10" = some 3 := by kernel_rfl
theorem glob_tab {w : World} (hG : GlobW w) : Lib.TabIs Tryz.prog w "internal/strconv.uint64pow10" .u64 Lib.pow10Tab := by
 obtain ⟨ob, h1, T, fr, h2⟩ := hG (3, _) (by simp only [globs]; exact List.mem_cons_self)
 subst h2
 simp only at h1
 unfold Lib.TabIs World.var?
 rw [gTab]
 simp only [Option.bind_some, h1]
 rfl
theorem p46 (n : Int) (h0 : -1000 ≤ n) (h1 : n ≤ 1000) : Pure Tryz.prog 46 [.int .i64 n] (.str (Lib.itoa n)) := by
 refine pure_of_plain fun m vs hG hv => ?_
 simp only [RvL, Rv] at hv
 obtain ⟨_, _, rfl, rfl, rfl⟩ := hv
 refine (Tryz.strconv_Itoa n (by omega) (by omega) m.w (glob_tab hG)).mono ?_
 rintro e w' ⟨rfl, q, os, rfl⟩
 have hl := itoa_len h0 h1
 exact ⟨_, rfl, fun m' => by simp only [Rv]; exact ⟨trivial, by rw [maxLen_eq]; omega⟩, below_grow m.w q os⟩
def textR : List UInt8 → List UInt8 → Nat → List UInt8 × Nat
 | [], _, _ => ([], 0)
 | c :: r, acc, i => if c = 34 then (acc, i + 1) else if c = 92 then
   (match r with
   | [] => ([], 0)
   | d :: r' => if d = 34 ∨ d = 92 then textR r' (acc ++ [d]) (i + 2) else ([], 0))
  else if okc c = true then textR r (acc ++ [c]) (i + 1) else ([], 0)
def textV : List UInt8 → List UInt8 × Nat
 | [] => ([], 0)
 | c :: r => if c = 34 then textR r [] 1 else ([], 0)
theorem textR_cons (c : UInt8) (r acc : List UInt8) (i : Nat) : textR (c :: r) acc i = if c = 34 then (acc, i + 1) else if c = 92 then
   (match r with
   | [] => ([], 0)
   | d :: r' => if d = 34 ∨ d = 92 then textR r' (acc ++ [d]) (i + 2) else ([], 0))
  else if okc c = true then textR r (acc ++ [c]) (i + 1) else ([], 0) := by
 cases r with
 | nil => simp [textR]
 | cons d r => rw [textR]
theorem p153 (l p : List UInt8) : Pure Tryz.prog 153 [.str l, .str p] (.bool (p.isPrefixOf l)) := by
 refine pure_assume (G := l.length ≤ maxLen ∧ p.length ≤ maxLen) (fun m vs h => by simp only [RvL, Rv] at h; obtain ⟨_, _, rfl, ⟨_, h1⟩, _, _, rfl, ⟨_, h2⟩, _⟩ := h; exact ⟨h1, h2⟩) fun hs => ?_
 have key : p.isPrefixOf l = decide (l.take p.length = p) := by
  rw [Bool.eq_iff_iff, List.isPrefixOf_iff_prefix, decide_eq_true_eq, List.prefix_iff_eq_take]
  exact ⟨Eq.symm, Eq.symm⟩
 rw [key]
 refine pure_intro mo Tryz.func153 c153 fun H => ?_
 unfold e153 r153
 simp only [initEnv, initFrom]
 repeat' first|refine Sp.g ?_|(intro b hb;repeat first|(refine fe hb ?_;intro _ _ hb)|(refine fT hb ?_;intro hb))|refine rt ?_|refine gA rfl ?_|refine gB rfl ?_|apply cT rfl|apply cF rfl|(apply DM.gbT;rfl)|(apply DM.gbF;rfl)|intro h
 ·skip
  have h' : p.length ≤ l.length := by simp at h; omega
  apply DM.slSs (p := 0)
  ·simp only [EOpd.ev, Env.get, Nat.reduceBEq, cond_true, cond_false, beq_self_eq_true] <;> rfl
  ·rfl
  ·simp only [optNat, EOpd.ev, Env.get, Nat.reduceBEq, cond_true, cond_false, beq_self_eq_true] <;> rfl
  ·omega
  ·exact h'
  ·exact List.drop_zero
  repeat' first|refine Sp.g ?_|(intro b hb;repeat first|(refine fe hb ?_;intro _ _ hb)|(refine fT hb ?_;intro hb))|refine rt ?_|refine gA rfl ?_|refine gB rfl ?_|apply cT rfl|apply cF rfl|(apply DM.gbT;rfl)|(apply DM.gbF;rfl)|intro h
  refine Sr.g ?_
  exact AVLe.refl _
 ·skip
  refine Sr.g ?_
  have : l.take p.length ≠ p := fun e => by
   have e2 := congrArg List.length e
   rw [List.length_take] at e2
   simp at h
   omega
  refine avle_eq ?_
  rw [AV.bool.injEq, decide_eq_false this]
theorem p141 (l p : List UInt8) : Pure Tryz.prog 141 [.str l, .str p] (.bool (p.isPrefixOf l)) := by
 refine pure_intro mo Tryz.func141 c141 fun H => ?_
 unfold e141 r141
 simp only [initEnv, initFrom]
 repeat' first|refine Sp.g ?_|(intro b hb;repeat first|(refine fe hb ?_;intro _ _ hb)|(refine fT hb ?_;intro hb))|refine rt ?_|refine gA rfl ?_|refine gB rfl ?_|apply cT rfl|apply cF rfl|(apply DM.gbT;rfl)|(apply DM.gbF;rfl)|intro h
 (apply DM.pcs (p153 l p); (· simp only [go_sem, Nat.reduceBEq, Nat.reduceAdd] <;> rfl); (· exact AVLes.refl _))
 repeat' first|refine Sp.g ?_|(intro b hb;repeat first|(refine fe hb ?_;intro _ _ hb)|(refine fT hb ?_;intro hb))|refine rt ?_|refine gA rfl ?_|refine gB rfl ?_|apply cT rfl|apply cF rfl|(apply DM.gbT;rfl)|(apply DM.gbF;rfl)|intro h
 refine Sr.g ?_
 exact AVLe.refl _
theorem hasPre (l p : List UInt8) (hl : l.length ≤ 1000000) (hp : p.length ≤ 1000000) (w : World) (hG : GlobW w) : Calls Tryz.prog 141 #[.string ⟨⟨l⟩⟩, .string ⟨⟨p⟩⟩] w fun e w' => e = .returned (.bool (p.isPrefixOf l)) ∧ Below w.heap.size w w' := by
 refine (calls_plain (p141 l p) w [.string ⟨⟨l⟩⟩, .string ⟨⟨p⟩⟩] (fun m => by simp only [RvL, Rv]; exact ⟨_, _, rfl, ⟨rfl, by unfold maxLen; omega⟩, _, _, rfl, ⟨rfl, by unfold maxLen; omega⟩, rfl⟩) hG).mono ?_
 rintro e w' ⟨⟨v, rfl, m, hv⟩, hb⟩
 simp only [Rv] at hv
 subst hv
 exact ⟨rfl, hb⟩
theorem str_index {t : TypeId} (h : Tryz.prog.underlying t = some .string) (l : List UInt8) (i : Nat) (c : UInt8) (hc : l[i]? = some c) (w : World) : (Instr.index t (.string ⟨⟨l⟩⟩) (.int .i64 (i : Int))).run Tryz.prog w = .ok (.int .u8 (c.toNat : Int)) w := by
 obtain ⟨hi, rfl⟩ := List.getElem?_eq_some_iff.1 hc
 rw [run_index_string w t _ _ _ h, dif_pos ⟨by omega, by show (i : Int) < (l.length : Nat); omega⟩]
 rfl
theorem u8i (c : UInt8) (n : Nat) (hn : n < 256) : ((c.toNat : Int) = (n : Int)) = (c = UInt8.ofNat n) := by
 rw [eq_iff_iff, ← UInt8.toNat_inj]
 simp only [UInt8.toNat_ofNat']
 omega
open Go.Lib in
set_option maxHeartbeats 4000000 in
theorem w75 (l : List UInt8) (hl : l.length ≤ 1000000) (w : World) (hG : GlobW w) : Calls Tryz.prog 120 #[.string ⟨⟨l⟩⟩] w fun e w' => e = .returned (.tuple #[.string ⟨⟨(textV l).1⟩⟩, .int .i64 (textV l).2]) ∧ Below w.heap.size w w' := by
 rcases hp : [34].isPrefixOf l with _ | _
 ·have ht : textV l = ([], 0) := by
   cases l with
   | nil => rfl
   | cons c r => simp [List.isPrefixOf] at hp; simp [textV, Ne.symm hp]
  rw [ht]
  go_enter Tryz.func120, Tryz.ntmps120
  go_wp2_with (go_at_call 141; refine (hasPre l [34] hl (by decide) w hG).mono ?_)
  rintro e w1 ⟨rfl, hb1⟩
  simp only [hp]
  go_wp2
  go_ret2
  exact ⟨rfl, hb1⟩
 ·have ht : textV l = textR (l.drop 1) [] 1 ∧ 1 ≤ l.length := by
   cases l with
   | nil => simp [List.isPrefixOf] at hp
   | cons c r => simp [List.isPrefixOf] at hp; simp [textV, ← hp]
  obtain ⟨ht, h1⟩ := ht
  obtain ⟨R, hR⟩ : ∃ R, textR (l.drop 1) [] 1 = R := ⟨_, rfl⟩
  rw [ht, hR]
  go_enter Tryz.func120, Tryz.ntmps120
  go_wp2_with (go_at_call 141; refine (hasPre l [34] hl (by decide) w hG).mono ?_)
  rintro e w1 ⟨rfl, hb1⟩
  simp only [hp]
  go_wp2
  go_loopg [5] (l.length - 1) (fun gk p wr => ∃ (i : Nat) (acc : List UInt8), p = .int .i64 i ∧ i + gk = l.length ∧ IsBuilderF 131 5 w1.heap.size w1.heap.size (byteCells acc) wr ∧ Below w1.heap.size w1 wr ∧ textR (l.drop i) acc i = R ∧ acc.length ≤ i)
  case atStart => exact ⟨1, [], rfl, by omega, IsBuilderF.of (fresh_isBuilder 131 5 w1), (Below.refl _ w1).alloc (Nat.le_refl _) _, hR, by simp⟩
  case round =>
   obtain ⟨i, acc, rfl, hi, hI, hbw, he, hal⟩ := hrel
   have fin : Below w.heap.size w wr := hb1.trans (hbw.mono hb1.size)
   have sz : (⟨⟨l⟩⟩ : ByteArray).size = l.length := rfl
   by_cases hlt : i < l.length
   ·obtain ⟨c, hc⟩ := some_of hlt
    have hx : ∀ W, (Instr.index 9 (.string ⟨⟨l⟩⟩) (.int .i64 (i : Int))).run Tryz.prog W = .ok (.int .u8 (c.toNat : Int)) W := str_index Tryz.underlying9 l i c hc
    rw [drop_of hc] at he
    by_cases h34 : c = 34
    ·subst h34
     rw [textR_cons, if_pos rfl] at he
     subst he
     have hi1 : IntKind.i64.wrap ((i : Int) + 1) = ((i + 1 : Nat) : Int) := inc64 hlt (by unfold maxLen; omega)
     go_wp2_with (go_at_call 88; refine (Tryz.String w1.heap.size w1.heap.size acc _ hI (by have := hbw.size; omega)).mono ?_)
     rintro e W1 ⟨rfl, _, b1, _⟩
     go_wp2
     go_ret2
     exact ⟨rfl, fin.trans (b1.mono hb1.size)⟩
    ·have n34 : ¬ (c.toNat : Int) = 34 := fun e => h34 ((u8i c 34 (by decide)).mp e)
     have hi1 : IntKind.i64.wrap ((i : Int) + 1) = ((i + 1 : Nat) : Int) := inc64 hlt (by unfold maxLen; omega)
     have hbs : w1.heap.size ≤ wr.heap.size := by have := hbw.size; omega
     rw [textR_cons, if_neg h34] at he
     by_cases h92 : c = 92
     ·rw [if_pos h92] at he
      subst h92
      by_cases hlt2 : i + 1 < l.length
      ·obtain ⟨d, hd⟩ := some_of hlt2
       have hx2 : ∀ W, (Instr.index 9 (.string ⟨⟨l⟩⟩) (.int .i64 ((i : Int) + 1))).run Tryz.prog W = .ok (.int .u8 (d.toNat : Int)) W := str_index Tryz.underlying9 l (i + 1) d hd
       have hi2 : IntKind.i64.wrap ((i : Int) + 1 + 1) = ((i + 1 + 1 : Nat) : Int) := inc64 hlt2 (by unfold maxLen; omega)
       have ne : ((i : Int) + 1 == (l.length : Int)) = false := by simp; omega
       rw [drop_of hd] at he
       by_cases hdd : d = 34 ∨ d = 92
       ·simp only [if_pos hdd] at he
        have go1 : ∀ (W : World), IsBuilderF 131 5 w1.heap.size w1.heap.size (byteCells (acc ++ [d])) W → Below w1.heap.size w1 W → ∃ (j : Nat) (acc' : List UInt8), Value.int .i64 ((i + 1 + 1 : Nat) : Int) = .int .i64 j ∧ j + (gk - 2) = l.length ∧ IsBuilderF 131 5 w1.heap.size w1.heap.size (byteCells acc') W ∧ Below w1.heap.size w1 W ∧ textR (l.drop j) acc' j = R ∧ acc'.length ≤ j := fun W k1 k2 => ⟨i + 2, acc ++ [d], rfl, by omega, k1, k2, he, by simp; omega⟩
        rcases hdd with hdd | hdd
        all_goals (
         subst hdd
         go_wp2_with (go_at_call 87; refine (Tryz.WriteByte w1.heap.size w1.heap.size (byteCells acc) _ _ hI (by rw [byteCells_length]; omega) hbs).mono ?_)
         rintro e W1 ⟨rfl, q1, b1, _⟩
         go_wp2
         go_roundg (gk - 2)
         case measure => omega
         case rel => exact go1 W1 (by rw [byteCells_append]; exact Or.inr q1) (hbw.trans b1))
       ·simp only [if_neg hdd] at he
        have n1 : ((d.toNat : Int) != 34) = true := by simp only [bne_iff_ne]; exact fun e => hdd (.inl ((u8i d 34 (by decide)).mp e))
        have n2 : ((d.toNat : Int) != 92) = true := by simp only [bne_iff_ne]; exact fun e => hdd (.inr ((u8i d 92 (by decide)).mp e))
        subst he
        go_wp2
        go_ret2
        exact ⟨rfl, fin⟩
      ·have e1 : ((i : Int) + 1 == (l.length : Int)) = true := by simp; omega
       rw [List.drop_eq_nil_of_le (by omega)] at he
       subst he
       go_wp2
       go_ret2
       exact ⟨rfl, fin⟩
     ·have n92 : ¬ (c.toNat : Int) = 92 := fun e => h92 ((u8i c 92 (by decide)).mp e)
      rw [if_neg h92] at he
      by_cases hk : okc c = true
      ·have b1 : ¬ (c.toNat : Int) < 32 := by simp [okc] at hk; omega
       have b2 : ¬ (126 : Int) < (c.toNat : Int) := by simp [okc] at hk; omega
       rw [if_pos hk] at he
       go_wp2_with (go_at_call 87; refine (Tryz.WriteByte w1.heap.size w1.heap.size (byteCells acc) _ _ hI (by rw [byteCells_length]; omega) hbs).mono ?_)
       rintro e W1 rfl q1 b1 _
       go_wp2
       go_roundg (gk - 1)
       case measure => omega
       case rel => exact ⟨i + 1, acc ++ [c], rfl, by omega, by rw [byteCells_append]; exact Or.inr q1, hbw.trans b1, he, by simp; omega⟩
      ·rw [if_neg hk] at he
       have b1 : (c.toNat : Int) < 32 ∨ (126 : Int) < (c.toNat : Int) := by simp [okc] at hk; omega
       by_cases b2 : (c.toNat : Int) < 32
       ·go_wp2
        go_ret2
        exact ⟨by rw [← he]; rfl, fin⟩
       ·have b3 : (126 : Int) < (c.toNat : Int) := by omega
        subst he
        go_wp2
        go_ret2
        exact ⟨rfl, fin⟩
   ·rw [List.drop_eq_nil_of_le (by omega)] at he
    subst he
    go_wp2
    go_ret2
    exact ⟨rfl, fin⟩
theorem textR_len : ∀ (n : Nat) (r acc : List UInt8) (i : Nat), r.length ≤ n → (textR r acc i).1.length ≤ r.length + acc.length
 | n, [], acc, i, _ => by simp [textR]
 | n + 1, c :: r, acc, i, h => by
  rw [textR_cons]
  split
  ·simp only [List.length_cons]; omega
  ·split
   ·cases r with
    | nil => simp
    | cons d r' =>
     simp only
     split
     ·have := textR_len n r' (acc ++ [d]) (i + 2) (by simp at h; omega)
      simp only [List.length_append, List.length_cons, List.length_nil] at this ⊢
      omega
     ·simp
   ·split
    ·have := textR_len n r (acc ++ [c]) (i + 1) (by simpa using h)
     simp only [List.length_append, List.length_cons, List.length_nil] at this ⊢
     omega
    ·simp
 | 0, c :: r, _, _, h => by simp at h
theorem textV_len (l : List UInt8) : (textV l).1.length ≤ l.length := by
 cases l with
 | nil => simp [textV]
 | cons c r =>
  simp only [textV]
  split
  ·have := textR_len r.length r [] 1 (Nat.le_refl _)
   simp only [List.length_cons, List.length_nil] at this ⊢
   omega
  ·simp
theorem p120 (l : List UInt8) (hl : l.length ≤ 1000000) : Pure Tryz.prog 120 [.str l] (.tup [.str (textV l).1, .int .i64 (textV l).2]) := by
 refine pure_of_plain fun m vs hG hv => ?_
 simp only [RvL, Rv] at hv
 obtain ⟨_, _, rfl, ⟨rfl, _⟩, rfl⟩ := hv
 refine (w75 l hl m.w hG).mono ?_
 rintro e w' ⟨rfl, hb⟩
 refine ⟨_, rfl, fun m' => ?_, hb⟩
 simp only [Rv, RvL]
 exact ⟨_, rfl, _, _, rfl, ⟨rfl, by have := textV_len l; unfold maxLen; omega⟩, _, _, rfl, rfl, rfl⟩
def escC (c : UInt8) : List UInt8 := if c = 34 ∨ c = 92 then [92, c] else [c]
def esc (s : List UInt8) : List UInt8 := s.flatMap escC
def showT (s : List UInt8) : List UInt8 := 34 :: esc s ++ [34]
theorem esc_take {s : List UInt8} {i : Nat} {c : UInt8} (h : s[i]? = some c) : esc (s.take (i + 1)) = esc (s.take i) ++ escC c := by
 rw [List.take_add_one, h]
 simp [esc, List.flatMap_append]
theorem esc_len (s : List UInt8) : (esc s).length ≤ 2 * s.length := by
 induction s with
 | nil => simp [esc]
 | cons c s ih =>
  simp only [esc, List.flatMap_cons, List.length_append, List.length_cons] at *
  have : (escC c).length ≤ 2 := by unfold escC; split <;> simp
  omega
theorem valid_call (k n : Int) (s : List UInt8) (hs : s.length ≤ maxLen) (w : World) (hG : GlobW w) : Calls Tryz.prog 83 #[.agg #[.int .i64 k, .int .i64 n, .string ⟨⟨s⟩⟩]] w fun e w' => e = .returned (.bool (validV ⟨k, n, s⟩)) ∧ Below w.heap.size w w' := by
 refine (calls_plain (p83 ⟨k, n, s⟩) w [.agg ⟨[.int .i64 k, .int .i64 n, .string ⟨⟨s⟩⟩]⟩] (fun m => by simp only [RvL, Rv]; exact ⟨_, _, rfl, ⟨_, rfl, _, _, rfl, rfl, _, _, rfl, rfl, _, _, rfl, ⟨rfl, hs⟩, rfl⟩, rfl⟩) hG).mono ?_
 rintro e w' ⟨⟨v, rfl, m, hv⟩, hb⟩
 simp only [Rv] at hv
 subst hv
 exact ⟨rfl, hb⟩
theorem alloc_new (w : World) (o : Obj) : (w.alloc o).heap[w.heap.size]? = some o := by
 show (w.heap.push o)[w.heap.size]? = some o
 simp
open Go.Lib in
set_option maxHeartbeats 4000000 in
theorem w44 (s : List UInt8) (hv : validV ⟨2, 0, s⟩ = true) (w : World) (hG : GlobW w) : Calls Tryz.prog 44 #[.agg #[.int .i64 2, .int .i64 0, .string ⟨⟨s⟩⟩]] w fun e w' => e = .returned (.string ⟨⟨showT s⟩⟩) ∧ Below w.heap.size w w' := by
 have hl : s.length ≤ 40 := by simp [validV] at hv; exact hv.1
 go_enter Tryz.func44, Tryz.ntmps44
 go_wp2_with (go_at_call 83; refine (valid_call 2 0 s (by unfold maxLen; omega) _ (GlobW.below hG (Nat.le_refl _) ((Below.refl _ w).alloc (Nat.le_refl _) _))).mono ?_)
 rintro e w1 ⟨rfl, hb1⟩
 have ob : ∃ O, O = Obj.cells #[Value.int .i64 2, Value.int .i64 0, Value.string ⟨⟨s⟩⟩] 66 := ⟨_, rfl⟩
 obtain ⟨O, hO⟩ := ob
 rw [← hO] at hb1
 have box1 : w1.heap[w.heap.size]? = some O := (hb1.block _ (by simp)).trans (alloc_new w O)
 have cl : ∀ W : World, W.heap[w.heap.size]? = some O → W.cell? ⟨w.heap.size, 0, none⟩ = some (.int .i64 2) ∧ W.cell? ⟨w.heap.size, 2, none⟩ = some (.string ⟨⟨s⟩⟩) := fun W h => by
  rw [hO] at h
  exact ⟨by rw [Lib.cell_of_heap h]; rfl, by rw [Lib.cell_of_heap h]; rfl⟩
 have hw : Below w.heap.size w w1 := ((Below.refl _ w).alloc (Nat.le_refl _) O).trans (hb1.mono (by simp))
 have hsz : w.heap.size < w1.heap.size := (Array.getElem?_eq_some_iff.1 box1).1
 obtain ⟨k0, k2⟩ := cl w1 box1
 clear hO
 simp only [hv]
 have hf : IsBuilderF 131 5 w1.heap.size w1.heap.size (byteCells []) (w1.alloc (.cells #[.pointer none, .slice none 0 0] 131)) := IsBuilderF.of (fresh_isBuilder 131 5 w1)
 go_wp2_with (go_at_call 87; refine (Tryz.WriteByte w1.heap.size w1.heap.size (byteCells []) _ _ hf (by decide) (by simp)).mono ?_)
 rintro e w2 ⟨rfl, q2, b2, _⟩
 have b2' : Below w1.heap.size w1 w2 := ((Below.refl _ w1).alloc (Nat.le_refl _) _).trans b2
 have k2' : w2.cell? ⟨w.heap.size, 2, none⟩ = some (.string ⟨⟨s⟩⟩) := (cl w2 ((b2'.block _ hsz).trans box1)).2
 go_wp2
 go_loopg [20] s.length (fun gk p wr => ∃ (i : Nat), p = .int .i64 i ∧ i + gk = s.length ∧ IsBuilderF 131 5 w1.heap.size w1.heap.size (byteCells (34 :: esc (s.take i))) wr ∧ Below w1.heap.size w1 wr)
 case atStart => exact ⟨0, rfl, by omega, Or.inr q2, b2'⟩
 case round =>
  obtain ⟨i, rfl, hi, hI, hbw⟩ := hrel
  have hbs : w1.heap.size ≤ wr.heap.size := hbw.size
  have fin : Below w.heap.size w wr := hw.trans (hbw.mono (by omega))
  have g2 : wr.cell? ⟨w.heap.size, 2, none⟩ = some (.string ⟨⟨s⟩⟩) := (cl wr ((hbw.block _ hsz).trans box1)).2
  have el := esc_len (s.take i)
  rw [List.length_take] at el
  by_cases hlt : i < s.length
  ·obtain ⟨c, hc⟩ := some_of hlt
   have hx : ∀ W, (Instr.index 9 (.string ⟨⟨s⟩⟩) (.int .i64 (i : Int))).run Tryz.prog W = .ok (.int .u8 (c.toNat : Int)) W := str_index Tryz.underlying9 s i c hc
   have hi1 : IntKind.i64.wrap ((i : Int) + 1) = ((i + 1 : Nat) : Int) := inc64 hlt (by unfold maxLen; omega)
   have et := esc_take hc
   by_cases hcc : c = 34 ∨ c = 92
   ·have ec : escC c = [92, c] := by simp [escC, hcc]
    have tt : ((c.toNat : Int) == 34) = true ∨ ((c.toNat : Int) == 34) = false ∧ ((c.toNat : Int) == 92) = true := by
     rcases hcc with rfl | rfl
     ·exact .inl rfl
     ·exact .inr ⟨rfl, rfl⟩
    rcases tt with tt | ⟨tt, tt2⟩
    all_goals (
     go_wp2_with (go_at_call 87; refine (Tryz.WriteByte w1.heap.size w1.heap.size (byteCells (34 :: esc (s.take i))) _ _ hI (by rw [byteCells_length, List.length_cons]; omega) hbs).mono ?_)
     rintro e w3 ⟨rfl, q3, b3, _⟩
     have b3' : Below w1.heap.size w1 w3 := hbw.trans b3
     have g3 : w3.cell? ⟨w.heap.size, 2, none⟩ = some (.string ⟨⟨s⟩⟩) := (cl w3 ((b3'.block _ hsz).trans box1)).2
     go_wp2_with (go_at_call 87; refine (Tryz.WriteByte w1.heap.size w1.heap.size (byteCells (34 :: esc (s.take i)) ++ [.int .u8 92]) _ _ (Or.inr q3) (by rw [List.length_append, byteCells_length, List.length_cons, List.length_cons, List.length_nil]; omega) b3'.size).mono ?_)
     rintro e w4 ⟨rfl, q4, b4, _⟩
     go_wp2
     go_roundg (gk - 1)
     case measure => omega
     case rel => exact ⟨i + 1, rfl, by omega, by rw [et, ec, ← List.cons_append, byteCells_append]; rw [List.append_assoc] at q4; exact Or.inr q4, b3'.trans b4⟩)
   ·have ec : escC c = [c] := by simp [escC, hcc]
    have t1 : ((c.toNat : Int) == 34) = false := by
     simp only [beq_eq_false_iff_ne, ne_eq]; exact fun e => hcc (.inl ((u8i c 34 (by decide)).mp e))
    have t2 : ((c.toNat : Int) == 92) = false := by
     simp only [beq_eq_false_iff_ne, ne_eq]; exact fun e => hcc (.inr ((u8i c 92 (by decide)).mp e))
    go_wp2_with (go_at_call 87; refine (Tryz.WriteByte w1.heap.size w1.heap.size (byteCells (34 :: esc (s.take i))) _ _ hI (by rw [byteCells_length, List.length_cons]; omega) hbs).mono ?_)
    rintro e w3 ⟨rfl, q3, b3, _⟩
    go_wp2
    go_roundg (gk - 1)
    case measure => omega
    case rel => exact ⟨i + 1, rfl, by omega, by rw [et, ec, ← List.cons_append, byteCells_append]; exact Or.inr q3, hbw.trans b3⟩
  ·have hi' : i = s.length := by omega
   subst hi'
   rw [List.take_length] at hI el
   go_wp2_with (go_at_call 87; refine (Tryz.WriteByte w1.heap.size w1.heap.size (byteCells (34 :: esc s)) _ _ hI (by rw [byteCells_length, List.length_cons]; omega) hbs).mono ?_)
   rintro e w3 ⟨rfl, q3, b3, _⟩
   have b3' : Below w1.heap.size w1 w3 := hbw.trans b3
   have q3' : IsBuilderF 131 5 w1.heap.size w1.heap.size (byteCells (showT s)) w3 := by
    have e : byteCells (showT s) = byteCells (34 :: esc s) ++ [.int .u8 34] := by unfold showT; rw [byteCells_append]; rfl
    rw [e]
    exact Or.inr q3
   go_wp2_with (go_at_call 88; refine (Tryz.String w1.heap.size w1.heap.size (showT s) _ q3' b3'.size).mono ?_)
   rintro e w4 ⟨rfl, _, b4, _⟩
   go_wp2
   go_ret
   exact ⟨rfl, hw.trans ((b3'.trans b4).mono (by omega))⟩
end Go.Aw.T
namespace Go.Aw.T
open Go Go.Aw Go.Proofs Go.RowKit
set_option maxRecDepth 100000
attribute [local irreducible] Go.Aw.DM Go.Aw.AHeap.setB Go.Aw.AHeap.setT
attribute [local go_sem] peval EOpd.ev Env.get binInt binStr binBool buildParts AV.cells AV.okc setRange minmaxAV AV.one AV.ofCells eqCells eqCell bslRows cond_true cond_false beq_self_eq_true Bool.not_true Bool.not_false beq_true beq_false eq_self if_true Option.some.injEq List.length_cons List.length_nil List.take_succ_cons List.take_zero List.drop_succ_cons List.drop_zero List.set_cons_succ List.set_cons_zero List.nil_append List.cons_append List.append_nil and_self Option.map_some List.map_cons List.map_nil Bool.false_eq_true if_false Nat.zero_add Nat.add_zero true_and and_true Bool.and_true Bool.true_and List.getElem?_cons_zero List.getElem?_cons_succ Nat.zero_le Nat.le_refl
set_option linter.unusedSimpArgs false
set_option linter.unusedVariables false
open Go.Lib in
set_option maxHeartbeats 2000000 in
theorem w118 (s : List UInt8) (hs : s.length ≤ 1000000) (w : World) : Calls Tryz.prog 118 #[.string ⟨⟨s⟩⟩, .string ⟨⟨[32]⟩⟩] w fun e w' => e = .returned (.int .i64 (Lib.indexByte s 32)) ∧ w' = w := by
 have sz : (⟨⟨[32]⟩⟩ : ByteArray).size = 1 := rfl
 by_cases h : s = [32]
 ·subst h
  go_enter Tryz.func118, Tryz.ntmps118
  go_wp2_with (go_at_fn 137; refine (Tryz.IndexByte _ _ _).mono ?_; rintro e w' ⟨rfl, rfl⟩)
  go_ret
  exact ⟨rfl, rfl⟩
 ·have hne : ([32] == s) = false := by
   simp only [beq_eq_false_iff_ne, ne_eq]
   exact fun e => h e.symm
  go_enter Tryz.func118, Tryz.ntmps118
  go_wp2_with (go_at_fn 137; refine (Tryz.IndexByte _ _ _).mono ?_; rintro e w' ⟨rfl, rfl⟩)
  refine (Tryz.IndexByte _ _ _).mono ?_
  rintro e w' ⟨rfl, rfl⟩
  go_wp2
  go_ret
  exact ⟨rfl, rfl⟩
def idxB (s : List UInt8) : Int := Lib.indexByte s 32
theorem p118 (s : List UInt8) (hs : s.length ≤ 1000000) : Pure Tryz.prog 118 [.str s, .str [32]] (.int .i64 (idxB s)) := by
 refine pure_of_plain fun m vs hG hv => ?_
 simp only [RvL, Rv] at hv
 obtain ⟨_, _, rfl, ⟨rfl, _⟩, _, _, rfl, ⟨rfl, _⟩, rfl⟩ := hv
 refine (w118 s hs m.w).mono ?_
 rintro e w' ⟨rfl, rfl⟩
 exact ⟨_, rfl, fun m' => by simp only [Rv]; rfl, Below.refl _ _⟩
end Go.Aw.T
namespace Go.Aw.T
open Go Go.Aw Go.Proofs Go.RowKit
set_option maxRecDepth 100000
attribute [local irreducible] Go.Aw.DM Go.Aw.AHeap.setB Go.Aw.AHeap.setT
attribute [local go_sem] peval EOpd.ev Env.get binInt binStr binBool buildParts AV.cells AV.okc setRange minmaxAV AV.one AV.ofCells eqCells eqCell bslRows cond_true cond_false beq_self_eq_true Bool.not_true Bool.not_false beq_true beq_false eq_self if_true Option.some.injEq List.length_cons List.length_nil List.take_succ_cons List.take_zero List.drop_succ_cons List.drop_zero List.set_cons_succ List.set_cons_zero List.nil_append List.cons_append List.append_nil and_self Option.map_some List.map_cons List.map_nil Bool.false_eq_true if_false Nat.zero_add Nat.add_zero true_and and_true Bool.and_true Bool.true_and List.getElem?_cons_zero List.getElem?_cons_succ Nat.zero_le Nat.le_refl
set_option linter.unusedSimpArgs false
set_option linter.unusedVariables false
theorem DM.slF {P : Program} {d len size : Nat} {l : List EI} {env : Env} {H : AHeap} {K : Env → AHeap → Prop} {Rp : AV → AHeap → Prop} {x : EOpd} {b : Nat} {T : TypeId} {cs : List AV} {rows : List (List AV)} (hf : rows.flatten = cs) (hr : ∀ r ∈ rows, r.length = size) (hl : rows.length = len) (h0 : 0 < len) (hm : len ≤ maxLen) (hx : x.ev env = .ptr b 0) (hb : H.blk b = some (T, cs)) (h : DM P l ((d, .vs size rows) :: env) (H.dropB b) K Rp) : DM P (⟨some d, none, .slA len size x⟩ :: l) env H K Rp := by
 simp only [DM, wanted]
 exact IStep.slAF hx hb hf hr hl h0 hm h
def opNames : List (List UInt8) := [[], [105, 110, 116], [116, 101, 120, 116], [108, 111, 97, 100], [112, 97, 114, 97, 109], [115, 116, 111, 114, 101], [97, 100, 100], [115, 117, 98], [109, 117, 108], [100, 105, 118], [114, 101, 109], [110, 101, 103], [101, 113, 117, 97, 108], [108, 101, 115, 115], [110, 111, 116], [97, 110, 100], [111, 114], [106, 111, 105, 110], [108, 101, 110], [106, 117, 109, 112], [122, 101, 114, 111], [98, 101, 103, 105, 110], [97, 103, 97, 105, 110], [100, 111, 110, 101], [115, 116, 111, 112]]
theorem p43 : Pure Tryz.prog 43 [] (.agg (opNames.map .str)) := by
 refine pure_intro mo Tryz.func43 c43 fun H => ?_
 unfold e43 r43
 simp only [initEnv, initFrom]
 refine AM.seq ?_
 refine Sp.go .rg ?_
 refine Sp.go (.al (by decide)) ?_
 intro b hb
 refine Sp.go .nl ?_
 refine AM.seq ?_
 refine Sp.go .rg ?_
 refine DM.p (v := .agg (opNames.map .str)) (by kernel_rfl) ?_
 refine Sp.go (.sE (new := opNames.map .str) (o := 0) rfl g_same rfl rfl (by decide) (by decide) rfl rfl) ?_
 refine Sp.go .nl ?_
 refine Sr.g ?_
 exact AVLe.refl _
theorem names_rows : (opNames.map fun s => [AV.str s]).flatten = opNames.map .str := rfl
theorem hsub_dropB {G : AHeap} {b7 b8 : Nat} {T7 T8 : TypeId} {c7 c8 : List AV} (h7 : G.blk b7 = none) : HSub (G.setB b8 T8 c8) (((G.setB b7 T7 c7).dropB b7).setB b8 T8 c8) :=
 ⟨fun x y h => by
  simp only [AHeap.setB, AHeap.dropB] at h ⊢
  by_cases e : x = b8
  ·rw [if_pos e] at h ⊢; exact h
  ·rw [if_neg e] at h ⊢
   have e7 : x ≠ b7 := by rintro rfl; rw [h7] at h; cases h
   rw [if_neg e7, if_neg e7]
   exact h, fun _ _ h => by simpa [AHeap.setB, AHeap.dropB] using h⟩
theorem drop_fresh {G : AHeap} {b7 b8 : Nat} {T7 : TypeId} {c7 : List AV} (h7 : G.blk b7 = none) (h : ((G.setB b7 T7 c7).dropB b7).blk b8 = none) : G.blk b8 = none := by
 simp only [AHeap.setB, AHeap.dropB] at h
 by_cases e : b8 = b7
 ·rw [e]; exact h7
 ·rw [if_neg e, if_neg e] at h; exact h
abbrev tx (s : List UInt8) : Val := ⟨2, 0, s⟩
theorem showT_len (s : List UInt8) : (showT s).length ≤ 2 * s.length + 2 := by
 have := esc_len s
 simp [showT]
 omega
theorem p44t (s : List UInt8) (hv : validV (tx s) = true) : Pure Tryz.prog 44 [(tx s).av] (.str (showT s)) := by
 have hl : s.length ≤ 40 := by simp [validV] at hv; exact hv.1
 refine pure_of_plain fun m vs hG h => ?_
 simp only [RvL, Rv] at h
 obtain ⟨_, _, rfl, ⟨_, rfl, _, _, rfl, rfl, _, _, rfl, rfl, _, _, rfl, ⟨rfl, _⟩, rfl⟩, rfl⟩ := h
 refine (w44 s hv m.w hG).mono ?_
 rintro e w' ⟨rfl, hb⟩
 refine ⟨_, rfl, fun m' => ?_, hb⟩
 simp only [Rv]
 exact ⟨trivial, by have := showT_len s; unfold maxLen; omega⟩
def pA : Prog := ⟨[115], 0, [], [], [], [⟨24, 0, []⟩]⟩
def bA : List (List AV) := [[.int .u8 2], [.int .u8 115], [.int .u8 0], [.int .u8 0], [.int .u8 0], [.int .u8 0], [.int .u8 2], [.int .u8 48], [.int .u8 0], [.int .u8 0]]
theorem encA : (encQ pA).map brow = bA := by
 rw [show encQ pA = [2, 115, 0, 0, 0, 0, 2, 48, 0, 0] by decide +kernel]
 rfl
theorem rvL_les {m : Mem} : ∀ {xs ys : List AV} {l : List Value}, AVLes xs ys → RvL m xs l → RvL m ys l
 | [], _, _, h, k => by simp only [AVLes] at h; subst h; exact k
 | a :: xs, _, _, h, k => by
  simp only [AVLes] at h
  obtain ⟨b, bs, rfl, h1, h2⟩ := h
  simp only [RvL] at k ⊢
  obtain ⟨v, vs, e1, e2, e3⟩ := k
  exact ⟨v, vs, e1, h1 m v e2, rvL_les h2 e3⟩
theorem pure_mono {P : Program} {f : FuncId} {xs ys : List AV} {r : AV} (h : Pure P f ys r) (ha : AVLes xs ys) : Pure P f xs r :=
 fun H m vs hH rh hv => h H m vs hH rh (rvL_les ha hv)
abbrev aN : AV := .agg [.str [115], .int .i64 0, .nilS, .nilS, .nilS, .vs 3 [[.int .i64 24, .int .i64 0, .str []]]]
theorem aN_le : AVLe aN pA.av := avle_agg (avles_cons (AVLe.refl _) (avles_cons (AVLe.refl _) (avles_cons AVLe.nil (avles_cons AVLe.nil (avles_cons AVLe.nil (avles_cons (AVLe.refl _) avles_nil))))))
theorem tab_mem {f : Nat} {x : EC × List ERes × Nat} : ∀ {l : List (Nat × EC × List ERes × Nat)}, l.lookup f = some x → (f, x) ∈ l
 | [], h => by cases h
 | (g, y) :: l, h => by
  simp only [List.lookup] at h
  split at h
  ·rename_i e
   have : f = g := by simpa using e
   subst this
   simp only [Option.some.injEq] at h
   subst h
   exact List.mem_cons_self
  ·exact List.mem_cons_of_mem _ (tab_mem h)
def tabW : List (Nat × EC × List ERes × Nat) := [(49, e49, r49, 1), (91, e91, r91, 1), (119, e119, r119, 1), (47, e47, r47, 2), (90, e90, r90, 2), (48, e48, r48, 2), (16, e16, r16, 1), (33, e33, r33, 1), (43, e43, r43, 0), (45, e45, r45, 1), (30, e30, r30, 3), (27, e27, r27, 1), (74, e74, r74, 2), (14, e14, r14, 2), (39, e39, r39, 2), (40, e40, r40, 2), (41, e41, r41, 2), (42, e42, r42, 2), (141, e141, r141, 2), (153, e153, r153, 2)]
theorem tabW_all : ∀ x ∈ tabW, ∃ fn, Tryz.prog.funcs[x.1]? = some fn ∧ chkF Tryz.prog fn x.2.2.2 x.2.1 x.2.2.1 = true := by
 intro x hx
 simp only [tabW, List.mem_cons, List.not_mem_nil, or_false] at hx
 rcases hx with rfl | rfl | rfl | rfl | rfl | rfl | rfl | rfl | rfl | rfl | rfl | rfl | rfl | rfl | rfl | rfl | rfl | rfl | rfl | rfl
 ·exact ⟨_, Tryz.func49, c49⟩
 ·exact ⟨_, Tryz.func91, c91⟩
 ·exact ⟨_, Tryz.func119, c119⟩
 ·exact ⟨_, Tryz.func47, c47⟩
 ·exact ⟨_, Tryz.func90, c90⟩
 ·exact ⟨_, Tryz.func48, c48⟩
 ·exact ⟨_, Tryz.func16, c16⟩
 ·exact ⟨_, Tryz.func33, c33⟩
 ·exact ⟨_, Tryz.func43, c43⟩
 ·exact ⟨_, Tryz.func45, c45⟩
 ·exact ⟨_, Tryz.func30, c30⟩
 ·exact ⟨_, Tryz.func27, c27⟩
 ·exact ⟨_, Tryz.func74, c74⟩
 ·exact ⟨_, Tryz.func14, c14⟩
 ·exact ⟨_, Tryz.func39, c39⟩
 ·exact ⟨_, Tryz.func40, c40⟩
 ·exact ⟨_, Tryz.func41, c41⟩
 ·exact ⟨_, Tryz.func42, c42⟩
 ·exact ⟨_, Tryz.func141, c141⟩
 ·exact ⟨_, Tryz.func153, c153⟩
theorem tabW_ok : TabOK Tryz.prog (fun f => tabW.lookup f) := fun f e rs m h => tabW_all (f, e, rs, m) (tab_mem h)
def libW : Lib := fun f xs => match f, xs with
 | 44, [.agg [.int .i64 2, .int .i64 0, .str s]] => bif validV ⟨2, 0, s⟩ then some (.str (showT s)) else none
 | 46, [.int .i64 n] => bif decide (-1000 ≤ n) && decide (n ≤ 1000) then some (.str (Lib.itoa n)) else none
 | 83, [.agg [.int .i64 k, .int .i64 n, .str s]] => some (.bool (validV ⟨k, n, s⟩))
 | 118, [.str s, .str [32]] => bif Nat.ble s.length 1000000 then some (.int .i64 (idxB s)) else none
 | 120, [.str l] => bif Nat.ble l.length 1000000 then some (.tup [.str (textV l).1, .int .i64 (textV l).2]) else none
 | 11, [.agg [.str s, .int .i64 r, .raw (.slice none 0 0), .raw (.slice none 0 0), .raw (.slice none 0 0), .vs 3 [[.int .i64 a, .int .i64 b, .str t]]]] => some (.bool (validP ⟨s, r, [], [], [], [⟨a, b, t⟩]⟩))
 | _, _ => none
theorem nilW_le (s : List UInt8) (r a b : Int) (t : List UInt8) : AVLe (.agg [.str s, .int .i64 r, .nilS, .nilS, .nilS, .vs 3 [[.int .i64 a, .int .i64 b, .str t]]]) (⟨s, r, [], [], [], [⟨a, b, t⟩]⟩ : Prog).av :=
 avle_agg (avles_cons (AVLe.refl _) (avles_cons (AVLe.refl _) (avles_cons AVLe.nil (avles_cons AVLe.nil (avles_cons AVLe.nil (avles_cons (AVLe.refl _) avles_nil))))))
theorem libW_ok : LibOK Tryz.prog libW := fun f xs r h hf => by
 clear hf
 unfold libW at h
 split at h
 ·rename_i s
  cases hv : validV ⟨2, 0, s⟩ with
  | false => rw [hv] at h; cases h
  | true => rw [hv] at h; cases h; exact p44t s hv
 ·rename_i n
  cases hv : decide (-1000 ≤ n) && decide (n ≤ 1000) with
  | false => rw [hv] at h; cases h
  | true => rw [hv] at h; cases h; simp only [Bool.and_eq_true, decide_eq_true_eq] at hv; exact p46 n hv.1 hv.2
 ·cases h; exact p83 ⟨_, _, _⟩
 ·rename_i s
  cases hv : Nat.ble s.length 1000000 with
  | false => rw [hv] at h; cases h
  | true => rw [hv] at h; cases h; exact p118 s (Nat.le_of_ble_eq_true hv)
 ·rename_i l
  cases hv : Nat.ble l.length 1000000 with
  | false => rw [hv] at h; cases h
  | true => rw [hv] at h; cases h; exact p120 l (Nat.le_of_ble_eq_true hv)
 ·cases h; exact pure_mono (p11 _) (avles_cons (nilW_le _ _ _ _ _) avles_nil)
 ·cases h
theorem cvs0 : ∀ f ∈ ([] : List FuncId), callable Tryz.prog f = true := fun f h => by cases h
theorem runW {f : FuncId} {fn : Func} {e : EC} {rs : List ERes} {xs : List AV} {r : AV} (hf : Tryz.prog.funcs[f]? = some fn) (hc : chkF Tryz.prog fn xs.length e rs = true) (ha : flatL xs = true) (hr : r.flat = true) (h : (run (fun f => tabW.lookup f) libW [] 3000 rs [.c e] (initEnv xs) .new).map (fun x => x.1.wk) = some r) : Pure Tryz.prog f xs r := by
 obtain ⟨x, hx, e⟩ := Option.map_eq_some_iff.1 h
 exact pure_run mo tabW_ok libW_ok cvs0 hf hc ha hx e hr
abbrev sT : List UInt8 := [116, 101, 120, 116, 32, 34, 97, 92, 34, 98, 34]
abbrev sQ : List UInt8 := [34, 97, 92, 34, 98, 34]
theorem h49 : Pure Tryz.prog 49 [.str sQ] (.tup [.agg [.int .i64 2, .int .i64 0, .str [97, 34, 98]], .int .i64 0]) := runW Tryz.func49 c49 rfl rfl (by kernel_rfl)
theorem h16t : Pure Tryz.prog 16 [.agg [.int .i64 2, .int .i64 0, .str [97, 34, 98]]] (.str sT) := runW Tryz.func16 c16 rfl rfl (by kernel_rfl)
theorem h16a : Pure Tryz.prog 16 [.agg [.int .i64 1, .int .i64 (-3), .str []]] (.str [105, 110, 116, 32, 45, 51]) := runW Tryz.func16 c16 rfl rfl (by kernel_rfl)
theorem h16b : Pure Tryz.prog 16 [.agg [.int .i64 24, .int .i64 0, .str []]] (.str [115, 116, 111, 112]) := runW Tryz.func16 c16 rfl rfl (by kernel_rfl)
theorem h47 : Pure Tryz.prog 47 [.str sT, .str [32]] (.tup [.str [116, 101, 120, 116], .str sQ, .bool true]) := runW Tryz.func47 c47 rfl rfl (by kernel_rfl)
theorem h48 : Pure Tryz.prog 48 [.vs 1 (opNames.map fun s => [.str s]), .str [116, 101, 120, 116]] (.int .i64 2) := runW Tryz.func48 c48 rfl rfl (by kernel_rfl)
theorem h27 : Pure Tryz.prog 27 [aN] (.vs 1 [[.str [115, 101, 114, 118, 105, 99, 101, 32, 115, 32, 114, 111, 108, 101, 32, 48]], [.str [48, 58, 32, 115, 116, 111, 112]]]) := runW Tryz.func27 c27 rfl rfl (by kernel_rfl)
theorem h14 : Pure Tryz.prog 14 [aN, pA.av] (.bool true) := runW Tryz.func14 c14 rfl rfl (by kernel_rfl)
end Go.Aw.T
