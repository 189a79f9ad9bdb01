/- Part of a proof; own work. -/
import Derived.Test.YtocjjlmnkpnjbaaGreatDoorBS5
namespace Go.Aw.T
open Go Go.Aw Go.Proofs Go.RowKit
set_option maxRecDepth 100000
attribute [local irreducible] Go.Aw.DM Go.Aw.AHeap.setB Go.Aw.AHeap.setT
attribute [local go_sem] peval EOpd.ev Env.get binInt binStr binBool buildParts AV.cells AV.okc setRange minmaxAV AV.one AV.ofCells eqCells eqCell bslRows cond_true cond_false beq_self_eq_true Bool.not_true Bool.not_false beq_true beq_false eq_self if_true Option.some.injEq List.length_cons List.length_nil List.take_succ_cons List.take_zero List.drop_succ_cons List.drop_zero List.set_cons_succ List.set_cons_zero List.nil_append List.cons_append List.append_nil and_self Option.map_some List.map_cons List.map_nil Bool.false_eq_true if_false Nat.zero_add Nat.add_zero true_and and_true Bool.and_true Bool.true_and List.getElem?_cons_zero List.getElem?_cons_succ Nat.zero_le Nat.le_refl
set_option linter.unusedSimpArgs false
set_option linter.unusedVariables false
theorem own_of {f : FuncId} {fn : Func} {args : List AV} {e : EC} {rs : List ERes} {H H' : AHeap} {r : AV} (hm : Tryz.prog.follows .mixedOrders = true) (hf : Tryz.prog.funcs[f]? = some fn) (hc : chkF Tryz.prog fn args.length e rs = true)
  (h : AM Tryz.prog rs (fun o H2 => ∃ a, o = .ret a ∧ AVLe a r ∧ HSub H' H2) [.c e] (initEnv args) H) : ACalls Tryz.prog f args H (Ret fun a H2 => a = r ∧ H2 = H') :=
 (acalls_of hm hf hc h).mono fun o H2 ⟨a, e, ha, hs⟩ => ⟨.ret r, H', by subst e; exact ha, hs, r, rfl, rfl, rfl⟩
def zig (n : Int) : Nat := if 0 ≤ n then 2 * n.toNat else 2 * (-n).toNat - 1
def enc (n : Int) : List Nat := if zig n < 128 then [zig n] else [zig n % 128 + 128, zig n / 128]
def encT (s : List UInt8) : List Nat := enc s.length ++ s.map (·.toNat)
def brow (b : Nat) : List AV := [.int .u8 (b : Int)]
def zigC (n : Int) : Int := IntKind.u64.wrap (BitVec.ofInt 64 (IntKind.u64.wrap (IntKind.u64.wrap n * 2 ^ 1)) ^^^ BitVec.ofInt 64 (IntKind.u64.wrap (n.fdiv (2 ^ 63)))).toNat
theorem zigN : ∀ i : Fin 2001, zigC ((i.val : Int) - 1000) = (zig ((i.val : Int) - 1000) : Int) := by decide +kernel
theorem zigC_eq {n : Int} (h0 : -1000 ≤ n) (h1 : n ≤ 1000) : zigC n = (zig n : Int) := by
 have := zigN ⟨(n + 1000).toNat, by omega⟩
 have e : (((n + 1000).toNat : Nat) : Int) - 1000 = n := by omega
 simpa only [e] using this
theorem zig_le {n : Int} (h0 : -1000 ≤ n) (h1 : n ≤ 1000) : zig n ≤ 2000 := by unfold zig; split <;> omega
theorem lowN : ∀ i : Fin 2048, IntKind.u8.wrap (BitVec.ofInt 8 (IntKind.u8.wrap (i.val : Int)) ||| BitVec.ofInt 8 128).toNat = ((i.val % 128 + 128 : Nat) : Int) := by decide +kernel
theorem low_eq {u : Nat} (h : u < 2048) : IntKind.u8.wrap (BitVec.ofInt IntKind.u8.bits (IntKind.u8.wrap (u : Int)) ||| BitVec.ofInt IntKind.u8.bits 128).toNat = ((u % 128 + 128 : Nat) : Int) := lowN ⟨u, h⟩
theorem w8 {u : Nat} (h : u < 128) : IntKind.u8.wrap (u : Int) = (u : Int) := by
 have : ∀ i : Fin 128, IntKind.u8.wrap (i.val : Int) = (i.val : Int) := by decide +kernel
 exact this ⟨u, h⟩
theorem shN {u : Nat} : Int.fdiv (u : Int) (2 ^ 7) = ((u / 128 : Nat) : Int) := by
 rw [Int.fdiv_eq_ediv_of_nonneg _ (by decide)]
 norm_cast
def E96 (t : Nat) (rows : List (List AV)) (u : Nat) : Nat → Env
 | 0 => [(0, .own t 1 rows), (5, .int .u64 (u : Int)), (4, .nilS)]
 | _ => [(0, .own t 1 (rows ++ [brow (u % 128 + 128)])), (5, .int .u64 ((u / 128 : Nat) : Int)), (4, .nilS)]
def G96 (H : AHeap) (t : Nat) (rows : List (List AV)) : Nat → AHeap
 | 0 => H
 | _ => H.setT t (.frz 5 1 (rows.length + 1))
theorem p96 (t : Nat) (rows : List (List AV)) (n : Int) (H : AHeap) (ht : H.tok t = some (.frz 5 1 rows.length)) (hr : rows.length ≤ 1000000) (h0 : -1000 ≤ n) (h1 : n ≤ 1000) :
  ACalls Tryz.prog 96 [.own t 1 rows, .int .i64 n] H (Ret fun a H2 => a = .own t 1 (rows ++ (enc n).map brow) ∧ H2 = H.setT t (.frz 5 1 (rows ++ (enc n).map brow).length)) := by
 refine own_of mo Tryz.func96 c96 ?_
 unfold e96 r96
 simp only [initEnv, initFrom]
 have hz := zigC_eq h0 h1
 have hu := zig_le h0 h1
 generalize hzu : zig n = u at hz hu
 have he : enc n = if u < 128 then [u] else [u % 128 + 128, u / 128] := by unfold enc; rw [hzu]
 rw [he]
 repeat' first|(apply Sp.go;·constructor<;>first|exact ss|(change _=_;first|(simp only[go_sem,Nat.reduceBEq,Nat.reduceAdd,Nat.reduceLeDiff,reduceIte]<;>rfl)|rfl)|exact Nat.le_of_ble_eq_true rfl|decide|(repeat' first|(apply Lk.go;constructor)|assumption|exact nb ‹_› ‹_›|exact nt ‹_› ‹_›))|(intro b hb;repeat first|(refine fe hb ?_;intro _ _ hb)|(refine fT hb ?_;intro hb))|refine rt ?_|refine gA rfl ?_|refine gB rfl ?_|apply cT rfl|apply cF rfl|(apply DM.gbT;rfl)|(apply DM.gbF;rfl)|intro h
 refine AM.loopX (X := Nat) 0 (E96 t rows u) (fun k H' => H' = G96 H t rows k ∧ (k = 0 ∨ k = 1 ∧ 128 ≤ u)) (fun k => 1 - k) ⟨rfl, .inl rfl⟩ ?_ ?_
 ·unfold E96
  refine envle_cons ?_ (envle_cons ?_ (envle_cons ?_ (envle_nil _)))
  ·exact AVLe.refl _
  ·simp only [Env.get, Nat.reduceBEq, cond_true, cond_false, beq_self_eq_true]
   exact avle_int hz
  ·exact AVLe.refl _
 rintro k H' ⟨rfl, rfl | ⟨rfl, hk⟩⟩
 ·simp only [E96, G96]
  repeat' first|(apply Sp.go;·constructor<;>first|exact ss|(change _=_;first|(simp only[go_sem,Nat.reduceBEq,Nat.reduceAdd,Nat.reduceLeDiff,reduceIte]<;>rfl)|rfl)|exact Nat.le_of_ble_eq_true rfl|decide|(repeat' first|(apply Lk.go;constructor)|assumption|exact nb ‹_› ‹_›|exact nt ‹_› ‹_›))|(intro b hb;repeat first|(refine fe hb ?_;intro _ _ hb)|(refine fT hb ?_;intro hb))|refine rt ?_|refine gA rfl ?_|refine gB rfl ?_|apply cT rfl|apply cF rfl|(apply DM.gbT;rfl)|(apply DM.gbF;rfl)|intro h
  (apply AM.cond; (· rfl))
  ·intro h
   have hk : 128 ≤ u := by simp at h; omega
   repeat' first|(apply Sp.go;·constructor<;>first|exact ss|(change _=_;first|(simp only[go_sem,Nat.reduceBEq,Nat.reduceAdd,Nat.reduceLeDiff,reduceIte]<;>rfl)|rfl)|exact Nat.le_of_ble_eq_true rfl|decide|(repeat' first|(apply Lk.go;constructor)|assumption|exact nb ‹_› ‹_›|exact nt ‹_› ‹_›))|(intro b hb;repeat first|(refine fe hb ?_;intro _ _ hb)|(refine fT hb ?_;intro hb))|refine rt ?_|refine gA rfl ?_|refine gB rfl ?_|apply cT rfl|apply cF rfl|(apply DM.gbT;rfl)|(apply DM.gbF;rfl)|intro h
   have hlow := low_eq (u := u) (by omega)
   (apply DM.apO (t := t); (· rfl); (· exact ht); (· rfl); (· simp only [List.length_cons, List.length_nil]; omega); (· simp only [List.length_cons, List.length_nil]; unfold maxLen; omega))
   repeat' first|(apply Sp.go;·constructor<;>first|exact ss|(change _=_;first|(simp only[go_sem,Nat.reduceBEq,Nat.reduceAdd,Nat.reduceLeDiff,reduceIte]<;>rfl)|rfl)|exact Nat.le_of_ble_eq_true rfl|decide|(repeat' first|(apply Lk.go;constructor)|assumption|exact nb ‹_› ‹_›|exact nt ‹_› ‹_›))|(intro b hb;repeat first|(refine fe hb ?_;intro _ _ hb)|(refine fT hb ?_;intro hb))|refine rt ?_|refine gA rfl ?_|refine gB rfl ?_|apply cT rfl|apply cF rfl|(apply DM.gbT;rfl)|(apply DM.gbF;rfl)|intro h
   rw [show (u : Int).fdiv (2 ^ min (Int.toNat 7) 64) = ((u / 128 : Nat) : Int) from shN]
   repeat' first|(apply Sp.go;·constructor<;>first|exact ss|(change _=_;first|(simp only[go_sem,Nat.reduceBEq,Nat.reduceAdd,Nat.reduceLeDiff,reduceIte]<;>rfl)|rfl)|exact Nat.le_of_ble_eq_true rfl|decide|(repeat' first|(apply Lk.go;constructor)|assumption|exact nb ‹_› ‹_›|exact nt ‹_› ‹_›))|(intro b hb;repeat first|(refine fe hb ?_;intro _ _ hb)|(refine fT hb ?_;intro hb))|refine rt ?_|refine gA rfl ?_|refine gB rfl ?_|apply cT rfl|apply cF rfl|(apply DM.gbT;rfl)|(apply DM.gbF;rfl)|intro h
   refine AM.roundX 1 ⟨rfl, .inr ⟨rfl, hk⟩⟩ ?_ (by decide)
   unfold E96
   refine envle_cons ?_ (envle_cons ?_ (envle_cons ?_ (envle_nil _)))
   ·simp only [Env.get, Nat.reduceBEq, cond_true, cond_false, beq_self_eq_true]
    exact avle_eq (congrArg (fun z => AV.own t 1 (rows ++ [[AV.int .u8 z]])) hlow)
   ·exact AVLe.refl _
   ·exact AVLe.refl _
  ·intro h
   have hk : u < 128 := by simp at h; omega
   rw [if_pos hk]
   repeat' first|(apply Sp.go;·constructor<;>first|exact ss|(change _=_;first|(simp only[go_sem,Nat.reduceBEq,Nat.reduceAdd,Nat.reduceLeDiff,reduceIte]<;>rfl)|rfl)|exact Nat.le_of_ble_eq_true rfl|decide|(repeat' first|(apply Lk.go;constructor)|assumption|exact nb ‹_› ‹_›|exact nt ‹_› ‹_›))|(intro b hb;repeat first|(refine fe hb ?_;intro _ _ hb)|(refine fT hb ?_;intro hb))|refine rt ?_|refine gA rfl ?_|refine gB rfl ?_|apply cT rfl|apply cF rfl|(apply DM.gbT;rfl)|(apply DM.gbF;rfl)|intro h
   rw [w8 hk]
   (apply DM.apO (t := t); (· rfl); (· exact ht); (· rfl); (· simp only [List.length_cons, List.length_nil]; omega); (· simp only [List.length_cons, List.length_nil]; unfold maxLen; omega))
   repeat' first|(apply Sp.go;·constructor<;>first|exact ss|(change _=_;first|(simp only[go_sem,Nat.reduceBEq,Nat.reduceAdd,Nat.reduceLeDiff,reduceIte]<;>rfl)|rfl)|exact Nat.le_of_ble_eq_true rfl|decide|(repeat' first|(apply Lk.go;constructor)|assumption|exact nb ‹_› ‹_›|exact nt ‹_› ‹_›))|(intro b hb;repeat first|(refine fe hb ?_;intro _ _ hb)|(refine fT hb ?_;intro hb))|refine rt ?_|refine gA rfl ?_|refine gB rfl ?_|apply cT rfl|apply cF rfl|(apply DM.gbT;rfl)|(apply DM.gbF;rfl)|intro h
   refine AM.eqH (show _ = H.setT t (.frz 5 1 (rows ++ List.map brow [u]).length) by simp) ?_
   (apply Sr.go;·constructor<;>first|(apply Lk.go;constructor<;>first|exact ss|(change _=_;first|(simp only[go_sem,Nat.reduceBEq,Nat.reduceAdd,Nat.reduceLeDiff,reduceIte]<;>rfl)|rfl)|exact Nat.le_of_ble_eq_true rfl|decide|(repeat' first|(apply Lk.go;constructor)|assumption|exact nb ‹_› ‹_›|exact nt ‹_› ‹_›))|assumption)
   exact AVLe.refl _
 ·simp only [E96, G96]
  repeat' first|(apply Sp.go;·constructor<;>first|exact ss|(change _=_;first|(simp only[go_sem,Nat.reduceBEq,Nat.reduceAdd,Nat.reduceLeDiff,reduceIte]<;>rfl)|rfl)|exact Nat.le_of_ble_eq_true rfl|decide|(repeat' first|(apply Lk.go;constructor)|assumption|exact nb ‹_› ‹_›|exact nt ‹_› ‹_›))|(intro b hb;repeat first|(refine fe hb ?_;intro _ _ hb)|(refine fT hb ?_;intro hb))|refine rt ?_|refine gA rfl ?_|refine gB rfl ?_|apply cT rfl|apply cF rfl|(apply DM.gbT;rfl)|(apply DM.gbF;rfl)|intro h
  (apply AM.cond; (· rfl))
  ·intro h
   exfalso
   have : 128 ≤ u / 128 := by simp at h; omega
   omega
  ·intro _
   rw [if_neg (show ¬ u < 128 by omega)]
   repeat' first|(apply Sp.go;·constructor<;>first|exact ss|(change _=_;first|(simp only[go_sem,Nat.reduceBEq,Nat.reduceAdd,Nat.reduceLeDiff,reduceIte]<;>rfl)|rfl)|exact Nat.le_of_ble_eq_true rfl|decide|(repeat' first|(apply Lk.go;constructor)|assumption|exact nb ‹_› ‹_›|exact nt ‹_› ‹_›))|(intro b hb;repeat first|(refine fe hb ?_;intro _ _ hb)|(refine fT hb ?_;intro hb))|refine rt ?_|refine gA rfl ?_|refine gB rfl ?_|apply cT rfl|apply cF rfl|(apply DM.gbT;rfl)|(apply DM.gbF;rfl)|intro h
   rw [w8 (show u / 128 < 128 by omega)]
   (apply DM.apO (t := t); (· rfl); (· simp only [List.length_append, List.length_cons, List.length_nil, Nat.zero_add]; exact t_same); (· rfl); (· simp only [List.length_append, List.length_cons, List.length_nil]; omega); (· simp only [List.length_append, List.length_cons, List.length_nil]; unfold maxLen; omega))
   repeat' first|(apply Sp.go;·constructor<;>first|exact ss|(change _=_;first|(simp only[go_sem,Nat.reduceBEq,Nat.reduceAdd,Nat.reduceLeDiff,reduceIte]<;>rfl)|rfl)|exact Nat.le_of_ble_eq_true rfl|decide|(repeat' first|(apply Lk.go;constructor)|assumption|exact nb ‹_› ‹_›|exact nt ‹_› ‹_›))|(intro b hb;repeat first|(refine fe hb ?_;intro _ _ hb)|(refine fT hb ?_;intro hb))|refine rt ?_|refine gA rfl ?_|refine gB rfl ?_|apply cT rfl|apply cF rfl|(apply DM.gbT;rfl)|(apply DM.gbF;rfl)|intro h
   refine AM.eqH (show _ = H.setT t (.frz 5 1 (rows ++ List.map brow [u % 128 + 128, u / 128]).length) by rw [setT_setT]; simp) ?_
   (apply Sr.go;·constructor<;>first|(apply Lk.go;constructor<;>first|exact ss|(change _=_;first|(simp only[go_sem,Nat.reduceBEq,Nat.reduceAdd,Nat.reduceLeDiff,reduceIte]<;>rfl)|rfl)|exact Nat.le_of_ble_eq_true rfl|decide|(repeat' first|(apply Lk.go;constructor)|assumption|exact nb ‹_› ‹_›|exact nt ‹_› ‹_›))|assumption)
   rw [List.append_assoc]
   exact AVLe.refl _
def irow1 (n : Int) : List AV := [.int .i64 n]
theorem enc_len (n : Int) : (enc n).length ≤ 2 := by unfold enc; split <;> simp
theorem encs_len (ns : List Int) : (ns.flatMap enc).length ≤ 2 * ns.length := by
 induction ns with
 | nil => simp
 | cons n l ih =>
  have := enc_len n
  simp only [List.flatMap_cons, List.length_append, List.length_cons]
  omega
theorem setT_id {H : AHeap} {t : Nat} {o : Own} (h : H.tok t = some o) : H = H.setT t o := by
 cases H with
 | mk b k =>
  simp only [AHeap.setT, AHeap.mk.injEq, true_and]
  funext x
  by_cases e : x = t
  ·subst e; simp only [if_true]; exact h
  ·simp [e]
def RO (H : AHeap) (t : Nat) (rows : List (List AV)) : AV → AHeap → Prop := fun a H2 => a = .own t 1 rows ∧ H2 = H.setT t (.frz 5 1 rows.length)
theorem p57 (t : Nat) (rows : List (List AV)) (ns : List Int) (H : AHeap) (ht : H.tok t = some (.frz 5 1 rows.length)) (hr : rows.length + 2 * ns.length ≤ 1000000) (hn : ∀ n ∈ ns, -1000 ≤ n ∧ n ≤ 1000) :
  ACalls Tryz.prog 57 [.own t 1 rows, .vs 1 (ns.map irow1)] H (Ret (RO H t (rows ++ (ns.flatMap enc).map brow))) := by
 refine own_of mo Tryz.func57 c57 ?_
 unfold e57 r57
 simp only [initEnv, initFrom]
 have hnl : ns.length ≤ maxLen := by unfold maxLen; omega
 repeat' first|(apply Sp.go;·constructor<;>first|exact ss|(change _=_;first|(simp only[go_sem,Nat.reduceBEq,Nat.reduceAdd,Nat.reduceLeDiff,reduceIte]<;>rfl)|rfl)|exact Nat.le_of_ble_eq_true rfl|decide|(repeat' first|(apply Lk.go;constructor)|assumption|exact nb ‹_› ‹_›|exact nt ‹_› ‹_›))|(intro b hb;repeat first|(refine fe hb ?_;intro _ _ hb)|(refine fT hb ?_;intro hb))|refine rt ?_|refine gA rfl ?_|refine gB rfl ?_|apply cT rfl|apply cF rfl|(apply DM.gbT;rfl)|(apply DM.gbF;rfl)|intro h
 refine AM.loopX (X := Nat) 0 (fun i => [(0, .own t 1 (rows ++ ((ns.take i).flatMap enc).map brow)), (7, .vs 1 (ns.map irow1)), (8, .int .i64 ns.length), (9, .int .i64 i), (4, .nilS)]) (fun i H' => H' = H.setT t (.frz 5 1 (rows ++ ((ns.take i).flatMap enc).map brow).length) ∧ i ≤ ns.length) (fun i => ns.length - i) ⟨?_, by omega⟩ ?_ ?_
 ·refine (setT_id ht).trans ?_
  simp
 ·refine envle_cons ?_ (envle_cons ?_ (envle_cons ?_ (envle_cons ?_ (envle_cons ?_ (envle_nil _)))))
  ·simp only [Env.get, Nat.reduceBEq, cond_true, cond_false, beq_self_eq_true]
   exact avle_eq (by simp)
  ·exact AVLe.refl _
  ·simp only [Env.get, Nat.reduceBEq, cond_true, cond_false, beq_self_eq_true]
   exact avle_int (by simp)
  ·exact AVLe.refl _
  ·exact AVLe.refl _
 rintro i H' ⟨rfl, hi⟩
 repeat' first|(apply Sp.go;·constructor<;>first|exact ss|(change _=_;first|(simp only[go_sem,Nat.reduceBEq,Nat.reduceAdd,Nat.reduceLeDiff,reduceIte]<;>rfl)|rfl)|exact Nat.le_of_ble_eq_true rfl|decide|(repeat' first|(apply Lk.go;constructor)|assumption|exact nb ‹_› ‹_›|exact nt ‹_› ‹_›))|(intro b hb;repeat first|(refine fe hb ?_;intro _ _ hb)|(refine fT hb ?_;intro hb))|refine rt ?_|refine gA rfl ?_|refine gB rfl ?_|apply cT rfl|apply cF rfl|(apply DM.gbT;rfl)|(apply DM.gbF;rfl)|intro h
 (apply AM.cond; (· rfl))
 ·intro h3
  simp at h3
  obtain ⟨v, hvx⟩ := some_of h3
  have hmem := hn v (List.mem_of_getElem? hvx)
  have hlen : (rows ++ ((ns.take i).flatMap enc).map brow).length ≤ 1000000 := by
   have := encs_len (ns.take i)
   simp only [List.length_append, List.length_map, List.length_take] at *
   omega
  repeat' first|(apply Sp.go;·constructor<;>first|exact ss|(change _=_;first|(simp only[go_sem,Nat.reduceBEq,Nat.reduceAdd,Nat.reduceLeDiff,reduceIte]<;>rfl)|rfl)|exact Nat.le_of_ble_eq_true rfl|decide|(repeat' first|(apply Lk.go;constructor)|assumption|exact nb ‹_› ‹_›|exact nt ‹_› ‹_›))|(intro b hb;repeat first|(refine fe hb ?_;intro _ _ hb)|(refine fT hb ?_;intro hb))|refine rt ?_|refine gA rfl ?_|refine gB rfl ?_|apply cT rfl|apply cF rfl|(apply DM.gbT;rfl)|(apply DM.gbF;rfl)|intro h
  (apply DM.ixV (row := irow1 v) (z := (i : Int)) (by omega) (row_get irow1 hvx); (· rfl); (· rfl))
  repeat' first|(apply Sp.go;·constructor<;>first|exact ss|(change _=_;first|(simp only[go_sem,Nat.reduceBEq,Nat.reduceAdd,Nat.reduceLeDiff,reduceIte]<;>rfl)|rfl)|exact Nat.le_of_ble_eq_true rfl|decide|(repeat' first|(apply Lk.go;constructor)|assumption|exact nb ‹_› ‹_›|exact nt ‹_› ‹_›))|(intro b hb;repeat first|(refine fe hb ?_;intro _ _ hb)|(refine fT hb ?_;intro hb))|refine rt ?_|refine gA rfl ?_|refine gB rfl ?_|apply cT rfl|apply cF rfl|(apply DM.gbT;rfl)|(apply DM.gbF;rfl)|intro h
  (apply DM.cal (p96 t (rows ++ ((ns.take i).flatMap enc).map brow) v (H.setT t (.frz 5 1 (rows ++ ((ns.take i).flatMap enc).map brow).length)) t_same hlen hmem.1 hmem.2); (· simp only [go_sem, Nat.reduceBEq, Nat.reduceAdd] <;> rfl); (· exact AVLes.refl _))
  rintro r H1 ⟨rfl, rfl⟩
  rw [setT_setT]
  repeat' first|(apply Sp.go;·constructor<;>first|exact ss|(change _=_;first|(simp only[go_sem,Nat.reduceBEq,Nat.reduceAdd,Nat.reduceLeDiff,reduceIte]<;>rfl)|rfl)|exact Nat.le_of_ble_eq_true rfl|decide|(repeat' first|(apply Lk.go;constructor)|assumption|exact nb ‹_› ‹_›|exact nt ‹_› ‹_›))|(intro b hb;repeat first|(refine fe hb ?_;intro _ _ hb)|(refine fT hb ?_;intro hb))|refine rt ?_|refine gA rfl ?_|refine gB rfl ?_|apply cT rfl|apply cF rfl|(apply DM.gbT;rfl)|(apply DM.gbF;rfl)|intro h
  have e1 : (rows ++ ((ns.take i).flatMap enc).map brow) ++ (enc v).map brow = rows ++ ((ns.take (i + 1)).flatMap enc).map brow := by
   rw [List.take_add_one, hvx]; simp
  rw [e1]
  refine AM.roundX (i + 1) ⟨rfl, by omega⟩ ?_ (show ns.length - (i + 1) < ns.length - i by omega)
  (repeat first | exact envle_nil _ | (refine envle_cons ?_ ?_; · (simp only [go_sem, Nat.reduceBEq, Nat.reduceAdd]; exact AVLe.refl _)))
  refine envle_cons ?_ ?_
  ·simp only [go_sem, Nat.reduceBEq, Nat.reduceAdd]
   refine avle_int ?_
   rw [inc64 h3 hnl]
  exact envle_cons (AVLe.refl _) (envle_nil _)
 intro h3
 simp at h3
 rw [show i = ns.length by omega, List.take_length]
 repeat' first|(apply Sp.go;·constructor<;>first|exact ss|(change _=_;first|(simp only[go_sem,Nat.reduceBEq,Nat.reduceAdd,Nat.reduceLeDiff,reduceIte]<;>rfl)|rfl)|exact Nat.le_of_ble_eq_true rfl|decide|(repeat' first|(apply Lk.go;constructor)|assumption|exact nb ‹_› ‹_›|exact nt ‹_› ‹_›))|(intro b hb;repeat first|(refine fe hb ?_;intro _ _ hb)|(refine fT hb ?_;intro hb))|refine rt ?_|refine gA rfl ?_|refine gB rfl ?_|apply cT rfl|apply cF rfl|(apply DM.gbT;rfl)|(apply DM.gbF;rfl)|intro h
 (apply Sr.go;·constructor<;>first|(apply Lk.go;constructor<;>first|exact ss|(change _=_;first|(simp only[go_sem,Nat.reduceBEq,Nat.reduceAdd,Nat.reduceLeDiff,reduceIte]<;>rfl)|rfl)|exact Nat.le_of_ble_eq_true rfl|decide|(repeat' first|(apply Lk.go;constructor)|assumption|exact nb ‹_› ‹_›|exact nt ‹_› ‹_›))|assumption)
 exact AVLe.refl _
theorem p58 (t : Nat) (rows : List (List AV)) (s : List UInt8) (H : AHeap) (ht : H.tok t = some (.frz 5 1 rows.length)) (hr : rows.length ≤ 900000) (hs : s.length ≤ 1000) :
  ACalls Tryz.prog 58 [.own t 1 rows, .str s] H (Ret (RO H t (rows ++ (encT s).map brow))) := by
 refine own_of mo Tryz.func58 c58 ?_
 unfold e58 r58
 simp only [initEnv, initFrom]
 have hel := enc_len s.length
 repeat' first|(apply Sp.go;·constructor<;>first|exact ss|(change _=_;first|(simp only[go_sem,Nat.reduceBEq,Nat.reduceAdd,Nat.reduceLeDiff,reduceIte]<;>rfl)|rfl)|exact Nat.le_of_ble_eq_true rfl|decide|(repeat' first|(apply Lk.go;constructor)|assumption|exact nb ‹_› ‹_›|exact nt ‹_› ‹_›))|(intro b hb;repeat first|(refine fe hb ?_;intro _ _ hb)|(refine fT hb ?_;intro hb))|refine rt ?_|refine gA rfl ?_|refine gB rfl ?_|apply cT rfl|apply cF rfl|(apply DM.gbT;rfl)|(apply DM.gbF;rfl)|intro h
 (apply DM.cal (p96 t rows s.length H ht (by omega) (by omega) (by omega)); (· simp only [go_sem, Nat.reduceBEq, Nat.reduceAdd] <;> rfl); (· exact AVLes.refl _))
 rintro r H1 ⟨rfl, rfl⟩
 repeat' first|(apply Sp.go;·constructor<;>first|exact ss|(change _=_;first|(simp only[go_sem,Nat.reduceBEq,Nat.reduceAdd,Nat.reduceLeDiff,reduceIte]<;>rfl)|rfl)|exact Nat.le_of_ble_eq_true rfl|decide|(repeat' first|(apply Lk.go;constructor)|assumption|exact nb ‹_› ‹_›|exact nt ‹_› ‹_›))|(intro b hb;repeat first|(refine fe hb ?_;intro _ _ hb)|(refine fT hb ?_;intro hb))|refine rt ?_|refine gA rfl ?_|refine gB rfl ?_|apply cT rfl|apply cF rfl|(apply DM.gbT;rfl)|(apply DM.gbF;rfl)|intro h
 (apply DM.apO (t := t); (· rfl); (· exact t_same); (· rfl); (· simp only [List.length_append, List.length_map]; omega); (· simp only [List.length_append, List.length_map]; unfold maxLen; omega))
 repeat' first|(apply Sp.go;·constructor<;>first|exact ss|(change _=_;first|(simp only[go_sem,Nat.reduceBEq,Nat.reduceAdd,Nat.reduceLeDiff,reduceIte]<;>rfl)|rfl)|exact Nat.le_of_ble_eq_true rfl|decide|(repeat' first|(apply Lk.go;constructor)|assumption|exact nb ‹_› ‹_›|exact nt ‹_› ‹_›))|(intro b hb;repeat first|(refine fe hb ?_;intro _ _ hb)|(refine fT hb ?_;intro hb))|refine rt ?_|refine gA rfl ?_|refine gB rfl ?_|apply cT rfl|apply cF rfl|(apply DM.gbT;rfl)|(apply DM.gbF;rfl)|intro h
 rw [setT_setT]
 have e1 : (rows ++ (enc (s.length : Int)).map brow) ++ s.map (fun c => [AV.int .u8 c.toNat]) = rows ++ (encT s).map brow := by
  simp only [encT, List.map_append, List.map_map, List.append_assoc]
  rfl
 refine AM.eqH (show _ = H.setT t (.frz 5 1 (rows ++ (encT s).map brow).length) by rw [← e1]; simp [Nat.add_assoc]) ?_
 (apply Sr.go;·constructor<;>first|(apply Lk.go;constructor<;>first|exact ss|(change _=_;first|(simp only[go_sem,Nat.reduceBEq,Nat.reduceAdd,Nat.reduceLeDiff,reduceIte]<;>rfl)|rfl)|exact Nat.le_of_ble_eq_true rfl|decide|(repeat' first|(apply Lk.go;constructor)|assumption|exact nb ‹_› ‹_›|exact nt ‹_› ‹_›))|assumption)
 rw [← e1]
 exact AVLe.refl _
theorem p58n (s : List UInt8) (H : AHeap) (hs : s.length ≤ 1000) :
  ACalls Tryz.prog 58 [.nilS, .str s] H (Ret fun a H2 => ∃ t, H.tok t = none ∧ RO H t ((encT s).map brow) a H2) := by
 refine ACalls.mono (acalls_of (args := [.nilS, .str s]) (H := H) (R := fun o H2 => ∃ t, H.tok t = none ∧ ∃ a, o = .ret a ∧ AVLe a (.own t 1 ((encT s).map brow)) ∧ HSub (H.setT t (.frz 5 1 ((encT s).map brow).length)) H2) mo Tryz.func58 c58 ?_) fun o H2 ⟨t, h0, a, e, ha, hs⟩ => ⟨.ret (.own t 1 ((encT s).map brow)), H.setT t (.frz 5 1 ((encT s).map brow).length), by subst e; exact ha, hs, _, rfl, t, h0, rfl, rfl⟩
 unfold e58 r58
 simp only [initEnv, initFrom]
 have hel := enc_len s.length
 refine AM.ghostO 0 5 1 (by decide) rfl fun t h0 => ?_
 repeat' first|(apply Sp.go;·constructor<;>first|exact ss|(change _=_;first|(simp only[go_sem,Nat.reduceBEq,Nat.reduceAdd,Nat.reduceLeDiff,reduceIte]<;>rfl)|rfl)|exact Nat.le_of_ble_eq_true rfl|decide|(repeat' first|(apply Lk.go;constructor)|assumption|exact nb ‹_› ‹_›|exact nt ‹_› ‹_›))|(intro b hb;repeat first|(refine fe hb ?_;intro _ _ hb)|(refine fT hb ?_;intro hb))|refine rt ?_|refine gA rfl ?_|refine gB rfl ?_|apply cT rfl|apply cF rfl|(apply DM.gbT;rfl)|(apply DM.gbF;rfl)|intro h
 (apply DM.cal (p96 t [] s.length (H.setT t (.frz 5 1 0)) t_same (by simp) (by omega) (by omega)); (· simp only [go_sem, Nat.reduceBEq, Nat.reduceAdd] <;> rfl); (· exact AVLes.refl _))
 rintro r H1 ⟨rfl, rfl⟩
 repeat' first|(apply Sp.go;·constructor<;>first|exact ss|(change _=_;first|(simp only[go_sem,Nat.reduceBEq,Nat.reduceAdd,Nat.reduceLeDiff,reduceIte]<;>rfl)|rfl)|exact Nat.le_of_ble_eq_true rfl|decide|(repeat' first|(apply Lk.go;constructor)|assumption|exact nb ‹_› ‹_›|exact nt ‹_› ‹_›))|(intro b hb;repeat first|(refine fe hb ?_;intro _ _ hb)|(refine fT hb ?_;intro hb))|refine rt ?_|refine gA rfl ?_|refine gB rfl ?_|apply cT rfl|apply cF rfl|(apply DM.gbT;rfl)|(apply DM.gbF;rfl)|intro h
 (apply DM.apO (t := t); (· rfl); (· exact t_same); (· rfl); (· simp only [List.length_append, List.length_map, List.length_nil]; omega); (· simp only [List.length_append, List.length_map, List.length_nil]; unfold maxLen; omega))
 repeat' first|(apply Sp.go;·constructor<;>first|exact ss|(change _=_;first|(simp only[go_sem,Nat.reduceBEq,Nat.reduceAdd,Nat.reduceLeDiff,reduceIte]<;>rfl)|rfl)|exact Nat.le_of_ble_eq_true rfl|decide|(repeat' first|(apply Lk.go;constructor)|assumption|exact nb ‹_› ‹_›|exact nt ‹_› ‹_›))|(intro b hb;repeat first|(refine fe hb ?_;intro _ _ hb)|(refine fT hb ?_;intro hb))|refine rt ?_|refine gA rfl ?_|refine gB rfl ?_|apply cT rfl|apply cF rfl|(apply DM.gbT;rfl)|(apply DM.gbF;rfl)|intro h
 rw [setT_setT, setT_setT]
 have e1 : ([] ++ (enc (s.length : Int)).map brow) ++ s.map (fun c => [AV.int .u8 c.toNat]) = (encT s).map brow := by
  simp only [encT, List.map_append, List.map_map, List.nil_append]
  rfl
 refine AM.eqH (show _ = H.setT t (.frz 5 1 ((encT s).map brow).length) by rw [← e1]; simp) ?_
 (apply AM.ret; (· apply Lk.go;constructor<;>first|exact ss|(change _=_;first|(simp only[go_sem,Nat.reduceBEq,Nat.reduceAdd,Nat.reduceLeDiff,reduceIte]<;>rfl)|rfl)|exact Nat.le_of_ble_eq_true rfl|decide|(repeat' first|(apply Lk.go;constructor)|assumption|exact nb ‹_› ‹_›|exact nt ‹_› ‹_›)))
 refine ⟨t, h0, _, rfl, ?_, HSub.refl _⟩
 rw [← e1]
 exact AVLe.refl _
section
variable {P : Program} {d me b o : Nat} {l : List EI} {env : Env} {H : AHeap} {K : Env → AHeap → Prop} {Rp : AV → AHeap → Prop} {x : EOpd} {cs : List AV} {T : TypeId} {r : AV}
theorem DM.ldD1 (hm : env.get me = .ptr b 0) (hx : x.ev env = .ptr b o) (hb : H.blk b = some (T, cs)) (hg : cs[o]? = some r) (h : DM P l ((d, r) :: env) H K Rp) : DM P (⟨some d, none, .loadD me false 1 x⟩ :: l) env H K Rp := by
 refine DM.de (.det r) rfl (.pure ?_) fun _ _ => h
 have hl : o + 1 ≤ cs.length := (List.getElem?_eq_some_iff.1 hg).1
 simp only [peval, hm, hx, if_true, hb]
 rw [if_pos hl]
 have : (cs.drop o).take 1 = [r] := by
  rw [List.take_one, List.head?_drop, hg]; rfl
 rw [this]; rfl
theorem DM.ldDA {n : Nat} (hm : env.get me = .ptr b 0) (hx : x.ev env = .ptr b o) (hb : H.blk b = some (T, cs)) (hl : o + n ≤ cs.length) (h : DM P l ((d, .agg ((cs.drop o).take n)) :: env) H K Rp) : DM P (⟨some d, none, .loadD me true n x⟩ :: l) env H K Rp := by
 refine DM.de (.det _) rfl (.pure ?_) fun _ _ => h
 simp only [peval, hm, hx, if_true, hb]
 rw [if_pos hl]
 rfl
end
def encV (v : Val) : List Nat := enc v.k ++ (if v.k = 1 then enc v.n else if v.k = 2 then encT v.s else [])
theorem encT_len (s : List UInt8) : (encT s).length ≤ 2 + s.length := by
 have := enc_len s.length
 simp only [encT, List.length_append, List.length_map]
 omega
theorem encV_len (v : Val) : (encV v).length ≤ 4 + v.s.length := by
 have h1 := enc_len v.k
 have h2 := enc_len v.n
 have h3 := encT_len v.s
 unfold encV
 rw [List.length_append]
 split
 ·omega
 ·split
  ·omega
  ·simp; omega
theorem hsub_own2 {G : AHeap} {t b n m : Nat} {Te : TypeId} {T : TypeId} {c : List AV} (hb : G.blk b = none) (e : n = m) : HSub (G.setT t (.frz Te 1 n)) ((G.setB b T c).setT t (.frz Te 1 m)) := by
 subst e
 refine ⟨fun x y h => ?_, fun x y h => ?_⟩
 ·simp only [AHeap.setB, AHeap.setT] at h ⊢
  rw [if_neg (by rintro rfl; rw [hb] at h; cases h)]
  exact h
 ·simp only [AHeap.setB, AHeap.setT] at h ⊢
  exact h
theorem fin_setT {H : AHeap} {t : Nat} {o : Own} (h : HFin H) : HFin (H.setT t o) := by
 obtain ⟨N, hN⟩ := h
 refine ⟨max N (t + 1), fun n hn => ⟨setT_blk.trans (hN n (by omega)).1, ?_⟩⟩
 rw [setT_ne (by omega)]
 exact (hN n (by omega)).2
theorem p59 (t : Nat) (rows : List (List AV)) (v : Val) (H : AHeap) (ht : H.tok t = some (.frz 5 1 rows.length)) (hr : rows.length ≤ 800000) (hk : -1000 ≤ v.k ∧ v.k ≤ 1000) (hn : -1000 ≤ v.n ∧ v.n ≤ 1000) (hs : v.s.length ≤ 1000) :
  ACalls Tryz.prog 59 [.own t 1 rows, v.av] H (Ret (RO H t (rows ++ (encV v).map brow))) := by
 refine own_of mo Tryz.func59 c59 ?_
 unfold e59 r59
 simp only [initEnv, initFrom]
 have hel := enc_len v.k
 have eV : rows ++ (encV v).map brow = (rows ++ (enc v.k).map brow) ++ (if v.k = 1 then enc v.n else if v.k = 2 then encT v.s else []).map brow := by unfold encV; rw [List.map_append, List.append_assoc]
 rw [eV]
 have hl1 : (rows ++ (enc v.k).map brow).length ≤ 800002 := by simp only [List.length_append, List.length_map]; omega
 generalize hA : rows ++ (enc v.k).map brow = A at hl1
 repeat' first|(apply Sp.go;·constructor<;>first|exact ss|(change _=_;first|(simp only[go_sem,Nat.reduceBEq,Nat.reduceAdd,Nat.reduceLeDiff,reduceIte]<;>rfl)|rfl)|exact Nat.le_of_ble_eq_true rfl|decide|(repeat' first|(apply Lk.go;constructor)|assumption|exact nb ‹_› ‹_›|exact nt ‹_› ‹_›))|(intro b hb;repeat first|(refine fe hb ?_;intro _ _ hb)|(refine fT hb ?_;intro hb))|refine rt ?_|refine gA rfl ?_|refine gB rfl ?_|apply cT rfl|apply cF rfl|(apply DM.gbT;rfl)|(apply DM.gbF;rfl)|intro h
 rename Nat => b1
 have hb1 : H.blk b1 = none := by assumption
 repeat' first|(apply Sp.go;·constructor<;>first|exact ss|(change _=_;first|(simp only[go_sem,Nat.reduceBEq,Nat.reduceAdd,Nat.reduceLeDiff,reduceIte]<;>rfl)|rfl)|exact Nat.le_of_ble_eq_true rfl|decide|(repeat' first|(apply Lk.go;constructor)|assumption|exact nb ‹_› ‹_›|exact nt ‹_› ‹_›))|(intro b hb;repeat first|(refine fe hb ?_;intro _ _ hb)|(refine fT hb ?_;intro hb))|refine rt ?_|refine gA rfl ?_|refine gB rfl ?_|apply cT rfl|apply cF rfl|(apply DM.gbT;rfl)|(apply DM.gbF;rfl)|intro h
 (apply DM.cal (p96 t rows v.k _ (t_B ht) (by omega) hk.1 hk.2); (· simp only [go_sem, Nat.reduceBEq, Nat.reduceAdd] <;> rfl); (· exact AVLes.refl _))
 rintro r H1 ⟨rfl, rfl⟩
 simp only [put_some]
 rw [hA]
 repeat' first|(apply Sp.go;·constructor<;>first|exact ss|(change _=_;first|(simp only[go_sem,Nat.reduceBEq,Nat.reduceAdd,Nat.reduceLeDiff,reduceIte]<;>rfl)|rfl)|exact Nat.le_of_ble_eq_true rfl|decide|(repeat' first|(apply Lk.go;constructor)|assumption|exact nb ‹_› ‹_›|exact nt ‹_› ‹_›))|(intro b hb;repeat first|(refine fe hb ?_;intro _ _ hb)|(refine fT hb ?_;intro hb))|refine rt ?_|refine gA rfl ?_|refine gB rfl ?_|apply cT rfl|apply cF rfl|(apply DM.gbT;rfl)|(apply DM.gbF;rfl)|intro h
 (apply AM.cond; (· rfl))
 ·intro h1
  simp at h1
  rw [if_pos h1]
  repeat' first|(apply Sp.go;·constructor<;>first|exact ss|(change _=_;first|(simp only[go_sem,Nat.reduceBEq,Nat.reduceAdd,Nat.reduceLeDiff,reduceIte]<;>rfl)|rfl)|exact Nat.le_of_ble_eq_true rfl|decide|(repeat' first|(apply Lk.go;constructor)|assumption|exact nb ‹_› ‹_›|exact nt ‹_› ‹_›))|(intro b hb;repeat first|(refine fe hb ?_;intro _ _ hb)|(refine fT hb ?_;intro hb))|refine rt ?_|refine gA rfl ?_|refine gB rfl ?_|apply cT rfl|apply cF rfl|(apply DM.gbT;rfl)|(apply DM.gbF;rfl)|intro h
  (apply DM.cal (p96 t A v.n _ t_same (by omega) hn.1 hn.2); (· simp only [go_sem, Nat.reduceBEq, Nat.reduceAdd] <;> rfl); (· exact AVLes.refl _))
  rintro r H1 ⟨rfl, rfl⟩
  rw [setT_setT]
  repeat' first|(apply Sp.go;·constructor<;>first|exact ss|(change _=_;first|(simp only[go_sem,Nat.reduceBEq,Nat.reduceAdd,Nat.reduceLeDiff,reduceIte]<;>rfl)|rfl)|exact Nat.le_of_ble_eq_true rfl|decide|(repeat' first|(apply Lk.go;constructor)|assumption|exact nb ‹_› ‹_›|exact nt ‹_› ‹_›))|(intro b hb;repeat first|(refine fe hb ?_;intro _ _ hb)|(refine fT hb ?_;intro hb))|refine rt ?_|refine gA rfl ?_|refine gB rfl ?_|apply cT rfl|apply cF rfl|(apply DM.gbT;rfl)|(apply DM.gbF;rfl)|intro h
  refine AM.forget _ (hsub_own2 hb1 rfl) ?_
  (apply Sr.go;·constructor<;>first|(apply Lk.go;constructor<;>first|exact ss|(change _=_;first|(simp only[go_sem,Nat.reduceBEq,Nat.reduceAdd,Nat.reduceLeDiff,reduceIte]<;>rfl)|rfl)|exact Nat.le_of_ble_eq_true rfl|decide|(repeat' first|(apply Lk.go;constructor)|assumption|exact nb ‹_› ‹_›|exact nt ‹_› ‹_›))|assumption)
  exact AVLe.refl _
 ·intro h1
  simp at h1
  rw [if_neg h1]
  repeat' first|(apply Sp.go;·constructor<;>first|exact ss|(change _=_;first|(simp only[go_sem,Nat.reduceBEq,Nat.reduceAdd,Nat.reduceLeDiff,reduceIte]<;>rfl)|rfl)|exact Nat.le_of_ble_eq_true rfl|decide|(repeat' first|(apply Lk.go;constructor)|assumption|exact nb ‹_› ‹_›|exact nt ‹_› ‹_›))|(intro b hb;repeat first|(refine fe hb ?_;intro _ _ hb)|(refine fT hb ?_;intro hb))|refine rt ?_|refine gA rfl ?_|refine gB rfl ?_|apply cT rfl|apply cF rfl|(apply DM.gbT;rfl)|(apply DM.gbF;rfl)|intro h
  (apply AM.cond; (· rfl))
  ·intro h2
   simp at h2
   rw [if_pos h2]
   repeat' first|(apply Sp.go;·constructor<;>first|exact ss|(change _=_;first|(simp only[go_sem,Nat.reduceBEq,Nat.reduceAdd,Nat.reduceLeDiff,reduceIte]<;>rfl)|rfl)|exact Nat.le_of_ble_eq_true rfl|decide|(repeat' first|(apply Lk.go;constructor)|assumption|exact nb ‹_› ‹_›|exact nt ‹_› ‹_›))|(intro b hb;repeat first|(refine fe hb ?_;intro _ _ hb)|(refine fT hb ?_;intro hb))|refine rt ?_|refine gA rfl ?_|refine gB rfl ?_|apply cT rfl|apply cF rfl|(apply DM.gbT;rfl)|(apply DM.gbF;rfl)|intro h
   (apply DM.cal (p58 t A v.s _ t_same (by omega) hs); (· simp only [go_sem, Nat.reduceBEq, Nat.reduceAdd] <;> rfl); (· exact AVLes.refl _))
   rintro r H1 ⟨rfl, rfl⟩
   rw [setT_setT]
   repeat' first|(apply Sp.go;·constructor<;>first|exact ss|(change _=_;first|(simp only[go_sem,Nat.reduceBEq,Nat.reduceAdd,Nat.reduceLeDiff,reduceIte]<;>rfl)|rfl)|exact Nat.le_of_ble_eq_true rfl|decide|(repeat' first|(apply Lk.go;constructor)|assumption|exact nb ‹_› ‹_›|exact nt ‹_› ‹_›))|(intro b hb;repeat first|(refine fe hb ?_;intro _ _ hb)|(refine fT hb ?_;intro hb))|refine rt ?_|refine gA rfl ?_|refine gB rfl ?_|apply cT rfl|apply cF rfl|(apply DM.gbT;rfl)|(apply DM.gbF;rfl)|intro h
   refine AM.forget _ (hsub_own2 hb1 rfl) ?_
   (apply Sr.go;·constructor<;>first|(apply Lk.go;constructor<;>first|exact ss|(change _=_;first|(simp only[go_sem,Nat.reduceBEq,Nat.reduceAdd,Nat.reduceLeDiff,reduceIte]<;>rfl)|rfl)|exact Nat.le_of_ble_eq_true rfl|decide|(repeat' first|(apply Lk.go;constructor)|assumption|exact nb ‹_› ‹_›|exact nt ‹_› ‹_›))|assumption)
   exact AVLe.refl _
  ·intro h2
   simp at h2
   rw [if_neg h2]
   repeat' first|(apply Sp.go;·constructor<;>first|exact ss|(change _=_;first|(simp only[go_sem,Nat.reduceBEq,Nat.reduceAdd,Nat.reduceLeDiff,reduceIte]<;>rfl)|rfl)|exact Nat.le_of_ble_eq_true rfl|decide|(repeat' first|(apply Lk.go;constructor)|assumption|exact nb ‹_› ‹_›|exact nt ‹_› ‹_›))|(intro b hb;repeat first|(refine fe hb ?_;intro _ _ hb)|(refine fT hb ?_;intro hb))|refine rt ?_|refine gA rfl ?_|refine gB rfl ?_|apply cT rfl|apply cF rfl|(apply DM.gbT;rfl)|(apply DM.gbF;rfl)|intro h
   refine AM.forget _ (hsub_own2 hb1 rfl) ?_
   refine AM.eqH (show _ = H.setT t (.frz 5 1 (A ++ List.map brow []).length) by simp) ?_
   (apply Sr.go;·constructor<;>first|(apply Lk.go;constructor<;>first|exact ss|(change _=_;first|(simp only[go_sem,Nat.reduceBEq,Nat.reduceAdd,Nat.reduceLeDiff,reduceIte]<;>rfl)|rfl)|exact Nat.le_of_ble_eq_true rfl|decide|(repeat' first|(apply Lk.go;constructor)|assumption|exact nb ‹_› ‹_›|exact nt ‹_› ‹_›))|assumption)
   refine avle_eq ?_
   simp
def encVar (v : Var_) : List Nat := encT v.name ++ [v.sort.k, v.sort.lo, v.sort.hi].flatMap enc ++ encV v.init
def encH (v : Hd) : List Nat := [v.peer, v.label, v.entry].flatMap enc
def encO (v : Of_) : List Nat := [v.peer, v.label, v.cond, v.args].flatMap enc
def encI (x : Ins_) : List Nat := [x.op, x.n].flatMap enc ++ encT x.s
def encHd (p : Prog) : List Nat := encT p.name ++ [p.role, (p.vars.length : Int)].flatMap enc
def encP (p : Prog) : List Nat := encHd p ++ p.vars.flatMap encVar ++ [(p.hs.length : Int)].flatMap enc ++ p.hs.flatMap encH ++ [(p.os.length : Int)].flatMap enc ++ p.os.flatMap encO ++ [(p.code.length : Int)].flatMap enc ++ p.code.flatMap encI
theorem flat_len {α : Type} {f : α → List Nat} {k : Nat} {l : List α} (h : ∀ v ∈ l, (f v).length ≤ k) : (l.flatMap f).length ≤ k * l.length := by
 induction l with
 | nil => simp
 | cons a l ih =>
  have h1 := h a (List.mem_cons_self ..)
  have h2 := ih fun v hv => h v (List.mem_cons_of_mem _ hv)
  rw [List.flatMap_cons, List.length_append, List.length_cons, Nat.mul_add]
  omega
theorem formed_facts {x : Ins_} (h : formed x = true) : (-1000 ≤ x.op ∧ x.op ≤ 1000) ∧ (-1000 ≤ x.n ∧ x.n ≤ 1000) ∧ x.s.length ≤ 40 := by
 have hr := numd_range x.op
 rw [formed_eq] at h
 simp only [Bool.and_eq_true, inB, decide_eq_true_eq] at h
 refine ⟨by omega, by omega, ?_⟩
 have h2 := h.2
 by_cases e : x.op = 2
 ·rw [if_pos e] at h2
  simp [validV] at h2
  omega
 ·rw [if_neg e] at h2
  simp at h2
  rw [h2]; simp
theorem val_facts {v : Val} (h : validV v = true) : (-1000 ≤ v.k ∧ v.k ≤ 1000) ∧ (-1000 ≤ v.n ∧ v.n ≤ 1000) ∧ v.s.length ≤ 40 := by
 simp [validV] at h
 rcases h with h | h
 ·obtain ⟨h, e⟩ := h
  rw [e]
  simp
  omega
 ·omega
theorem VP.lens {p : Prog} (vp : VP p) (i : Nat) : (encHd p).length ≤ 22 ∧ ((p.vars.take i).flatMap encVar).length ≤ 1000 ∧ ((p.hs.take i).flatMap encH).length ≤ 240 ∧ ((p.os.take i).flatMap encO).length ≤ 320 ∧ ((p.code.take i).flatMap encI).length ≤ 50000 := by
 have h0 := vp.name; have h1 := vp.nv; have h2 := vp.nh; have h3 := vp.no; have h4 := vp.code0
 refine ⟨?_, ?_, ?_, ?_, ?_⟩
 ·have a := encT_len p.name
  have b := encs_len [p.role, (p.vars.length : Int)]
  simp only [encHd, List.length_append, List.length_cons, List.length_nil] at *
  omega
 ·have a := flat_len (f := encVar) (k := 80) (l := p.vars.take i) fun v hv => by
   have hv' := vp.vars v (List.mem_of_mem_take hv)
   have a := encT_len v.name
   have b := encs_len [v.sort.k, v.sort.lo, v.sort.hi]
   have c := encV_len v.init
   have d := val_facts hv'.2.2.2.2.2.2.2
   simp only [encVar, List.length_append, List.length_cons, List.length_nil] at *
   omega
  rw [List.length_take] at a
  omega
 ·have a := flat_len (f := encH) (k := 6) (l := p.hs.take i) fun v hv => by
   have b := encs_len [v.peer, v.label, v.entry]
   simp only [encH, List.length_cons, List.length_nil] at *
   omega
  rw [List.length_take] at a
  omega
 ·have a := flat_len (f := encO) (k := 8) (l := p.os.take i) fun v hv => by
   have b := encs_len [v.peer, v.label, v.cond, v.args]
   simp only [encO, List.length_cons, List.length_nil] at *
   omega
  rw [List.length_take] at a
  omega
 ·have a := flat_len (f := encI) (k := 50) (l := p.code.take i) fun v hv => by
   have b := encs_len [v.op, v.n]
   have c := encT_len v.s
   have d := formed_facts (vp.code v (List.mem_of_mem_take hv))
   simp only [encI, List.length_append, List.length_cons, List.length_nil] at *
   omega
  rw [List.length_take] at a
  omega
def encQ (p : Prog) : List Nat := if validP p then encP p else []
set_option maxHeartbeats 4000000 in
theorem p20 (p : Prog) : Pure Tryz.prog 20 [p.av] (.vs 1 ((encQ p).map brow)) := by
 refine ok_args fun ok => ?_
 refine pure_intro mo Tryz.func20 c20 fun H => ?_
 unfold e20 r20
 simp only [initEnv, initFrom]
 repeat' first|(apply Sp.go;·constructor<;>first|exact ss|(change _=_;first|(simp only[go_sem,Nat.reduceBEq,Nat.reduceAdd,Nat.reduceLeDiff,reduceIte]<;>rfl)|rfl)|exact Nat.le_of_ble_eq_true rfl|decide|(repeat' first|(apply Lk.go;constructor)|assumption|exact nb ‹_› ‹_›|exact nt ‹_› ‹_›))|(intro b hb;repeat first|(refine fe hb ?_;intro _ _ hb)|(refine fT hb ?_;intro hb))|refine rt ?_|refine gA rfl ?_|refine gB rfl ?_|apply cT rfl|apply cF rfl|(apply DM.gbT;rfl)|(apply DM.gbF;rfl)|intro h
 (apply DM.pcs (p11 p); (· simp only [go_sem, Nat.reduceBEq, Nat.reduceAdd] <;> rfl); (· exact AVLes.refl _))
 repeat' first|(apply Sp.go;·constructor<;>first|exact ss|(change _=_;first|(simp only[go_sem,Nat.reduceBEq,Nat.reduceAdd,Nat.reduceLeDiff,reduceIte]<;>rfl)|rfl)|exact Nat.le_of_ble_eq_true rfl|decide|(repeat' first|(apply Lk.go;constructor)|assumption|exact nb ‹_› ‹_›|exact nt ‹_› ‹_›))|(intro b hb;repeat first|(refine fe hb ?_;intro _ _ hb)|(refine fT hb ?_;intro hb))|refine rt ?_|refine gA rfl ?_|refine gB rfl ?_|apply cT rfl|apply cF rfl|(apply DM.gbT;rfl)|(apply DM.gbF;rfl)|intro h
 (apply AM.cond; (· rfl))
 ·intro hv
  have hv' : validP p = false := by simpa using hv
  repeat' first|(apply Sp.go;·constructor<;>first|exact ss|(change _=_;first|(simp only[go_sem,Nat.reduceBEq,Nat.reduceAdd,Nat.reduceLeDiff,reduceIte]<;>rfl)|rfl)|exact Nat.le_of_ble_eq_true rfl|decide|(repeat' first|(apply Lk.go;constructor)|assumption|exact nb ‹_› ‹_›|exact nt ‹_› ‹_›))|(intro b hb;repeat first|(refine fe hb ?_;intro _ _ hb)|(refine fT hb ?_;intro hb))|refine rt ?_|refine gA rfl ?_|refine gB rfl ?_|apply cT rfl|apply cF rfl|(apply DM.gbT;rfl)|(apply DM.gbF;rfl)|intro h
  (apply Sr.go;·constructor<;>first|(apply Lk.go;constructor<;>first|exact ss|(change _=_;first|(simp only[go_sem,Nat.reduceBEq,Nat.reduceAdd,Nat.reduceLeDiff,reduceIte]<;>rfl)|rfl)|exact Nat.le_of_ble_eq_true rfl|decide|(repeat' first|(apply Lk.go;constructor)|assumption|exact nb ‹_› ‹_›|exact nt ‹_› ‹_›))|assumption)
  unfold encQ
  rw [hv']
  exact AVLe.nil
 intro hv
 have hv' : validP p = true := by simpa using hv
 have vp := VP.of hv'
 have hq : encQ p = encP p := if_pos hv'
 rw [hq]
 clear hv hq
 rename Nat => b1
 have hb1 : H.blk b1 = none := by assumption
 have hnm := vp.name
 have hrole := vp.role
 have nv := vp.nv; have nh := vp.nh; have no := vp.no; have c0 := vp.code0
 repeat' first|(apply Sp.go;·constructor<;>first|exact ss|(change _=_;first|(simp only[go_sem,Nat.reduceBEq,Nat.reduceAdd,Nat.reduceLeDiff,reduceIte]<;>rfl)|rfl)|exact Nat.le_of_ble_eq_true rfl|decide|(repeat' first|(apply Lk.go;constructor)|assumption|exact nb ‹_› ‹_›|exact nt ‹_› ‹_›))|(intro b hb;repeat first|(refine fe hb ?_;intro _ _ hb)|(refine fT hb ?_;intro hb))|refine gA rfl ?_|refine gB rfl ?_|apply cT rfl|apply cF rfl|(apply DM.gbT;rfl)|(apply DM.gbF;rfl)|intro h
 (refine AM.reg [] ?_; simp only [annotate, AV.rows])
 repeat' first|(apply Sp.go;·constructor<;>first|exact ss|(change _=_;first|(simp only[go_sem,Nat.reduceBEq,Nat.reduceAdd,Nat.reduceLeDiff,reduceIte]<;>rfl)|rfl)|exact Nat.le_of_ble_eq_true rfl|decide|(repeat' first|(apply Lk.go;constructor)|assumption|exact nb ‹_› ‹_›|exact nt ‹_› ‹_›))|(intro b hb;repeat first|(refine fe hb ?_;intro _ _ hb)|(refine fT hb ?_;intro hb))|refine rt ?_|refine gA rfl ?_|refine gB rfl ?_|apply cT rfl|apply cF rfl|(apply DM.gbT;rfl)|(apply DM.gbF;rfl)|intro h|(apply DM.ldD1;(· rfl);(· rfl);(· repeat' first|(apply Lk.go;constructor)|assumption|exact nb ‹_› ‹_›|exact nt ‹_› ‹_›);(· rfl))|(apply DM.ldDA;(· rfl);(· rfl);(· repeat' first|(apply Lk.go;constructor)|assumption|exact nb ‹_› ‹_›|exact nt ‹_› ‹_›);(· exact Nat.le_of_ble_eq_true rfl))
 (apply DM.calD (p58n p.name _ (by omega)); (· intro s hs; simp only [List.mem_singleton] at hs; subst hs; exact ⟨_, rfl, fun r H' h => by (obtain ⟨t, _, _, h⟩ := h; rw [h]; exact setT_blk)⟩); (· rintro ⟨N, hN⟩; exact ⟨_, _, ⟨N, (hN N (Nat.le_refl _)).2, rfl, rfl⟩, fin_setT ⟨N, hN⟩⟩); (· simp only [go_sem, Nat.reduceBEq, Nat.reduceAdd] <;> rfl); (· exact AVLes.refl _))
 rintro r H1 ⟨tk, htk, rfl, rfl⟩
 simp only [put_some]
 have htk0 : H.tok tk = none := by rw [← htk]; exact (t_B rfl).symm
 repeat' first|(apply Sp.go;·constructor<;>first|exact ss|(change _=_;first|(simp only[go_sem,Nat.reduceBEq,Nat.reduceAdd,Nat.reduceLeDiff,reduceIte]<;>rfl)|rfl)|exact Nat.le_of_ble_eq_true rfl|decide|(repeat' first|(apply Lk.go;constructor)|assumption|exact nb ‹_› ‹_›|exact nt ‹_› ‹_›))|(intro b hb;repeat first|(refine fe hb ?_;intro _ _ hb)|(refine fT hb ?_;intro hb))|refine rt ?_|refine gA rfl ?_|refine gB rfl ?_|apply cT rfl|apply cF rfl|(apply DM.gbT;rfl)|(apply DM.gbF;rfl)|intro h|(apply DM.ldD1;(· rfl);(· rfl);(· repeat' first|(apply Lk.go;constructor)|assumption|exact nb ‹_› ‹_›|exact nt ‹_› ‹_›);(· rfl))|(apply DM.ldDA;(· rfl);(· rfl);(· repeat' first|(apply Lk.go;constructor)|assumption|exact nb ‹_› ‹_›|exact nt ‹_› ‹_›);(· exact Nat.le_of_ble_eq_true rfl))
 have hl0 := (vp.lens 0).1
 (apply DM.cal (p57 tk ((encT p.name).map brow) [p.role, ((p.vars.map Var_.row).length : Int)] _ t_same (by have := encT_len p.name; simp only [List.length_map, List.length_cons, List.length_nil]; omega) (by intro n hn; simp at hn; rcases hn with rfl | rfl <;> omega)); (· simp only [go_sem, Nat.reduceBEq, Nat.reduceAdd] <;> rfl); (· exact AVLes.refl _))
 rintro r H1 ⟨rfl, rfl⟩
 rw [setT_setT, show (p.vars.map Var_.row).length = p.vars.length from List.length_map .., show (encT p.name).map brow ++ ([p.role, (p.vars.length : Int)].flatMap enc).map brow = (encHd p).map brow from by rw [← List.map_append]; rfl]
 simp only [put_some]
 repeat' first|(apply Sp.go;·constructor<;>first|exact ss|(change _=_;first|(simp only[go_sem,Nat.reduceBEq,Nat.reduceAdd,Nat.reduceLeDiff,reduceIte]<;>rfl)|rfl)|exact Nat.le_of_ble_eq_true rfl|decide|(repeat' first|(apply Lk.go;constructor)|assumption|exact nb ‹_› ‹_›|exact nt ‹_› ‹_›))|(intro b hb;repeat first|(refine fe hb ?_;intro _ _ hb)|(refine fT hb ?_;intro hb))|refine rt ?_|refine gA rfl ?_|refine gB rfl ?_|apply cT rfl|apply cF rfl|(apply DM.gbT;rfl)|(apply DM.gbF;rfl)|intro h
 refine AM.loopX (X := Nat) 0 (fun i => [(1, .ptr b1 0), (26, .vs 7 (p.vars.map Var_.row)), (27, .int .i64 p.vars.length), (28, .int .i64 i), (3, .own tk 1 ((encHd p ++ (p.vars.take i).flatMap encVar).map brow))]) (fun i H' => H' = (H.setB b1 36 p.cells).setT tk (.frz 5 1 ((encHd p ++ (p.vars.take i).flatMap encVar).map brow).length) ∧ i ≤ p.vars.length) (fun i => p.vars.length - i) ?_ ?_ ?_
 ·refine ⟨?_, by omega⟩
  simp
 ·(repeat first | exact envle_nil _ | (refine envle_cons ?_ ?_; · (simp only [go_sem, Nat.reduceBEq, Nat.reduceAdd]; exact AVLe.refl _)))
  refine envle_cons ?_ (envle_cons ?_ (envle_cons ?_ (envle_nil _)))
  ·simp only [Env.get, Nat.reduceBEq, cond_true, cond_false, beq_self_eq_true]
   exact avle_int (by simp)
  ·simp only [Env.get, Nat.reduceBEq, cond_true, cond_false, beq_self_eq_true]
   exact AVLe.refl _
  ·simp only [Env.get, Nat.reduceBEq, cond_true, cond_false, beq_self_eq_true]
   refine avle_eq ?_
   simp
 rintro i H' ⟨rfl, hi⟩
 repeat' first|(apply Sp.go;·constructor<;>first|exact ss|(change _=_;first|(simp only[go_sem,Nat.reduceBEq,Nat.reduceAdd,Nat.reduceLeDiff,reduceIte]<;>rfl)|rfl)|exact Nat.le_of_ble_eq_true rfl|decide|(repeat' first|(apply Lk.go;constructor)|assumption|exact nb ‹_› ‹_›|exact nt ‹_› ‹_›))|(intro b hb;repeat first|(refine fe hb ?_;intro _ _ hb)|(refine fT hb ?_;intro hb))|refine rt ?_|refine gA rfl ?_|refine gB rfl ?_|apply cT rfl|apply cF rfl|(apply DM.gbT;rfl)|(apply DM.gbF;rfl)|intro h
 (apply AM.cond; (· rfl))
 ·intro h3
  simp at h3
  obtain ⟨v, hvx⟩ := some_of h3
  have hmem := List.mem_of_getElem? hvx
  have hlen : ((encHd p ++ (p.vars.take i).flatMap encVar).map brow).length ≤ 60000 := by have l1 := vp.lens i; have l2 := vp.lens 1000; have e1 := encs_len [(p.hs.length : Int)]; have e2 := encs_len [(p.os.length : Int)]; have e3 := encs_len [(p.code.length : Int)]; rw [List.take_of_length_le (show p.vars.length ≤ 1000 by omega), List.take_of_length_le (show p.hs.length ≤ 1000 by omega), List.take_of_length_le (show p.os.length ≤ 1000 by omega)] at l2; simp only [List.length_append, List.length_map, List.length_cons, List.length_nil] at *; omega
  generalize hC : (encHd p ++ (p.vars.take i).flatMap encVar).map brow = C at hlen
  have hD : ((encHd p ++ (p.vars.take (i + 1)).flatMap encVar).map brow) = C ++ (encVar v).map brow := by
   rw [← hC, ← List.map_append, List.append_assoc, List.take_add_one, hvx, List.flatMap_append]
   simp
  repeat' first|(apply Sp.go;·constructor<;>first|exact ss|(change _=_;first|(simp only[go_sem,Nat.reduceBEq,Nat.reduceAdd,Nat.reduceLeDiff,reduceIte]<;>rfl)|rfl)|exact Nat.le_of_ble_eq_true rfl|decide|(repeat' first|(apply Lk.go;constructor)|assumption|exact nb ‹_› ‹_›|exact nt ‹_› ‹_›))|(intro b hb;repeat first|(refine fe hb ?_;intro _ _ hb)|(refine fT hb ?_;intro hb))|refine rt ?_|refine gA rfl ?_|refine gB rfl ?_|apply cT rfl|apply cF rfl|(apply DM.gbT;rfl)|(apply DM.gbF;rfl)|intro h
  (apply DM.ixV (row := v.row) (z := (i : Int)) (by omega) (row_get Var_.row hvx); (· rfl); (· rfl))
  have hv1 := vp.vars v hmem
  have hv2 := val_facts hv1.2.2.2.2.2.2.2
  have la := encT_len v.name
  have lb := encs_len [v.sort.k, v.sort.lo, v.sort.hi]
  simp only [List.length_cons, List.length_nil] at lb
  repeat' first|(apply Sp.go;·constructor<;>first|exact ss|(change _=_;first|(simp only[go_sem,Nat.reduceBEq,Nat.reduceAdd,Nat.reduceLeDiff,reduceIte]<;>rfl)|rfl)|exact Nat.le_of_ble_eq_true rfl|decide|(repeat' first|(apply Lk.go;constructor)|assumption|exact nb ‹_› ‹_›|exact nt ‹_› ‹_›))|(intro b hb;repeat first|(refine fe hb ?_;intro _ _ hb)|(refine fT hb ?_;intro hb))|refine gA rfl ?_|refine gB rfl ?_|apply cT rfl|apply cF rfl|(apply DM.gbT;rfl)|(apply DM.gbF;rfl)|intro h
  (refine AM.reg [] ?_; simp only [annotate, AV.rows])
  repeat' first|(apply Sp.go;·constructor<;>first|exact ss|(change _=_;first|(simp only[go_sem,Nat.reduceBEq,Nat.reduceAdd,Nat.reduceLeDiff,reduceIte]<;>rfl)|rfl)|exact Nat.le_of_ble_eq_true rfl|decide|(repeat' first|(apply Lk.go;constructor)|assumption|exact nb ‹_› ‹_›|exact nt ‹_› ‹_›))|(intro b hb;repeat first|(refine fe hb ?_;intro _ _ hb)|(refine fT hb ?_;intro hb))|refine rt ?_|refine gA rfl ?_|refine gB rfl ?_|apply cT rfl|apply cF rfl|(apply DM.gbT;rfl)|(apply DM.gbF;rfl)|intro h|(apply DM.ldD1;(· rfl);(· rfl);(· repeat' first|(apply Lk.go;constructor)|assumption|exact nb ‹_› ‹_›|exact nt ‹_› ‹_›);(· rfl))|(apply DM.ldDA;(· rfl);(· rfl);(· repeat' first|(apply Lk.go;constructor)|assumption|exact nb ‹_› ‹_›|exact nt ‹_› ‹_›);(· exact Nat.le_of_ble_eq_true rfl))
  (apply DM.calD (p58 tk C v.name _ (t_B t_same) (by omega) (by omega)); (· intro s hs; simp only [List.mem_singleton] at hs; subst hs; exact ⟨_, rfl, fun r H' h => by rw [h.2]; exact setT_blk⟩); (· exact fun hF => ⟨_, _, ⟨rfl, rfl⟩, fin_setT hF⟩); (· simp only [go_sem, Nat.reduceBEq, Nat.reduceAdd] <;> rfl); (· exact AVLes.refl _))
  rintro r H1 ⟨rfl, rfl⟩
  simp only [put_some]
  repeat' first|(apply Sp.go;·constructor<;>first|exact ss|(change _=_;first|(simp only[go_sem,Nat.reduceBEq,Nat.reduceAdd,Nat.reduceLeDiff,reduceIte]<;>rfl)|rfl)|exact Nat.le_of_ble_eq_true rfl|decide|(repeat' first|(apply Lk.go;constructor)|assumption|exact nb ‹_› ‹_›|exact nt ‹_› ‹_›))|(intro b hb;repeat first|(refine fe hb ?_;intro _ _ hb)|(refine fT hb ?_;intro hb))|refine rt ?_|refine gA rfl ?_|refine gB rfl ?_|apply cT rfl|apply cF rfl|(apply DM.gbT;rfl)|(apply DM.gbF;rfl)|intro h|(apply DM.ldD1;(· rfl);(· rfl);(· repeat' first|(apply Lk.go;constructor)|assumption|exact nb ‹_› ‹_›|exact nt ‹_› ‹_›);(· rfl))|(apply DM.ldDA;(· rfl);(· rfl);(· repeat' first|(apply Lk.go;constructor)|assumption|exact nb ‹_› ‹_›|exact nt ‹_› ‹_›);(· exact Nat.le_of_ble_eq_true rfl))
  (apply DM.calD (p57 tk (C ++ (encT v.name).map brow) [v.sort.k, v.sort.lo, v.sort.hi] _ t_same (by simp only [List.length_append, List.length_map, List.length_cons, List.length_nil]; omega) (by intro n hn; simp at hn; rcases hn with rfl | rfl | rfl <;> omega)); (· intro s hs; simp only [List.mem_singleton] at hs; subst hs; exact ⟨_, rfl, fun r H' h => by rw [h.2]; exact setT_blk⟩); (· exact fun hF => ⟨_, _, ⟨rfl, rfl⟩, fin_setT hF⟩); (· simp only [go_sem, Nat.reduceBEq, Nat.reduceAdd] <;> rfl); (· exact AVLes.refl _))
  rintro r H1 ⟨rfl, rfl⟩
  simp only [put_some]
  rw [setT_setT]
  repeat' first|(apply Sp.go;·constructor<;>first|exact ss|(change _=_;first|(simp only[go_sem,Nat.reduceBEq,Nat.reduceAdd,Nat.reduceLeDiff,reduceIte]<;>rfl)|rfl)|exact Nat.le_of_ble_eq_true rfl|decide|(repeat' first|(apply Lk.go;constructor)|assumption|exact nb ‹_› ‹_›|exact nt ‹_› ‹_›))|(intro b hb;repeat first|(refine fe hb ?_;intro _ _ hb)|(refine fT hb ?_;intro hb))|refine rt ?_|refine gA rfl ?_|refine gB rfl ?_|apply cT rfl|apply cF rfl|(apply DM.gbT;rfl)|(apply DM.gbF;rfl)|intro h|(apply DM.ldD1;(· rfl);(· rfl);(· repeat' first|(apply Lk.go;constructor)|assumption|exact nb ‹_› ‹_›|exact nt ‹_› ‹_›);(· rfl))|(apply DM.ldDA;(· rfl);(· rfl);(· repeat' first|(apply Lk.go;constructor)|assumption|exact nb ‹_› ‹_›|exact nt ‹_› ‹_›);(· exact Nat.le_of_ble_eq_true rfl))
  (apply DM.cal (p59 tk ((C ++ (encT v.name).map brow) ++ ([v.sort.k, v.sort.lo, v.sort.hi].flatMap enc).map brow) v.init _ t_same (by simp only [List.length_append, List.length_map]; omega) hv2.1 hv2.2.1 (by omega)); (· simp only [go_sem, Nat.reduceBEq, Nat.reduceAdd] <;> rfl); (· exact AVLes.refl _))
  rintro r H1 ⟨rfl, rfl⟩
  rw [setT_setT, show (((C ++ (encT v.name).map brow) ++ ([v.sort.k, v.sort.lo, v.sort.hi].flatMap enc).map brow) ++ (encV v.init).map brow) = C ++ (encVar v).map brow from by unfold encVar; simp only [List.map_append, List.append_assoc]]
  simp only [put_some]
  repeat' first|(apply Sp.go;·constructor<;>first|exact ss|(change _=_;first|(simp only[go_sem,Nat.reduceBEq,Nat.reduceAdd,Nat.reduceLeDiff,reduceIte]<;>rfl)|rfl)|exact Nat.le_of_ble_eq_true rfl|decide|(repeat' first|(apply Lk.go;constructor)|assumption|exact nb ‹_› ‹_›|exact nt ‹_› ‹_›))|(intro b hb;repeat first|(refine fe hb ?_;intro _ _ hb)|(refine fT hb ?_;intro hb))|refine rt ?_|refine gA rfl ?_|refine gB rfl ?_|apply cT rfl|apply cF rfl|(apply DM.gbT;rfl)|(apply DM.gbF;rfl)|intro h
  refine AM.forget ((H.setB b1 36 p.cells).setT tk (.frz 5 1 (C ++ (encVar v).map brow).length)) (hsub_own' ?_ rfl) ?_
  ·exact g_ne (by assumption) (by assumption)
  refine AM.roundX (i + 1) ⟨by rw [hD], by omega⟩ ?_ (show p.vars.length - (i + 1) < p.vars.length - i by omega)
  rw [hD]
  (repeat first | exact envle_nil _ | (refine envle_cons ?_ ?_; · (simp only [go_sem, Nat.reduceBEq, Nat.reduceAdd]; exact AVLe.refl _)))
  refine envle_cons ?_ ?_
  ·simp only [go_sem, Nat.reduceBEq, Nat.reduceAdd]
   refine avle_int ?_
   rw [inc64 h3 ok.vars]
  exact envle_cons (AVLe.refl _) (envle_nil _)
 intro h3
 simp at h3
 rw [show i = p.vars.length by omega, List.take_length]
 clear h3 hi
 repeat' first|(apply Sp.go;·constructor<;>first|exact ss|(change _=_;first|(simp only[go_sem,Nat.reduceBEq,Nat.reduceAdd,Nat.reduceLeDiff,reduceIte]<;>rfl)|rfl)|exact Nat.le_of_ble_eq_true rfl|decide|(repeat' first|(apply Lk.go;constructor)|assumption|exact nb ‹_› ‹_›|exact nt ‹_› ‹_›))|(intro b hb;repeat first|(refine fe hb ?_;intro _ _ hb)|(refine fT hb ?_;intro hb))|refine rt ?_|refine gA rfl ?_|refine gB rfl ?_|apply cT rfl|apply cF rfl|(apply DM.gbT;rfl)|(apply DM.gbF;rfl)|intro h
 (apply DM.cal (p57 tk ((encHd p ++ p.vars.flatMap encVar).map brow) [((p.hs.map Hd.row).length : Int)] _ t_same (by have l1 := vp.lens 0; have l2 := vp.lens 1000; have e1 := encs_len [(p.hs.length : Int)]; have e2 := encs_len [(p.os.length : Int)]; have e3 := encs_len [(p.code.length : Int)]; rw [List.take_of_length_le (show p.vars.length ≤ 1000 by omega), List.take_of_length_le (show p.hs.length ≤ 1000 by omega), List.take_of_length_le (show p.os.length ≤ 1000 by omega)] at l2; simp only [List.length_append, List.length_map, List.length_cons, List.length_nil] at *; omega) (by intro n hn; simp at hn; subst hn; omega)); (· simp only [go_sem, Nat.reduceBEq, Nat.reduceAdd] <;> rfl); (· exact AVLes.refl _))
 rintro r H1 ⟨rfl, rfl⟩
 rw [setT_setT, show (p.hs.map Hd.row).length = p.hs.length from List.length_map .., ← List.map_append]
 simp only [put_some]
 repeat' first|(apply Sp.go;·constructor<;>first|exact ss|(change _=_;first|(simp only[go_sem,Nat.reduceBEq,Nat.reduceAdd,Nat.reduceLeDiff,reduceIte]<;>rfl)|rfl)|exact Nat.le_of_ble_eq_true rfl|decide|(repeat' first|(apply Lk.go;constructor)|assumption|exact nb ‹_› ‹_›|exact nt ‹_› ‹_›))|(intro b hb;repeat first|(refine fe hb ?_;intro _ _ hb)|(refine fT hb ?_;intro hb))|refine rt ?_|refine gA rfl ?_|refine gB rfl ?_|apply cT rfl|apply cF rfl|(apply DM.gbT;rfl)|(apply DM.gbF;rfl)|intro h
 refine AM.loopX (X := Nat) 0 (fun i => [(1, .ptr b1 0), (58, .vs 3 (p.hs.map Hd.row)), (59, .int .i64 p.hs.length), (60, .int .i64 i), (3, .own tk 1 ((encHd p ++ p.vars.flatMap encVar ++ [(p.hs.length : Int)].flatMap enc ++ (p.hs.take i).flatMap encH).map brow))]) (fun i H' => H' = (H.setB b1 36 p.cells).setT tk (.frz 5 1 ((encHd p ++ p.vars.flatMap encVar ++ [(p.hs.length : Int)].flatMap enc ++ (p.hs.take i).flatMap encH).map brow).length) ∧ i ≤ p.hs.length) (fun i => p.hs.length - i) ?_ ?_ ?_
 ·refine ⟨?_, by omega⟩
  simp
 ·(repeat first | exact envle_nil _ | (refine envle_cons ?_ ?_; · (simp only [go_sem, Nat.reduceBEq, Nat.reduceAdd]; exact AVLe.refl _)))
  refine envle_cons ?_ (envle_cons ?_ (envle_cons ?_ (envle_nil _)))
  ·simp only [Env.get, Nat.reduceBEq, cond_true, cond_false, beq_self_eq_true]
   exact avle_int (by simp)
  ·simp only [Env.get, Nat.reduceBEq, cond_true, cond_false, beq_self_eq_true]
   exact AVLe.refl _
  ·simp only [Env.get, Nat.reduceBEq, cond_true, cond_false, beq_self_eq_true]
   refine avle_eq ?_
   simp
 rintro i H' ⟨rfl, hi⟩
 repeat' first|(apply Sp.go;·constructor<;>first|exact ss|(change _=_;first|(simp only[go_sem,Nat.reduceBEq,Nat.reduceAdd,Nat.reduceLeDiff,reduceIte]<;>rfl)|rfl)|exact Nat.le_of_ble_eq_true rfl|decide|(repeat' first|(apply Lk.go;constructor)|assumption|exact nb ‹_› ‹_›|exact nt ‹_› ‹_›))|(intro b hb;repeat first|(refine fe hb ?_;intro _ _ hb)|(refine fT hb ?_;intro hb))|refine rt ?_|refine gA rfl ?_|refine gB rfl ?_|apply cT rfl|apply cF rfl|(apply DM.gbT;rfl)|(apply DM.gbF;rfl)|intro h
 (apply AM.cond; (· rfl))
 ·intro h3
  simp at h3
  obtain ⟨v, hvx⟩ := some_of h3
  have hmem := List.mem_of_getElem? hvx
  have hlen : ((encHd p ++ p.vars.flatMap encVar ++ [(p.hs.length : Int)].flatMap enc ++ (p.hs.take i).flatMap encH).map brow).length ≤ 60000 := by have l1 := vp.lens i; have l2 := vp.lens 1000; have e1 := encs_len [(p.hs.length : Int)]; have e2 := encs_len [(p.os.length : Int)]; have e3 := encs_len [(p.code.length : Int)]; rw [List.take_of_length_le (show p.vars.length ≤ 1000 by omega), List.take_of_length_le (show p.hs.length ≤ 1000 by omega), List.take_of_length_le (show p.os.length ≤ 1000 by omega)] at l2; simp only [List.length_append, List.length_map, List.length_cons, List.length_nil] at *; omega
  generalize hC : (encHd p ++ p.vars.flatMap encVar ++ [(p.hs.length : Int)].flatMap enc ++ (p.hs.take i).flatMap encH).map brow = C at hlen
  have hD : ((encHd p ++ p.vars.flatMap encVar ++ [(p.hs.length : Int)].flatMap enc ++ (p.hs.take (i + 1)).flatMap encH).map brow) = C ++ (encH v).map brow := by
   rw [← hC, ← List.map_append, List.append_assoc, List.take_add_one, hvx, List.flatMap_append]
   simp
  repeat' first|(apply Sp.go;·constructor<;>first|exact ss|(change _=_;first|(simp only[go_sem,Nat.reduceBEq,Nat.reduceAdd,Nat.reduceLeDiff,reduceIte]<;>rfl)|rfl)|exact Nat.le_of_ble_eq_true rfl|decide|(repeat' first|(apply Lk.go;constructor)|assumption|exact nb ‹_› ‹_›|exact nt ‹_› ‹_›))|(intro b hb;repeat first|(refine fe hb ?_;intro _ _ hb)|(refine fT hb ?_;intro hb))|refine rt ?_|refine gA rfl ?_|refine gB rfl ?_|apply cT rfl|apply cF rfl|(apply DM.gbT;rfl)|(apply DM.gbF;rfl)|intro h
  (apply DM.ixV (row := v.row) (z := (i : Int)) (by omega) (row_get Hd.row hvx); (· rfl); (· rfl))
  have hv1 := vp.hs v hmem
  repeat' first|(apply Sp.go;·constructor<;>first|exact ss|(change _=_;first|(simp only[go_sem,Nat.reduceBEq,Nat.reduceAdd,Nat.reduceLeDiff,reduceIte]<;>rfl)|rfl)|exact Nat.le_of_ble_eq_true rfl|decide|(repeat' first|(apply Lk.go;constructor)|assumption|exact nb ‹_› ‹_›|exact nt ‹_› ‹_›))|(intro b hb;repeat first|(refine fe hb ?_;intro _ _ hb)|(refine fT hb ?_;intro hb))|refine rt ?_|refine gA rfl ?_|refine gB rfl ?_|apply cT rfl|apply cF rfl|(apply DM.gbT;rfl)|(apply DM.gbF;rfl)|intro h
  (apply DM.cal (p57 tk C [v.peer, v.label, v.entry] _ (t_B t_same) (by simp only [List.length_cons, List.length_nil]; omega) (by intro n hn; simp at hn; rcases hn with rfl | rfl | rfl <;> omega)); (· simp only [go_sem, Nat.reduceBEq, Nat.reduceAdd] <;> rfl); (· exact AVLes.refl _))
  rintro r H1 ⟨rfl, rfl⟩
  rw [show C ++ ([v.peer, v.label, v.entry].flatMap enc).map brow = C ++ (encH v).map brow from rfl]
  simp only [put_some]
  repeat' first|(apply Sp.go;·constructor<;>first|exact ss|(change _=_;first|(simp only[go_sem,Nat.reduceBEq,Nat.reduceAdd,Nat.reduceLeDiff,reduceIte]<;>rfl)|rfl)|exact Nat.le_of_ble_eq_true rfl|decide|(repeat' first|(apply Lk.go;constructor)|assumption|exact nb ‹_› ‹_›|exact nt ‹_› ‹_›))|(intro b hb;repeat first|(refine fe hb ?_;intro _ _ hb)|(refine fT hb ?_;intro hb))|refine rt ?_|refine gA rfl ?_|refine gB rfl ?_|apply cT rfl|apply cF rfl|(apply DM.gbT;rfl)|(apply DM.gbF;rfl)|intro h
  refine AM.forget ((H.setB b1 36 p.cells).setT tk (.frz 5 1 (C ++ (encH v).map brow).length)) (hsub_own' ?_ rfl) ?_
  ·exact g_ne (by assumption) (by assumption)
  refine AM.roundX (i + 1) ⟨by rw [hD], by omega⟩ ?_ (show p.hs.length - (i + 1) < p.hs.length - i by omega)
  rw [hD]
  (repeat first | exact envle_nil _ | (refine envle_cons ?_ ?_; · (simp only [go_sem, Nat.reduceBEq, Nat.reduceAdd]; exact AVLe.refl _)))
  refine envle_cons ?_ ?_
  ·simp only [go_sem, Nat.reduceBEq, Nat.reduceAdd]
   refine avle_int ?_
   rw [inc64 h3 ok.hs]
  exact envle_cons (AVLe.refl _) (envle_nil _)
 intro h3
 simp at h3
 rw [show i = p.hs.length by omega, List.take_length]
 clear h3 hi
 repeat' first|(apply Sp.go;·constructor<;>first|exact ss|(change _=_;first|(simp only[go_sem,Nat.reduceBEq,Nat.reduceAdd,Nat.reduceLeDiff,reduceIte]<;>rfl)|rfl)|exact Nat.le_of_ble_eq_true rfl|decide|(repeat' first|(apply Lk.go;constructor)|assumption|exact nb ‹_› ‹_›|exact nt ‹_› ‹_›))|(intro b hb;repeat first|(refine fe hb ?_;intro _ _ hb)|(refine fT hb ?_;intro hb))|refine rt ?_|refine gA rfl ?_|refine gB rfl ?_|apply cT rfl|apply cF rfl|(apply DM.gbT;rfl)|(apply DM.gbF;rfl)|intro h
 (apply DM.cal (p57 tk ((encHd p ++ p.vars.flatMap encVar ++ [(p.hs.length : Int)].flatMap enc ++ p.hs.flatMap encH).map brow) [((p.os.map Of_.row).length : Int)] _ t_same (by have l1 := vp.lens 0; have l2 := vp.lens 1000; have e1 := encs_len [(p.hs.length : Int)]; have e2 := encs_len [(p.os.length : Int)]; have e3 := encs_len [(p.code.length : Int)]; rw [List.take_of_length_le (show p.vars.length ≤ 1000 by omega), List.take_of_length_le (show p.hs.length ≤ 1000 by omega), List.take_of_length_le (show p.os.length ≤ 1000 by omega)] at l2; simp only [List.length_append, List.length_map, List.length_cons, List.length_nil] at *; omega) (by intro n hn; simp at hn; subst hn; omega)); (· simp only [go_sem, Nat.reduceBEq, Nat.reduceAdd] <;> rfl); (· exact AVLes.refl _))
 rintro r H1 ⟨rfl, rfl⟩
 rw [setT_setT, show (p.os.map Of_.row).length = p.os.length from List.length_map .., ← List.map_append]
 simp only [put_some]
 repeat' first|(apply Sp.go;·constructor<;>first|exact ss|(change _=_;first|(simp only[go_sem,Nat.reduceBEq,Nat.reduceAdd,Nat.reduceLeDiff,reduceIte]<;>rfl)|rfl)|exact Nat.le_of_ble_eq_true rfl|decide|(repeat' first|(apply Lk.go;constructor)|assumption|exact nb ‹_› ‹_›|exact nt ‹_› ‹_›))|(intro b hb;repeat first|(refine fe hb ?_;intro _ _ hb)|(refine fT hb ?_;intro hb))|refine rt ?_|refine gA rfl ?_|refine gB rfl ?_|apply cT rfl|apply cF rfl|(apply DM.gbT;rfl)|(apply DM.gbF;rfl)|intro h
 refine AM.loopX (X := Nat) 0 (fun i => [(1, .ptr b1 0), (81, .vs 4 (p.os.map Of_.row)), (82, .int .i64 p.os.length), (83, .int .i64 i), (3, .own tk 1 ((encHd p ++ p.vars.flatMap encVar ++ [(p.hs.length : Int)].flatMap enc ++ p.hs.flatMap encH ++ [(p.os.length : Int)].flatMap enc ++ (p.os.take i).flatMap encO).map brow))]) (fun i H' => H' = (H.setB b1 36 p.cells).setT tk (.frz 5 1 ((encHd p ++ p.vars.flatMap encVar ++ [(p.hs.length : Int)].flatMap enc ++ p.hs.flatMap encH ++ [(p.os.length : Int)].flatMap enc ++ (p.os.take i).flatMap encO).map brow).length) ∧ i ≤ p.os.length) (fun i => p.os.length - i) ?_ ?_ ?_
 ·refine ⟨?_, by omega⟩
  simp
 ·(repeat first | exact envle_nil _ | (refine envle_cons ?_ ?_; · (simp only [go_sem, Nat.reduceBEq, Nat.reduceAdd]; exact AVLe.refl _)))
  refine envle_cons ?_ (envle_cons ?_ (envle_cons ?_ (envle_nil _)))
  ·simp only [Env.get, Nat.reduceBEq, cond_true, cond_false, beq_self_eq_true]
   exact avle_int (by simp)
  ·simp only [Env.get, Nat.reduceBEq, cond_true, cond_false, beq_self_eq_true]
   exact AVLe.refl _
  ·simp only [Env.get, Nat.reduceBEq, cond_true, cond_false, beq_self_eq_true]
   refine avle_eq ?_
   simp
 rintro i H' ⟨rfl, hi⟩
 repeat' first|(apply Sp.go;·constructor<;>first|exact ss|(change _=_;first|(simp only[go_sem,Nat.reduceBEq,Nat.reduceAdd,Nat.reduceLeDiff,reduceIte]<;>rfl)|rfl)|exact Nat.le_of_ble_eq_true rfl|decide|(repeat' first|(apply Lk.go;constructor)|assumption|exact nb ‹_› ‹_›|exact nt ‹_› ‹_›))|(intro b hb;repeat first|(refine fe hb ?_;intro _ _ hb)|(refine fT hb ?_;intro hb))|refine rt ?_|refine gA rfl ?_|refine gB rfl ?_|apply cT rfl|apply cF rfl|(apply DM.gbT;rfl)|(apply DM.gbF;rfl)|intro h
 (apply AM.cond; (· rfl))
 ·intro h3
  simp at h3
  obtain ⟨v, hvx⟩ := some_of h3
  have hmem := List.mem_of_getElem? hvx
  have hlen : ((encHd p ++ p.vars.flatMap encVar ++ [(p.hs.length : Int)].flatMap enc ++ p.hs.flatMap encH ++ [(p.os.length : Int)].flatMap enc ++ (p.os.take i).flatMap encO).map brow).length ≤ 60000 := by have l1 := vp.lens i; have l2 := vp.lens 1000; have e1 := encs_len [(p.hs.length : Int)]; have e2 := encs_len [(p.os.length : Int)]; have e3 := encs_len [(p.code.length : Int)]; rw [List.take_of_length_le (show p.vars.length ≤ 1000 by omega), List.take_of_length_le (show p.hs.length ≤ 1000 by omega), List.take_of_length_le (show p.os.length ≤ 1000 by omega)] at l2; simp only [List.length_append, List.length_map, List.length_cons, List.length_nil] at *; omega
  generalize hC : (encHd p ++ p.vars.flatMap encVar ++ [(p.hs.length : Int)].flatMap enc ++ p.hs.flatMap encH ++ [(p.os.length : Int)].flatMap enc ++ (p.os.take i).flatMap encO).map brow = C at hlen
  have hD : ((encHd p ++ p.vars.flatMap encVar ++ [(p.hs.length : Int)].flatMap enc ++ p.hs.flatMap encH ++ [(p.os.length : Int)].flatMap enc ++ (p.os.take (i + 1)).flatMap encO).map brow) = C ++ (encO v).map brow := by
   rw [← hC, ← List.map_append, List.append_assoc, List.take_add_one, hvx, List.flatMap_append]
   simp
  repeat' first|(apply Sp.go;·constructor<;>first|exact ss|(change _=_;first|(simp only[go_sem,Nat.reduceBEq,Nat.reduceAdd,Nat.reduceLeDiff,reduceIte]<;>rfl)|rfl)|exact Nat.le_of_ble_eq_true rfl|decide|(repeat' first|(apply Lk.go;constructor)|assumption|exact nb ‹_› ‹_›|exact nt ‹_› ‹_›))|(intro b hb;repeat first|(refine fe hb ?_;intro _ _ hb)|(refine fT hb ?_;intro hb))|refine rt ?_|refine gA rfl ?_|refine gB rfl ?_|apply cT rfl|apply cF rfl|(apply DM.gbT;rfl)|(apply DM.gbF;rfl)|intro h
  (apply DM.ixV (row := v.row) (z := (i : Int)) (by omega) (row_get Of_.row hvx); (· rfl); (· rfl))
  have hv1 := vp.os v hmem
  repeat' first|(apply Sp.go;·constructor<;>first|exact ss|(change _=_;first|(simp only[go_sem,Nat.reduceBEq,Nat.reduceAdd,Nat.reduceLeDiff,reduceIte]<;>rfl)|rfl)|exact Nat.le_of_ble_eq_true rfl|decide|(repeat' first|(apply Lk.go;constructor)|assumption|exact nb ‹_› ‹_›|exact nt ‹_› ‹_›))|(intro b hb;repeat first|(refine fe hb ?_;intro _ _ hb)|(refine fT hb ?_;intro hb))|refine rt ?_|refine gA rfl ?_|refine gB rfl ?_|apply cT rfl|apply cF rfl|(apply DM.gbT;rfl)|(apply DM.gbF;rfl)|intro h
  (apply DM.cal (p57 tk C [v.peer, v.label, v.cond, v.args] _ (t_B t_same) (by simp only [List.length_cons, List.length_nil]; omega) (by intro n hn; simp at hn; rcases hn with rfl | rfl | rfl | rfl <;> omega)); (· simp only [go_sem, Nat.reduceBEq, Nat.reduceAdd] <;> rfl); (· exact AVLes.refl _))
  rintro r H1 ⟨rfl, rfl⟩
  rw [show C ++ ([v.peer, v.label, v.cond, v.args].flatMap enc).map brow = C ++ (encO v).map brow from rfl]
  simp only [put_some]
  repeat' first|(apply Sp.go;·constructor<;>first|exact ss|(change _=_;first|(simp only[go_sem,Nat.reduceBEq,Nat.reduceAdd,Nat.reduceLeDiff,reduceIte]<;>rfl)|rfl)|exact Nat.le_of_ble_eq_true rfl|decide|(repeat' first|(apply Lk.go;constructor)|assumption|exact nb ‹_› ‹_›|exact nt ‹_› ‹_›))|(intro b hb;repeat first|(refine fe hb ?_;intro _ _ hb)|(refine fT hb ?_;intro hb))|refine rt ?_|refine gA rfl ?_|refine gB rfl ?_|apply cT rfl|apply cF rfl|(apply DM.gbT;rfl)|(apply DM.gbF;rfl)|intro h
  refine AM.forget ((H.setB b1 36 p.cells).setT tk (.frz 5 1 (C ++ (encO v).map brow).length)) (hsub_own' ?_ rfl) ?_
  ·exact g_ne (by assumption) (by assumption)
  refine AM.roundX (i + 1) ⟨by rw [hD], by omega⟩ ?_ (show p.os.length - (i + 1) < p.os.length - i by omega)
  rw [hD]
  (repeat first | exact envle_nil _ | (refine envle_cons ?_ ?_; · (simp only [go_sem, Nat.reduceBEq, Nat.reduceAdd]; exact AVLe.refl _)))
  refine envle_cons ?_ ?_
  ·simp only [go_sem, Nat.reduceBEq, Nat.reduceAdd]
   refine avle_int ?_
   rw [inc64 h3 ok.os]
  exact envle_cons (AVLe.refl _) (envle_nil _)
 intro h3
 simp at h3
 rw [show i = p.os.length by omega, List.take_length]
 clear h3 hi
 repeat' first|(apply Sp.go;·constructor<;>first|exact ss|(change _=_;first|(simp only[go_sem,Nat.reduceBEq,Nat.reduceAdd,Nat.reduceLeDiff,reduceIte]<;>rfl)|rfl)|exact Nat.le_of_ble_eq_true rfl|decide|(repeat' first|(apply Lk.go;constructor)|assumption|exact nb ‹_› ‹_›|exact nt ‹_› ‹_›))|(intro b hb;repeat first|(refine fe hb ?_;intro _ _ hb)|(refine fT hb ?_;intro hb))|refine rt ?_|refine gA rfl ?_|refine gB rfl ?_|apply cT rfl|apply cF rfl|(apply DM.gbT;rfl)|(apply DM.gbF;rfl)|intro h
 (apply DM.cal (p57 tk ((encHd p ++ p.vars.flatMap encVar ++ [(p.hs.length : Int)].flatMap enc ++ p.hs.flatMap encH ++ [(p.os.length : Int)].flatMap enc ++ p.os.flatMap encO).map brow) [((p.code.map Ins_.row).length : Int)] _ t_same (by have l1 := vp.lens 0; have l2 := vp.lens 1000; have e1 := encs_len [(p.hs.length : Int)]; have e2 := encs_len [(p.os.length : Int)]; have e3 := encs_len [(p.code.length : Int)]; rw [List.take_of_length_le (show p.vars.length ≤ 1000 by omega), List.take_of_length_le (show p.hs.length ≤ 1000 by omega), List.take_of_length_le (show p.os.length ≤ 1000 by omega)] at l2; simp only [List.length_append, List.length_map, List.length_cons, List.length_nil] at *; omega) (by intro n hn; simp at hn; subst hn; omega)); (· simp only [go_sem, Nat.reduceBEq, Nat.reduceAdd] <;> rfl); (· exact AVLes.refl _))
 rintro r H1 ⟨rfl, rfl⟩
 rw [setT_setT, show (p.code.map Ins_.row).length = p.code.length from List.length_map .., ← List.map_append]
 simp only [put_some]
 repeat' first|(apply Sp.go;·constructor<;>first|exact ss|(change _=_;first|(simp only[go_sem,Nat.reduceBEq,Nat.reduceAdd,Nat.reduceLeDiff,reduceIte]<;>rfl)|rfl)|exact Nat.le_of_ble_eq_true rfl|decide|(repeat' first|(apply Lk.go;constructor)|assumption|exact nb ‹_› ‹_›|exact nt ‹_› ‹_›))|(intro b hb;repeat first|(refine fe hb ?_;intro _ _ hb)|(refine fT hb ?_;intro hb))|refine rt ?_|refine gA rfl ?_|refine gB rfl ?_|apply cT rfl|apply cF rfl|(apply DM.gbT;rfl)|(apply DM.gbF;rfl)|intro h
 refine AM.loopX (X := Nat) 0 (fun i => [(1, .ptr b1 0), (106, .vs 3 (p.code.map Ins_.row)), (107, .int .i64 p.code.length), (108, .int .i64 i), (3, .own tk 1 ((encHd p ++ p.vars.flatMap encVar ++ [(p.hs.length : Int)].flatMap enc ++ p.hs.flatMap encH ++ [(p.os.length : Int)].flatMap enc ++ p.os.flatMap encO ++ [(p.code.length : Int)].flatMap enc ++ (p.code.take i).flatMap encI).map brow))]) (fun i H' => H' = (H.setB b1 36 p.cells).setT tk (.frz 5 1 ((encHd p ++ p.vars.flatMap encVar ++ [(p.hs.length : Int)].flatMap enc ++ p.hs.flatMap encH ++ [(p.os.length : Int)].flatMap enc ++ p.os.flatMap encO ++ [(p.code.length : Int)].flatMap enc ++ (p.code.take i).flatMap encI).map brow).length) ∧ i ≤ p.code.length) (fun i => p.code.length - i) ?_ ?_ ?_
 ·refine ⟨?_, by omega⟩
  simp
 ·(repeat first | exact envle_nil _ | (refine envle_cons ?_ ?_; · (simp only [go_sem, Nat.reduceBEq, Nat.reduceAdd]; exact AVLe.refl _)))
  refine envle_cons ?_ (envle_cons ?_ (envle_cons ?_ (envle_nil _)))
  ·simp only [Env.get, Nat.reduceBEq, cond_true, cond_false, beq_self_eq_true]
   exact avle_int (by simp)
  ·simp only [Env.get, Nat.reduceBEq, cond_true, cond_false, beq_self_eq_true]
   exact AVLe.refl _
  ·simp only [Env.get, Nat.reduceBEq, cond_true, cond_false, beq_self_eq_true]
   refine avle_eq ?_
   simp
 rintro i H' ⟨rfl, hi⟩
 repeat' first|(apply Sp.go;·constructor<;>first|exact ss|(change _=_;first|(simp only[go_sem,Nat.reduceBEq,Nat.reduceAdd,Nat.reduceLeDiff,reduceIte]<;>rfl)|rfl)|exact Nat.le_of_ble_eq_true rfl|decide|(repeat' first|(apply Lk.go;constructor)|assumption|exact nb ‹_› ‹_›|exact nt ‹_› ‹_›))|(intro b hb;repeat first|(refine fe hb ?_;intro _ _ hb)|(refine fT hb ?_;intro hb))|refine rt ?_|refine gA rfl ?_|refine gB rfl ?_|apply cT rfl|apply cF rfl|(apply DM.gbT;rfl)|(apply DM.gbF;rfl)|intro h
 (apply AM.cond; (· rfl))
 ·intro h3
  simp at h3
  obtain ⟨v, hvx⟩ := some_of h3
  have hmem := List.mem_of_getElem? hvx
  have hlen : ((encHd p ++ p.vars.flatMap encVar ++ [(p.hs.length : Int)].flatMap enc ++ p.hs.flatMap encH ++ [(p.os.length : Int)].flatMap enc ++ p.os.flatMap encO ++ [(p.code.length : Int)].flatMap enc ++ (p.code.take i).flatMap encI).map brow).length ≤ 60000 := by have l1 := vp.lens i; have l2 := vp.lens 1000; have e1 := encs_len [(p.hs.length : Int)]; have e2 := encs_len [(p.os.length : Int)]; have e3 := encs_len [(p.code.length : Int)]; rw [List.take_of_length_le (show p.vars.length ≤ 1000 by omega), List.take_of_length_le (show p.hs.length ≤ 1000 by omega), List.take_of_length_le (show p.os.length ≤ 1000 by omega)] at l2; simp only [List.length_append, List.length_map, List.length_cons, List.length_nil] at *; omega
  generalize hC : (encHd p ++ p.vars.flatMap encVar ++ [(p.hs.length : Int)].flatMap enc ++ p.hs.flatMap encH ++ [(p.os.length : Int)].flatMap enc ++ p.os.flatMap encO ++ [(p.code.length : Int)].flatMap enc ++ (p.code.take i).flatMap encI).map brow = C at hlen
  have hD : ((encHd p ++ p.vars.flatMap encVar ++ [(p.hs.length : Int)].flatMap enc ++ p.hs.flatMap encH ++ [(p.os.length : Int)].flatMap enc ++ p.os.flatMap encO ++ [(p.code.length : Int)].flatMap enc ++ (p.code.take (i + 1)).flatMap encI).map brow) = C ++ (encI v).map brow := by
   rw [← hC, ← List.map_append, List.append_assoc, List.take_add_one, hvx, List.flatMap_append]
   simp
  repeat' first|(apply Sp.go;·constructor<;>first|exact ss|(change _=_;first|(simp only[go_sem,Nat.reduceBEq,Nat.reduceAdd,Nat.reduceLeDiff,reduceIte]<;>rfl)|rfl)|exact Nat.le_of_ble_eq_true rfl|decide|(repeat' first|(apply Lk.go;constructor)|assumption|exact nb ‹_› ‹_›|exact nt ‹_› ‹_›))|(intro b hb;repeat first|(refine fe hb ?_;intro _ _ hb)|(refine fT hb ?_;intro hb))|refine rt ?_|refine gA rfl ?_|refine gB rfl ?_|apply cT rfl|apply cF rfl|(apply DM.gbT;rfl)|(apply DM.gbF;rfl)|intro h
  (apply DM.ixV (row := v.row) (z := (i : Int)) (by omega) (row_get Ins_.row hvx); (· rfl); (· rfl))
  have hv1 := formed_facts (vp.code v hmem)
  have lb := encs_len [v.op, v.n]
  simp only [List.length_cons, List.length_nil] at lb
  repeat' first|(apply Sp.go;·constructor<;>first|exact ss|(change _=_;first|(simp only[go_sem,Nat.reduceBEq,Nat.reduceAdd,Nat.reduceLeDiff,reduceIte]<;>rfl)|rfl)|exact Nat.le_of_ble_eq_true rfl|decide|(repeat' first|(apply Lk.go;constructor)|assumption|exact nb ‹_› ‹_›|exact nt ‹_› ‹_›))|(intro b hb;repeat first|(refine fe hb ?_;intro _ _ hb)|(refine fT hb ?_;intro hb))|refine gA rfl ?_|refine gB rfl ?_|apply cT rfl|apply cF rfl|(apply DM.gbT;rfl)|(apply DM.gbF;rfl)|intro h
  (refine AM.reg [] ?_; simp only [annotate, AV.rows])
  repeat' first|(apply Sp.go;·constructor<;>first|exact ss|(change _=_;first|(simp only[go_sem,Nat.reduceBEq,Nat.reduceAdd,Nat.reduceLeDiff,reduceIte]<;>rfl)|rfl)|exact Nat.le_of_ble_eq_true rfl|decide|(repeat' first|(apply Lk.go;constructor)|assumption|exact nb ‹_› ‹_›|exact nt ‹_› ‹_›))|(intro b hb;repeat first|(refine fe hb ?_;intro _ _ hb)|(refine fT hb ?_;intro hb))|refine rt ?_|refine gA rfl ?_|refine gB rfl ?_|apply cT rfl|apply cF rfl|(apply DM.gbT;rfl)|(apply DM.gbF;rfl)|intro h|(apply DM.ldD1;(· rfl);(· rfl);(· repeat' first|(apply Lk.go;constructor)|assumption|exact nb ‹_› ‹_›|exact nt ‹_› ‹_›);(· rfl))|(apply DM.ldDA;(· rfl);(· rfl);(· repeat' first|(apply Lk.go;constructor)|assumption|exact nb ‹_› ‹_›|exact nt ‹_› ‹_›);(· exact Nat.le_of_ble_eq_true rfl))
  (apply DM.calD (p57 tk C [v.op, v.n] _ (t_B t_same) (by simp only [List.length_cons, List.length_nil]; omega) (by intro n hn; simp at hn; rcases hn with rfl | rfl <;> omega)); (· intro s hs; simp only [List.mem_singleton] at hs; subst hs; exact ⟨_, rfl, fun r H' h => by rw [h.2]; exact setT_blk⟩); (· exact fun hF => ⟨_, _, ⟨rfl, rfl⟩, fin_setT hF⟩); (· simp only [go_sem, Nat.reduceBEq, Nat.reduceAdd] <;> rfl); (· exact AVLes.refl _))
  rintro r H1 ⟨rfl, rfl⟩
  simp only [put_some]
  repeat' first|(apply Sp.go;·constructor<;>first|exact ss|(change _=_;first|(simp only[go_sem,Nat.reduceBEq,Nat.reduceAdd,Nat.reduceLeDiff,reduceIte]<;>rfl)|rfl)|exact Nat.le_of_ble_eq_true rfl|decide|(repeat' first|(apply Lk.go;constructor)|assumption|exact nb ‹_› ‹_›|exact nt ‹_› ‹_›))|(intro b hb;repeat first|(refine fe hb ?_;intro _ _ hb)|(refine fT hb ?_;intro hb))|refine rt ?_|refine gA rfl ?_|refine gB rfl ?_|apply cT rfl|apply cF rfl|(apply DM.gbT;rfl)|(apply DM.gbF;rfl)|intro h|(apply DM.ldD1;(· rfl);(· rfl);(· repeat' first|(apply Lk.go;constructor)|assumption|exact nb ‹_› ‹_›|exact nt ‹_› ‹_›);(· rfl))|(apply DM.ldDA;(· rfl);(· rfl);(· repeat' first|(apply Lk.go;constructor)|assumption|exact nb ‹_› ‹_›|exact nt ‹_› ‹_›);(· exact Nat.le_of_ble_eq_true rfl))
  (apply DM.cal (p58 tk (C ++ ([v.op, v.n].flatMap enc).map brow) v.s _ t_same (by simp only [List.length_append, List.length_map]; omega) (by omega)); (· simp only [go_sem, Nat.reduceBEq, Nat.reduceAdd] <;> rfl); (· exact AVLes.refl _))
  rintro r H1 ⟨rfl, rfl⟩
  rw [setT_setT, show ((C ++ ([v.op, v.n].flatMap enc).map brow) ++ (encT v.s).map brow) = C ++ (encI v).map brow from by unfold encI; simp only [List.map_append, List.append_assoc]]
  simp only [put_some]
  repeat' first|(apply Sp.go;·constructor<;>first|exact ss|(change _=_;first|(simp only[go_sem,Nat.reduceBEq,Nat.reduceAdd,Nat.reduceLeDiff,reduceIte]<;>rfl)|rfl)|exact Nat.le_of_ble_eq_true rfl|decide|(repeat' first|(apply Lk.go;constructor)|assumption|exact nb ‹_› ‹_›|exact nt ‹_› ‹_›))|(intro b hb;repeat first|(refine fe hb ?_;intro _ _ hb)|(refine fT hb ?_;intro hb))|refine rt ?_|refine gA rfl ?_|refine gB rfl ?_|apply cT rfl|apply cF rfl|(apply DM.gbT;rfl)|(apply DM.gbF;rfl)|intro h
  refine AM.forget ((H.setB b1 36 p.cells).setT tk (.frz 5 1 (C ++ (encI v).map brow).length)) (hsub_own' ?_ rfl) ?_
  ·exact g_ne (by assumption) (by assumption)
  refine AM.roundX (i + 1) ⟨by rw [hD], by omega⟩ ?_ (show p.code.length - (i + 1) < p.code.length - i by omega)
  rw [hD]
  (repeat first | exact envle_nil _ | (refine envle_cons ?_ ?_; · (simp only [go_sem, Nat.reduceBEq, Nat.reduceAdd]; exact AVLe.refl _)))
  refine envle_cons ?_ ?_
  ·simp only [go_sem, Nat.reduceBEq, Nat.reduceAdd]
   refine avle_int ?_
   rw [inc64 h3 ok.code]
  exact envle_cons (AVLe.refl _) (envle_nil _)
 intro h3
 simp at h3
 rw [show i = p.code.length by omega, List.take_length]
 clear h3 hi
 repeat' first|(apply Sp.go;·constructor<;>first|exact ss|(change _=_;first|(simp only[go_sem,Nat.reduceBEq,Nat.reduceAdd,Nat.reduceLeDiff,reduceIte]<;>rfl)|rfl)|exact Nat.le_of_ble_eq_true rfl|decide|(repeat' first|(apply Lk.go;constructor)|assumption|exact nb ‹_› ‹_›|exact nt ‹_› ‹_›))|(intro b hb;repeat first|(refine fe hb ?_;intro _ _ hb)|(refine fT hb ?_;intro hb))|refine rt ?_|refine gA rfl ?_|refine gB rfl ?_|apply cT rfl|apply cF rfl|(apply DM.gbT;rfl)|(apply DM.gbF;rfl)|intro h
 (apply Sr.go;·constructor<;>first|(apply Lk.go;constructor<;>first|exact ss|(change _=_;first|(simp only[go_sem,Nat.reduceBEq,Nat.reduceAdd,Nat.reduceLeDiff,reduceIte]<;>rfl)|rfl)|exact Nat.le_of_ble_eq_true rfl|decide|(repeat' first|(apply Lk.go;constructor)|assumption|exact nb ‹_› ‹_›|exact nt ‹_› ‹_›))|assumption)
 exact AVLe.own
def pA : Prog := ⟨[115], 0, [], [], [], [⟨24, 0, []⟩]⟩
def bA : List (List AV) := [[.int .u8 2], [.int .u8 115], [.int .u8 0], [.int .u8 0], [.int .u8 0], [.int .u8 0], [.int .u8 2], [.int .u8 48], [.int .u8 0], [.int .u8 0]]
theorem encA : (encQ pA).map brow = bA := by
 rw [show encQ pA = [2, 115, 0, 0, 0, 0, 2, 48, 0, 0] by decide +kernel]
 rfl
theorem rvL_les {m : Mem} : ∀ {xs ys : List AV} {l : List Value}, AVLes xs ys → RvL m xs l → RvL m ys l
 | [], _, _, h, k => by simp only [AVLes] at h; subst h; exact k
 | a :: xs, _, _, h, k => by
  simp only [AVLes] at h
  obtain ⟨b, bs, rfl, h1, h2⟩ := h
  simp only [RvL] at k ⊢
  obtain ⟨v, vs, e1, e2, e3⟩ := k
  exact ⟨v, vs, e1, h1 m v e2, rvL_les h2 e3⟩
theorem pure_mono {P : Program} {f : FuncId} {xs ys : List AV} {r : AV} (h : Pure P f ys r) (ha : AVLes xs ys) : Pure P f xs r :=
 fun H m vs hH rh hv => h H m vs hH rh (rvL_les ha hv)
abbrev aN : AV := .agg [.str [115], .int .i64 0, .nilS, .nilS, .nilS, .vs 3 [[.int .i64 24, .int .i64 0, .str []]]]
theorem aN_le : AVLe aN pA.av := avle_agg (avles_cons (AVLe.refl _) (avles_cons (AVLe.refl _) (avles_cons AVLe.nil (avles_cons AVLe.nil (avles_cons AVLe.nil (avles_cons (AVLe.refl _) avles_nil))))))
set_option maxHeartbeats 4000000 in
theorem p9 (h21 : Pure Tryz.prog 21 [.vs 1 bA] (.tup [aN, .int .i64 0])) : Pure Tryz.prog 9 [] (.bool true) := by
 have h17 := p17 ⟨2, 0, [97, 34, 98]⟩ (by decide +kernel)
 have s17 : showI ⟨2, 0, [97, 34, 98]⟩ = [116, 101, 120, 116, 32, 34, 97, 92, 34, 98, 34] := by decide +kernel
 rw [s17] at h17
 have h16a := p16 ⟨1, -3, []⟩
 rw [show showI ⟨1, -3, []⟩ = [105, 110, 116, 32, 45, 51] by decide +kernel] at h16a
 have h16b := p16 ⟨24, 0, []⟩
 rw [show showI ⟨24, 0, []⟩ = [115, 116, 111, 112] by decide +kernel] at h16b
 have h20 : Pure Tryz.prog 20 [pA.av] (.vs 1 ((encQ pA).map brow)) := p20 pA
 rw [encA] at h20
 replace h20 := pure_mono h20 (avles_cons aN_le avles_nil)
 have h11 := p11 pA
 have hv : validP pA = true := by decide +kernel
 rw [hv] at h11
 replace h11 := pure_mono h11 (avles_cons aN_le avles_nil)
 have h14 := p14 pA pA
 rw [(sameP_iff pA pA).2 rfl] at h14
 replace h14 := pure_mono h14 (avles_cons aN_le (avles_cons aN_le avles_nil))
 have h27 := p27 pA
 rw [if_pos hv] at h27
 replace h27 := pure_mono h27 (avles_cons aN_le avles_nil)
 have hlen : ((linesP pA).map sr).length = 2 := by decide +kernel
 generalize (linesP pA).map sr = L at h27 hlen
 obtain ⟨r1, r2, rfl⟩ : ∃ r1 r2, L = [r1, r2] := by
  match L, hlen with
  | [r1, r2], _ => exact ⟨r1, r2, rfl⟩
 clear hlen
 refine pure_intro mo Tryz.func9 c9 fun H => ?_
 unfold e9 r9
 simp only [initEnv, initFrom]
 repeat' first|(apply Sp.go;·constructor<;>first|exact ss|(change _=_;first|(simp only[go_sem,Nat.reduceBEq,Nat.reduceAdd,Nat.reduceLeDiff,reduceIte]<;>rfl)|rfl)|exact Nat.le_of_ble_eq_true rfl|decide|(repeat' first|(apply Lk.go;constructor)|assumption|exact nb ‹_› ‹_›|exact nt ‹_› ‹_›))|(intro b hb;repeat first|(refine fe hb ?_;intro _ _ hb)|(refine fT hb ?_;intro hb))|refine rt ?_|refine gA rfl ?_|refine gB rfl ?_|apply cT rfl|apply cF rfl|(apply DM.gbT;rfl)|(apply DM.gbF;rfl)|intro h
 (apply DM.pcs (h17); (· simp only [go_sem, Nat.reduceBEq, Nat.reduceAdd] <;> rfl); (· exact AVLes.refl _))
 repeat' first|(apply Sp.go;·constructor<;>first|exact ss|(change _=_;first|(simp only[go_sem,Nat.reduceBEq,Nat.reduceAdd,Nat.reduceLeDiff,reduceIte]<;>rfl)|rfl)|exact Nat.le_of_ble_eq_true rfl|decide|(repeat' first|(apply Lk.go;constructor)|assumption|exact nb ‹_› ‹_›|exact nt ‹_› ‹_›))|(intro b hb;repeat first|(refine fe hb ?_;intro _ _ hb)|(refine fT hb ?_;intro hb))|refine rt ?_|refine gA rfl ?_|refine gB rfl ?_|apply cT rfl|apply cF rfl|(apply DM.gbT;rfl)|(apply DM.gbF;rfl)|intro h
 (apply DM.pcs (h20); (· simp only [go_sem, Nat.reduceBEq, Nat.reduceAdd] <;> rfl); (· exact AVLes.refl _))
 repeat' first|(apply Sp.go;·constructor<;>first|exact ss|(change _=_;first|(simp only[go_sem,Nat.reduceBEq,Nat.reduceAdd,Nat.reduceLeDiff,reduceIte]<;>rfl)|rfl)|exact Nat.le_of_ble_eq_true rfl|decide|(repeat' first|(apply Lk.go;constructor)|assumption|exact nb ‹_› ‹_›|exact nt ‹_› ‹_›))|(intro b hb;repeat first|(refine fe hb ?_;intro _ _ hb)|(refine fT hb ?_;intro hb))|refine rt ?_|refine gA rfl ?_|refine gB rfl ?_|apply cT rfl|apply cF rfl|(apply DM.gbT;rfl)|(apply DM.gbF;rfl)|intro h
 (apply DM.pcs (h21); (· simp only [go_sem, Nat.reduceBEq, Nat.reduceAdd] <;> rfl); (· exact AVLes.refl _))
 repeat' first|(apply Sp.go;·constructor<;>first|exact ss|(change _=_;first|(simp only[go_sem,Nat.reduceBEq,Nat.reduceAdd,Nat.reduceLeDiff,reduceIte]<;>rfl)|rfl)|exact Nat.le_of_ble_eq_true rfl|decide|(repeat' first|(apply Lk.go;constructor)|assumption|exact nb ‹_› ‹_›|exact nt ‹_› ‹_›))|(intro b hb;repeat first|(refine fe hb ?_;intro _ _ hb)|(refine fT hb ?_;intro hb))|refine rt ?_|refine gA rfl ?_|refine gB rfl ?_|apply cT rfl|apply cF rfl|(apply DM.gbT;rfl)|(apply DM.gbF;rfl)|intro h
 (apply DM.pcs (h16a); (· simp only [go_sem, Nat.reduceBEq, Nat.reduceAdd] <;> rfl); (· exact AVLes.refl _))
 repeat' first|(apply Sp.go;·constructor<;>first|exact ss|(change _=_;first|(simp only[go_sem,Nat.reduceBEq,Nat.reduceAdd,Nat.reduceLeDiff,reduceIte]<;>rfl)|rfl)|exact Nat.le_of_ble_eq_true rfl|decide|(repeat' first|(apply Lk.go;constructor)|assumption|exact nb ‹_› ‹_›|exact nt ‹_› ‹_›))|(intro b hb;repeat first|(refine fe hb ?_;intro _ _ hb)|(refine fT hb ?_;intro hb))|refine rt ?_|refine gA rfl ?_|refine gB rfl ?_|apply cT rfl|apply cF rfl|(apply DM.gbT;rfl)|(apply DM.gbF;rfl)|intro h
 (apply DM.pcs (h16b); (· simp only [go_sem, Nat.reduceBEq, Nat.reduceAdd] <;> rfl); (· exact AVLes.refl _))
 repeat' first|(apply Sp.go;·constructor<;>first|exact ss|(change _=_;first|(simp only[go_sem,Nat.reduceBEq,Nat.reduceAdd,Nat.reduceLeDiff,reduceIte]<;>rfl)|rfl)|exact Nat.le_of_ble_eq_true rfl|decide|(repeat' first|(apply Lk.go;constructor)|assumption|exact nb ‹_› ‹_›|exact nt ‹_› ‹_›))|(intro b hb;repeat first|(refine fe hb ?_;intro _ _ hb)|(refine fT hb ?_;intro hb))|refine rt ?_|refine gA rfl ?_|refine gB rfl ?_|apply cT rfl|apply cF rfl|(apply DM.gbT;rfl)|(apply DM.gbF;rfl)|intro h
 (apply DM.pcs (h11); (· simp only [go_sem, Nat.reduceBEq, Nat.reduceAdd] <;> rfl); (· exact AVLes.refl _))
 repeat' first|(apply Sp.go;·constructor<;>first|exact ss|(change _=_;first|(simp only[go_sem,Nat.reduceBEq,Nat.reduceAdd,Nat.reduceLeDiff,reduceIte]<;>rfl)|rfl)|exact Nat.le_of_ble_eq_true rfl|decide|(repeat' first|(apply Lk.go;constructor)|assumption|exact nb ‹_› ‹_›|exact nt ‹_› ‹_›))|(intro b hb;repeat first|(refine fe hb ?_;intro _ _ hb)|(refine fT hb ?_;intro hb))|refine rt ?_|refine gA rfl ?_|refine gB rfl ?_|apply cT rfl|apply cF rfl|(apply DM.gbT;rfl)|(apply DM.gbF;rfl)|intro h
 (apply DM.pcs (h14); (· simp only [go_sem, Nat.reduceBEq, Nat.reduceAdd] <;> rfl); (· exact AVLes.refl _))
 repeat' first|(apply Sp.go;·constructor<;>first|exact ss|(change _=_;first|(simp only[go_sem,Nat.reduceBEq,Nat.reduceAdd,Nat.reduceLeDiff,reduceIte]<;>rfl)|rfl)|exact Nat.le_of_ble_eq_true rfl|decide|(repeat' first|(apply Lk.go;constructor)|assumption|exact nb ‹_› ‹_›|exact nt ‹_› ‹_›))|(intro b hb;repeat first|(refine fe hb ?_;intro _ _ hb)|(refine fT hb ?_;intro hb))|refine rt ?_|refine gA rfl ?_|refine gB rfl ?_|apply cT rfl|apply cF rfl|(apply DM.gbT;rfl)|(apply DM.gbF;rfl)|intro h
 (apply DM.pcs (h27); (· simp only [go_sem, Nat.reduceBEq, Nat.reduceAdd] <;> rfl); (· exact AVLes.refl _))
 repeat' first|(apply Sp.go;·constructor<;>first|exact ss|(change _=_;first|(simp only[go_sem,Nat.reduceBEq,Nat.reduceAdd,Nat.reduceLeDiff,reduceIte]<;>rfl)|rfl)|exact Nat.le_of_ble_eq_true rfl|decide|(repeat' first|(apply Lk.go;constructor)|assumption|exact nb ‹_› ‹_›|exact nt ‹_› ‹_›))|(intro b hb;repeat first|(refine fe hb ?_;intro _ _ hb)|(refine fT hb ?_;intro hb))|refine rt ?_|refine gA rfl ?_|refine gB rfl ?_|apply cT rfl|apply cF rfl|(apply DM.gbT;rfl)|(apply DM.gbF;rfl)|intro h
 (apply Sr.go;·constructor<;>first|(apply Lk.go;constructor<;>first|exact ss|(change _=_;first|(simp only[go_sem,Nat.reduceBEq,Nat.reduceAdd,Nat.reduceLeDiff,reduceIte]<;>rfl)|rfl)|exact Nat.le_of_ble_eq_true rfl|decide|(repeat' first|(apply Lk.go;constructor)|assumption|exact nb ‹_› ‹_›|exact nt ‹_› ‹_›))|assumption)
 exact AVLe.refl _
theorem p17z : Pure Tryz.prog 17 [.str [63]] (.tup [(⟨0, 0, []⟩ : Ins_).av, .int .i64 3]) := by
 have h47 := p47 [63] (by decide)
 rw [cutB_none (by decide)] at h47
 have h48 := p48 opNames [63]
 obtain ⟨z, hz⟩ : ∃ z, findN opNames [63] 0 = z := ⟨_, rfl⟩
 rw [hz] at h48
 have hz1 : z < 1 := by rw [← hz]; decide +kernel
 clear hz
 refine pure_intro mo Tryz.func17 c17 fun H => ?_
 unfold e17 r17
 simp only [initEnv, initFrom]
 repeat' first|(apply Sp.go;·constructor<;>first|exact ss|(change _=_;first|(simp only[go_sem,Nat.reduceBEq,Nat.reduceAdd,Nat.reduceLeDiff,reduceIte]<;>rfl)|rfl)|exact Nat.le_of_ble_eq_true rfl|decide|(repeat' first|(apply Lk.go;constructor)|assumption|exact nb ‹_› ‹_›|exact nt ‹_› ‹_›))|(intro b hb;repeat first|(refine fe hb ?_;intro _ _ hb)|(refine fT hb ?_;intro hb))|refine rt ?_|refine gA rfl ?_|refine gB rfl ?_|apply cT rfl|apply cF rfl|(apply DM.gbT;rfl)|(apply DM.gbF;rfl)|intro h
 (apply DM.pcs (h47); (· simp only [go_sem, Nat.reduceBEq, Nat.reduceAdd] <;> rfl); (· exact AVLes.refl _))
 repeat' first|(apply Sp.go;·constructor<;>first|exact ss|(change _=_;first|(simp only[go_sem,Nat.reduceBEq,Nat.reduceAdd,Nat.reduceLeDiff,reduceIte]<;>rfl)|rfl)|exact Nat.le_of_ble_eq_true rfl|decide|(repeat' first|(apply Lk.go;constructor)|assumption|exact nb ‹_› ‹_›|exact nt ‹_› ‹_›))|(intro b hb;repeat first|(refine fe hb ?_;intro _ _ hb)|(refine fT hb ?_;intro hb))|refine rt ?_|refine gA rfl ?_|refine gB rfl ?_|apply cT rfl|apply cF rfl|(apply DM.gbT;rfl)|(apply DM.gbF;rfl)|intro h
 (apply DM.pcs (p43); (· simp only [go_sem, Nat.reduceBEq, Nat.reduceAdd] <;> rfl); (· exact AVLes.refl _))
 repeat' first|(apply Sp.go;·constructor<;>first|exact ss|(change _=_;first|(simp only[go_sem,Nat.reduceBEq,Nat.reduceAdd,Nat.reduceLeDiff,reduceIte]<;>rfl)|rfl)|exact Nat.le_of_ble_eq_true rfl|decide|(repeat' first|(apply Lk.go;constructor)|assumption|exact nb ‹_› ‹_›|exact nt ‹_› ‹_›))|(intro b hb;repeat first|(refine fe hb ?_;intro _ _ hb)|(refine fT hb ?_;intro hb))|refine rt ?_|refine gA rfl ?_|refine gB rfl ?_|apply cT rfl|apply cF rfl|(apply DM.gbT;rfl)|(apply DM.gbF;rfl)|intro h
 rename_i b2 _ hG7 _ _
 (apply DM.slF (rows := opNames.map fun s => [AV.str s]) names_rows (by intro r hr; obtain ⟨_, _, rfl⟩ := List.mem_map.1 hr; rfl) rfl (by decide) (by decide); (· rfl); (· exact g_same))
 repeat' first|(apply Sp.go;·constructor<;>first|exact ss|(change _=_;first|(simp only[go_sem,Nat.reduceBEq,Nat.reduceAdd,Nat.reduceLeDiff,reduceIte]<;>rfl)|rfl)|exact Nat.le_of_ble_eq_true rfl|decide|(repeat' first|(apply Lk.go;constructor)|assumption|exact nb ‹_› ‹_›|exact nt ‹_› ‹_›))|(intro b hb;repeat first|(refine fe hb ?_;intro _ _ hb)|(refine fT hb ?_;intro hb))|refine rt ?_|refine gA rfl ?_|refine gB rfl ?_|apply cT rfl|apply cF rfl|(apply DM.gbT;rfl)|(apply DM.gbF;rfl)|intro h
 (apply DM.pcs (h48); (· simp only [go_sem, Nat.reduceBEq, Nat.reduceAdd] <;> rfl); (· exact AVLes.refl _))
 repeat' first|(apply Sp.go;·constructor<;>first|exact ss|(change _=_;first|(simp only[go_sem,Nat.reduceBEq,Nat.reduceAdd,Nat.reduceLeDiff,reduceIte]<;>rfl)|rfl)|exact Nat.le_of_ble_eq_true rfl|decide|(repeat' first|(apply Lk.go;constructor)|assumption|exact nb ‹_› ‹_›|exact nt ‹_› ‹_›))|(intro b hb;repeat first|(refine fe hb ?_;intro _ _ hb)|(refine fT hb ?_;intro hb))|refine rt ?_|refine gA rfl ?_|refine gB rfl ?_|apply cT rfl|apply cF rfl|(apply DM.gbT;rfl)|(apply DM.gbF;rfl)|intro h
 have hG8 := drop_fresh hG7 hb
 refine AM.forget ((H.setB b2 43 [.int .i64 0, .int .i64 0, .str []]).setB b 43 [.int .i64 z, .int .i64 0, .str []]) (hsub_dropB hG7) ?_
 refine fe hG8 ?_
 intro n82 n28 hH8
 clear hb hG8
 (apply AM.cond; (· rfl))
 ·intro _
  repeat' first|(apply Sp.go;·constructor<;>first|exact ss|(change _=_;first|(simp only[go_sem,Nat.reduceBEq,Nat.reduceAdd,Nat.reduceLeDiff,reduceIte]<;>rfl)|rfl)|exact Nat.le_of_ble_eq_true rfl|decide|(repeat' first|(apply Lk.go;constructor)|assumption|exact nb ‹_› ‹_›|exact nt ‹_› ‹_›))|(intro b hb;repeat first|(refine fe hb ?_;intro _ _ hb)|(refine fT hb ?_;intro hb))|refine rt ?_|refine gA rfl ?_|refine gB rfl ?_|apply cT rfl|apply cF rfl|(apply DM.gbT;rfl)|(apply DM.gbF;rfl)|intro h
  (apply Sr.go;·constructor<;>first|(apply Lk.go;constructor<;>first|exact ss|(change _=_;first|(simp only[go_sem,Nat.reduceBEq,Nat.reduceAdd,Nat.reduceLeDiff,reduceIte]<;>rfl)|rfl)|exact Nat.le_of_ble_eq_true rfl|decide|(repeat' first|(apply Lk.go;constructor)|assumption|exact nb ‹_› ‹_›|exact nt ‹_› ‹_›))|assumption)
  exact AVLe.refl _
 ·intro h
  exfalso
  simp at h
  omega
set_option maxHeartbeats 4000000 in
theorem p4 (h9 : Pure Tryz.prog 9 [] (.bool true)) (x : Ins_) : Pure Tryz.prog 4 [x.av] (.bool true) := by
 have h16 := p16 x
 have h18 := p18 x
 have h19 := p19 x
 have h17 : ∃ y z, Pure Tryz.prog 17 [.str (showI x)] (.tup [(y : Ins_).av, .int .i64 z]) ∧ (formed x = true → y = x ∧ z = 0) := by
  rcases hf : formed x with _ | _
  ·refine ⟨⟨0, 0, []⟩, 3, ?_, fun h => by cases h⟩
   rw [show showI x = [63] by unfold showI; rw [if_pos hf]]
   exact p17z
  ·exact ⟨x, 0, p17 x hf, fun _ => ⟨rfl, rfl⟩⟩
 obtain ⟨y, z, h17, hy⟩ := h17
 generalize showI x = S at h16 h17 h18
 have hS : decide (S = S) = true := by simp
 rcases hf : formed x with _ | _ <;> rw [hf] at h19 hy
 ·refine pure_intro mo Tryz.func4 c4 fun H => ?_
  unfold e4 r4
  simp only [initEnv, initFrom]
  repeat' first|(apply Sp.go;·constructor<;>first|exact ss|(change _=_;first|(simp only[go_sem,Nat.reduceBEq,Nat.reduceAdd,Nat.reduceLeDiff,reduceIte]<;>rfl)|rfl)|exact Nat.le_of_ble_eq_true rfl|decide|(repeat' first|(apply Lk.go;constructor)|assumption|exact nb ‹_› ‹_›|exact nt ‹_› ‹_›))|(intro b hb;repeat first|(refine fe hb ?_;intro _ _ hb)|(refine fT hb ?_;intro hb))|refine rt ?_|refine gA rfl ?_|refine gB rfl ?_|apply cT rfl|apply cF rfl|(apply DM.gbT;rfl)|(apply DM.gbF;rfl)|intro h
  (apply DM.pcs (h9); (· simp only [go_sem, Nat.reduceBEq, Nat.reduceAdd] <;> rfl); (· exact AVLes.refl _))
  repeat' first|(apply Sp.go;·constructor<;>first|exact ss|(change _=_;first|(simp only[go_sem,Nat.reduceBEq,Nat.reduceAdd,Nat.reduceLeDiff,reduceIte]<;>rfl)|rfl)|exact Nat.le_of_ble_eq_true rfl|decide|(repeat' first|(apply Lk.go;constructor)|assumption|exact nb ‹_› ‹_›|exact nt ‹_› ‹_›))|(intro b hb;repeat first|(refine fe hb ?_;intro _ _ hb)|(refine fT hb ?_;intro hb))|refine rt ?_|refine gA rfl ?_|refine gB rfl ?_|apply cT rfl|apply cF rfl|(apply DM.gbT;rfl)|(apply DM.gbF;rfl)|intro h
  (apply AM.cond; (· rfl))
  ·intro _
   repeat' first|(apply Sp.go;·constructor<;>first|exact ss|(change _=_;first|(simp only[go_sem,Nat.reduceBEq,Nat.reduceAdd,Nat.reduceLeDiff,reduceIte]<;>rfl)|rfl)|exact Nat.le_of_ble_eq_true rfl|decide|(repeat' first|(apply Lk.go;constructor)|assumption|exact nb ‹_› ‹_›|exact nt ‹_› ‹_›))|(intro b hb;repeat first|(refine fe hb ?_;intro _ _ hb)|(refine fT hb ?_;intro hb))|refine rt ?_|refine gA rfl ?_|refine gB rfl ?_|apply cT rfl|apply cF rfl|(apply DM.gbT;rfl)|(apply DM.gbF;rfl)|intro h
   (apply Sr.go;·constructor<;>first|(apply Lk.go;constructor<;>first|exact ss|(change _=_;first|(simp only[go_sem,Nat.reduceBEq,Nat.reduceAdd,Nat.reduceLeDiff,reduceIte]<;>rfl)|rfl)|exact Nat.le_of_ble_eq_true rfl|decide|(repeat' first|(apply Lk.go;constructor)|assumption|exact nb ‹_› ‹_›|exact nt ‹_› ‹_›))|assumption)
   exact AVLe.refl _
  intro _
  repeat' first|(apply Sp.go;·constructor<;>first|exact ss|(change _=_;first|(simp only[go_sem,Nat.reduceBEq,Nat.reduceAdd,Nat.reduceLeDiff,reduceIte]<;>rfl)|rfl)|exact Nat.le_of_ble_eq_true rfl|decide|(repeat' first|(apply Lk.go;constructor)|assumption|exact nb ‹_› ‹_›|exact nt ‹_› ‹_›))|(intro b hb;repeat first|(refine fe hb ?_;intro _ _ hb)|(refine fT hb ?_;intro hb))|refine rt ?_|refine gA rfl ?_|refine gB rfl ?_|apply cT rfl|apply cF rfl|(apply DM.gbT;rfl)|(apply DM.gbF;rfl)|intro h
  (apply DM.pcs (h16); (· simp only [go_sem, Nat.reduceBEq, Nat.reduceAdd] <;> rfl); (· exact AVLes.refl _))
  repeat' first|(apply Sp.go;·constructor<;>first|exact ss|(change _=_;first|(simp only[go_sem,Nat.reduceBEq,Nat.reduceAdd,Nat.reduceLeDiff,reduceIte]<;>rfl)|rfl)|exact Nat.le_of_ble_eq_true rfl|decide|(repeat' first|(apply Lk.go;constructor)|assumption|exact nb ‹_› ‹_›|exact nt ‹_› ‹_›))|(intro b hb;repeat first|(refine fe hb ?_;intro _ _ hb)|(refine fT hb ?_;intro hb))|refine rt ?_|refine gA rfl ?_|refine gB rfl ?_|apply cT rfl|apply cF rfl|(apply DM.gbT;rfl)|(apply DM.gbF;rfl)|intro h
  (apply DM.pcs (h17); (· simp only [go_sem, Nat.reduceBEq, Nat.reduceAdd] <;> rfl); (· exact AVLes.refl _))
  repeat' first|(apply Sp.go;·constructor<;>first|exact ss|(change _=_;first|(simp only[go_sem,Nat.reduceBEq,Nat.reduceAdd,Nat.reduceLeDiff,reduceIte]<;>rfl)|rfl)|exact Nat.le_of_ble_eq_true rfl|decide|(repeat' first|(apply Lk.go;constructor)|assumption|exact nb ‹_› ‹_›|exact nt ‹_› ‹_›))|(intro b hb;repeat first|(refine fe hb ?_;intro _ _ hb)|(refine fT hb ?_;intro hb))|refine rt ?_|refine gA rfl ?_|refine gB rfl ?_|apply cT rfl|apply cF rfl|(apply DM.gbT;rfl)|(apply DM.gbF;rfl)|intro h
  (apply DM.pcs (h18); (· simp only [go_sem, Nat.reduceBEq, Nat.reduceAdd] <;> rfl); (· exact AVLes.refl _))
  repeat' first|(apply Sp.go;·constructor<;>first|exact ss|(change _=_;first|(simp only[go_sem,Nat.reduceBEq,Nat.reduceAdd,Nat.reduceLeDiff,reduceIte]<;>rfl)|rfl)|exact Nat.le_of_ble_eq_true rfl|decide|(repeat' first|(apply Lk.go;constructor)|assumption|exact nb ‹_› ‹_›|exact nt ‹_› ‹_›))|(intro b hb;repeat first|(refine fe hb ?_;intro _ _ hb)|(refine fT hb ?_;intro hb))|refine rt ?_|refine gA rfl ?_|refine gB rfl ?_|apply cT rfl|apply cF rfl|(apply DM.gbT;rfl)|(apply DM.gbF;rfl)|intro h
  (apply DM.pcs (h19); (· simp only [go_sem, Nat.reduceBEq, Nat.reduceAdd] <;> rfl); (· exact AVLes.refl _))
  repeat' first|(apply Sp.go;·constructor<;>first|exact ss|(change _=_;first|(simp only[go_sem,Nat.reduceBEq,Nat.reduceAdd,Nat.reduceLeDiff,reduceIte]<;>rfl)|rfl)|exact Nat.le_of_ble_eq_true rfl|decide|(repeat' first|(apply Lk.go;constructor)|assumption|exact nb ‹_› ‹_›|exact nt ‹_› ‹_›))|(intro b hb;repeat first|(refine fe hb ?_;intro _ _ hb)|(refine fT hb ?_;intro hb))|refine rt ?_|refine gA rfl ?_|refine gB rfl ?_|apply cT rfl|apply cF rfl|(apply DM.gbT;rfl)|(apply DM.gbF;rfl)|intro h
  (apply Sr.go;·constructor<;>first|(apply Lk.go;constructor<;>first|exact ss|(change _=_;first|(simp only[go_sem,Nat.reduceBEq,Nat.reduceAdd,Nat.reduceLeDiff,reduceIte]<;>rfl)|rfl)|exact Nat.le_of_ble_eq_true rfl|decide|(repeat' first|(apply Lk.go;constructor)|assumption|exact nb ‹_› ‹_›|exact nt ‹_› ‹_›))|assumption)
  exact AVLe.refl _
 ·obtain ⟨rfl, rfl⟩ := hy rfl
  refine pure_intro mo Tryz.func4 c4 fun H => ?_
  unfold e4 r4
  simp only [initEnv, initFrom]
  repeat' first|(apply Sp.go;·constructor<;>first|exact ss|(change _=_;first|(simp only[go_sem,Nat.reduceBEq,Nat.reduceAdd,Nat.reduceLeDiff,reduceIte]<;>rfl)|rfl)|exact Nat.le_of_ble_eq_true rfl|decide|(repeat' first|(apply Lk.go;constructor)|assumption|exact nb ‹_› ‹_›|exact nt ‹_› ‹_›))|(intro b hb;repeat first|(refine fe hb ?_;intro _ _ hb)|(refine fT hb ?_;intro hb))|refine rt ?_|refine gA rfl ?_|refine gB rfl ?_|apply cT rfl|apply cF rfl|(apply DM.gbT;rfl)|(apply DM.gbF;rfl)|intro h
  (apply DM.pcs (h9); (· simp only [go_sem, Nat.reduceBEq, Nat.reduceAdd] <;> rfl); (· exact AVLes.refl _))
  repeat' first|(apply Sp.go;·constructor<;>first|exact ss|(change _=_;first|(simp only[go_sem,Nat.reduceBEq,Nat.reduceAdd,Nat.reduceLeDiff,reduceIte]<;>rfl)|rfl)|exact Nat.le_of_ble_eq_true rfl|decide|(repeat' first|(apply Lk.go;constructor)|assumption|exact nb ‹_› ‹_›|exact nt ‹_› ‹_›))|(intro b hb;repeat first|(refine fe hb ?_;intro _ _ hb)|(refine fT hb ?_;intro hb))|refine rt ?_|refine gA rfl ?_|refine gB rfl ?_|apply cT rfl|apply cF rfl|(apply DM.gbT;rfl)|(apply DM.gbF;rfl)|intro h
  (apply AM.cond; (· rfl))
  ·intro _
   repeat' first|(apply Sp.go;·constructor<;>first|exact ss|(change _=_;first|(simp only[go_sem,Nat.reduceBEq,Nat.reduceAdd,Nat.reduceLeDiff,reduceIte]<;>rfl)|rfl)|exact Nat.le_of_ble_eq_true rfl|decide|(repeat' first|(apply Lk.go;constructor)|assumption|exact nb ‹_› ‹_›|exact nt ‹_› ‹_›))|(intro b hb;repeat first|(refine fe hb ?_;intro _ _ hb)|(refine fT hb ?_;intro hb))|refine rt ?_|refine gA rfl ?_|refine gB rfl ?_|apply cT rfl|apply cF rfl|(apply DM.gbT;rfl)|(apply DM.gbF;rfl)|intro h
   (apply Sr.go;·constructor<;>first|(apply Lk.go;constructor<;>first|exact ss|(change _=_;first|(simp only[go_sem,Nat.reduceBEq,Nat.reduceAdd,Nat.reduceLeDiff,reduceIte]<;>rfl)|rfl)|exact Nat.le_of_ble_eq_true rfl|decide|(repeat' first|(apply Lk.go;constructor)|assumption|exact nb ‹_› ‹_›|exact nt ‹_› ‹_›))|assumption)
   exact AVLe.refl _
  intro _
  repeat' first|(apply Sp.go;·constructor<;>first|exact ss|(change _=_;first|(simp only[go_sem,Nat.reduceBEq,Nat.reduceAdd,Nat.reduceLeDiff,reduceIte]<;>rfl)|rfl)|exact Nat.le_of_ble_eq_true rfl|decide|(repeat' first|(apply Lk.go;constructor)|assumption|exact nb ‹_› ‹_›|exact nt ‹_› ‹_›))|(intro b hb;repeat first|(refine fe hb ?_;intro _ _ hb)|(refine fT hb ?_;intro hb))|refine rt ?_|refine gA rfl ?_|refine gB rfl ?_|apply cT rfl|apply cF rfl|(apply DM.gbT;rfl)|(apply DM.gbF;rfl)|intro h
  (apply DM.pcs (h16); (· simp only [go_sem, Nat.reduceBEq, Nat.reduceAdd] <;> rfl); (· exact AVLes.refl _))
  repeat' first|(apply Sp.go;·constructor<;>first|exact ss|(change _=_;first|(simp only[go_sem,Nat.reduceBEq,Nat.reduceAdd,Nat.reduceLeDiff,reduceIte]<;>rfl)|rfl)|exact Nat.le_of_ble_eq_true rfl|decide|(repeat' first|(apply Lk.go;constructor)|assumption|exact nb ‹_› ‹_›|exact nt ‹_› ‹_›))|(intro b hb;repeat first|(refine fe hb ?_;intro _ _ hb)|(refine fT hb ?_;intro hb))|refine rt ?_|refine gA rfl ?_|refine gB rfl ?_|apply cT rfl|apply cF rfl|(apply DM.gbT;rfl)|(apply DM.gbF;rfl)|intro h
  (apply DM.pcs (h17); (· simp only [go_sem, Nat.reduceBEq, Nat.reduceAdd] <;> rfl); (· exact AVLes.refl _))
  repeat' first|(apply Sp.go;·constructor<;>first|exact ss|(change _=_;first|(simp only[go_sem,Nat.reduceBEq,Nat.reduceAdd,Nat.reduceLeDiff,reduceIte]<;>rfl)|rfl)|exact Nat.le_of_ble_eq_true rfl|decide|(repeat' first|(apply Lk.go;constructor)|assumption|exact nb ‹_› ‹_›|exact nt ‹_› ‹_›))|(intro b hb;repeat first|(refine fe hb ?_;intro _ _ hb)|(refine fT hb ?_;intro hb))|refine rt ?_|refine gA rfl ?_|refine gB rfl ?_|apply cT rfl|apply cF rfl|(apply DM.gbT;rfl)|(apply DM.gbF;rfl)|intro h
  (apply DM.pcs (h18); (· simp only [go_sem, Nat.reduceBEq, Nat.reduceAdd] <;> rfl); (· exact AVLes.refl _))
  repeat' first|(apply Sp.go;·constructor<;>first|exact ss|(change _=_;first|(simp only[go_sem,Nat.reduceBEq,Nat.reduceAdd,Nat.reduceLeDiff,reduceIte]<;>rfl)|rfl)|exact Nat.le_of_ble_eq_true rfl|decide|(repeat' first|(apply Lk.go;constructor)|assumption|exact nb ‹_› ‹_›|exact nt ‹_› ‹_›))|(intro b hb;repeat first|(refine fe hb ?_;intro _ _ hb)|(refine fT hb ?_;intro hb))|refine rt ?_|refine gA rfl ?_|refine gB rfl ?_|apply cT rfl|apply cF rfl|(apply DM.gbT;rfl)|(apply DM.gbF;rfl)|intro h
  (apply DM.pcs (h19); (· simp only [go_sem, Nat.reduceBEq, Nat.reduceAdd] <;> rfl); (· exact AVLes.refl _))
  repeat' first|(apply Sp.go;·constructor<;>first|exact ss|(change _=_;first|(simp only[go_sem,Nat.reduceBEq,Nat.reduceAdd,Nat.reduceLeDiff,reduceIte]<;>rfl)|rfl)|exact Nat.le_of_ble_eq_true rfl|decide|(repeat' first|(apply Lk.go;constructor)|assumption|exact nb ‹_› ‹_›|exact nt ‹_› ‹_›))|(intro b hb;repeat first|(refine fe hb ?_;intro _ _ hb)|(refine fT hb ?_;intro hb))|refine rt ?_|refine gA rfl ?_|refine gB rfl ?_|apply cT rfl|apply cF rfl|(apply DM.gbT;rfl)|(apply DM.gbF;rfl)|intro h
  (apply Sr.go;·constructor<;>first|(apply Lk.go;constructor<;>first|exact ss|(change _=_;first|(simp only[go_sem,Nat.reduceBEq,Nat.reduceAdd,Nat.reduceLeDiff,reduceIte]<;>rfl)|rfl)|exact Nat.le_of_ble_eq_true rfl|decide|(repeat' first|(apply Lk.go;constructor)|assumption|exact nb ‹_› ‹_›|exact nt ‹_› ‹_›))|assumption)
  refine avle_eq ?_
  simp
def tabL : List (Nat × EC × List ERes × Nat) := [(21, e21, r21, 1), (60, e60, r60, 1), (61, e61, r61, 2), (62, e62, r62, 1), (63, e63, r63, 3), (64, e64, r64, 1), (65, e65, r65, 1), (96, e96, r96, 2), (97, e97, r97, 2), (98, e98, r98, 2), (99, e99, r99, 1), (100, e100, r100, 3), (101, e101, r101, 3), (102, e102, r102, 2), (103, e103, r103, 1), (104, e104, r104, 1), (126, e126, r126, 2), (127, e127, r127, 2), (128, e128, r128, 2), (129, e129, r129, 2)]
def tab : Tab := fun f => tabL.lookup f
theorem tab_mem {f : Nat} {x : EC × List ERes × Nat} : ∀ {l : List (Nat × EC × List ERes × Nat)}, l.lookup f = some x → (f, x) ∈ l
 | [], h => by cases h
 | (g, y) :: l, h => by
  simp only [List.lookup] at h
  split at h
  ·rename_i e
   have : f = g := by simpa using e
   subst this
   simp only [Option.some.injEq] at h
   subst h
   exact List.mem_cons_self
  ·exact List.mem_cons_of_mem _ (tab_mem h)
theorem tab_all : ∀ x ∈ tabL, ∃ fn, Tryz.prog.funcs[x.1]? = some fn ∧ chkF Tryz.prog fn x.2.2.2 x.2.1 x.2.2.1 = true := by
 intro x hx
 simp only [tabL, List.mem_cons, List.not_mem_nil, or_false] at hx
 rcases hx with rfl | rfl | rfl | rfl | rfl | rfl | rfl | rfl | rfl | rfl | rfl | rfl | rfl | rfl | rfl | rfl | rfl | rfl | rfl | rfl
 ·exact ⟨_, Tryz.func21, c21⟩
 ·exact ⟨_, Tryz.func60, c60⟩
 ·exact ⟨_, Tryz.func61, c61⟩
 ·exact ⟨_, Tryz.func62, c62⟩
 ·exact ⟨_, Tryz.func63, c63⟩
 ·exact ⟨_, Tryz.func64, c64⟩
 ·exact ⟨_, Tryz.func65, c65⟩
 ·exact ⟨_, Tryz.func96, c96⟩
 ·exact ⟨_, Tryz.func97, c97⟩
 ·exact ⟨_, Tryz.func98, c98⟩
 ·exact ⟨_, Tryz.func99, c99⟩
 ·exact ⟨_, Tryz.func100, by kernel_rfl⟩
 ·exact ⟨_, Tryz.func101, c101⟩
 ·exact ⟨_, Tryz.func102, c102⟩
 ·exact ⟨_, Tryz.func103, c103⟩
 ·exact ⟨_, Tryz.func104, c104⟩
 ·exact ⟨_, Tryz.func126, c126⟩
 ·exact ⟨_, Tryz.func127, by kernel_rfl⟩
 ·exact ⟨_, Tryz.func128, c128⟩
 ·exact ⟨_, Tryz.func129, c129⟩
theorem tab_ok : TabOK Tryz.prog tab := fun f e rs m h => tab_all (f, e, rs, m) (tab_mem h)
def libA : Lib := fun f xs => if f = 11 then (match xs with
 | [.agg [.str s, .int .i64 r, .raw (.slice none 0 0), .raw (.slice none 0 0), .raw (.slice none 0 0), .vs 3 [[.int .i64 a, .int .i64 b, .str t]]]] => some (.bool (validP ⟨s, r, [], [], [], [⟨a, b, t⟩]⟩))
 | _ => none) else none
theorem nil_le (s : List UInt8) (r a b : Int) (t : List UInt8) : AVLe (.agg [.str s, .int .i64 r, .nilS, .nilS, .nilS, .vs 3 [[.int .i64 a, .int .i64 b, .str t]]]) (⟨s, r, [], [], [], [⟨a, b, t⟩]⟩ : Prog).av :=
 avle_agg (avles_cons (AVLe.refl _) (avles_cons (AVLe.refl _) (avles_cons AVLe.nil (avles_cons AVLe.nil (avles_cons AVLe.nil (avles_cons (AVLe.refl _) avles_nil))))))
theorem lib_ok : LibOK Tryz.prog libA := fun f xs r h _ => by
 unfold libA at h
 split at h
 ·rename_i e
  subst e
  split at h
  ·simp only [Option.some.injEq] at h
   subst h
   exact pure_mono (p11 _) (avles_cons (nil_le _ _ _ _ _) avles_nil)
  ·cases h
 ·cases h
def cvsA : List FuncId := [99, 103, 100, 127]
theorem cvs_ok : ∀ f ∈ cvsA, callable Tryz.prog f = true := by
 intro f hf
 simp only [cvsA, List.mem_cons, List.not_mem_nil, or_false] at hf
 rcases hf with rfl | rfl | rfl | rfl <;> kernel_rfl
theorem runA : (run tab libA cvsA 3000 r21 [.c e21] (initEnv [.vs 1 bA]) .new).map (fun x => x.1.wk) = some (.tup [aN, .int .i64 0]) := by kernel_rfl
theorem p21A : Pure Tryz.prog 21 [.vs 1 bA] (.tup [aN, .int .i64 0]) := by
 obtain ⟨x, hx, e⟩ := Option.map_eq_some_iff.1 runA
 exact pure_run mo tab_ok lib_ok cvs_ok Tryz.func21 c21 (by decide +kernel) hx e (by decide +kernel)
theorem p9' : Pure Tryz.prog 9 [] (.bool true) := p9 p21A
theorem p4' (x : Ins_) : Pure Tryz.prog 4 [x.av] (.bool true) := p4 p9' x
end Go.Aw.T
