/- Part of a proof; own work. -/
import Derived.Test.YtjjngpjdhjeckaaA0
import Derived.Test.YtjjngpjdhjeckaaProg
import Derived.Below
import Derived.Lib.OthersKept
import Derived.Deep.LoopGhost
import Derived.Laws.RangeAny
import Derived.Test.YtjjngpjdhjeckaaAS2
namespace Go.Aw.T
open Go Go.Aw Go.Proofs
set_option linter.unusedVariables false
theorem hid_box (m : Mem) (rh : RH m) (v0 v1 : Value) (T : TypeId) (w1 : World) (hw : w1 = (m.w.alloc (.cells #[v0] T)).setCell ⟨m.w.heap.size, 0, none⟩ v1) : RH ⟨w1, m.H, m.L, m.T⟩ ∧ Ev m ⟨w1, m.H, m.L, m.T⟩ ∧ (∀ b, b < m.w.heap.size → w1.heap[b]? = m.w.heap[b]?) ∧ w1.heap.size = m.w.heap.size + 1 := by
 have h5 : ∀ b, b < m.w.heap.size → w1.heap[b]? = m.w.heap[b]? := by
  intro b hb
  rw [hw, heap_setCell_other _ _ _ _ (by simp; omega)]
  exact hpold m.w _ b hb
 have h4 : w1.heap.size = m.w.heap.size + 1 := by rw [hw]; simp
 have h1 : w1.os = m.w.os := by rw [hw]; rfl
 have h2 : w1.tape = m.w.tape := by rw [hw]; rfl
 have h3 : w1.output = m.w.output := by rw [hw]; rfl
 exact ⟨RH.hid rh h1 h2 h3 (by omega) h5, Ev.hid h1 h2 h3 (by omega) h5, h5, h4⟩
theorem d73i (b : Nat) : DIdle Try.prog 73 [.ptr b 0] := by
 intro m vs rh hv
 simp only [RvL, Rv] at hv
 obtain ⟨v, vs', rfl, rfl, rfl⟩ := hv
 refine (catch_idle b m.w).mono ?_
 rintro e u' w' ⟨rfl, rfl, hw⟩
 obtain ⟨r1, r2, _, _⟩ := hid_box m rh _ _ _ w' hw
 exact ⟨⟨_, rfl⟩, rfl, m.L, m.T, r1, r2⟩
theorem d73p (b : Nat) (e0 ec : Int) (H : AHeap) (hb : H.blk b = some (33, [.int .i64 e0])) : DCalls Try.prog 73 [.ptr b 0] (.ifc 162 (.agg [.int .i64 ec])) H fun H2 => H2 = H.setB b 33 [.int .i64 ec] := by
 intro m vs cv hH rh hv hcv
 subst hH
 simp only [RvL, Rv] at hv hcv
 obtain ⟨v, vs', rfl, rfl, rfl⟩ := hv
 obtain ⟨x, rfl, l, rfl, y, l', rfl, rfl, rfl⟩ := hcv
 obtain ⟨l, g1, g2, g3⟩ := rh.blk b _ _ hb
 simp only [RvL, Rv] at g2
 obtain ⟨z, l', rfl, rfl, rfl⟩ := g2
 refine (catch_pan b e0 ec m.w g1).mono ?_
 rintro e u' w' ⟨rfl, rfl, hw⟩
 refine ⟨⟨_, rfl⟩, rfl, ?_⟩
 generalize hw1 : (m.w.alloc (.cells #[.int .i64 0] 162)).setCell ⟨m.w.heap.size, 0, none⟩ (.int .i64 ec) = w1 at hw
 obtain ⟨r1, r2, h5, h4⟩ := hid_box m rh _ _ _ w1 hw1.symm
 have hlt : b < m.w.heap.size := (Array.getElem?_eq_some_iff.1 g1).1
 have g1' : w1.heap[b]? = some (.cells ⟨[.int .i64 e0]⟩ 33 (0, 0)) := (h5 b hlt).trans g1
 have hb1 : (⟨w1, m.H, m.L, m.T⟩ : Mem).H.blk b = some (33, [.int .i64 e0]) := hb
 have q1 : w'.os = w1.os := by rw [hw]; rfl
 have q2 : w'.tape = w1.tape := by rw [hw]; rfl
 have q3 : w'.output = w1.output := by rw [hw]; rfl
 have q4 : w'.heap.size = w1.heap.size := by rw [hw]; simp
 have q5 : ∀ k, k ≠ b → w'.heap[k]? = w1.heap[k]? := fun k hk => by rw [hw]; exact heap_setCell_other _ _ _ _ hk
 have q6 : w'.heap[b]? = some (.cells ⟨[.int .i64 ec]⟩ 33 (0, 0)) := by
  rw [hw, heap_setCell_same _ b 0 _ _ _ g1']
  rfl
 have q7 : RvL (⟨w1, m.H, m.L, m.T⟩ : Mem) [.int .i64 ec] [.int .i64 ec] := by simp [RvL, Rv]
 have v2 := Ev.st r1 (w' := w') (cs := [.int .i64 ec]) (T := 33) hb1 q1 q2 q3 q4 q5
 have r3 := RH.st r1 (w' := w') (cs := [.int .i64 ec]) (T := 33) hb1 q1 q2 q3 q4 q5 q6 q7 (by simp [Value.oneCell'])
 exact ⟨_, m.L, m.T, r3, r2.trans v2, rfl⟩
end Go.Aw.T
namespace Go.Aw.T
open Go Go.Aw Go.Proofs
set_option maxRecDepth 1000000
abbrev iI (d : Nat) (o : EOp) : EI := ⟨some d, none, o⟩
abbrev iG (d j : Nat) (b : Bool) (o : EOp) : EI := ⟨some d, some (j, b), o⟩
abbrev iN (o : EOp) : EI := ⟨none, none, o⟩
def e26 : EC :=
 (.seq
 (.region [iI 5 (.box 41 (.t 0)),iI 10 (.alloc 60 [.nilS, .nilS, .int .i64 0]),iI 11 (.mv (.c (.int .i64 0)))] false)
 (.seq
 (.region [iI 12 (.mv (.c (.fn 54 [])))] false)
 (.seq
 (.seq
 (.region [iI 15 (.load true 6 (.t 5)),iI 16 (.mv (.t 2)),iI 17 (.call 28 [(.t 15), (.t 16)]),iI 18 (.not (.t 17)),iI 19 (.mv (.t 18)),iG 20 19 false (.mv (.t 1)),iG 21 19 false (.bin .lss (.t 20) (.c (.int .i64 0))),iI 22 (.pick (.t 19) (.c (.bool true)) (.t 21)),iI 23 (.mv (.t 22)),iG 24 23 false (.mv (.t 1)),iG 25 23 false (.faddr 5 (.t 5)),iG 26 23 false (.load false 1 (.t 25)),iG 27 23 false (.len (.t 26)),iG 28 23 false (.bin .geq (.t 24) (.t 27)),iI 29 (.pick (.t 23) (.c (.bool true)) (.t 28)),iI 30 (.mv (.t 29)),iG 31 30 false (.mv (.t 3)),iG 32 30 false (.len (.t 31)),iG 33 30 false (.bin .gtr (.t 32) (.c (.int .i64 4))),iI 34 (.pick (.t 30) (.c (.bool true)) (.t 33)),iI 35 (.mv (.t 34)),iG 36 35 false (.mv (.t 3)),iG 37 35 false (.mv (.t 12)),iG 38 35 false (.call 56 [(.t 36), (.t 37)]),iI 39 (.pick (.t 35) (.c (.bool true)) (.t 38))] false)
 (.cond (.t 39)
 (.seq
 (.region [iI 40 (.build [.nilS, .nilS, .int .i64 0] []),iN (.store 3 (.t 10) (.t 40)),iI 11 (.mv (.c (.int .i64 1)))] false)
 .ret)
 .skip))
 (.seq
 (.region [iI 41 (.load true 6 (.t 5)),iI 42 (.mv (.t 2)),iI 43 (.pcallM 70 3 57 [(.t 42)]),iI 44 (.mv (.t 3)),iI 45 (.mv (.t 1)),iI 46 (.build [.str [], .int .i64 0, .nilS, .nilS, .nilS, .nilS, .nilS, .nilS, .nilS, .nilS, .int .i64 0, .bool false, .bool false] [(0, 6, (.t 41)), (6, 1, (.t 43)), (7, 1, (.t 44)), (10, 1, (.t 45))]),iI 47 (.box 149 (.t 46)),iI 13 (.mv (.t 47))] true)
 (.seq
 (.region [iI 14 (.mv (.c (.int .i64 0)))] false)
 (.seq
 (.block 0
 (.loop
 (.seq
 (.seq
 (.region [iI 48 (.mv (.t 13)),iI 49 (.nilck (.t 48)),iI 50 (.faddr 12 (.t 49)),iI 51 (.load false 1 (.t 50)),iI 52 (.not (.t 51))] false)
 (.cond (.t 52)
 .skip
 (.exit 0)))
 (.block 1
 (.seq
 (.block 2
 (.seq
 (.region [iI 54 (.mv (.t 13)),iI 55 (.nilck (.t 54)),iI 56 (.faddr 10 (.t 55)),iI 57 (.load false 1 (.t 56)),iI 58 (.faddr 5 (.t 5)),iI 59 (.load false 1 (.t 58)),iI 60 (.len (.t 59)),iI 61 (.bin .geq (.t 57) (.t 60)),iI 53 (.mv (.t 61))] true)
 (.cond (.t 53)
 (.seq
 (.region [iI 62 (.build [.nilS, .nilS, .int .i64 0] []),iN (.store 3 (.t 10) (.t 62)),iI 11 (.mv (.c (.int .i64 25)))] false)
 .ret)
 (.seq
 (.region [iI 64 (.mv (.t 14)),iI 65 (.mv (.t 4)),iI 66 (.bin .geq (.t 64) (.t 65)),iI 63 (.mv (.t 66))] false)
 (.cond (.t 63)
 (.seq
 (.region [iI 67 (.build [.nilS, .nilS, .int .i64 0] []),iN (.store 3 (.t 10) (.t 67)),iI 11 (.mv (.c (.int .i64 26)))] false)
 .ret)
 .skip)))))
 (.seq
 (.region [iI 68 (.mv (.t 14)),iI 69 (.bin .add (.t 68) (.c (.int .i64 1))),iI 14 (.mv (.t 69))] false)
 (.seq
 (.region [iI 70 (.mv (.t 13)),iI 71 (.call 58 [(.t 70)])] false)
 (.seq
 (.region [iI 72 (.mv (.t 13)),iI 73 (.nilck (.t 72)),iI 74 (.faddr 11 (.t 73)),iI 75 (.load false 1 (.t 74))] false)
 (.cond (.t 75)
 (.seq
 (.region [iI 76 (.build [.nilS, .nilS, .int .i64 0] []),iN (.store 3 (.t 10) (.t 76)),iI 11 (.mv (.c (.int .i64 25)))] false)
 .ret)
 .skip)))))))))
 (.seq
 (.region [iI 77 (.mv (.t 13)),iI 78 (.nilck (.t 77)),iI 79 (.faddr 8 (.t 78)),iI 80 (.load false 1 (.t 79)),iI 81 (.mv (.t 13)),iI 82 (.nilck (.t 81)),iI 83 (.faddr 6 (.t 82)),iI 84 (.load false 1 (.t 83)),iI 85 (.mv (.t 14)),iI 86 (.build [.nilS, .nilS, .int .i64 0] [(0, 1, (.t 80)), (1, 1, (.t 84)), (2, 1, (.t 85))]),iN (.store 3 (.t 10) (.t 86)),iI 11 (.mv (.c (.int .i64 0)))] true)
 .ret)))))))
def r26 : List ERes := [.cell true 3 10, .t 11]
theorem c26 : chkF Try.prog Try.f26 5 e26 r26 = true := by kernel_rfl
def e29 : EC :=
 (.seq
 (.region [iI 2 (.alloc 70 [.int .i64 0, .int .i64 0, .str []])] false)
 (.seq
 (.region [iI 3 (.mv (.t 0)),iI 4 (.build [.int .i64 0, .int .i64 0, .str []] [(0, 1, (.c (.int .i64 1))), (1, 1, (.t 3))]),iN (.store 3 (.t 2) (.t 4))] false)
 .ret))
def r29 : List ERes := [.cell true 3 2]
theorem c29 : chkF Try.prog Try.f29 1 e29 r29 = true := by kernel_rfl
def e43 : EC :=
 (.seq
 (.region [iI 1 (.box 41 (.t 0)),iI 2 (.mv (.c (.bool false)))] false)
 (.seq
 (.seq
 (.region [iI 5 (.faddr 0 (.t 1)),iI 6 (.load false 1 (.t 5)),iI 7 (.call 67 [(.t 6)]),iI 8 (.not (.t 7)),iI 9 (.mv (.t 8)),iG 10 9 false (.faddr 1 (.t 1)),iG 11 9 false (.load false 1 (.t 10)),iG 12 9 false (.call 68 [(.t 11), (.c (.int .i64 0)), (.c (.int .i64 5))]),iG 13 9 false (.not (.t 12)),iI 14 (.pick (.t 9) (.c (.bool true)) (.t 13)),iI 15 (.mv (.t 14)),iG 16 15 false (.faddr 5 (.t 1)),iG 17 15 false (.load false 1 (.t 16)),iG 18 15 false (.len (.t 17)),iG 19 15 false (.call 68 [(.t 18), (.c (.int .i64 1)), (.c (.int .i64 1000))]),iG 20 15 false (.not (.t 19)),iI 21 (.pick (.t 15) (.c (.bool true)) (.t 20)),iI 22 (.mv (.t 21)),iG 23 22 false (.load true 6 (.t 1)),iG 24 22 false (.call 69 [(.t 23)]),iG 25 22 false (.not (.t 24)),iI 26 (.pick (.t 22) (.c (.bool true)) (.t 25)),iI 27 (.mv (.t 26)),iG 28 27 false (.load true 6 (.t 1)),iG 29 27 false (.call 70 [(.t 28)]),iG 30 27 false (.not (.t 29)),iI 31 (.pick (.t 27) (.c (.bool true)) (.t 30))] false)
 (.cond (.t 31)
 (.seq
 (.region [iI 2 (.mv (.c (.bool false)))] false)
 .ret)
 .skip))
 (.seq
 (.seq
 (.region [iI 32 (.faddr 5 (.t 1)),iI 33 (.load false 1 (.t 32)),iI 34 (.len (.t 33)),iI 35 (.mv (.c (.int .i64 0)))] false)
 (.block 0
 (.loop
 (.seq
 (.region [iI 36 (.bin .lss (.t 35) (.t 34))] false)
 (.seq
 (.cond (.t 36)
 .skip
 (.exit 0))
 (.seq
 (.block 1
 (.seq
 (.region [iI 37 (.iaddr 3 (.t 33) (.t 35)),iI 38 (.load true 3 (.t 37)),iI 4 (.alloc 88 [.int .i64 0, .int .i64 0, .str []]),iN (.store 3 (.t 4) (.t 38))] false)
 (.seq
 (.seq
 (.region [iI 39 (.load true 3 (.t 4)),iI 40 (.call 71 [(.t 39)]),iI 41 (.not (.t 40))] false)
 (.cond (.t 41)
 (.seq
 (.region [iI 2 (.mv (.c (.bool false)))] false)
 .ret)
 .skip))
 (.seq
 (.region [iI 42 (.faddr 0 (.t 4)),iI 43 (.load false 1 (.t 42))] false)
 (.block 2
 (.seq
 (.seq
 (.region [iI 45 (.bin .eql (.t 43) (.c (.int .i64 3))),iI 44 (.mv (.t 45))] false)
 (.cond (.t 44)
 .skip
 (.region [iI 46 (.bin .eql (.t 43) (.c (.int .i64 5))),iI 44 (.mv (.t 46))] false)))
 (.cond (.t 44)
 (.seq
 (.region [iI 47 (.faddr 1 (.t 4)),iI 48 (.load false 1 (.t 47)),iI 49 (.faddr 2 (.t 1)),iI 50 (.load false 1 (.t 49)),iI 51 (.len (.t 50)),iI 52 (.bin .geq (.t 48) (.t 51))] false)
 (.cond (.t 52)
 (.seq
 (.region [iI 2 (.mv (.c (.bool false)))] false)
 .ret)
 .skip))
 (.seq
 (.seq
 (.region [iI 54 (.bin .eql (.t 43) (.c (.int .i64 19))),iI 53 (.mv (.t 54))] false)
 (.cond (.t 53)
 .skip
 (.seq
 (.region [iI 55 (.bin .eql (.t 43) (.c (.int .i64 20))),iI 53 (.mv (.t 55))] false)
 (.cond (.t 53)
 .skip
 (.region [iI 56 (.bin .eql (.t 43) (.c (.int .i64 22))),iI 53 (.mv (.t 56))] false)))))
 (.cond (.t 53)
 (.seq
 (.region [iI 57 (.load true 6 (.t 1)),iI 58 (.faddr 1 (.t 4)),iI 59 (.load false 1 (.t 58)),iI 60 (.call 72 [(.t 57), (.t 59)]),iI 61 (.not (.t 60))] false)
 (.cond (.t 61)
 (.seq
 (.region [iI 2 (.mv (.c (.bool false)))] false)
 .ret)
 .skip))
 .skip)))))))))
 (.region [iI 62 (.bin .add (.t 35) (.c (.int .i64 1))),iI 35 (.mv (.t 62))] false)))))))
 (.seq
 (.region [iI 2 (.mv (.c (.bool true)))] false)
 .ret))))
def r43 : List ERes := [.t 2]
theorem c43 : chkF Try.prog Try.f43 1 e43 r43 = true := by kernel_rfl
def e54 : EC :=
 (.seq
 (.region [iI 1 (.box 70 (.t 0)),iI 2 (.mv (.c (.bool false)))] false)
 (.seq
 (.region [iI 3 (.load true 3 (.t 1)),iI 4 (.call 55 [(.t 3)]),iI 5 (.not (.t 4)),iI 2 (.mv (.t 5))] false)
 .ret))
def r54 : List ERes := [.t 2]
theorem c54 : chkF Try.prog Try.f54 1 e54 r54 = true := by kernel_rfl
def e55 : EC :=
 (.seq
 (.region [iI 1 (.box 70 (.t 0)),iI 2 (.mv (.c (.bool false)))] false)
 (.seq
 (.seq
 (.region [iI 3 (.faddr 0 (.t 1)),iI 4 (.load false 1 (.t 3))] false)
 (.block 0
 (.seq
 (.region [iI 6 (.bin .eql (.t 4) (.c (.int .i64 1))),iI 5 (.mv (.t 6))] false)
 (.cond (.t 5)
 (.seq
 (.region [iI 7 (.faddr 1 (.t 1)),iI 8 (.load false 1 (.t 7)),iI 9 (.bin .geq (.t 8) (.c (.int .i64 (-1000)))),iI 10 (.mv (.t 9)),iG 11 10 true (.faddr 1 (.t 1)),iG 12 10 true (.load false 1 (.t 11)),iG 13 10 true (.bin .leq (.t 12) (.c (.int .i64 1000))),iI 14 (.pick (.t 10) (.t 13) (.c (.bool false))),iI 15 (.mv (.t 14)),iG 16 15 true (.faddr 2 (.t 1)),iG 17 15 true (.load false 1 (.t 16)),iG 18 15 true (.bin .eql (.t 17) (.c (.str []))),iI 19 (.pick (.t 15) (.t 18) (.c (.bool false))),iI 2 (.mv (.t 19))] false)
 .ret)
 (.seq
 (.region [iI 21 (.bin .eql (.t 4) (.c (.int .i64 2))),iI 20 (.mv (.t 21))] false)
 (.cond (.t 20)
 (.seq
 (.region [iI 22 (.faddr 1 (.t 1)),iI 23 (.load false 1 (.t 22)),iI 24 (.bin .eql (.t 23) (.c (.int .i64 0))),iI 25 (.mv (.t 24)),iG 26 25 true (.faddr 2 (.t 1)),iG 27 25 true (.load false 1 (.t 26)),iG 28 25 true (.lenS (.t 27)),iG 29 25 true (.bin .leq (.t 28) (.c (.int .i64 40))),iI 30 (.pick (.t 25) (.t 29) (.c (.bool false))),iI 31 (.mv (.t 30)),iG 32 31 true (.faddr 2 (.t 1)),iG 33 31 true (.load false 1 (.t 32)),iG 34 31 true (.call 85 [(.t 33)]),iI 35 (.pick (.t 31) (.t 34) (.c (.bool false))),iI 2 (.mv (.t 35))] false)
 .ret)
 .skip))))))
 (.seq
 (.region [iI 2 (.mv (.c (.bool false)))] false)
 .ret)))
def r55 : List ERes := [.t 2]
theorem c55 : chkF Try.prog Try.f55 1 e55 r55 = true := by kernel_rfl
def e56 : EC :=
 (.seq
 (.region [iI 4 (.mv (.c (.bool false)))] false)
 (.seq
 (.region [iI 5 (.mv (.t 0)),iI 6 (.mv (.t 1)),iI 7 (.call 86 [(.t 5), (.t 6)]),iI 8 (.bin .geq (.t 7) (.c (.int .i64 0))),iI 4 (.mv (.t 8))] false)
 .ret))
def r56 : List ERes := [.t 4]
theorem c56 : chkF Try.prog Try.f56 2 e56 r56 = true := by kernel_rfl
def e57 : EC :=
 (.seq
 (.region [iI 2 (.mv (.c (.nilS)))] false)
 (.seq
 (.seq
 (.region [iI 3 (.mv (.t 0)),iI 4 (.isnil false (.t 3))] false)
 (.cond (.t 4)
 (.seq
 (.region [iI 2 (.mv (.c (.nilS)))] false)
 .ret)
 .skip))
 (.seq
 (.region [iI 5 (.bsliceM 70 3 0 [.int .i64 0, .int .i64 0, .str []] []),iI 6 (.mv (.t 0)),iI 7 (.appendM 70 3 32 (.t 5) (.t 6)),iI 2 (.mv (.t 7))] false)
 .ret)))
def r57 : List ERes := [.t 2]
theorem c57 : chkF Try.prog Try.f57 1 e57 r57 = true := by kernel_rfl
def e58 : EC :=
 (.seq
 (.region [iI 3 (.mv (.t 0)),iI 4 (.nilck (.t 3)),iI 5 (.faddr 0 (.t 4)),iI 6 (.faddr 5 (.t 5)),iI 7 (.load false 1 (.t 6)),iI 8 (.mv (.t 0)),iI 9 (.nilck (.t 8)),iI 10 (.faddr 10 (.t 9)),iI 11 (.load false 1 (.t 10)),iI 12 (.iaddr 3 (.t 7) (.t 11)),iI 13 (.load true 3 (.t 12)),iI 2 (.alloc 88 [.int .i64 0, .int .i64 0, .str []]),iN (.store 3 (.t 2) (.t 13))] true)
 (.seq
 (.region [iI 14 (.mv (.t 0)),iI 15 (.nilck (.t 14)),iI 16 (.faddr 10 (.t 15)),iI 17 (.load false 1 (.t 16)),iI 18 (.bin .add (.t 17) (.c (.int .i64 1))),iI 19 (.nilck (.t 14)),iI 20 (.faddr 10 (.t 19)),iN (.store 1 (.t 20) (.t 18))] false)
 (.seq
 (.region [iI 21 (.faddr 0 (.t 2)),iI 22 (.load false 1 (.t 21))] false)
 (.block 0
 (.seq
 (.region [iI 27 (.bin .eql (.t 22) (.c (.int .i64 1))),iI 26 (.mv (.t 27))] false)
 (.cond (.t 26)
 (.region [iI 28 (.mv (.t 0)),iI 29 (.faddr 1 (.t 2)),iI 30 (.load false 1 (.t 29)),iI 31 (.call 88 [(.t 30)]),iI 32 (.call 87 [(.t 28), (.t 31)])] false)
 (.seq
 (.region [iI 34 (.bin .eql (.t 22) (.c (.int .i64 2))),iI 33 (.mv (.t 34))] false)
 (.cond (.t 33)
 (.region [iI 35 (.mv (.t 0)),iI 36 (.faddr 2 (.t 2)),iI 37 (.load false 1 (.t 36)),iI 38 (.build [.int .i64 0, .int .i64 0, .str []] [(0, 1, (.c (.int .i64 2))), (2, 1, (.t 37))]),iI 39 (.call 87 [(.t 35), (.t 38)])] false)
 (.seq
 (.region [iI 41 (.bin .eql (.t 22) (.c (.int .i64 3))),iI 40 (.mv (.t 41))] false)
 (.cond (.t 40)
 (.region [iI 42 (.mv (.t 0)),iI 43 (.mv (.t 0)),iI 44 (.nilck (.t 43)),iI 45 (.faddr 6 (.t 44)),iI 46 (.load false 1 (.t 45)),iI 47 (.faddr 1 (.t 2)),iI 48 (.load false 1 (.t 47)),iI 49 (.iaddrM 3 (.t 46) (.t 48)),iI 50 (.loadM true 3 (.t 49)),iI 51 (.call 87 [(.t 42), (.t 50)])] true)
 (.seq
 (.region [iI 53 (.bin .eql (.t 22) (.c (.int .i64 4))),iI 52 (.mv (.t 53))] false)
 (.cond (.t 52)
 (.seq
 (.seq
 (.region [iI 54 (.faddr 1 (.t 2)),iI 55 (.load false 1 (.t 54)),iI 56 (.mv (.t 0)),iI 57 (.nilck (.t 56)),iI 58 (.faddr 7 (.t 57)),iI 59 (.load false 1 (.t 58)),iI 60 (.len (.t 59)),iI 61 (.bin .geq (.t 55) (.t 60))] true)
 (.cond (.t 61)
 (.seq
 (.region [iI 62 (.mv (.t 0)),iI 63 (.nilck (.t 62)),iI 64 (.faddr 11 (.t 63)),iN (.store 1 (.t 64) (.c (.bool true)))] false)
 .ret)
 .skip))
 (.region [iI 65 (.mv (.t 0)),iI 66 (.mv (.t 0)),iI 67 (.nilck (.t 66)),iI 68 (.faddr 7 (.t 67)),iI 69 (.load false 1 (.t 68)),iI 70 (.faddr 1 (.t 2)),iI 71 (.load false 1 (.t 70)),iI 72 (.iaddr 3 (.t 69) (.t 71)),iI 73 (.load true 3 (.t 72)),iI 74 (.call 87 [(.t 65), (.t 73)])] true))
 (.seq
 (.region [iI 76 (.bin .eql (.t 22) (.c (.int .i64 5))),iI 75 (.mv (.t 76))] false)
 (.cond (.t 75)
 (.region [iI 77 (.mv (.t 0)),iI 78 (.faddr 1 (.t 2)),iI 79 (.load false 1 (.t 78)),iI 80 (.call 89 [(.t 77), (.t 79)])] false)
 (.seq
 (.region [iI 82 (.bin .eql (.t 22) (.c (.int .i64 11))),iI 81 (.mv (.t 82))] false)
 (.cond (.t 81)
 (.region [iI 83 (.mv (.t 0)),iI 84 (.mv (.t 0)),iI 85 (.call 91 [(.t 84), (.c (.int .i64 1))]),iI 86 (.field false 1 1 (.t 85)),iI 87 (.neg (.t 86)),iI 88 (.call 90 [(.t 83), (.t 87)])] false)
 (.seq
 (.region [iI 90 (.bin .eql (.t 22) (.c (.int .i64 14))),iI 89 (.mv (.t 90))] false)
 (.cond (.t 89)
 (.region [iI 91 (.mv (.t 0)),iI 92 (.mv (.t 0)),iI 93 (.call 91 [(.t 92), (.c (.int .i64 1))]),iI 94 (.field false 1 1 (.t 93)),iI 95 (.bin .eql (.t 94) (.c (.int .i64 0))),iI 96 (.call 92 [(.t 95)]),iI 97 (.call 90 [(.t 91), (.t 96)])] false)
 (.seq
 (.seq
 (.region [iI 99 (.bin .eql (.t 22) (.c (.int .i64 12))),iI 98 (.mv (.t 99))] false)
 (.cond (.t 98)
 .skip
 (.seq
 (.region [iI 100 (.bin .eql (.t 22) (.c (.int .i64 17))),iI 98 (.mv (.t 100))] false)
 (.cond (.t 98)
 .skip
 (.region [iI 101 (.bin .eql (.t 22) (.c (.int .i64 18))),iI 98 (.mv (.t 101))] false)))))
 (.cond (.t 98)
 (.region [iI 102 (.mv (.t 0)),iI 103 (.faddr 0 (.t 2)),iI 104 (.load false 1 (.t 103)),iI 105 (.call 93 [(.t 102), (.t 104)])] false)
 (.seq
 (.seq
 (.region [iI 107 (.bin .eql (.t 22) (.c (.int .i64 6))),iI 106 (.mv (.t 107))] false)
 (.cond (.t 106)
 .skip
 (.seq
 (.region [iI 108 (.bin .eql (.t 22) (.c (.int .i64 7))),iI 106 (.mv (.t 108))] false)
 (.cond (.t 106)
 .skip
 (.seq
 (.region [iI 109 (.bin .eql (.t 22) (.c (.int .i64 8))),iI 106 (.mv (.t 109))] false)
 (.cond (.t 106)
 .skip
 (.seq
 (.region [iI 110 (.bin .eql (.t 22) (.c (.int .i64 9))),iI 106 (.mv (.t 110))] false)
 (.cond (.t 106)
 .skip
 (.seq
 (.region [iI 111 (.bin .eql (.t 22) (.c (.int .i64 10))),iI 106 (.mv (.t 111))] false)
 (.cond (.t 106)
 .skip
 (.seq
 (.region [iI 112 (.bin .eql (.t 22) (.c (.int .i64 13))),iI 106 (.mv (.t 112))] false)
 (.cond (.t 106)
 .skip
 (.seq
 (.region [iI 113 (.bin .eql (.t 22) (.c (.int .i64 15))),iI 106 (.mv (.t 113))] false)
 (.cond (.t 106)
 .skip
 (.region [iI 114 (.bin .eql (.t 22) (.c (.int .i64 16))),iI 106 (.mv (.t 114))] false)))))))))))))))
 (.cond (.t 106)
 (.region [iI 115 (.mv (.t 0)),iI 116 (.faddr 0 (.t 2)),iI 117 (.load false 1 (.t 116)),iI 118 (.call 94 [(.t 115), (.t 117)])] false)
 (.region [iI 23 (.mv (.t 0)),iI 24 (.load true 3 (.t 2)),iI 25 (.call 95 [(.t 23), (.t 24)])] false)))))))))))))))))))))))
def r58 : List ERes := []
theorem c58 : chkF Try.prog Try.f58 1 e58 r58 = true := by kernel_rfl
def e59 : EC :=
 (.seq
 (.region [iI 6 (.mv (.c (.bool false)))] false)
 (.seq
 (.seq
 (.region [iI 10 (.mv (.t 0)),iI 11 (.len (.t 10)),iI 12 (.mv (.t 1)),iI 13 (.len (.t 12)),iI 14 (.bin .neq (.t 11) (.t 13))] false)
 (.cond (.t 14)
 (.seq
 (.region [iI 6 (.mv (.c (.bool false)))] false)
 .ret)
 .skip))
 (.seq
 (.seq
 (.region [iI 15 (.mv (.t 0)),iI 16 (.len (.t 15)),iI 17 (.mv (.c (.int .i64 0)))] false)
 (.block 0
 (.loop
 (.seq
 (.region [iI 18 (.bin .lss (.t 17) (.t 16))] false)
 (.seq
 (.cond (.t 18)
 .skip
 (.exit 0))
 (.seq
 (.block 1
 (.seq
 (.region [iI 19 (.mv (.t 17)),iI 20 (.iaddr 7 (.t 15) (.t 17)),iI 21 (.load true 7 (.t 20)),iI 8 (.alloc 87 [.str [], .int .i64 0, .int .i64 0, .int .i64 0, .int .i64 0, .int .i64 0, .str []]),iI 7 (.mv (.t 19)),iN (.store 7 (.t 8) (.t 21))] false)
 (.seq
 (.region [iI 22 (.mv (.t 1)),iI 23 (.mv (.t 7)),iI 24 (.iaddr 3 (.t 22) (.t 23)),iI 25 (.load true 3 (.t 24)),iI 9 (.alloc 70 [.int .i64 0, .int .i64 0, .str []]),iN (.store 3 (.t 9) (.t 25))] false)
 (.seq
 (.region [iI 26 (.mv (.t 2)),iI 27 (.load true 7 (.t 8)),iI 28 (.load true 3 (.t 9)),iI 29 (.callv (.t 26) [(.t 27), (.t 28)]),iI 30 (.not (.t 29))] false)
 (.cond (.t 30)
 (.seq
 (.region [iI 6 (.mv (.c (.bool false)))] false)
 .ret)
 .skip)))))
 (.region [iI 31 (.bin .add (.t 17) (.c (.int .i64 1))),iI 17 (.mv (.t 31))] false)))))))
 (.seq
 (.region [iI 6 (.mv (.c (.bool true)))] false)
 .ret))))
def r59 : List ERes := [.t 6]
theorem c59 : chkF Try.prog Try.f59 3 e59 r59 = true := by kernel_rfl
def e60 : EC :=
 (.seq
 (.region [iI 2 (.box 87 (.t 0)),iI 3 (.box 70 (.t 1)),iI 4 (.mv (.c (.bool false)))] false)
 (.seq
 (.region [iI 5 (.faddr 1 (.t 2)),iI 6 (.load true 3 (.t 5)),iI 7 (.load true 3 (.t 3)),iI 8 (.call 61 [(.t 6), (.t 7)]),iI 4 (.mv (.t 8))] false)
 .ret))
def r60 : List ERes := [.t 4]
theorem c60 : chkF Try.prog Try.f60 2 e60 r60 = true := by kernel_rfl
def e61 : EC :=
 (.seq
 (.region [iI 2 (.box 85 (.t 0)),iI 3 (.box 70 (.t 1)),iI 4 (.mv (.c (.bool false)))] false)
 (.seq
 (.region [iI 6 (.load true 3 (.t 3)),iI 7 (.call 96 [(.t 6)]),iI 5 (.mv (.t 7))] false)
 (.seq
 (.region [iI 8 (.load true 3 (.t 2)),iI 9 (.call 97 [(.t 8)]),iI 10 (.mv (.t 9)),iG 11 10 true (.load true 3 (.t 3)),iG 12 10 true (.call 55 [(.t 11)]),iI 13 (.pick (.t 10) (.t 12) (.c (.bool false))),iI 14 (.mv (.t 13)),iG 15 14 true (.faddr 0 (.t 2)),iG 16 14 true (.load false 1 (.t 15)),iG 17 14 true (.faddr 0 (.t 3)),iG 18 14 true (.load false 1 (.t 17)),iG 19 14 true (.bin .eql (.t 16) (.t 18)),iI 20 (.pick (.t 14) (.t 19) (.c (.bool false))),iI 21 (.mv (.t 20)),iG 22 21 true (.mv (.t 5)),iG 23 21 true (.faddr 1 (.t 2)),iG 24 21 true (.load false 1 (.t 23)),iG 25 21 true (.bin .geq (.t 22) (.t 24)),iI 26 (.pick (.t 21) (.t 25) (.c (.bool false))),iI 27 (.mv (.t 26)),iG 28 27 true (.mv (.t 5)),iG 29 27 true (.faddr 2 (.t 2)),iG 30 27 true (.load false 1 (.t 29)),iG 31 27 true (.bin .leq (.t 28) (.t 30)),iI 32 (.pick (.t 27) (.t 31) (.c (.bool false))),iI 4 (.mv (.t 32))] false)
 .ret)))
def r61 : List ERes := [.t 4]
theorem c61 : chkF Try.prog Try.f61 2 e61 r61 = true := by kernel_rfl
def e67 : EC :=
 (.seq
 (.region [iI 2 (.mv (.c (.bool false)))] false)
 (.seq
 (.seq
 (.region [iI 4 (.mv (.t 0)),iI 5 (.bin .eql (.t 4) (.c (.str []))),iI 6 (.mv (.t 5)),iG 7 6 false (.mv (.t 0)),iG 8 6 false (.lenS (.t 7)),iG 9 6 false (.bin .gtr (.t 8) (.c (.int .i64 16))),iI 10 (.pick (.t 6) (.c (.bool true)) (.t 9)),iI 11 (.mv (.t 10)),iG 12 11 false (.mv (.t 0)),iG 13 11 false (.idxS (.t 12) (.c (.int .i64 0))),iG 14 11 false (.call 106 [(.t 13)]),iG 15 11 false (.not (.t 14)),iI 16 (.pick (.t 11) (.c (.bool true)) (.t 15))] false)
 (.cond (.t 16)
 (.seq
 (.region [iI 2 (.mv (.c (.bool false)))] false)
 .ret)
 .skip))
 (.seq
 (.seq
 (.region [iI 17 (.mv (.t 0)),iI 18 (.lenS (.t 17)),iI 19 (.mv (.c (.int .i64 0)))] false)
 (.block 0
 (.loop
 (.seq
 (.region [iI 20 (.bin .lss (.t 19) (.t 18))] false)
 (.seq
 (.cond (.t 20)
 .skip
 (.exit 0))
 (.seq
 (.block 1
 (.seq
 (.region [iI 21 (.mv (.t 19)),iI 3 (.mv (.t 21))] false)
 (.seq
 (.region [iI 22 (.mv (.t 0)),iI 23 (.mv (.t 3)),iI 24 (.idxS (.t 22) (.t 23)),iI 25 (.call 107 [(.t 24)]),iI 26 (.not (.t 25))] false)
 (.cond (.t 26)
 (.seq
 (.region [iI 2 (.mv (.c (.bool false)))] false)
 .ret)
 .skip))))
 (.region [iI 27 (.bin .add (.t 19) (.c (.int .i64 1))),iI 19 (.mv (.t 27))] false)))))))
 (.seq
 (.region [iI 2 (.mv (.c (.bool true)))] false)
 .ret))))
def r67 : List ERes := [.t 2]
theorem c67 : chkF Try.prog Try.f67 1 e67 r67 = true := by kernel_rfl
def e68 : EC :=
 (.seq
 (.region [iI 6 (.mv (.c (.bool false)))] false)
 (.seq
 (.region [iI 7 (.mv (.t 0)),iI 8 (.mv (.t 1)),iI 9 (.bin .geq (.t 7) (.t 8)),iI 10 (.mv (.t 9)),iG 11 10 true (.mv (.t 0)),iG 12 10 true (.mv (.t 2)),iG 13 10 true (.bin .leq (.t 11) (.t 12)),iI 14 (.pick (.t 10) (.t 13) (.c (.bool false))),iI 6 (.mv (.t 14))] false)
 .ret))
def r68 : List ERes := [.t 6]
theorem c68 : chkF Try.prog Try.f68 3 e68 r68 = true := by kernel_rfl
def e69 : EC :=
 (.seq
 (.region [iI 1 (.box 41 (.t 0)),iI 2 (.mv (.c (.bool false)))] false)
 (.seq
 (.seq
 (.region [iI 6 (.faddr 2 (.t 1)),iI 7 (.load false 1 (.t 6)),iI 8 (.len (.t 7)),iI 9 (.mv (.c (.int .i64 0)))] false)
 (.block 0
 (.loop
 (.seq
 (.region [iI 10 (.bin .lss (.t 9) (.t 8))] false)
 (.seq
 (.cond (.t 10)
 .skip
 (.exit 0))
 (.seq
 (.block 1
 (.seq
 (.region [iI 11 (.mv (.t 9)),iI 12 (.iaddr 7 (.t 7) (.t 9)),iI 13 (.load true 7 (.t 12)),iI 4 (.alloc 87 [.str [], .int .i64 0, .int .i64 0, .int .i64 0, .int .i64 0, .int .i64 0, .str []]),iI 3 (.mv (.t 11)),iN (.store 7 (.t 4) (.t 13))] false)
 (.seq
 (.region [iI 14 (.mkfn 108 [(.t 4)]),iI 5 (.mv (.t 14))] false)
 (.seq
 (.region [iI 15 (.faddr 0 (.t 4)),iI 16 (.load false 1 (.t 15)),iI 17 (.call 67 [(.t 16)]),iI 18 (.not (.t 17)),iI 19 (.mv (.t 18)),iG 20 19 false (.faddr 2 (.t 1)),iG 21 19 false (.load false 1 (.t 20)),iG 22 19 false (.mv (.t 5)),iG 23 19 false (.call 109 [(.t 21), (.t 22)]),iG 24 19 false (.mv (.t 3)),iG 25 19 false (.bin .neq (.t 23) (.t 24)),iI 26 (.pick (.t 19) (.c (.bool true)) (.t 25)),iI 27 (.mv (.t 26)),iG 28 27 false (.faddr 1 (.t 4)),iG 29 27 false (.load true 3 (.t 28)),iG 30 27 false (.faddr 4 (.t 4)),iG 31 27 false (.load true 3 (.t 30)),iG 32 27 false (.call 61 [(.t 29), (.t 31)]),iG 33 27 false (.not (.t 32)),iI 34 (.pick (.t 27) (.c (.bool true)) (.t 33))] false)
 (.cond (.t 34)
 (.seq
 (.region [iI 2 (.mv (.c (.bool false)))] false)
 .ret)
 .skip)))))
 (.region [iI 35 (.bin .add (.t 9) (.c (.int .i64 1))),iI 9 (.mv (.t 35))] false)))))))
 (.seq
 (.region [iI 36 (.faddr 2 (.t 1)),iI 37 (.load false 1 (.t 36)),iI 38 (.len (.t 37)),iI 39 (.bin .leq (.t 38) (.c (.int .i64 12))),iI 2 (.mv (.t 39))] false)
 .ret)))
def r69 : List ERes := [.t 2]
theorem c69 : chkF Try.prog Try.f69 1 e69 r69 = true := by kernel_rfl
def e70 : EC :=
 (.seq
 (.region [iI 1 (.box 41 (.t 0)),iI 2 (.mv (.c (.bool false)))] false)
 (.seq
 (.seq
 (.region [iI 8 (.faddr 3 (.t 1)),iI 9 (.load false 1 (.t 8)),iI 10 (.len (.t 9)),iI 11 (.mv (.c (.int .i64 0)))] false)
 (.block 0
 (.loop
 (.seq
 (.region [iI 12 (.bin .lss (.t 11) (.t 10))] false)
 (.seq
 (.cond (.t 12)
 .skip
 (.exit 0))
 (.seq
 (.block 1
 (.seq
 (.region [iI 13 (.mv (.t 11)),iI 14 (.iaddr 3 (.t 9) (.t 11)),iI 15 (.load true 3 (.t 14)),iI 4 (.alloc 128 [.int .i64 0, .int .i64 0, .int .i64 0]),iI 3 (.mv (.t 13)),iN (.store 3 (.t 4) (.t 15))] false)
 (.seq
 (.region [iI 16 (.mkfn 110 [(.t 4)]),iI 5 (.mv (.t 16))] false)
 (.seq
 (.region [iI 17 (.load true 6 (.t 1)),iI 18 (.faddr 0 (.t 4)),iI 19 (.load false 1 (.t 18)),iI 20 (.faddr 1 (.t 4)),iI 21 (.load false 1 (.t 20)),iI 22 (.call 111 [(.t 17), (.t 19), (.t 21)]),iI 23 (.not (.t 22)),iI 24 (.mv (.t 23)),iG 25 24 false (.load true 6 (.t 1)),iG 26 24 false (.faddr 2 (.t 4)),iG 27 24 false (.load false 1 (.t 26)),iG 28 24 false (.call 72 [(.t 25), (.t 27)]),iG 29 24 false (.not (.t 28)),iI 30 (.pick (.t 24) (.c (.bool true)) (.t 29)),iI 31 (.mv (.t 30)),iG 32 31 false (.faddr 3 (.t 1)),iG 33 31 false (.load false 1 (.t 32)),iG 34 31 false (.mv (.t 5)),iG 35 31 false (.call 112 [(.t 33), (.t 34)]),iG 36 31 false (.mv (.t 3)),iG 37 31 false (.bin .neq (.t 35) (.t 36)),iI 38 (.pick (.t 31) (.c (.bool true)) (.t 37))] false)
 (.cond (.t 38)
 (.seq
 (.region [iI 2 (.mv (.c (.bool false)))] false)
 .ret)
 .skip)))))
 (.region [iI 39 (.bin .add (.t 11) (.c (.int .i64 1))),iI 11 (.mv (.t 39))] false)))))))
 (.seq
 (.seq
 (.region [iI 40 (.faddr 4 (.t 1)),iI 41 (.load false 1 (.t 40)),iI 42 (.len (.t 41)),iI 43 (.mv (.c (.int .i64 0)))] false)
 (.block 2
 (.loop
 (.seq
 (.region [iI 44 (.bin .lss (.t 43) (.t 42))] false)
 (.seq
 (.cond (.t 44)
 .skip
 (.exit 2))
 (.seq
 (.block 3
 (.seq
 (.region [iI 45 (.iaddr 4 (.t 41) (.t 43)),iI 46 (.load true 4 (.t 45)),iI 7 (.alloc 117 [.int .i64 0, .int .i64 0, .int .i64 0, .int .i64 0]),iN (.store 4 (.t 7) (.t 46))] false)
 (.seq
 (.region [iI 47 (.load true 6 (.t 1)),iI 48 (.faddr 0 (.t 7)),iI 49 (.load false 1 (.t 48)),iI 50 (.faddr 1 (.t 7)),iI 51 (.load false 1 (.t 50)),iI 52 (.call 111 [(.t 47), (.t 49), (.t 51)]),iI 53 (.not (.t 52)),iI 54 (.mv (.t 53)),iG 55 54 false (.load true 6 (.t 1)),iG 56 54 false (.faddr 3 (.t 7)),iG 57 54 false (.load false 1 (.t 56)),iG 58 54 false (.call 72 [(.t 55), (.t 57)]),iG 59 54 false (.not (.t 58)),iI 60 (.pick (.t 54) (.c (.bool true)) (.t 59)),iI 61 (.mv (.t 60)),iG 62 61 false (.faddr 2 (.t 7)),iG 63 61 false (.load false 1 (.t 62)),iG 64 61 false (.bin .neq (.t 63) (.c (.int .i64 (-1)))),iG 65 61 false (.mv (.t 64)),iG 66 65 true (.load true 6 (.t 1)),iG 67 65 true (.faddr 2 (.t 7)),iG 68 65 true (.load false 1 (.t 67)),iG 69 65 true (.call 72 [(.t 66), (.t 68)]),iG 70 65 true (.not (.t 69)),iG 71 61 false (.pick (.t 65) (.t 70) (.c (.bool false))),iI 72 (.pick (.t 61) (.c (.bool true)) (.t 71))] false)
 (.cond (.t 72)
 (.seq
 (.region [iI 2 (.mv (.c (.bool false)))] false)
 .ret)
 .skip))))
 (.region [iI 73 (.bin .add (.t 43) (.c (.int .i64 1))),iI 43 (.mv (.t 73))] false)))))))
 (.seq
 (.region [iI 74 (.faddr 3 (.t 1)),iI 75 (.load false 1 (.t 74)),iI 76 (.len (.t 75)),iI 77 (.bin .leq (.t 76) (.c (.int .i64 40))),iI 78 (.mv (.t 77)),iG 79 78 true (.faddr 4 (.t 1)),iG 80 78 true (.load false 1 (.t 79)),iG 81 78 true (.len (.t 80)),iG 82 78 true (.bin .leq (.t 81) (.c (.int .i64 40))),iI 83 (.pick (.t 78) (.t 82) (.c (.bool false))),iI 2 (.mv (.t 83))] false)
 .ret))))
def r70 : List ERes := [.t 2]
theorem c70 : chkF Try.prog Try.f70 1 e70 r70 = true := by kernel_rfl
def e71 : EC :=
 (.seq
 (.region [iI 1 (.box 88 (.t 0)),iI 2 (.mv (.c (.bool false)))] false)
 (.seq
 (.seq
 (.region [iI 6 (.faddr 0 (.t 1)),iI 7 (.load false 1 (.t 6)),iI 8 (.bin .eql (.t 7) (.c (.int .i64 2)))] false)
 (.cond (.t 8)
 (.seq
 (.region [iI 9 (.faddr 1 (.t 1)),iI 10 (.load false 1 (.t 9)),iI 11 (.bin .eql (.t 10) (.c (.int .i64 0))),iI 12 (.mv (.t 11)),iG 13 12 true (.faddr 2 (.t 1)),iG 14 12 true (.load false 1 (.t 13)),iG 15 12 true (.build [.int .i64 0, .int .i64 0, .str []] [(0, 1, (.c (.int .i64 2))), (2, 1, (.t 14))]),iG 16 12 true (.call 55 [(.t 15)]),iI 17 (.pick (.t 12) (.t 16) (.c (.bool false))),iI 2 (.mv (.t 17))] false)
 .ret)
 .skip))
 (.seq
 (.seq
 (.region [iI 19 (.faddr 0 (.t 1)),iI 20 (.load false 1 (.t 19)),iI 21 (.call 113 [(.t 20)]),iI 18 (.mv (.t 21)),iI 22 (.extract 0 (.t 18)),iI 23 (.extract 1 (.t 18)),iI 24 (.extract 2 (.t 18)),iI 3 (.mv (.t 22)),iI 4 (.mv (.t 23)),iI 5 (.mv (.t 24))] false)
 (.seq
 (.region [iI 25 (.mv (.t 5))] false)
 (.cond (.t 25)
 (.seq
 (.region [iI 26 (.faddr 1 (.t 1)),iI 27 (.load false 1 (.t 26)),iI 28 (.mv (.t 3)),iI 29 (.mv (.t 4)),iI 30 (.call 68 [(.t 27), (.t 28), (.t 29)]),iI 31 (.mv (.t 30)),iG 32 31 true (.faddr 2 (.t 1)),iG 33 31 true (.load false 1 (.t 32)),iG 34 31 true (.bin .eql (.t 33) (.c (.str []))),iI 35 (.pick (.t 31) (.t 34) (.c (.bool false))),iI 2 (.mv (.t 35))] false)
 .ret)
 .skip)))
 (.seq
 (.region [iI 36 (.faddr 0 (.t 1)),iI 37 (.load false 1 (.t 36)),iI 38 (.call 68 [(.t 37), (.c (.int .i64 1)), (.c (.int .i64 24))]),iI 39 (.mv (.t 38)),iG 40 39 true (.faddr 1 (.t 1)),iG 41 39 true (.load false 1 (.t 40)),iG 42 39 true (.bin .eql (.t 41) (.c (.int .i64 0))),iI 43 (.pick (.t 39) (.t 42) (.c (.bool false))),iI 44 (.mv (.t 43)),iG 45 44 true (.faddr 2 (.t 1)),iG 46 44 true (.load false 1 (.t 45)),iG 47 44 true (.bin .eql (.t 46) (.c (.str []))),iI 48 (.pick (.t 44) (.t 47) (.c (.bool false))),iI 2 (.mv (.t 48))] false)
 .ret))))
def r71 : List ERes := [.t 2]
theorem c71 : chkF Try.prog Try.f71 1 e71 r71 = true := by kernel_rfl
def e72 : EC :=
 (.seq
 (.region [iI 2 (.box 41 (.t 0)),iI 4 (.mv (.c (.bool false)))] false)
 (.seq
 (.region [iI 5 (.mv (.t 1)),iI 6 (.faddr 5 (.t 2)),iI 7 (.load false 1 (.t 6)),iI 8 (.len (.t 7)),iI 9 (.bin .sub (.t 8) (.c (.int .i64 1))),iI 10 (.call 68 [(.t 5), (.c (.int .i64 0)), (.t 9)]),iI 4 (.mv (.t 10))] false)
 .ret))
def r72 : List ERes := [.t 4]
theorem c72 : chkF Try.prog Try.f72 2 e72 r72 = true := by kernel_rfl
def e85 : EC :=
 (.seq
 (.region [iI 2 (.mv (.c (.bool false)))] false)
 (.seq
 (.region [iI 3 (.mv (.t 0)),iI 4 (.call 121 [(.t 3), (.c (.fn 122 []))]),iI 5 (.not (.t 4)),iI 2 (.mv (.t 5))] false)
 .ret))
def r85 : List ERes := [.t 2]
theorem c85 : chkF Try.prog Try.f85 1 e85 r85 = true := by kernel_rfl
def e86 : EC :=
 (.seq
 (.region [iI 4 (.mv (.c (.int .i64 0)))] false)
 (.seq
 (.seq
 (.region [iI 6 (.mv (.t 0)),iI 7 (.len (.t 6)),iI 8 (.mv (.c (.int .i64 0)))] false)
 (.block 0
 (.loop
 (.seq
 (.region [iI 9 (.bin .lss (.t 8) (.t 7))] false)
 (.seq
 (.cond (.t 9)
 .skip
 (.exit 0))
 (.seq
 (.block 1
 (.seq
 (.region [iI 10 (.mv (.t 8)),iI 5 (.mv (.t 10))] false)
 (.seq
 (.region [iI 11 (.mv (.t 1)),iI 12 (.mv (.t 0)),iI 13 (.mv (.t 5)),iI 14 (.iaddr 3 (.t 12) (.t 13)),iI 15 (.load true 3 (.t 14)),iI 16 (.callv (.t 11) [(.t 15)])] false)
 (.cond (.t 16)
 (.seq
 (.region [iI 17 (.mv (.t 5)),iI 4 (.mv (.t 17))] false)
 .ret)
 .skip))))
 (.region [iI 18 (.bin .add (.t 8) (.c (.int .i64 1))),iI 8 (.mv (.t 18))] false)))))))
 (.seq
 (.region [iI 4 (.mv (.c (.int .i64 (-1))))] false)
 .ret)))
def r86 : List ERes := [.t 4]
theorem c86 : chkF Try.prog Try.f86 2 e86 r86 = true := by kernel_rfl
def e87 : EC :=
 (.seq
 (.region [iI 3 (.box 70 (.t 1))] false)
 (.seq
 (.seq
 (.region [iI 4 (.mv (.t 0)),iI 5 (.nilck (.t 4)),iI 6 (.faddr 8 (.t 5)),iI 7 (.load false 1 (.t 6)),iI 8 (.lenM (.t 7)),iI 9 (.bin .geq (.t 8) (.c (.int .i64 16)))] false)
 (.cond (.t 9)
 (.seq
 (.region [iI 10 (.mv (.t 0)),iI 11 (.nilck (.t 10)),iI 12 (.faddr 11 (.t 11)),iN (.store 1 (.t 12) (.c (.bool true)))] false)
 .ret)
 .skip))
 (.region [iI 13 (.mv (.t 0)),iI 14 (.mv (.t 0)),iI 15 (.nilck (.t 14)),iI 16 (.faddr 8 (.t 15)),iI 17 (.load false 1 (.t 16)),iI 18 (.load true 3 (.t 3)),iI 19 (.bslice 70 3 1 [.int .i64 0, .int .i64 0, .str []] [(0, (.t 18))]),iI 20 (.appendM 70 3 32 (.t 17) (.t 19)),iI 21 (.nilck (.t 13)),iI 22 (.faddr 8 (.t 21)),iN (.store 1 (.t 22) (.t 20))] true)))
def r87 : List ERes := []
theorem c87 : chkF Try.prog Try.f87 2 e87 r87 = true := by kernel_rfl
def e88 : EC :=
 (.seq
 (.region [iI 2 (.alloc 70 [.int .i64 0, .int .i64 0, .str []])] false)
 (.seq
 (.region [iI 3 (.mv (.t 0)),iI 4 (.minmax false [(.c (.int .i64 1000000)), (.t 3)]),iI 5 (.minmax true [(.c (.int .i64 (-1000000))), (.t 4)]),iI 6 (.build [.int .i64 0, .int .i64 0, .str []] [(0, 1, (.c (.int .i64 1))), (1, 1, (.t 5))]),iN (.store 3 (.t 2) (.t 6))] false)
 .ret))
def r88 : List ERes := [.cell true 3 2]
theorem c88 : chkF Try.prog Try.f88 1 e88 r88 = true := by kernel_rfl
def e89 : EC :=
 (.seq
 (.region [iI 7 (.mv (.t 0)),iI 8 (.nilck (.t 7)),iI 9 (.faddr 0 (.t 8)),iI 10 (.faddr 2 (.t 9)),iI 11 (.load false 1 (.t 10)),iI 12 (.mv (.t 1)),iI 13 (.iaddr 7 (.t 11) (.t 12)),iI 14 (.faddr 1 (.t 13)),iI 15 (.load true 3 (.t 14)),iI 4 (.alloc 85 [.int .i64 0, .int .i64 0, .int .i64 0]),iN (.store 3 (.t 4) (.t 15))] false)
 (.seq
 (.region [iI 16 (.mv (.t 0)),iI 17 (.faddr 0 (.t 4)),iI 18 (.load false 1 (.t 17)),iI 19 (.call 91 [(.t 16), (.t 18)]),iI 5 (.alloc 70 [.int .i64 0, .int .i64 0, .str []]),iN (.store 3 (.t 5) (.t 19))] false)
 (.seq
 (.seq
 (.region [iI 20 (.mv (.t 0)),iI 21 (.nilck (.t 20)),iI 22 (.faddr 11 (.t 21)),iI 23 (.load false 1 (.t 22))] false)
 (.cond (.t 23)
 .ret
 .skip))
 (.seq
 (.region [iI 24 (.faddr 1 (.t 5)),iI 25 (.load false 1 (.t 24)),iI 26 (.minmax false [(.c (.int .i64 1000)), (.t 25)]),iI 27 (.minmax true [(.c (.int .i64 (-1000))), (.t 26)]),iI 28 (.faddr 1 (.t 5)),iN (.store 1 (.t 28) (.t 27))] false)
 (.seq
 (.region [iI 30 (.load true 3 (.t 4)),iI 31 (.load true 3 (.t 5)),iI 32 (.call 123 [(.t 30), (.t 31)]),iI 29 (.mv (.t 32)),iI 33 (.extract 0 (.t 29)),iI 34 (.extract 1 (.t 29)),iN (.store 3 (.t 5) (.t 33)),iI 6 (.mv (.t 34))] false)
 (.seq
 (.seq
 (.region [iI 35 (.mv (.t 6)),iI 36 (.bin .neq (.t 35) (.c (.int .i64 0)))] false)
 (.cond (.t 36)
 (.seq
 (.region [iI 37 (.mv (.t 0)),iI 38 (.nilck (.t 37)),iI 39 (.faddr 11 (.t 38)),iN (.store 1 (.t 39) (.c (.bool true)))] false)
 .ret)
 .skip))
 (.region [iI 40 (.mv (.t 0)),iI 41 (.nilck (.t 40)),iI 42 (.faddr 6 (.t 41)),iI 43 (.load false 1 (.t 42)),iI 44 (.mv (.t 1)),iI 45 (.load true 3 (.t 5)),iI 46 (.iaddrM 3 (.t 43) (.t 44)),iN (.store 3 (.t 46) (.t 45))] true)))))))
def r89 : List ERes := []
theorem c89 : chkF Try.prog Try.f89 2 e89 r89 = true := by kernel_rfl
def e90 : EC :=
 (.seq
 (.region [iI 4 (.mv (.t 0)),iI 5 (.nilck (.t 4)),iI 6 (.faddr 11 (.t 5)),iI 7 (.load false 1 (.t 6)),iI 8 (.not (.t 7))] false)
 (.cond (.t 8)
 (.region [iI 9 (.mv (.t 0)),iI 10 (.mv (.t 1)),iI 11 (.call 88 [(.t 10)]),iI 12 (.call 87 [(.t 9), (.t 11)])] false)
 .skip))
def r90 : List ERes := []
theorem c90 : chkF Try.prog Try.f90 2 e90 r90 = true := by kernel_rfl
def e91 : EC :=
 (.seq
 (.region [iI 4 (.alloc 70 [.int .i64 0, .int .i64 0, .str []])] false)
 (.seq
 (.region [iI 7 (.mv (.t 0)),iI 8 (.nilck (.t 7)),iI 9 (.faddr 8 (.t 8)),iI 10 (.load false 1 (.t 9)),iI 11 (.lenM (.t 10)),iI 5 (.mv (.t 11))] false)
 (.seq
 (.seq
 (.region [iI 12 (.mv (.t 0)),iI 13 (.nilck (.t 12)),iI 14 (.faddr 11 (.t 13)),iI 15 (.load false 1 (.t 14)),iI 16 (.mv (.t 15)),iG 17 16 false (.mv (.t 5)),iG 18 16 false (.bin .eql (.t 17) (.c (.int .i64 0))),iI 19 (.pick (.t 16) (.c (.bool true)) (.t 18)),iI 20 (.mv (.t 19)),iG 21 20 false (.mv (.t 1)),iG 22 20 false (.bin .neq (.t 21) (.c (.int .i64 0))),iG 23 20 false (.mv (.t 22)),iG 24 23 true (.mv (.t 0)),iG 25 23 true (.nilck (.t 24)),iG 26 23 true (.faddr 8 (.t 25)),iG 27 23 true (.load false 1 (.t 26)),iG 28 23 true (.mv (.t 5)),iG 29 23 true (.bin .sub (.t 28) (.c (.int .i64 1))),iG 30 23 true (.iaddrM 3 (.t 27) (.t 29)),iG 31 23 true (.faddrM 0 (.t 30)),iG 32 23 true (.loadM false 1 (.t 31)),iG 33 23 true (.mv (.t 1)),iG 34 23 true (.bin .neq (.t 32) (.t 33)),iG 35 20 false (.pick (.t 23) (.t 34) (.c (.bool false))),iI 36 (.pick (.t 20) (.c (.bool true)) (.t 35))] false)
 (.cond (.t 36)
 (.seq
 (.region [iI 37 (.mv (.t 0)),iI 38 (.nilck (.t 37)),iI 39 (.faddr 11 (.t 38)),iN (.store 1 (.t 39) (.c (.bool true)))] false)
 (.seq
 (.region [iI 40 (.build [.int .i64 0, .int .i64 0, .str []] []),iN (.store 3 (.t 4) (.t 40))] false)
 .ret))
 .skip))
 (.seq
 (.region [iI 41 (.mv (.t 0)),iI 42 (.nilck (.t 41)),iI 43 (.faddr 8 (.t 42)),iI 44 (.load false 1 (.t 43)),iI 45 (.mv (.t 5)),iI 46 (.bin .sub (.t 45) (.c (.int .i64 1))),iI 47 (.iaddrM 3 (.t 44) (.t 46)),iI 48 (.loadM true 3 (.t 47)),iI 6 (.alloc 70 [.int .i64 0, .int .i64 0, .str []]),iN (.store 3 (.t 6) (.t 48))] false)
 (.seq
 (.region [iI 49 (.mv (.t 0)),iI 50 (.mv (.t 0)),iI 51 (.nilck (.t 50)),iI 52 (.faddr 8 (.t 51)),iI 53 (.load false 1 (.t 52)),iI 54 (.mv (.t 5)),iI 55 (.bin .sub (.t 54) (.c (.int .i64 1))),iI 56 (.slM 3 (.t 53) none (some (.t 55))),iI 57 (.nilck (.t 49)),iI 58 (.faddr 8 (.t 57)),iN (.store 1 (.t 58) (.t 56))] false)
 (.seq
 (.region [iI 59 (.load true 3 (.t 6)),iN (.store 3 (.t 4) (.t 59))] false)
 .ret))))))
def r91 : List ERes := [.cell true 3 4]
theorem c91 : chkF Try.prog Try.f91 2 e91 r91 = true := by kernel_rfl
def e92 : EC :=
 (.seq
 (.region [iI 2 (.mv (.c (.int .i64 0)))] false)
 (.seq
 (.seq
 (.region [iI 3 (.mv (.t 0))] false)
 (.cond (.t 3)
 (.seq
 (.region [iI 2 (.mv (.c (.int .i64 1)))] false)
 .ret)
 .skip))
 (.seq
 (.region [iI 2 (.mv (.c (.int .i64 0)))] false)
 .ret)))
def r92 : List ERes := [.t 2]
theorem c92 : chkF Try.prog Try.f92 1 e92 r92 = true := by kernel_rfl
def e93 : EC :=
 (.seq
 (.region [iI 9 (.mv (.t 1))] false)
 (.block 0
 (.seq
 (.region [iI 11 (.bin .eql (.t 9) (.c (.int .i64 12))),iI 10 (.mv (.t 11))] false)
 (.cond (.t 10)
 (.seq
 (.region [iI 12 (.mv (.t 0)),iI 13 (.call 91 [(.t 12), (.c (.int .i64 0))]),iI 4 (.alloc 70 [.int .i64 0, .int .i64 0, .str []]),iN (.store 3 (.t 4) (.t 13))] false)
 (.seq
 (.region [iI 14 (.mv (.t 0)),iI 15 (.faddr 0 (.t 4)),iI 16 (.load false 1 (.t 15)),iI 17 (.call 91 [(.t 14), (.t 16)]),iI 5 (.alloc 70 [.int .i64 0, .int .i64 0, .str []]),iN (.store 3 (.t 5) (.t 17))] false)
 (.region [iI 18 (.mv (.t 0)),iI 19 (.load true 3 (.t 5)),iI 20 (.load true 3 (.t 4)),iI 21 (.eqA false 70 [.i .i64, .i .i64, .s] (.t 19) (.t 20)),iI 22 (.call 92 [(.t 21)]),iI 23 (.call 90 [(.t 18), (.t 22)])] false)))
 (.seq
 (.region [iI 25 (.bin .eql (.t 9) (.c (.int .i64 17))),iI 24 (.mv (.t 25))] false)
 (.cond (.t 24)
 (.seq
 (.region [iI 26 (.mv (.t 0)),iI 27 (.call 91 [(.t 26), (.c (.int .i64 2))]),iI 6 (.alloc 70 [.int .i64 0, .int .i64 0, .str []]),iN (.store 3 (.t 6) (.t 27))] false)
 (.seq
 (.region [iI 28 (.mv (.t 0)),iI 29 (.call 91 [(.t 28), (.c (.int .i64 2))]),iI 7 (.alloc 70 [.int .i64 0, .int .i64 0, .str []]),iN (.store 3 (.t 7) (.t 29))] false)
 (.seq
 (.region [iI 30 (.mv (.t 0)),iI 31 (.nilck (.t 30)),iI 32 (.faddr 11 (.t 31)),iI 33 (.load false 1 (.t 32)),iI 34 (.not (.t 33))] false)
 (.cond (.t 34)
 (.seq
 (.region [iI 35 (.faddr 2 (.t 7)),iI 36 (.load false 1 (.t 35)),iI 37 (.faddr 2 (.t 6)),iI 38 (.load false 1 (.t 37)),iI 39 (.bin .add (.t 36) (.t 38)),iI 8 (.mv (.t 39))] false)
 (.region [iI 40 (.mv (.t 0)),iI 41 (.mv (.t 8)),iI 42 (.mv (.t 8)),iI 43 (.lenS (.t 42)),iI 44 (.minmax false [(.t 43), (.c (.int .i64 40))]),iI 45 (.slS (.t 41) none (some (.t 44))),iI 46 (.build [.int .i64 0, .int .i64 0, .str []] [(0, 1, (.c (.int .i64 2))), (2, 1, (.t 45))]),iI 47 (.call 87 [(.t 40), (.t 46)])] false))
 .skip))))
 (.seq
 (.region [iI 49 (.bin .eql (.t 9) (.c (.int .i64 18))),iI 48 (.mv (.t 49))] false)
 (.cond (.t 48)
 (.region [iI 50 (.mv (.t 0)),iI 51 (.mv (.t 0)),iI 52 (.call 91 [(.t 51), (.c (.int .i64 2))]),iI 53 (.field false 2 1 (.t 52)),iI 54 (.lenS (.t 53)),iI 55 (.call 90 [(.t 50), (.t 54)])] false)
 .skip))))))))
def r93 : List ERes := []
theorem c93 : chkF Try.prog Try.f93 2 e93 r93 = true := by kernel_rfl
def e94 : EC :=
 (.seq
 (.region [iI 8 (.mv (.t 0)),iI 9 (.call 124 [(.t 8)]),iI 7 (.mv (.t 9)),iI 10 (.extract 0 (.t 7)),iI 11 (.extract 1 (.t 7)),iI 4 (.mv (.t 10)),iI 5 (.mv (.t 11))] false)
 (.seq
 (.region [iI 6 (.mv (.c (.int .i64 0)))] false)
 (.seq
 (.seq
 (.region [iI 12 (.mv (.t 1))] false)
 (.block 0
 (.seq
 (.region [iI 14 (.bin .eql (.t 12) (.c (.int .i64 6))),iI 13 (.mv (.t 14))] false)
 (.cond (.t 13)
 (.region [iI 15 (.mv (.t 4)),iI 16 (.mv (.t 5)),iI 17 (.bin .add (.t 15) (.t 16)),iI 6 (.mv (.t 17))] false)
 (.seq
 (.region [iI 19 (.bin .eql (.t 12) (.c (.int .i64 7))),iI 18 (.mv (.t 19))] false)
 (.cond (.t 18)
 (.region [iI 20 (.mv (.t 4)),iI 21 (.mv (.t 5)),iI 22 (.bin .sub (.t 20) (.t 21)),iI 6 (.mv (.t 22))] false)
 (.seq
 (.region [iI 24 (.bin .eql (.t 12) (.c (.int .i64 8))),iI 23 (.mv (.t 24))] false)
 (.cond (.t 23)
 (.region [iI 25 (.mv (.t 4)),iI 26 (.mv (.t 5)),iI 27 (.bin .mul (.t 25) (.t 26)),iI 6 (.mv (.t 27))] false)
 (.seq
 (.region [iI 29 (.bin .eql (.t 12) (.c (.int .i64 9))),iI 28 (.mv (.t 29))] false)
 (.cond (.t 28)
 (.seq
 (.region [iI 30 (.mv (.t 5)),iI 31 (.bin .neq (.t 30) (.c (.int .i64 0)))] false)
 (.cond (.t 31)
 (.region [iI 32 (.mv (.t 4)),iI 33 (.mv (.t 5)),iI 34 (.bin .quo (.t 32) (.t 33)),iI 6 (.mv (.t 34))] false)
 .skip))
 (.seq
 (.region [iI 36 (.bin .eql (.t 12) (.c (.int .i64 10))),iI 35 (.mv (.t 36))] false)
 (.cond (.t 35)
 (.seq
 (.region [iI 37 (.mv (.t 5)),iI 38 (.bin .neq (.t 37) (.c (.int .i64 0)))] false)
 (.cond (.t 38)
 (.region [iI 39 (.mv (.t 4)),iI 40 (.mv (.t 5)),iI 41 (.bin .rem (.t 39) (.t 40)),iI 6 (.mv (.t 41))] false)
 .skip))
 (.seq
 (.region [iI 43 (.bin .eql (.t 12) (.c (.int .i64 13))),iI 42 (.mv (.t 43))] false)
 (.cond (.t 42)
 (.region [iI 44 (.mv (.t 4)),iI 45 (.mv (.t 5)),iI 46 (.bin .lss (.t 44) (.t 45)),iI 47 (.call 92 [(.t 46)]),iI 6 (.mv (.t 47))] false)
 (.seq
 (.region [iI 49 (.bin .eql (.t 12) (.c (.int .i64 15))),iI 48 (.mv (.t 49))] false)
 (.cond (.t 48)
 (.region [iI 50 (.mv (.t 4)),iI 51 (.bin .neq (.t 50) (.c (.int .i64 0))),iI 52 (.mv (.t 51)),iG 53 52 true (.mv (.t 5)),iG 54 52 true (.bin .neq (.t 53) (.c (.int .i64 0))),iI 55 (.pick (.t 52) (.t 54) (.c (.bool false))),iI 56 (.call 92 [(.t 55)]),iI 6 (.mv (.t 56))] false)
 (.seq
 (.region [iI 58 (.bin .eql (.t 12) (.c (.int .i64 16))),iI 57 (.mv (.t 58))] false)
 (.cond (.t 57)
 (.region [iI 59 (.mv (.t 4)),iI 60 (.bin .neq (.t 59) (.c (.int .i64 0))),iI 61 (.mv (.t 60)),iG 62 61 false (.mv (.t 5)),iG 63 61 false (.bin .neq (.t 62) (.c (.int .i64 0))),iI 64 (.pick (.t 61) (.c (.bool true)) (.t 63)),iI 65 (.call 92 [(.t 64)]),iI 6 (.mv (.t 65))] false)
 .skip))))))))))))))))))
 (.region [iI 66 (.mv (.t 0)),iI 67 (.mv (.t 6)),iI 68 (.call 90 [(.t 66), (.t 67)])] false))))
def r94 : List ERes := []
theorem c94 : chkF Try.prog Try.f94 2 e94 r94 = true := by kernel_rfl
def e95 : EC :=
 (.seq
 (.region [iI 3 (.box 88 (.t 1))] false)
 (.seq
 (.region [iI 6 (.mv (.t 0)),iI 7 (.nilck (.t 6)),iI 8 (.faddr 9 (.t 7)),iI 9 (.load false 1 (.t 8)),iI 10 (.lenM (.t 9)),iI 11 (.bin .sub (.t 10) (.c (.int .i64 1))),iI 4 (.mv (.t 11))] false)
 (.seq
 (.region [iI 12 (.faddr 0 (.t 3)),iI 13 (.load false 1 (.t 12))] false)
 (.block 0
 (.seq
 (.region [iI 15 (.bin .eql (.t 13) (.c (.int .i64 19))),iI 14 (.mv (.t 15))] false)
 (.cond (.t 14)
 (.region [iI 16 (.mv (.t 0)),iI 17 (.faddr 1 (.t 3)),iI 18 (.load false 1 (.t 17)),iI 19 (.nilck (.t 16)),iI 20 (.faddr 10 (.t 19)),iN (.store 1 (.t 20) (.t 18))] false)
 (.seq
 (.region [iI 22 (.bin .eql (.t 13) (.c (.int .i64 20))),iI 21 (.mv (.t 22))] false)
 (.cond (.t 21)
 (.seq
 (.region [iI 23 (.mv (.t 0)),iI 24 (.call 91 [(.t 23), (.c (.int .i64 1))]),iI 5 (.alloc 70 [.int .i64 0, .int .i64 0, .str []]),iN (.store 3 (.t 5) (.t 24))] false)
 (.seq
 (.region [iI 25 (.mv (.t 0)),iI 26 (.nilck (.t 25)),iI 27 (.faddr 11 (.t 26)),iI 28 (.load false 1 (.t 27)),iI 29 (.not (.t 28)),iI 30 (.mv (.t 29)),iG 31 30 true (.faddr 1 (.t 5)),iG 32 30 true (.load false 1 (.t 31)),iG 33 30 true (.bin .eql (.t 32) (.c (.int .i64 0))),iI 34 (.pick (.t 30) (.t 33) (.c (.bool false)))] false)
 (.cond (.t 34)
 (.region [iI 35 (.mv (.t 0)),iI 36 (.faddr 1 (.t 3)),iI 37 (.load false 1 (.t 36)),iI 38 (.nilck (.t 35)),iI 39 (.faddr 10 (.t 38)),iN (.store 1 (.t 39) (.t 37))] false)
 .skip)))
 (.seq
 (.region [iI 41 (.bin .eql (.t 13) (.c (.int .i64 21))),iI 40 (.mv (.t 41))] false)
 (.cond (.t 40)
 (.seq
 (.seq
 (.region [iI 42 (.mv (.t 0)),iI 43 (.nilck (.t 42)),iI 44 (.faddr 9 (.t 43)),iI 45 (.load false 1 (.t 44)),iI 46 (.lenM (.t 45)),iI 47 (.bin .geq (.t 46) (.c (.int .i64 4)))] false)
 (.cond (.t 47)
 (.seq
 (.region [iI 48 (.mv (.t 0)),iI 49 (.nilck (.t 48)),iI 50 (.faddr 11 (.t 49)),iN (.store 1 (.t 50) (.c (.bool true)))] false)
 .ret)
 .skip))
 (.region [iI 51 (.mv (.t 0)),iI 52 (.mv (.t 0)),iI 53 (.nilck (.t 52)),iI 54 (.faddr 9 (.t 53)),iI 55 (.load false 1 (.t 54)),iI 56 (.faddr 1 (.t 3)),iI 57 (.load false 1 (.t 56)),iI 58 (.bslice 3 1 1 [.int .i64 0] [(0, (.t 57))]),iI 59 (.appendM 3 1 8 (.t 55) (.t 58)),iI 60 (.nilck (.t 51)),iI 61 (.faddr 9 (.t 60)),iN (.store 1 (.t 61) (.t 59))] true))
 (.seq
 (.region [iI 63 (.bin .eql (.t 13) (.c (.int .i64 22))),iI 62 (.mv (.t 63))] false)
 (.cond (.t 62)
 (.seq
 (.seq
 (.region [iI 64 (.mv (.t 4)),iI 65 (.bin .lss (.t 64) (.c (.int .i64 0)))] false)
 (.cond (.t 65)
 (.seq
 (.region [iI 66 (.mv (.t 0)),iI 67 (.nilck (.t 66)),iI 68 (.faddr 11 (.t 67)),iN (.store 1 (.t 68) (.c (.bool true)))] false)
 .ret)
 .skip))
 (.seq
 (.region [iI 69 (.mv (.t 0)),iI 70 (.nilck (.t 69)),iI 71 (.faddr 9 (.t 70)),iI 72 (.load false 1 (.t 71)),iI 73 (.mv (.t 4)),iI 74 (.iaddrM 1 (.t 72) (.t 73)),iI 75 (.loadM false 1 (.t 74)),iI 76 (.bin .sub (.t 75) (.c (.int .i64 1))),iI 77 (.iaddrM 1 (.t 72) (.t 73)),iN (.store 1 (.t 77) (.t 76))] false)
 (.seq
 (.region [iI 78 (.mv (.t 0)),iI 79 (.nilck (.t 78)),iI 80 (.faddr 9 (.t 79)),iI 81 (.load false 1 (.t 80)),iI 82 (.mv (.t 4)),iI 83 (.iaddrM 1 (.t 81) (.t 82)),iI 84 (.loadM false 1 (.t 83)),iI 85 (.bin .gtr (.t 84) (.c (.int .i64 0)))] false)
 (.cond (.t 85)
 (.region [iI 86 (.mv (.t 0)),iI 87 (.faddr 1 (.t 3)),iI 88 (.load false 1 (.t 87)),iI 89 (.nilck (.t 86)),iI 90 (.faddr 10 (.t 89)),iN (.store 1 (.t 90) (.t 88))] false)
 .skip))))
 (.seq
 (.region [iI 92 (.bin .eql (.t 13) (.c (.int .i64 23))),iI 91 (.mv (.t 92))] false)
 (.cond (.t 91)
 (.seq
 (.seq
 (.region [iI 93 (.mv (.t 4)),iI 94 (.bin .lss (.t 93) (.c (.int .i64 0)))] false)
 (.cond (.t 94)
 (.seq
 (.region [iI 95 (.mv (.t 0)),iI 96 (.nilck (.t 95)),iI 97 (.faddr 11 (.t 96)),iN (.store 1 (.t 97) (.c (.bool true)))] false)
 .ret)
 .skip))
 (.region [iI 98 (.mv (.t 0)),iI 99 (.mv (.t 0)),iI 100 (.nilck (.t 99)),iI 101 (.faddr 9 (.t 100)),iI 102 (.load false 1 (.t 101)),iI 103 (.mv (.t 4)),iI 104 (.slM 1 (.t 102) none (some (.t 103))),iI 105 (.nilck (.t 98)),iI 106 (.faddr 9 (.t 105)),iN (.store 1 (.t 106) (.t 104))] false))
 (.seq
 (.region [iI 108 (.bin .eql (.t 13) (.c (.int .i64 24))),iI 107 (.mv (.t 108))] false)
 (.cond (.t 107)
 (.region [iI 109 (.mv (.t 0)),iI 110 (.nilck (.t 109)),iI 111 (.faddr 12 (.t 110)),iN (.store 1 (.t 111) (.c (.bool true)))] false)
 .skip))))))))))))))))
def r95 : List ERes := []
theorem c95 : chkF Try.prog Try.f95 2 e95 r95 = true := by kernel_rfl
def e96 : EC :=
 (.seq
 (.region [iI 1 (.box 70 (.t 0)),iI 2 (.mv (.c (.int .i64 0)))] false)
 (.seq
 (.seq
 (.region [iI 3 (.faddr 0 (.t 1)),iI 4 (.load false 1 (.t 3))] false)
 (.block 0
 (.seq
 (.region [iI 6 (.bin .eql (.t 4) (.c (.int .i64 1))),iI 5 (.mv (.t 6))] false)
 (.cond (.t 5)
 (.seq
 (.region [iI 7 (.faddr 1 (.t 1)),iI 8 (.load false 1 (.t 7)),iI 2 (.mv (.t 8))] false)
 .ret)
 (.seq
 (.region [iI 10 (.bin .eql (.t 4) (.c (.int .i64 2))),iI 9 (.mv (.t 10))] false)
 (.cond (.t 9)
 (.seq
 (.region [iI 11 (.faddr 2 (.t 1)),iI 12 (.load false 1 (.t 11)),iI 13 (.lenS (.t 12)),iI 2 (.mv (.t 13))] false)
 .ret)
 .skip))))))
 (.seq
 (.region [iI 2 (.mv (.c (.int .i64 0)))] false)
 .ret)))
def r96 : List ERes := [.t 2]
theorem c96 : chkF Try.prog Try.f96 1 e96 r96 = true := by kernel_rfl
def e97 : EC :=
 (.seq
 (.region [iI 1 (.box 85 (.t 0)),iI 2 (.mv (.c (.bool false)))] false)
 (.seq
 (.region [iI 3 (.mv (.c (.int .i64 0))),iI 4 (.mv (.c (.int .i64 0)))] false)
 (.seq
 (.seq
 (.region [iI 5 (.faddr 0 (.t 1)),iI 6 (.load false 1 (.t 5))] false)
 (.block 0
 (.seq
 (.region [iI 8 (.bin .eql (.t 6) (.c (.int .i64 1))),iI 7 (.mv (.t 8))] false)
 (.cond (.t 7)
 (.region [iI 3 (.mv (.c (.int .i64 (-1000)))),iI 4 (.mv (.c (.int .i64 1000)))] false)
 (.seq
 (.region [iI 10 (.bin .eql (.t 6) (.c (.int .i64 2))),iI 9 (.mv (.t 10))] false)
 (.cond (.t 9)
 (.region [iI 3 (.mv (.c (.int .i64 0))),iI 4 (.mv (.c (.int .i64 40)))] false)
 (.seq
 (.region [iI 2 (.mv (.c (.bool false)))] false)
 .ret)))))))
 (.seq
 (.region [iI 11 (.mv (.t 3)),iI 12 (.faddr 1 (.t 1)),iI 13 (.load false 1 (.t 12)),iI 14 (.bin .leq (.t 11) (.t 13)),iI 15 (.mv (.t 14)),iG 16 15 true (.faddr 1 (.t 1)),iG 17 15 true (.load false 1 (.t 16)),iG 18 15 true (.faddr 2 (.t 1)),iG 19 15 true (.load false 1 (.t 18)),iG 20 15 true (.bin .leq (.t 17) (.t 19)),iI 21 (.pick (.t 15) (.t 20) (.c (.bool false))),iI 22 (.mv (.t 21)),iG 23 22 true (.faddr 2 (.t 1)),iG 24 22 true (.load false 1 (.t 23)),iG 25 22 true (.mv (.t 4)),iG 26 22 true (.bin .leq (.t 24) (.t 25)),iI 27 (.pick (.t 22) (.t 26) (.c (.bool false))),iI 2 (.mv (.t 27))] false)
 .ret))))
def r97 : List ERes := [.t 2]
theorem c97 : chkF Try.prog Try.f97 1 e97 r97 = true := by kernel_rfl
def e106 : EC :=
 (.seq
 (.region [iI 2 (.mv (.c (.bool false)))] false)
 (.seq
 (.region [iI 3 (.mv (.t 0)),iI 4 (.bin .leq (.c (.int .u8 97)) (.t 3)),iI 5 (.mv (.t 4)),iG 6 5 true (.mv (.t 0)),iG 7 5 true (.bin .leq (.t 6) (.c (.int .u8 122))),iI 8 (.pick (.t 5) (.t 7) (.c (.bool false))),iI 9 (.mv (.t 8)),iG 10 9 false (.mv (.t 0)),iG 11 9 false (.bin .leq (.c (.int .u8 65)) (.t 10)),iG 12 9 false (.mv (.t 11)),iG 13 12 true (.mv (.t 0)),iG 14 12 true (.bin .leq (.t 13) (.c (.int .u8 90))),iG 15 9 false (.pick (.t 12) (.t 14) (.c (.bool false))),iI 16 (.pick (.t 9) (.c (.bool true)) (.t 15)),iI 2 (.mv (.t 16))] false)
 .ret))
def r106 : List ERes := [.t 2]
theorem c106 : chkF Try.prog Try.f106 1 e106 r106 = true := by kernel_rfl
def e107 : EC :=
 (.seq
 (.region [iI 2 (.mv (.c (.bool false)))] false)
 (.seq
 (.region [iI 3 (.mv (.t 0)),iI 4 (.call 106 [(.t 3)]),iI 5 (.mv (.t 4)),iG 6 5 false (.mv (.t 0)),iG 7 5 false (.call 125 [(.t 6)]),iI 8 (.pick (.t 5) (.c (.bool true)) (.t 7)),iI 9 (.mv (.t 8)),iG 10 9 false (.mv (.t 0)),iG 11 9 false (.bin .eql (.t 10) (.c (.int .u8 95))),iI 12 (.pick (.t 9) (.c (.bool true)) (.t 11)),iI 2 (.mv (.t 12))] false)
 .ret))
def r107 : List ERes := [.t 2]
theorem c107 : chkF Try.prog Try.f107 1 e107 r107 = true := by kernel_rfl
def e108 : EC :=
 (.seq
 (.region [iI 2 (.box 87 (.t 0)),iI 3 (.mv (.c (.bool false)))] false)
 (.seq
 (.region [iI 4 (.faddr 0 (.t 2)),iI 5 (.load false 1 (.t 4)),iI 6 (.faddr 0 (.t 1)),iI 7 (.load false 1 (.t 6)),iI 8 (.bin .eql (.t 5) (.t 7)),iI 3 (.mv (.t 8))] false)
 .ret))
def r108 : List ERes := [.t 3]
theorem c108 : chkF Try.prog Try.f108 1 e108 r108 = true := by kernel_rfl
def e109 : EC :=
 (.seq
 (.region [iI 4 (.mv (.c (.int .i64 0)))] false)
 (.seq
 (.seq
 (.region [iI 6 (.mv (.t 0)),iI 7 (.len (.t 6)),iI 8 (.mv (.c (.int .i64 0)))] false)
 (.block 0
 (.loop
 (.seq
 (.region [iI 9 (.bin .lss (.t 8) (.t 7))] false)
 (.seq
 (.cond (.t 9)
 .skip
 (.exit 0))
 (.seq
 (.block 1
 (.seq
 (.region [iI 10 (.mv (.t 8)),iI 5 (.mv (.t 10))] false)
 (.seq
 (.region [iI 11 (.mv (.t 1)),iI 12 (.mv (.t 0)),iI 13 (.mv (.t 5)),iI 14 (.iaddr 7 (.t 12) (.t 13)),iI 15 (.load true 7 (.t 14)),iI 16 (.callv (.t 11) [(.t 15)])] false)
 (.cond (.t 16)
 (.seq
 (.region [iI 17 (.mv (.t 5)),iI 4 (.mv (.t 17))] false)
 .ret)
 .skip))))
 (.region [iI 18 (.bin .add (.t 8) (.c (.int .i64 1))),iI 8 (.mv (.t 18))] false)))))))
 (.seq
 (.region [iI 4 (.mv (.c (.int .i64 (-1))))] false)
 .ret)))
def r109 : List ERes := [.t 4]
theorem c109 : chkF Try.prog Try.f109 2 e109 r109 = true := by kernel_rfl
def e110 : EC :=
 (.seq
 (.region [iI 2 (.box 128 (.t 0)),iI 3 (.mv (.c (.bool false)))] false)
 (.seq
 (.region [iI 4 (.faddr 0 (.t 2)),iI 5 (.load false 1 (.t 4)),iI 6 (.faddr 0 (.t 1)),iI 7 (.load false 1 (.t 6)),iI 8 (.bin .eql (.t 5) (.t 7)),iI 9 (.mv (.t 8)),iG 10 9 true (.faddr 1 (.t 2)),iG 11 9 true (.load false 1 (.t 10)),iG 12 9 true (.faddr 1 (.t 1)),iG 13 9 true (.load false 1 (.t 12)),iG 14 9 true (.bin .eql (.t 11) (.t 13)),iI 15 (.pick (.t 9) (.t 14) (.c (.bool false))),iI 3 (.mv (.t 15))] false)
 .ret))
def r110 : List ERes := [.t 3]
theorem c110 : chkF Try.prog Try.f110 1 e110 r110 = true := by kernel_rfl
def e111 : EC :=
 (.seq
 (.region [iI 3 (.box 41 (.t 0)),iI 6 (.mv (.c (.bool false)))] false)
 (.seq
 (.region [iI 7 (.mv (.t 1)),iI 8 (.call 68 [(.t 7), (.c (.int .i64 0)), (.c (.int .i64 5))]),iI 9 (.mv (.t 8)),iG 10 9 true (.mv (.t 1)),iG 11 9 true (.faddr 1 (.t 3)),iG 12 9 true (.load false 1 (.t 11)),iG 13 9 true (.bin .neq (.t 10) (.t 12)),iI 14 (.pick (.t 9) (.t 13) (.c (.bool false))),iI 15 (.mv (.t 14)),iG 16 15 true (.mv (.t 2)),iG 17 15 true (.call 68 [(.t 16), (.c (.int .i64 0)), (.c (.int .i64 39))]),iI 18 (.pick (.t 15) (.t 17) (.c (.bool false))),iI 6 (.mv (.t 18))] false)
 .ret))
def r111 : List ERes := [.t 6]
theorem c111 : chkF Try.prog Try.f111 3 e111 r111 = true := by kernel_rfl
def e112 : EC :=
 (.seq
 (.region [iI 4 (.mv (.c (.int .i64 0)))] false)
 (.seq
 (.seq
 (.region [iI 6 (.mv (.t 0)),iI 7 (.len (.t 6)),iI 8 (.mv (.c (.int .i64 0)))] false)
 (.block 0
 (.loop
 (.seq
 (.region [iI 9 (.bin .lss (.t 8) (.t 7))] false)
 (.seq
 (.cond (.t 9)
 .skip
 (.exit 0))
 (.seq
 (.block 1
 (.seq
 (.region [iI 10 (.mv (.t 8)),iI 5 (.mv (.t 10))] false)
 (.seq
 (.region [iI 11 (.mv (.t 1)),iI 12 (.mv (.t 0)),iI 13 (.mv (.t 5)),iI 14 (.iaddr 3 (.t 12) (.t 13)),iI 15 (.load true 3 (.t 14)),iI 16 (.callv (.t 11) [(.t 15)])] false)
 (.cond (.t 16)
 (.seq
 (.region [iI 17 (.mv (.t 5)),iI 4 (.mv (.t 17))] false)
 .ret)
 .skip))))
 (.region [iI 18 (.bin .add (.t 8) (.c (.int .i64 1))),iI 8 (.mv (.t 18))] false)))))))
 (.seq
 (.region [iI 4 (.mv (.c (.int .i64 (-1))))] false)
 .ret)))
def r112 : List ERes := [.t 4]
theorem c112 : chkF Try.prog Try.f112 2 e112 r112 = true := by kernel_rfl
def e113 : EC :=
 (.seq
 (.region [iI 2 (.mv (.c (.int .i64 0))),iI 3 (.mv (.c (.int .i64 0))),iI 4 (.mv (.c (.bool false)))] false)
 (.seq
 (.seq
 (.region [iI 5 (.mv (.t 0))] false)
 (.block 0
 (.seq
 (.region [iI 7 (.bin .eql (.t 5) (.c (.int .i64 1))),iI 6 (.mv (.t 7))] false)
 (.cond (.t 6)
 (.seq
 (.region [iI 2 (.mv (.c (.int .i64 (-1000)))),iI 3 (.mv (.c (.int .i64 1000))),iI 4 (.mv (.c (.bool true)))] false)
 .ret)
 (.seq
 (.seq
 (.region [iI 9 (.bin .eql (.t 5) (.c (.int .i64 3))),iI 8 (.mv (.t 9))] false)
 (.cond (.t 8)
 .skip
 (.region [iI 10 (.bin .eql (.t 5) (.c (.int .i64 5))),iI 8 (.mv (.t 10))] false)))
 (.cond (.t 8)
 (.seq
 (.region [iI 2 (.mv (.c (.int .i64 0))),iI 3 (.mv (.c (.int .i64 11))),iI 4 (.mv (.c (.bool true)))] false)
 .ret)
 (.seq
 (.region [iI 12 (.bin .eql (.t 5) (.c (.int .i64 4))),iI 11 (.mv (.t 12))] false)
 (.cond (.t 11)
 (.seq
 (.region [iI 2 (.mv (.c (.int .i64 0))),iI 3 (.mv (.c (.int .i64 3))),iI 4 (.mv (.c (.bool true)))] false)
 .ret)
 (.seq
 (.seq
 (.region [iI 14 (.bin .eql (.t 5) (.c (.int .i64 19))),iI 13 (.mv (.t 14))] false)
 (.cond (.t 13)
 .skip
 (.seq
 (.region [iI 15 (.bin .eql (.t 5) (.c (.int .i64 20))),iI 13 (.mv (.t 15))] false)
 (.cond (.t 13)
 .skip
 (.region [iI 16 (.bin .eql (.t 5) (.c (.int .i64 22))),iI 13 (.mv (.t 16))] false)))))
 (.cond (.t 13)
 (.seq
 (.region [iI 2 (.mv (.c (.int .i64 0))),iI 3 (.mv (.c (.int .i64 999))),iI 4 (.mv (.c (.bool true)))] false)
 .ret)
 (.seq
 (.region [iI 18 (.bin .eql (.t 5) (.c (.int .i64 21))),iI 17 (.mv (.t 18))] false)
 (.cond (.t 17)
 (.seq
 (.region [iI 2 (.mv (.c (.int .i64 1))),iI 3 (.mv (.c (.int .i64 50))),iI 4 (.mv (.c (.bool true)))] false)
 .ret)
 .skip))))))))))))
 (.seq
 (.region [iI 2 (.mv (.c (.int .i64 0))),iI 3 (.mv (.c (.int .i64 0))),iI 4 (.mv (.c (.bool false)))] false)
 .ret)))
def r113 : List ERes := [.t 2, .t 3, .t 4]
theorem c113 : chkF Try.prog Try.f113 1 e113 r113 = true := by kernel_rfl
def e121 : EC :=
 (.seq
 (.region [iI 4 (.mv (.c (.bool false)))] false)
 (.seq
 (.region [iI 5 (.mv (.t 0)),iI 6 (.mv (.t 1)),iI 7 (.call 126 [(.t 5), (.t 6)]),iI 8 (.bin .geq (.t 7) (.c (.int .i64 0))),iI 4 (.mv (.t 8))] false)
 .ret))
def r121 : List ERes := [.t 4]
theorem c121 : chkF Try.prog Try.f121 2 e121 r121 = true := by kernel_rfl
def e122 : EC :=
 (.seq
 (.region [iI 2 (.mv (.c (.bool false)))] false)
 (.seq
 (.region [iI 3 (.mv (.t 0)),iI 4 (.bin .lss (.t 3) (.c (.int .i32 32))),iI 5 (.mv (.t 4)),iG 6 5 false (.mv (.t 0)),iG 7 5 false (.bin .gtr (.t 6) (.c (.int .i32 126))),iI 8 (.pick (.t 5) (.c (.bool true)) (.t 7)),iI 2 (.mv (.t 8))] false)
 .ret))
def r122 : List ERes := [.t 2]
theorem c122 : chkF Try.prog Try.f122 1 e122 r122 = true := by kernel_rfl
def e123 : EC :=
 (.seq
 (.region [iI 2 (.box 85 (.t 0)),iI 3 (.box 70 (.t 1)),iI 4 (.alloc 70 [.int .i64 0, .int .i64 0, .str []]),iI 5 (.mv (.c (.int .i64 0)))] false)
 (.seq
 (.block 0
 (.seq
 (.region [iI 7 (.load true 3 (.t 2)),iI 8 (.call 97 [(.t 7)]),iI 9 (.not (.t 8)),iI 10 (.mv (.t 9)),iG 11 10 false (.load true 3 (.t 3)),iG 12 10 false (.call 55 [(.t 11)]),iG 13 10 false (.not (.t 12)),iI 14 (.pick (.t 10) (.c (.bool true)) (.t 13)),iI 6 (.mv (.t 14))] false)
 (.cond (.t 6)
 (.seq
 (.region [iI 15 (.build [.int .i64 0, .int .i64 0, .str []] []),iN (.store 3 (.t 4) (.t 15)),iI 5 (.mv (.c (.int .i64 1)))] false)
 .ret)
 (.seq
 (.region [iI 17 (.faddr 0 (.t 2)),iI 18 (.load false 1 (.t 17)),iI 19 (.faddr 0 (.t 3)),iI 20 (.load false 1 (.t 19)),iI 21 (.bin .neq (.t 18) (.t 20)),iI 16 (.mv (.t 21))] false)
 (.cond (.t 16)
 (.seq
 (.region [iI 22 (.build [.int .i64 0, .int .i64 0, .str []] []),iN (.store 3 (.t 4) (.t 22)),iI 5 (.mv (.c (.int .i64 11)))] false)
 .ret)
 (.seq
 (.region [iI 24 (.faddr 0 (.t 3)),iI 25 (.load false 1 (.t 24)),iI 26 (.bin .eql (.t 25) (.c (.int .i64 1))),iI 23 (.mv (.t 26))] false)
 (.cond (.t 23)
 (.seq
 (.region [iI 27 (.faddr 1 (.t 2)),iI 28 (.load false 1 (.t 27)),iI 29 (.faddr 2 (.t 2)),iI 30 (.load false 1 (.t 29)),iI 31 (.faddr 1 (.t 3)),iI 32 (.load false 1 (.t 31)),iI 33 (.minmax false [(.t 30), (.t 32)]),iI 34 (.minmax true [(.t 28), (.t 33)]),iI 35 (.faddr 1 (.t 3)),iN (.store 1 (.t 35) (.t 34))] false)
 (.seq
 (.region [iI 36 (.load true 3 (.t 3)),iN (.store 3 (.t 4) (.t 36)),iI 5 (.mv (.c (.int .i64 0)))] false)
 .ret))
 .skip)))))))
 (.seq
 (.region [iI 37 (.faddr 2 (.t 3)),iI 38 (.load false 1 (.t 37)),iI 39 (.faddr 2 (.t 3)),iI 40 (.load false 1 (.t 39)),iI 41 (.lenS (.t 40)),iI 42 (.faddr 2 (.t 2)),iI 43 (.load false 1 (.t 42)),iI 44 (.minmax false [(.t 41), (.t 43)]),iI 45 (.slS (.t 38) none (some (.t 44))),iI 46 (.faddr 2 (.t 3)),iN (.store 1 (.t 46) (.t 45))] false)
 (.seq
 (.region [iI 47 (.faddr 2 (.t 3)),iI 48 (.load false 1 (.t 47)),iI 49 (.faddr 1 (.t 2)),iI 50 (.load false 1 (.t 49)),iI 51 (.faddr 2 (.t 3)),iI 52 (.load false 1 (.t 51)),iI 53 (.lenS (.t 52)),iI 54 (.bin .sub (.t 50) (.t 53)),iI 55 (.minmax true [(.c (.int .i64 0)), (.t 54)]),iI 56 (.pcall 127 [(.c (.str [97])), (.t 55)]),iI 57 (.bin .add (.t 48) (.t 56)),iI 58 (.faddr 2 (.t 3)),iN (.store 1 (.t 58) (.t 57))] true)
 (.seq
 (.region [iI 59 (.load true 3 (.t 3)),iN (.store 3 (.t 4) (.t 59)),iI 5 (.mv (.c (.int .i64 0)))] false)
 .ret)))))
def r123 : List ERes := [.cell true 3 4, .t 5]
theorem c123 : chkF Try.prog Try.f123 2 e123 r123 = true := by kernel_rfl
def e124 : EC :=
 (.seq
 (.region [iI 2 (.mv (.c (.int .i64 0))),iI 3 (.mv (.c (.int .i64 0)))] false)
 (.seq
 (.region [iI 4 (.mv (.t 0)),iI 5 (.call 91 [(.t 4), (.c (.int .i64 1))]),iI 6 (.field false 1 1 (.t 5)),iI 3 (.mv (.t 6))] false)
 (.seq
 (.region [iI 7 (.mv (.t 0)),iI 8 (.call 91 [(.t 7), (.c (.int .i64 1))]),iI 9 (.field false 1 1 (.t 8)),iI 2 (.mv (.t 9))] false)
 (.seq
 (.region [iI 10 (.mv (.t 2)),iI 11 (.mv (.t 3)),iI 2 (.mv (.t 10)),iI 3 (.mv (.t 11))] false)
 .ret))))
def r124 : List ERes := [.t 2, .t 3]
theorem c124 : chkF Try.prog Try.f124 1 e124 r124 = true := by kernel_rfl
def e125 : EC :=
 (.seq
 (.region [iI 2 (.mv (.c (.bool false)))] false)
 (.seq
 (.region [iI 3 (.mv (.t 0)),iI 4 (.bin .leq (.c (.int .u8 48)) (.t 3)),iI 5 (.mv (.t 4)),iG 6 5 true (.mv (.t 0)),iG 7 5 true (.bin .leq (.t 6) (.c (.int .u8 57))),iI 8 (.pick (.t 5) (.t 7) (.c (.bool false))),iI 2 (.mv (.t 8))] false)
 .ret))
def r125 : List ERes := [.t 2]
theorem c125 : chkF Try.prog Try.f125 1 e125 r125 = true := by kernel_rfl
def e126 : EC :=
 (.seq
 (.region [iI 4 (.mv (.c (.int .i64 0)))] false)
 (.seq
 (.region [iI 5 (.mv (.t 0)),iI 6 (.mv (.t 1)),iI 7 (.call 128 [(.t 5), (.t 6), (.c (.bool true))]),iI 4 (.mv (.t 7))] false)
 .ret))
def r126 : List ERes := [.t 4]
theorem c126 : chkF Try.prog Try.f126 2 e126 r126 = true := by kernel_rfl
def e28 : EC :=
 (.seq
 (.region [iI 2 (.box 41 (.t 0)),iI 4 (.mv (.c (.bool false)))] false)
 (.seq
 (.region [iI 5 (.load true 6 (.t 2)),iI 6 (.call 43 [(.t 5)]),iI 7 (.mv (.t 6)),iG 8 7 true (.faddr 2 (.t 2)),iG 9 7 true (.load false 1 (.t 8)),iG 10 7 true (.mv (.t 1)),iG 11 7 true (.call 59 [(.t 9), (.t 10), (.c (.fn 60 []))]),iI 12 (.pick (.t 7) (.t 11) (.c (.bool false))),iI 4 (.mv (.t 12))] false)
 .ret))
def r28 : List ERes := [.t 4]
theorem c28 : chkF Try.prog Try.f28 2 e28 r28 = true := by kernel_rfl
def e16 : EC :=
 (.seq
 (.region [iI 1 (.box 27 (.t 0)),iI 2 (.mv (.c (.bool false)))] false)
 (.seq
 (.seq
 (.region [iI 3 (.mv (.c (.int .i64 0)))] false)
 (.block 0
 (.loop
 (.seq
 (.seq
 (.region [iI 5 (.mv (.t 3)),iI 6 (.faddr 5 (.t 1)),iI 7 (.load false 1 (.t 6)),iI 8 (.len (.t 7)),iI 9 (.bin .lss (.t 5) (.t 8))] false)
 (.cond (.t 9)
 .skip
 (.exit 0)))
 (.seq
 (.block 1
 (.seq
 (.region [iI 12 (.faddr 5 (.t 1)),iI 13 (.load false 1 (.t 12)),iI 14 (.mv (.t 3)),iI 15 (.iaddr 3 (.t 13) (.t 14)),iI 16 (.faddr 2 (.t 15)),iI 17 (.load false 1 (.t 16)),iI 18 (.lenS (.t 17)),iI 19 (.bin .gtr (.t 18) (.c (.int .i64 100)))] false)
 (.cond (.t 19)
 (.seq
 (.region [iI 2 (.mv (.c (.bool false)))] false)
 .ret)
 .skip)))
 (.region [iI 10 (.mv (.t 3)),iI 11 (.bin .add (.t 10) (.c (.int .i64 1))),iI 3 (.mv (.t 11))] false))))))
 (.seq
 (.seq
 (.region [iI 4 (.mv (.c (.int .i64 0)))] false)
 (.block 2
 (.loop
 (.seq
 (.seq
 (.region [iI 20 (.mv (.t 4)),iI 21 (.faddr 2 (.t 1)),iI 22 (.load false 1 (.t 21)),iI 23 (.len (.t 22)),iI 24 (.bin .lss (.t 20) (.t 23))] false)
 (.cond (.t 24)
 .skip
 (.exit 2)))
 (.seq
 (.block 3
 (.seq
 (.region [iI 27 (.faddr 2 (.t 1)),iI 28 (.load false 1 (.t 27)),iI 29 (.mv (.t 4)),iI 30 (.iaddr 7 (.t 28) (.t 29)),iI 31 (.faddr 0 (.t 30)),iI 32 (.load false 1 (.t 31)),iI 33 (.lenS (.t 32)),iI 34 (.bin .gtr (.t 33) (.c (.int .i64 100))),iI 35 (.mv (.t 34)),iG 36 35 false (.faddr 2 (.t 1)),iG 37 35 false (.load false 1 (.t 36)),iG 38 35 false (.mv (.t 4)),iG 39 35 false (.iaddr 7 (.t 37) (.t 38)),iG 40 35 false (.faddr 4 (.t 39)),iG 41 35 false (.faddr 2 (.t 40)),iG 42 35 false (.load false 1 (.t 41)),iG 43 35 false (.lenS (.t 42)),iG 44 35 false (.bin .gtr (.t 43) (.c (.int .i64 100))),iI 45 (.pick (.t 35) (.c (.bool true)) (.t 44))] false)
 (.cond (.t 45)
 (.seq
 (.region [iI 2 (.mv (.c (.bool false)))] false)
 .ret)
 .skip)))
 (.region [iI 25 (.mv (.t 4)),iI 26 (.bin .add (.t 25) (.c (.int .i64 1))),iI 4 (.mv (.t 26))] false))))))
 (.seq
 (.region [iI 46 (.faddr 0 (.t 1)),iI 47 (.load false 1 (.t 46)),iI 48 (.lenS (.t 47)),iI 49 (.bin .leq (.t 48) (.c (.int .i64 100))),iI 50 (.mv (.t 49)),iG 51 50 true (.faddr 2 (.t 1)),iG 52 50 true (.load false 1 (.t 51)),iG 53 50 true (.len (.t 52)),iG 54 50 true (.bin .leq (.t 53) (.c (.int .i64 20))),iI 55 (.pick (.t 50) (.t 54) (.c (.bool false))),iI 56 (.mv (.t 55)),iG 57 56 true (.faddr 3 (.t 1)),iG 58 56 true (.load false 1 (.t 57)),iG 59 56 true (.len (.t 58)),iG 60 56 true (.bin .leq (.t 59) (.c (.int .i64 60))),iI 61 (.pick (.t 56) (.t 60) (.c (.bool false))),iI 62 (.mv (.t 61)),iG 63 62 true (.faddr 4 (.t 1)),iG 64 62 true (.load false 1 (.t 63)),iG 65 62 true (.len (.t 64)),iG 66 62 true (.bin .leq (.t 65) (.c (.int .i64 60))),iI 67 (.pick (.t 62) (.t 66) (.c (.bool false))),iI 68 (.mv (.t 67)),iG 69 68 true (.faddr 5 (.t 1)),iG 70 68 true (.load false 1 (.t 69)),iG 71 68 true (.len (.t 70)),iG 72 68 true (.bin .leq (.t 71) (.c (.int .i64 300))),iI 73 (.pick (.t 68) (.t 72) (.c (.bool false))),iI 2 (.mv (.t 73))] false)
 .ret))))
def r16 : List ERes := [.t 2]
theorem c16 : chkF Try.prog Try.f16 1 e16 r16 = true := by kernel_rfl
def e18 : EC :=
 (.seq
 (.region [iI 1 (.box 27 (.t 0)),iI 2 (.alloc 41 [.str [], .int .i64 0, .nilS, .nilS, .nilS, .nilS])] false)
 (.seq
 (.region [iI 8 (.faddr 0 (.t 1)),iI 9 (.load false 1 (.t 8)),iI 10 (.faddr 1 (.t 1)),iI 11 (.load false 1 (.t 10)),iI 12 (.build [.str [], .int .i64 0, .nilS, .nilS, .nilS, .nilS] [(0, 1, (.t 9)), (1, 1, (.t 11))]),iI 3 (.alloc 41 [.str [], .int .i64 0, .nilS, .nilS, .nilS, .nilS]),iN (.store 6 (.t 3) (.t 12))] false)
 (.seq
 (.seq
 (.region [iI 4 (.mv (.c (.int .i64 0)))] false)
 (.block 0
 (.loop
 (.seq
 (.seq
 (.region [iI 13 (.mv (.t 4)),iI 14 (.faddr 2 (.t 1)),iI 15 (.load false 1 (.t 14)),iI 16 (.len (.t 15)),iI 17 (.bin .lss (.t 13) (.t 16))] false)
 (.cond (.t 17)
 .skip
 (.exit 0)))
 (.seq
 (.block 1
 (.region [iI 20 (.faddr 2 (.t 3)),iI 21 (.load false 1 (.t 20)),iI 22 (.faddr 2 (.t 1)),iI 23 (.load false 1 (.t 22)),iI 24 (.mv (.t 4)),iI 25 (.iaddr 7 (.t 23) (.t 24)),iI 26 (.load true 7 (.t 25)),iI 27 (.bslice 87 7 1 [.str [], .int .i64 0, .int .i64 0, .int .i64 0, .int .i64 0, .int .i64 0, .str []] [(0, (.t 26))]),iI 28 (.appendM 87 7 72 (.t 21) (.t 27)),iI 29 (.faddr 2 (.t 3)),iN (.store 1 (.t 29) (.t 28))] true))
 (.region [iI 18 (.mv (.t 4)),iI 19 (.bin .add (.t 18) (.c (.int .i64 1))),iI 4 (.mv (.t 19))] false))))))
 (.seq
 (.seq
 (.region [iI 5 (.mv (.c (.int .i64 0)))] false)
 (.block 2
 (.loop
 (.seq
 (.seq
 (.region [iI 30 (.mv (.t 5)),iI 31 (.faddr 3 (.t 1)),iI 32 (.load false 1 (.t 31)),iI 33 (.len (.t 32)),iI 34 (.bin .lss (.t 30) (.t 33))] false)
 (.cond (.t 34)
 .skip
 (.exit 2)))
 (.seq
 (.block 3
 (.region [iI 37 (.faddr 3 (.t 3)),iI 38 (.load false 1 (.t 37)),iI 39 (.faddr 3 (.t 1)),iI 40 (.load false 1 (.t 39)),iI 41 (.mv (.t 5)),iI 42 (.iaddr 3 (.t 40) (.t 41)),iI 43 (.load true 3 (.t 42)),iI 44 (.bslice 128 3 1 [.int .i64 0, .int .i64 0, .int .i64 0] [(0, (.t 43))]),iI 45 (.appendM 128 3 24 (.t 38) (.t 44)),iI 46 (.faddr 3 (.t 3)),iN (.store 1 (.t 46) (.t 45))] true))
 (.region [iI 35 (.mv (.t 5)),iI 36 (.bin .add (.t 35) (.c (.int .i64 1))),iI 5 (.mv (.t 36))] false))))))
 (.seq
 (.seq
 (.region [iI 6 (.mv (.c (.int .i64 0)))] false)
 (.block 4
 (.loop
 (.seq
 (.seq
 (.region [iI 47 (.mv (.t 6)),iI 48 (.faddr 4 (.t 1)),iI 49 (.load false 1 (.t 48)),iI 50 (.len (.t 49)),iI 51 (.bin .lss (.t 47) (.t 50))] false)
 (.cond (.t 51)
 .skip
 (.exit 4)))
 (.seq
 (.block 5
 (.region [iI 54 (.faddr 4 (.t 3)),iI 55 (.load false 1 (.t 54)),iI 56 (.faddr 4 (.t 1)),iI 57 (.load false 1 (.t 56)),iI 58 (.mv (.t 6)),iI 59 (.iaddr 4 (.t 57) (.t 58)),iI 60 (.load true 4 (.t 59)),iI 61 (.bslice 117 4 1 [.int .i64 0, .int .i64 0, .int .i64 0, .int .i64 0] [(0, (.t 60))]),iI 62 (.appendM 117 4 32 (.t 55) (.t 61)),iI 63 (.faddr 4 (.t 3)),iN (.store 1 (.t 63) (.t 62))] true))
 (.region [iI 52 (.mv (.t 6)),iI 53 (.bin .add (.t 52) (.c (.int .i64 1))),iI 6 (.mv (.t 53))] false))))))
 (.seq
 (.seq
 (.region [iI 7 (.mv (.c (.int .i64 0)))] false)
 (.block 6
 (.loop
 (.seq
 (.seq
 (.region [iI 64 (.mv (.t 7)),iI 65 (.faddr 5 (.t 1)),iI 66 (.load false 1 (.t 65)),iI 67 (.len (.t 66)),iI 68 (.bin .lss (.t 64) (.t 67))] false)
 (.cond (.t 68)
 .skip
 (.exit 6)))
 (.seq
 (.block 7
 (.region [iI 71 (.faddr 5 (.t 3)),iI 72 (.load false 1 (.t 71)),iI 73 (.faddr 5 (.t 1)),iI 74 (.load false 1 (.t 73)),iI 75 (.mv (.t 7)),iI 76 (.iaddr 3 (.t 74) (.t 75)),iI 77 (.load true 3 (.t 76)),iI 78 (.bslice 88 3 1 [.int .i64 0, .int .i64 0, .str []] [(0, (.t 77))]),iI 79 (.appendM 88 3 32 (.t 72) (.t 78)),iI 80 (.faddr 5 (.t 3)),iN (.store 1 (.t 80) (.t 79))] true))
 (.region [iI 69 (.mv (.t 7)),iI 70 (.bin .add (.t 69) (.c (.int .i64 1))),iI 7 (.mv (.t 70))] false))))))
 (.seq
 (.region [iI 81 (.load true 6 (.t 3)),iN (.store 6 (.t 2) (.t 81))] false)
 .ret)))))))
def r18 : List ERes := [.cell true 6 2]
theorem c18 : chkF Try.prog Try.f18 1 e18 r18 = true := by kernel_rfl
def e31 : EC :=
 (.seq
 (.region [iI 2 (.alloc 70 [.int .i64 0, .int .i64 0, .str []])] false)
 (.seq
 (.region [iI 3 (.mv (.t 0)),iI 4 (.build [.int .i64 0, .int .i64 0, .str []] [(0, 1, (.c (.int .i64 2))), (2, 1, (.t 3))]),iN (.store 3 (.t 2) (.t 4))] false)
 .ret))
def r31 : List ERes := [.cell true 3 2]
theorem c31 : chkF Try.prog Try.f31 1 e31 r31 = true := by kernel_rfl
def e35 : EC :=
 (.seq
 (.region [iI 1 (.box 27 (.t 0)),iI 2 (.mv (.c (.nilS))),iI 3 (.mv (.c (.int .i64 0)))] false)
 (.seq
 (.seq
 (.region [iI 6 (.load true 6 (.t 1)),iI 7 (.call 22 [(.t 6)]),iI 8 (.not (.t 7))] false)
 (.cond (.t 8)
 (.seq
 (.region [iI 2 (.mv (.c (.nilS))),iI 3 (.mv (.c (.int .i64 1)))] false)
 .ret)
 .skip))
 (.seq
 (.region [iI 4 (.mv (.c (.nilS)))] false)
 (.seq
 (.seq
 (.region [iI 5 (.mv (.c (.int .i64 0)))] false)
 (.block 0
 (.loop
 (.seq
 (.seq
 (.region [iI 9 (.mv (.t 5)),iI 10 (.faddr 2 (.t 1)),iI 11 (.load false 1 (.t 10)),iI 12 (.len (.t 11)),iI 13 (.bin .lss (.t 9) (.t 12))] false)
 (.cond (.t 13)
 .skip
 (.exit 0)))
 (.seq
 (.block 1
 (.region [iI 16 (.mv (.t 4)),iI 17 (.faddr 2 (.t 1)),iI 18 (.load false 1 (.t 17)),iI 19 (.mv (.t 5)),iI 20 (.iaddr 7 (.t 18) (.t 19)),iI 21 (.faddr 4 (.t 20)),iI 22 (.load true 3 (.t 21)),iI 23 (.bslice 70 3 1 [.int .i64 0, .int .i64 0, .str []] [(0, (.t 22))]),iI 24 (.append 70 3 32 (.t 16) (.t 23)),iI 4 (.mv (.t 24))] false))
 (.region [iI 14 (.mv (.t 5)),iI 15 (.bin .add (.t 14) (.c (.int .i64 1))),iI 5 (.mv (.t 15))] false))))))
 (.seq
 (.region [iI 25 (.mv (.t 4)),iI 2 (.mv (.t 25)),iI 3 (.mv (.c (.int .i64 0)))] false)
 .ret)))))
def r35 : List ERes := [.t 2, .t 3]
theorem c35 : chkF Try.prog Try.f35 1 e35 r35 = true := by kernel_rfl
def e22 : EC :=
 (.seq
 (.region [iI 1 (.box 27 (.t 0)),iI 2 (.mv (.c (.bool false)))] false)
 (.seq
 (.region [iI 11 (.faddr 5 (.t 1)),iI 12 (.load false 1 (.t 11)),iI 13 (.len (.t 12)),iI 3 (.mv (.t 13))] false)
 (.seq
 (.seq
 (.region [iI 14 (.faddr 0 (.t 1)),iI 15 (.load false 1 (.t 14)),iI 16 (.call 48 [(.t 15)]),iI 17 (.not (.t 16)),iI 18 (.mv (.t 17)),iG 19 18 false (.faddr 1 (.t 1)),iG 20 18 false (.load false 1 (.t 19)),iG 21 18 false (.bin .lss (.t 20) (.c (.int .i64 0))),iI 22 (.pick (.t 18) (.c (.bool true)) (.t 21)),iI 23 (.mv (.t 22)),iG 24 23 false (.faddr 1 (.t 1)),iG 25 23 false (.load false 1 (.t 24)),iG 26 23 false (.bin .geq (.t 25) (.c (.int .i64 6))),iI 27 (.pick (.t 23) (.c (.bool true)) (.t 26)),iI 28 (.mv (.t 27)),iG 29 28 false (.faddr 2 (.t 1)),iG 30 28 false (.load false 1 (.t 29)),iG 31 28 false (.call 49 [(.t 30)]),iG 32 28 false (.not (.t 31)),iI 33 (.pick (.t 28) (.c (.bool true)) (.t 32)),iI 34 (.mv (.t 33)),iG 35 34 false (.faddr 3 (.t 1)),iG 36 34 false (.load false 1 (.t 35)),iG 37 34 false (.len (.t 36)),iG 38 34 false (.bin .gtr (.t 37) (.c (.int .i64 40))),iI 39 (.pick (.t 34) (.c (.bool true)) (.t 38)),iI 40 (.mv (.t 39)),iG 41 40 false (.faddr 4 (.t 1)),iG 42 40 false (.load false 1 (.t 41)),iG 43 40 false (.len (.t 42)),iG 44 40 false (.bin .gtr (.t 43) (.c (.int .i64 40))),iI 45 (.pick (.t 40) (.c (.bool true)) (.t 44)),iI 46 (.mv (.t 45)),iG 47 46 false (.mv (.t 3)),iG 48 46 false (.bin .lss (.t 47) (.c (.int .i64 1))),iI 49 (.pick (.t 46) (.c (.bool true)) (.t 48)),iI 50 (.mv (.t 49)),iG 51 50 false (.mv (.t 3)),iG 52 50 false (.bin .gtr (.t 51) (.c (.int .i64 1000))),iI 53 (.pick (.t 50) (.c (.bool true)) (.t 52))] false)
 (.cond (.t 53)
 (.seq
 (.region [iI 2 (.mv (.c (.bool false)))] false)
 .ret)
 .skip))
 (.seq
 (.seq
 (.region [iI 4 (.mv (.c (.int .i64 0)))] false)
 (.block 0
 (.loop
 (.seq
 (.seq
 (.region [iI 54 (.mv (.t 4)),iI 55 (.faddr 3 (.t 1)),iI 56 (.load false 1 (.t 55)),iI 57 (.len (.t 56)),iI 58 (.bin .lss (.t 54) (.t 57))] false)
 (.cond (.t 58)
 .skip
 (.exit 0)))
 (.seq
 (.block 1
 (.seq
 (.region [iI 61 (.faddr 3 (.t 1)),iI 62 (.load false 1 (.t 61)),iI 63 (.mv (.t 4)),iI 64 (.iaddr 3 (.t 62) (.t 63)),iI 65 (.load true 3 (.t 64)),iI 5 (.alloc 129 [.int .i64 0, .int .i64 0, .int .i64 0]),iN (.store 3 (.t 5) (.t 65))] false)
 (.seq
 (.seq
 (.region [iI 66 (.faddr 0 (.t 5)),iI 67 (.load false 1 (.t 66)),iI 68 (.faddr 1 (.t 5)),iI 69 (.load false 1 (.t 68)),iI 70 (.faddr 1 (.t 1)),iI 71 (.load false 1 (.t 70)),iI 72 (.call 50 [(.t 67), (.t 69), (.t 71)]),iI 73 (.not (.t 72)),iI 74 (.mv (.t 73)),iG 75 74 false (.faddr 2 (.t 5)),iG 76 74 false (.load false 1 (.t 75)),iG 77 74 false (.bin .lss (.t 76) (.c (.int .i64 0))),iI 78 (.pick (.t 74) (.c (.bool true)) (.t 77)),iI 79 (.mv (.t 78)),iG 80 79 false (.faddr 2 (.t 5)),iG 81 79 false (.load false 1 (.t 80)),iG 82 79 false (.mv (.t 3)),iG 83 79 false (.bin .geq (.t 81) (.t 82)),iI 84 (.pick (.t 79) (.c (.bool true)) (.t 83))] false)
 (.cond (.t 84)
 (.seq
 (.region [iI 2 (.mv (.c (.bool false)))] false)
 .ret)
 .skip))
 (.seq
 (.region [iI 6 (.mv (.c (.int .i64 0)))] false)
 (.block 2
 (.loop
 (.seq
 (.seq
 (.region [iI 85 (.mv (.t 6)),iI 86 (.mv (.t 4)),iI 87 (.bin .lss (.t 85) (.t 86))] false)
 (.cond (.t 87)
 .skip
 (.exit 2)))
 (.seq
 (.block 3
 (.seq
 (.region [iI 90 (.faddr 3 (.t 1)),iI 91 (.load false 1 (.t 90)),iI 92 (.mv (.t 6)),iI 93 (.iaddr 3 (.t 91) (.t 92)),iI 94 (.faddr 0 (.t 93)),iI 95 (.load false 1 (.t 94)),iI 96 (.faddr 0 (.t 5)),iI 97 (.load false 1 (.t 96)),iI 98 (.bin .eql (.t 95) (.t 97)),iI 99 (.mv (.t 98)),iG 100 99 true (.faddr 3 (.t 1)),iG 101 99 true (.load false 1 (.t 100)),iG 102 99 true (.mv (.t 6)),iG 103 99 true (.iaddr 3 (.t 101) (.t 102)),iG 104 99 true (.faddr 1 (.t 103)),iG 105 99 true (.load false 1 (.t 104)),iG 106 99 true (.faddr 1 (.t 5)),iG 107 99 true (.load false 1 (.t 106)),iG 108 99 true (.bin .eql (.t 105) (.t 107)),iI 109 (.pick (.t 99) (.t 108) (.c (.bool false)))] true)
 (.cond (.t 109)
 (.seq
 (.region [iI 2 (.mv (.c (.bool false)))] false)
 .ret)
 .skip)))
 (.region [iI 88 (.mv (.t 6)),iI 89 (.bin .add (.t 88) (.c (.int .i64 1))),iI 6 (.mv (.t 89))] false)))))))))
 (.region [iI 59 (.mv (.t 4)),iI 60 (.bin .add (.t 59) (.c (.int .i64 1))),iI 4 (.mv (.t 60))] false))))))
 (.seq
 (.seq
 (.region [iI 7 (.mv (.c (.int .i64 0)))] false)
 (.block 4
 (.loop
 (.seq
 (.seq
 (.region [iI 110 (.mv (.t 7)),iI 111 (.faddr 4 (.t 1)),iI 112 (.load false 1 (.t 111)),iI 113 (.len (.t 112)),iI 114 (.bin .lss (.t 110) (.t 113))] false)
 (.cond (.t 114)
 .skip
 (.exit 4)))
 (.seq
 (.block 5
 (.seq
 (.region [iI 117 (.faddr 4 (.t 1)),iI 118 (.load false 1 (.t 117)),iI 119 (.mv (.t 7)),iI 120 (.iaddr 4 (.t 118) (.t 119)),iI 121 (.load true 4 (.t 120)),iI 8 (.alloc 130 [.int .i64 0, .int .i64 0, .int .i64 0, .int .i64 0]),iN (.store 4 (.t 8) (.t 121))] false)
 (.seq
 (.region [iI 122 (.faddr 0 (.t 8)),iI 123 (.load false 1 (.t 122)),iI 124 (.faddr 1 (.t 8)),iI 125 (.load false 1 (.t 124)),iI 126 (.faddr 1 (.t 1)),iI 127 (.load false 1 (.t 126)),iI 128 (.call 50 [(.t 123), (.t 125), (.t 127)]),iI 129 (.not (.t 128)),iI 130 (.mv (.t 129)),iG 131 130 false (.faddr 2 (.t 8)),iG 132 130 false (.load false 1 (.t 131)),iG 133 130 false (.bin .lss (.t 132) (.c (.int .i64 (-1)))),iI 134 (.pick (.t 130) (.c (.bool true)) (.t 133)),iI 135 (.mv (.t 134)),iG 136 135 false (.faddr 2 (.t 8)),iG 137 135 false (.load false 1 (.t 136)),iG 138 135 false (.mv (.t 3)),iG 139 135 false (.bin .geq (.t 137) (.t 138)),iI 140 (.pick (.t 135) (.c (.bool true)) (.t 139)),iI 141 (.mv (.t 140)),iG 142 141 false (.faddr 3 (.t 8)),iG 143 141 false (.load false 1 (.t 142)),iG 144 141 false (.bin .lss (.t 143) (.c (.int .i64 0))),iI 145 (.pick (.t 141) (.c (.bool true)) (.t 144)),iI 146 (.mv (.t 145)),iG 147 146 false (.faddr 3 (.t 8)),iG 148 146 false (.load false 1 (.t 147)),iG 149 146 false (.mv (.t 3)),iG 150 146 false (.bin .geq (.t 148) (.t 149)),iI 151 (.pick (.t 146) (.c (.bool true)) (.t 150))] false)
 (.cond (.t 151)
 (.seq
 (.region [iI 2 (.mv (.c (.bool false)))] false)
 .ret)
 .skip))))
 (.region [iI 115 (.mv (.t 7)),iI 116 (.bin .add (.t 115) (.c (.int .i64 1))),iI 7 (.mv (.t 116))] false))))))
 (.seq
 (.seq
 (.region [iI 9 (.mv (.c (.int .i64 0)))] false)
 (.block 6
 (.loop
 (.seq
 (.seq
 (.region [iI 152 (.mv (.t 9)),iI 153 (.mv (.t 3)),iI 154 (.bin .lss (.t 152) (.t 153))] false)
 (.cond (.t 154)
 .skip
 (.exit 6)))
 (.seq
 (.block 7
 (.seq
 (.region [iI 157 (.faddr 5 (.t 1)),iI 158 (.load false 1 (.t 157)),iI 159 (.mv (.t 9)),iI 160 (.iaddr 3 (.t 158) (.t 159)),iI 161 (.load true 3 (.t 160)),iI 10 (.alloc 68 [.int .i64 0, .int .i64 0, .str []]),iN (.store 3 (.t 10) (.t 161))] false)
 (.seq
 (.region [iI 162 (.load true 3 (.t 10)),iI 163 (.call 51 [(.t 162)]),iI 164 (.not (.t 163)),iI 165 (.mv (.t 164)),iG 166 165 false (.faddr 0 (.t 10)),iG 167 165 false (.load false 1 (.t 166)),iG 168 165 false (.call 42 [(.t 167)]),iG 169 165 false (.mv (.t 168)),iG 170 169 true (.faddr 1 (.t 10)),iG 171 169 true (.load false 1 (.t 170)),iG 172 169 true (.mv (.t 3)),iG 173 169 true (.bin .geq (.t 171) (.t 172)),iG 174 165 false (.pick (.t 169) (.t 173) (.c (.bool false))),iI 175 (.pick (.t 165) (.c (.bool true)) (.t 174)),iI 176 (.mv (.t 175)),iG 177 176 false (.faddr 0 (.t 10)),iG 178 176 false (.load false 1 (.t 177)),iG 179 176 false (.bin .eql (.t 178) (.c (.int .i64 3))),iG 180 176 false (.mv (.t 179)),iG 181 180 false (.faddr 0 (.t 10)),iG 182 180 false (.load false 1 (.t 181)),iG 183 180 false (.bin .eql (.t 182) (.c (.int .i64 5))),iG 184 176 false (.pick (.t 180) (.c (.bool true)) (.t 183)),iG 185 176 false (.mv (.t 184)),iG 186 185 true (.faddr 1 (.t 10)),iG 187 185 true (.load false 1 (.t 186)),iG 188 185 true (.faddr 2 (.t 1)),iG 189 185 true (.load false 1 (.t 188)),iG 190 185 true (.len (.t 189)),iG 191 185 true (.bin .geq (.t 187) (.t 190)),iG 192 176 false (.pick (.t 185) (.t 191) (.c (.bool false))),iI 193 (.pick (.t 176) (.c (.bool true)) (.t 192))] false)
 (.cond (.t 193)
 (.seq
 (.region [iI 2 (.mv (.c (.bool false)))] false)
 .ret)
 .skip))))
 (.region [iI 155 (.mv (.t 9)),iI 156 (.bin .add (.t 155) (.c (.int .i64 1))),iI 9 (.mv (.t 156))] false))))))
 (.seq
 (.region [iI 2 (.mv (.c (.bool true)))] false)
 .ret)))))))
def r22 : List ERes := [.t 2]
theorem c22 : chkF Try.prog Try.f22 1 e22 r22 = true := by kernel_rfl
def e42 : EC :=
 (.seq
 (.region [iI 2 (.mv (.c (.bool false)))] false)
 (.seq
 (.region [iI 3 (.mv (.t 0)),iI 4 (.bin .eql (.t 3) (.c (.int .i64 19))),iI 5 (.mv (.t 4)),iG 6 5 false (.mv (.t 0)),iG 7 5 false (.bin .eql (.t 6) (.c (.int .i64 20))),iI 8 (.pick (.t 5) (.c (.bool true)) (.t 7)),iI 9 (.mv (.t 8)),iG 10 9 false (.mv (.t 0)),iG 11 9 false (.bin .eql (.t 10) (.c (.int .i64 22))),iI 12 (.pick (.t 9) (.c (.bool true)) (.t 11)),iI 2 (.mv (.t 12))] false)
 .ret))
def r42 : List ERes := [.t 2]
theorem c42 : chkF Try.prog Try.f42 1 e42 r42 = true := by kernel_rfl
def e48 : EC :=
 (.seq
 (.region [iI 2 (.mv (.c (.bool false)))] false)
 (.seq
 (.seq
 (.region [iI 4 (.mv (.t 0)),iI 5 (.bin .eql (.t 4) (.c (.str []))),iI 6 (.mv (.t 5)),iG 7 6 false (.mv (.t 0)),iG 8 6 false (.idxS (.t 7) (.c (.int .i64 0))),iG 9 6 false (.call 82 [(.t 8)]),iG 10 6 false (.not (.t 9)),iI 11 (.pick (.t 6) (.c (.bool true)) (.t 10)),iI 12 (.mv (.t 11)),iG 13 12 false (.mv (.t 0)),iG 14 12 false (.lenS (.t 13)),iG 15 12 false (.bin .gtr (.t 14) (.c (.int .i64 16))),iI 16 (.pick (.t 12) (.c (.bool true)) (.t 15))] false)
 (.cond (.t 16)
 (.seq
 (.region [iI 2 (.mv (.c (.bool false)))] false)
 .ret)
 .skip))
 (.seq
 (.seq
 (.region [iI 3 (.mv (.c (.int .i64 0)))] false)
 (.block 0
 (.loop
 (.seq
 (.seq
 (.region [iI 17 (.mv (.t 3)),iI 18 (.mv (.t 0)),iI 19 (.lenS (.t 18)),iI 20 (.bin .lss (.t 17) (.t 19))] false)
 (.cond (.t 20)
 .skip
 (.exit 0)))
 (.seq
 (.block 1
 (.seq
 (.region [iI 23 (.mv (.t 0)),iI 24 (.mv (.t 3)),iI 25 (.idxS (.t 23) (.t 24)),iI 26 (.call 83 [(.t 25)]),iI 27 (.not (.t 26))] false)
 (.cond (.t 27)
 (.seq
 (.region [iI 2 (.mv (.c (.bool false)))] false)
 .ret)
 .skip)))
 (.region [iI 21 (.mv (.t 3)),iI 22 (.bin .add (.t 21) (.c (.int .i64 1))),iI 3 (.mv (.t 22))] false))))))
 (.seq
 (.region [iI 2 (.mv (.c (.bool true)))] false)
 .ret))))
def r48 : List ERes := [.t 2]
theorem c48 : chkF Try.prog Try.f48 1 e48 r48 = true := by kernel_rfl
def e49 : EC :=
 (.seq
 (.region [iI 2 (.mv (.c (.bool false)))] false)
 (.seq
 (.seq
 (.region [iI 3 (.mv (.c (.int .i64 0)))] false)
 (.block 0
 (.loop
 (.seq
 (.seq
 (.region [iI 5 (.mv (.t 3)),iI 6 (.mv (.t 0)),iI 7 (.len (.t 6)),iI 8 (.bin .lss (.t 5) (.t 7))] false)
 (.cond (.t 8)
 .skip
 (.exit 0)))
 (.seq
 (.block 1
 (.seq
 (.seq
 (.region [iI 11 (.mv (.t 0)),iI 12 (.mv (.t 3)),iI 13 (.iaddr 7 (.t 11) (.t 12)),iI 14 (.faddr 0 (.t 13)),iI 15 (.load false 1 (.t 14)),iI 16 (.pcall 48 [(.t 15)]),iI 17 (.not (.t 16)),iI 18 (.mv (.t 17)),iG 19 18 false (.mv (.t 0)),iG 20 18 false (.mv (.t 3)),iG 21 18 false (.iaddr 7 (.t 19) (.t 20)),iG 22 18 false (.faddr 1 (.t 21)),iG 23 18 false (.load true 3 (.t 22)),iG 24 18 false (.mv (.t 0)),iG 25 18 false (.mv (.t 3)),iG 26 18 false (.iaddr 7 (.t 24) (.t 25)),iG 27 18 false (.faddr 4 (.t 26)),iG 28 18 false (.load true 3 (.t 27)),iG 29 18 false (.pcall 64 [(.t 23), (.t 28)]),iG 30 18 false (.not (.t 29)),iI 31 (.pick (.t 18) (.c (.bool true)) (.t 30))] true)
 (.cond (.t 31)
 (.seq
 (.region [iI 2 (.mv (.c (.bool false)))] false)
 .ret)
 .skip))
 (.seq
 (.region [iI 4 (.mv (.c (.int .i64 0)))] false)
 (.block 2
 (.loop
 (.seq
 (.seq
 (.region [iI 32 (.mv (.t 4)),iI 33 (.mv (.t 3)),iI 34 (.bin .lss (.t 32) (.t 33))] false)
 (.cond (.t 34)
 .skip
 (.exit 2)))
 (.seq
 (.block 3
 (.seq
 (.region [iI 37 (.mv (.t 0)),iI 38 (.mv (.t 4)),iI 39 (.iaddr 7 (.t 37) (.t 38)),iI 40 (.faddr 0 (.t 39)),iI 41 (.load false 1 (.t 40)),iI 42 (.mv (.t 0)),iI 43 (.mv (.t 3)),iI 44 (.iaddr 7 (.t 42) (.t 43)),iI 45 (.faddr 0 (.t 44)),iI 46 (.load false 1 (.t 45)),iI 47 (.bin .eql (.t 41) (.t 46))] true)
 (.cond (.t 47)
 (.seq
 (.region [iI 2 (.mv (.c (.bool false)))] false)
 .ret)
 .skip)))
 (.region [iI 35 (.mv (.t 4)),iI 36 (.bin .add (.t 35) (.c (.int .i64 1))),iI 4 (.mv (.t 36))] false))))))))
 (.region [iI 9 (.mv (.t 3)),iI 10 (.bin .add (.t 9) (.c (.int .i64 1))),iI 3 (.mv (.t 10))] false))))))
 (.seq
 (.region [iI 48 (.mv (.t 0)),iI 49 (.len (.t 48)),iI 50 (.bin .leq (.t 49) (.c (.int .i64 12))),iI 2 (.mv (.t 50))] false)
 .ret)))
def r49 : List ERes := [.t 2]
theorem c49 : chkF Try.prog Try.f49 1 e49 r49 = true := by kernel_rfl
def e50 : EC :=
 (.seq
 (.region [iI 6 (.mv (.c (.bool false)))] false)
 (.seq
 (.region [iI 7 (.mv (.t 0)),iI 8 (.bin .geq (.t 7) (.c (.int .i64 0))),iI 9 (.mv (.t 8)),iG 10 9 true (.mv (.t 0)),iG 11 9 true (.bin .lss (.t 10) (.c (.int .i64 6))),iI 12 (.pick (.t 9) (.t 11) (.c (.bool false))),iI 13 (.mv (.t 12)),iG 14 13 true (.mv (.t 0)),iG 15 13 true (.mv (.t 2)),iG 16 13 true (.bin .neq (.t 14) (.t 15)),iI 17 (.pick (.t 13) (.t 16) (.c (.bool false))),iI 18 (.mv (.t 17)),iG 19 18 true (.mv (.t 1)),iG 20 18 true (.bin .geq (.t 19) (.c (.int .i64 0))),iI 21 (.pick (.t 18) (.t 20) (.c (.bool false))),iI 22 (.mv (.t 21)),iG 23 22 true (.mv (.t 1)),iG 24 22 true (.bin .lss (.t 23) (.c (.int .i64 40))),iI 25 (.pick (.t 22) (.t 24) (.c (.bool false))),iI 6 (.mv (.t 25))] false)
 .ret))
def r50 : List ERes := [.t 6]
theorem c50 : chkF Try.prog Try.f50 3 e50 r50 = true := by kernel_rfl
def e51 : EC :=
 (.seq
 (.region [iI 1 (.box 68 (.t 0)),iI 2 (.mv (.c (.bool false)))] false)
 (.seq
 (.seq
 (.region [iI 5 (.faddr 0 (.t 1)),iI 6 (.load false 1 (.t 5)),iI 7 (.bin .lss (.t 6) (.c (.int .i64 1))),iI 8 (.mv (.t 7)),iG 9 8 false (.faddr 0 (.t 1)),iG 10 8 false (.load false 1 (.t 9)),iG 11 8 false (.bin .gtr (.t 10) (.c (.int .i64 24))),iI 12 (.pick (.t 8) (.c (.bool true)) (.t 11))] false)
 (.cond (.t 12)
 (.seq
 (.region [iI 2 (.mv (.c (.bool false)))] false)
 .ret)
 .skip))
 (.seq
 (.region [iI 14 (.faddr 0 (.t 1)),iI 15 (.load false 1 (.t 14)),iI 16 (.call 84 [(.t 15)]),iI 13 (.mv (.t 16)),iI 17 (.extract 0 (.t 13)),iI 18 (.extract 1 (.t 13)),iI 3 (.mv (.t 17)),iI 4 (.mv (.t 18))] false)
 (.seq
 (.seq
 (.region [iI 19 (.faddr 1 (.t 1)),iI 20 (.load false 1 (.t 19)),iI 21 (.mv (.t 3)),iI 22 (.bin .lss (.t 20) (.t 21)),iI 23 (.mv (.t 22)),iG 24 23 false (.faddr 1 (.t 1)),iG 25 23 false (.load false 1 (.t 24)),iG 26 23 false (.mv (.t 4)),iG 27 23 false (.bin .gtr (.t 25) (.t 26)),iI 28 (.pick (.t 23) (.c (.bool true)) (.t 27))] false)
 (.cond (.t 28)
 (.seq
 (.region [iI 2 (.mv (.c (.bool false)))] false)
 .ret)
 .skip))
 (.seq
 (.seq
 (.region [iI 29 (.faddr 0 (.t 1)),iI 30 (.load false 1 (.t 29)),iI 31 (.bin .eql (.t 30) (.c (.int .i64 2)))] false)
 (.cond (.t 31)
 (.seq
 (.region [iI 32 (.faddr 2 (.t 1)),iI 33 (.load false 1 (.t 32)),iI 34 (.call 31 [(.t 33)]),iI 35 (.call 32 [(.t 34)]),iI 2 (.mv (.t 35))] false)
 .ret)
 .skip))
 (.seq
 (.region [iI 36 (.faddr 2 (.t 1)),iI 37 (.load false 1 (.t 36)),iI 38 (.bin .eql (.t 37) (.c (.str []))),iI 2 (.mv (.t 38))] false)
 .ret))))))
def r51 : List ERes := [.t 2]
theorem c51 : chkF Try.prog Try.f51 1 e51 r51 = true := by kernel_rfl
def e82 : EC :=
 (.seq
 (.region [iI 2 (.mv (.c (.bool false)))] false)
 (.seq
 (.region [iI 3 (.mv (.t 0)),iI 4 (.bin .geq (.t 3) (.c (.int .u8 97))),iI 5 (.mv (.t 4)),iG 6 5 true (.mv (.t 0)),iG 7 5 true (.bin .leq (.t 6) (.c (.int .u8 122))),iI 8 (.pick (.t 5) (.t 7) (.c (.bool false))),iI 9 (.mv (.t 8)),iG 10 9 false (.mv (.t 0)),iG 11 9 false (.bin .geq (.t 10) (.c (.int .u8 65))),iG 12 9 false (.mv (.t 11)),iG 13 12 true (.mv (.t 0)),iG 14 12 true (.bin .leq (.t 13) (.c (.int .u8 90))),iG 15 9 false (.pick (.t 12) (.t 14) (.c (.bool false))),iI 16 (.pick (.t 9) (.c (.bool true)) (.t 15)),iI 2 (.mv (.t 16))] false)
 .ret))
def r82 : List ERes := [.t 2]
theorem c82 : chkF Try.prog Try.f82 1 e82 r82 = true := by kernel_rfl
def e83 : EC :=
 (.seq
 (.region [iI 2 (.mv (.c (.bool false)))] false)
 (.seq
 (.region [iI 3 (.mv (.t 0)),iI 4 (.call 82 [(.t 3)]),iI 5 (.mv (.t 4)),iG 6 5 false (.mv (.t 0)),iG 7 5 false (.call 120 [(.t 6)]),iI 8 (.pick (.t 5) (.c (.bool true)) (.t 7)),iI 9 (.mv (.t 8)),iG 10 9 false (.mv (.t 0)),iG 11 9 false (.bin .eql (.t 10) (.c (.int .u8 95))),iI 12 (.pick (.t 9) (.c (.bool true)) (.t 11)),iI 2 (.mv (.t 12))] false)
 .ret))
def r83 : List ERes := [.t 2]
theorem c83 : chkF Try.prog Try.f83 1 e83 r83 = true := by kernel_rfl
def e84 : EC :=
 (.seq
 (.region [iI 2 (.mv (.c (.int .i64 0))),iI 3 (.mv (.c (.int .i64 0)))] false)
 (.seq
 (.seq
 (.region [iI 4 (.mv (.t 0))] false)
 (.block 0
 (.seq
 (.region [iI 6 (.bin .eql (.t 4) (.c (.int .i64 1))),iI 5 (.mv (.t 6))] false)
 (.cond (.t 5)
 (.seq
 (.region [iI 2 (.mv (.c (.int .i64 (-1000)))),iI 3 (.mv (.c (.int .i64 1000)))] false)
 .ret)
 (.seq
 (.seq
 (.region [iI 8 (.bin .eql (.t 4) (.c (.int .i64 3))),iI 7 (.mv (.t 8))] false)
 (.cond (.t 7)
 .skip
 (.region [iI 9 (.bin .eql (.t 4) (.c (.int .i64 5))),iI 7 (.mv (.t 9))] false)))
 (.cond (.t 7)
 (.seq
 (.region [iI 2 (.mv (.c (.int .i64 0))),iI 3 (.mv (.c (.int .i64 11)))] false)
 .ret)
 (.seq
 (.region [iI 11 (.bin .eql (.t 4) (.c (.int .i64 4))),iI 10 (.mv (.t 11))] false)
 (.cond (.t 10)
 (.seq
 (.region [iI 2 (.mv (.c (.int .i64 0))),iI 3 (.mv (.c (.int .i64 3)))] false)
 .ret)
 (.seq
 (.seq
 (.region [iI 13 (.bin .eql (.t 4) (.c (.int .i64 19))),iI 12 (.mv (.t 13))] false)
 (.cond (.t 12)
 .skip
 (.seq
 (.region [iI 14 (.bin .eql (.t 4) (.c (.int .i64 20))),iI 12 (.mv (.t 14))] false)
 (.cond (.t 12)
 .skip
 (.region [iI 15 (.bin .eql (.t 4) (.c (.int .i64 22))),iI 12 (.mv (.t 15))] false)))))
 (.cond (.t 12)
 (.seq
 (.region [iI 2 (.mv (.c (.int .i64 0))),iI 3 (.mv (.c (.int .i64 999)))] false)
 .ret)
 (.seq
 (.region [iI 17 (.bin .eql (.t 4) (.c (.int .i64 21))),iI 16 (.mv (.t 17))] false)
 (.cond (.t 16)
 (.seq
 (.region [iI 2 (.mv (.c (.int .i64 1))),iI 3 (.mv (.c (.int .i64 50)))] false)
 .ret)
 .skip))))))))))))
 (.seq
 (.region [iI 2 (.mv (.c (.int .i64 0))),iI 3 (.mv (.c (.int .i64 0)))] false)
 .ret)))
def r84 : List ERes := [.t 2, .t 3]
theorem c84 : chkF Try.prog Try.f84 1 e84 r84 = true := by kernel_rfl
def e120 : EC :=
 (.seq
 (.region [iI 2 (.mv (.c (.bool false)))] false)
 (.seq
 (.region [iI 3 (.mv (.t 0)),iI 4 (.bin .geq (.t 3) (.c (.int .u8 48))),iI 5 (.mv (.t 4)),iG 6 5 true (.mv (.t 0)),iG 7 5 true (.bin .leq (.t 6) (.c (.int .u8 57))),iI 8 (.pick (.t 5) (.t 7) (.c (.bool false))),iI 2 (.mv (.t 8))] false)
 .ret))
def r120 : List ERes := [.t 2]
theorem c120 : chkF Try.prog Try.f120 1 e120 r120 = true := by kernel_rfl
def e32 : EC :=
 (.seq
 (.region [iI 1 (.box 70 (.t 0)),iI 2 (.mv (.c (.bool false)))] false)
 (.seq
 (.seq
 (.region [iI 3 (.faddr 0 (.t 1)),iI 4 (.load false 1 (.t 3))] false)
 (.block 0
 (.seq
 (.region [iI 6 (.bin .eql (.t 4) (.c (.int .i64 1))),iI 5 (.mv (.t 6))] false)
 (.cond (.t 5)
 (.seq
 (.region [iI 7 (.faddr 1 (.t 1)),iI 8 (.load false 1 (.t 7)),iI 9 (.bin .geq (.t 8) (.c (.int .i64 (-1000)))),iI 10 (.mv (.t 9)),iG 11 10 true (.faddr 1 (.t 1)),iG 12 10 true (.load false 1 (.t 11)),iG 13 10 true (.bin .leq (.t 12) (.c (.int .i64 1000))),iI 14 (.pick (.t 10) (.t 13) (.c (.bool false))),iI 15 (.mv (.t 14)),iG 16 15 true (.faddr 2 (.t 1)),iG 17 15 true (.load false 1 (.t 16)),iG 18 15 true (.bin .eql (.t 17) (.c (.str []))),iI 19 (.pick (.t 15) (.t 18) (.c (.bool false))),iI 2 (.mv (.t 19))] false)
 .ret)
 (.seq
 (.region [iI 21 (.bin .eql (.t 4) (.c (.int .i64 2))),iI 20 (.mv (.t 21))] false)
 (.cond (.t 20)
 (.seq
 (.region [iI 22 (.faddr 1 (.t 1)),iI 23 (.load false 1 (.t 22)),iI 24 (.bin .eql (.t 23) (.c (.int .i64 0))),iI 25 (.mv (.t 24)),iG 26 25 true (.faddr 2 (.t 1)),iG 27 25 true (.load false 1 (.t 26)),iG 28 25 true (.lenS (.t 27)),iG 29 25 true (.bin .leq (.t 28) (.c (.int .i64 40))),iI 30 (.pick (.t 25) (.t 29) (.c (.bool false))),iI 31 (.mv (.t 30)),iG 32 31 true (.faddr 2 (.t 1)),iG 33 31 true (.load false 1 (.t 32)),iG 34 31 true (.call 62 [(.t 33)]),iI 35 (.pick (.t 31) (.t 34) (.c (.bool false))),iI 2 (.mv (.t 35))] false)
 .ret)
 .skip))))))
 (.seq
 (.region [iI 2 (.mv (.c (.bool false)))] false)
 .ret)))
def r32 : List ERes := [.t 2]
theorem c32 : chkF Try.prog Try.f32 1 e32 r32 = true := by kernel_rfl
def e38 : EC :=
 (.seq
 (.region [iI 1 (.box 85 (.t 0)),iI 2 (.mv (.c (.bool false)))] false)
 (.seq
 (.seq
 (.region [iI 3 (.faddr 0 (.t 1)),iI 4 (.load false 1 (.t 3))] false)
 (.block 0
 (.seq
 (.region [iI 6 (.bin .eql (.t 4) (.c (.int .i64 1))),iI 5 (.mv (.t 6))] false)
 (.cond (.t 5)
 (.seq
 (.region [iI 7 (.faddr 1 (.t 1)),iI 8 (.load false 1 (.t 7)),iI 9 (.bin .leq (.c (.int .i64 (-1000))) (.t 8)),iI 10 (.mv (.t 9)),iG 11 10 true (.faddr 1 (.t 1)),iG 12 10 true (.load false 1 (.t 11)),iG 13 10 true (.faddr 2 (.t 1)),iG 14 10 true (.load false 1 (.t 13)),iG 15 10 true (.bin .leq (.t 12) (.t 14)),iI 16 (.pick (.t 10) (.t 15) (.c (.bool false))),iI 17 (.mv (.t 16)),iG 18 17 true (.faddr 2 (.t 1)),iG 19 17 true (.load false 1 (.t 18)),iG 20 17 true (.bin .leq (.t 19) (.c (.int .i64 1000))),iI 21 (.pick (.t 17) (.t 20) (.c (.bool false))),iI 2 (.mv (.t 21))] false)
 .ret)
 (.seq
 (.region [iI 23 (.bin .eql (.t 4) (.c (.int .i64 2))),iI 22 (.mv (.t 23))] false)
 (.cond (.t 22)
 (.seq
 (.region [iI 24 (.faddr 1 (.t 1)),iI 25 (.load false 1 (.t 24)),iI 26 (.bin .leq (.c (.int .i64 0)) (.t 25)),iI 27 (.mv (.t 26)),iG 28 27 true (.faddr 1 (.t 1)),iG 29 27 true (.load false 1 (.t 28)),iG 30 27 true (.faddr 2 (.t 1)),iG 31 27 true (.load false 1 (.t 30)),iG 32 27 true (.bin .leq (.t 29) (.t 31)),iI 33 (.pick (.t 27) (.t 32) (.c (.bool false))),iI 34 (.mv (.t 33)),iG 35 34 true (.faddr 2 (.t 1)),iG 36 34 true (.load false 1 (.t 35)),iG 37 34 true (.bin .leq (.t 36) (.c (.int .i64 40))),iI 38 (.pick (.t 34) (.t 37) (.c (.bool false))),iI 2 (.mv (.t 38))] false)
 .ret)
 .skip))))))
 (.seq
 (.region [iI 2 (.mv (.c (.bool false)))] false)
 .ret)))
def r38 : List ERes := [.t 2]
theorem c38 : chkF Try.prog Try.f38 1 e38 r38 = true := by kernel_rfl
def e62 : EC :=
 (.seq
 (.region [iI 2 (.mv (.c (.bool false)))] false)
 (.seq
 (.seq
 (.region [iI 3 (.mv (.c (.int .i64 0)))] false)
 (.block 0
 (.loop
 (.seq
 (.seq
 (.region [iI 4 (.mv (.t 3)),iI 5 (.mv (.t 0)),iI 6 (.lenS (.t 5)),iI 7 (.bin .lss (.t 4) (.t 6))] false)
 (.cond (.t 7)
 .skip
 (.exit 0)))
 (.seq
 (.block 1
 (.seq
 (.region [iI 10 (.mv (.t 0)),iI 11 (.mv (.t 3)),iI 12 (.idxS (.t 10) (.t 11)),iI 13 (.bin .lss (.t 12) (.c (.int .u8 32))),iI 14 (.mv (.t 13)),iG 15 14 false (.mv (.t 0)),iG 16 14 false (.mv (.t 3)),iG 17 14 false (.idxS (.t 15) (.t 16)),iG 18 14 false (.bin .gtr (.t 17) (.c (.int .u8 126))),iI 19 (.pick (.t 14) (.c (.bool true)) (.t 18))] false)
 (.cond (.t 19)
 (.seq
 (.region [iI 2 (.mv (.c (.bool false)))] false)
 .ret)
 .skip)))
 (.region [iI 8 (.mv (.t 3)),iI 9 (.bin .add (.t 8) (.c (.int .i64 1))),iI 3 (.mv (.t 9))] false))))))
 (.seq
 (.region [iI 2 (.mv (.c (.bool true)))] false)
 .ret)))
def r62 : List ERes := [.t 2]
theorem c62 : chkF Try.prog Try.f62 1 e62 r62 = true := by kernel_rfl
def e64 : EC :=
 (.seq
 (.region [iI 2 (.box 85 (.t 0)),iI 3 (.box 70 (.t 1)),iI 4 (.mv (.c (.bool false)))] false)
 (.seq
 (.region [iI 5 (.load true 3 (.t 2)),iI 6 (.pcall 38 [(.t 5)]),iI 7 (.mv (.t 6)),iG 8 7 true (.load true 3 (.t 3)),iG 9 7 true (.pcall 32 [(.t 8)]),iI 10 (.pick (.t 7) (.t 9) (.c (.bool false))),iI 11 (.mv (.t 10)),iG 12 11 true (.faddr 0 (.t 2)),iG 13 11 true (.load false 1 (.t 12)),iG 14 11 true (.faddr 0 (.t 3)),iG 15 11 true (.load false 1 (.t 14)),iG 16 11 true (.bin .eql (.t 13) (.t 15)),iI 17 (.pick (.t 11) (.t 16) (.c (.bool false))),iI 18 (.mv (.t 17)),iG 19 18 true (.load true 3 (.t 3)),iG 20 18 true (.pcall 104 [(.t 19)]),iG 21 18 true (.faddr 1 (.t 2)),iG 22 18 true (.load false 1 (.t 21)),iG 23 18 true (.bin .geq (.t 20) (.t 22)),iI 24 (.pick (.t 18) (.t 23) (.c (.bool false))),iI 25 (.mv (.t 24)),iG 26 25 true (.load true 3 (.t 3)),iG 27 25 true (.pcall 104 [(.t 26)]),iG 28 25 true (.faddr 2 (.t 2)),iG 29 25 true (.load false 1 (.t 28)),iG 30 25 true (.bin .leq (.t 27) (.t 29)),iI 31 (.pick (.t 25) (.t 30) (.c (.bool false))),iI 4 (.mv (.t 31))] true)
 .ret))
def r64 : List ERes := [.t 4]
theorem c64 : chkF Try.prog Try.f64 2 e64 r64 = true := by kernel_rfl
def e104 : EC :=
 (.seq
 (.region [iI 1 (.box 70 (.t 0)),iI 2 (.mv (.c (.int .i64 0)))] false)
 (.seq
 (.seq
 (.region [iI 3 (.faddr 0 (.t 1)),iI 4 (.load false 1 (.t 3))] false)
 (.block 0
 (.seq
 (.region [iI 6 (.bin .eql (.t 4) (.c (.int .i64 1))),iI 5 (.mv (.t 6))] false)
 (.cond (.t 5)
 (.seq
 (.region [iI 7 (.faddr 1 (.t 1)),iI 8 (.load false 1 (.t 7)),iI 2 (.mv (.t 8))] false)
 .ret)
 (.seq
 (.region [iI 10 (.bin .eql (.t 4) (.c (.int .i64 2))),iI 9 (.mv (.t 10))] false)
 (.cond (.t 9)
 (.seq
 (.region [iI 11 (.faddr 2 (.t 1)),iI 12 (.load false 1 (.t 11)),iI 13 (.lenS (.t 12)),iI 2 (.mv (.t 13))] false)
 .ret)
 .skip))))))
 (.seq
 (.region [iI 2 (.mv (.c (.int .i64 0)))] false)
 .ret)))
def r104 : List ERes := [.t 2]
theorem c104 : chkF Try.prog Try.f104 1 e104 r104 = true := by kernel_rfl
def e15 : EC :=
 (.seq
 (.region [iI 0 (.mv (.c (.bool false)))] false)
 (.seq
 (.region [iI 12 (.build [.int .i64 0, .int .i64 0, .int .i64 0] [(0, 1, (.c (.int .i64 1))), (2, 1, (.c (.int .i64 9)))]),iI 1 (.alloc 85 [.int .i64 0, .int .i64 0, .int .i64 0]),iN (.store 3 (.t 1) (.t 12))] false)
 (.seq
 (.region [iI 13 (.load true 3 (.t 1)),iI 14 (.pcall 29 [(.c (.int .i64 0))]),iI 15 (.build [.str [], .int .i64 0, .int .i64 0, .int .i64 0, .int .i64 0, .int .i64 0, .str []] [(0, 1, (.c (.str [110]))), (1, 3, (.t 13)), (4, 3, (.t 14))]),iI 16 (.bslice 87 7 1 [.str [], .int .i64 0, .int .i64 0, .int .i64 0, .int .i64 0, .int .i64 0, .str []] [(0, (.t 15))]),iI 17 (.build [.int .i64 0, .int .i64 0, .int .i64 0, .int .i64 0] [(0, 1, (.c (.int .i64 1))), (2, 1, (.c (.int .i64 (-1))))]),iI 18 (.bslice 117 4 1 [.int .i64 0, .int .i64 0, .int .i64 0, .int .i64 0] [(0, (.t 17))]),iI 19 (.build [.int .i64 0, .int .i64 0, .str []] [(0, 1, (.c (.int .i64 3)))]),iI 20 (.build [.int .i64 0, .int .i64 0, .str []] [(0, 1, (.c (.int .i64 24)))]),iI 21 (.bslice 88 3 2 [.int .i64 0, .int .i64 0, .str []] [(0, (.t 19)), (1, (.t 20))]),iI 22 (.build [.str [], .int .i64 0, .nilS, .nilS, .nilS, .nilS] [(0, 1, (.c (.str [115]))), (2, 1, (.t 16)), (4, 1, (.t 18)), (5, 1, (.t 21))]),iI 2 (.alloc 41 [.str [], .int .i64 0, .nilS, .nilS, .nilS, .nilS]),iN (.store 6 (.t 2) (.t 22))] true)
 (.seq
 (.region [iI 23 (.load true 6 (.t 2)),iI 3 (.alloc 41 [.str [], .int .i64 0, .nilS, .nilS, .nilS, .nilS]),iN (.store 6 (.t 3) (.t 23))] false)
 (.seq
 (.region [iI 24 (.build [.int .i64 0, .int .i64 0, .str []] [(0, 1, (.c (.int .i64 2))), (2, 1, (.c (.str [97])))]),iI 25 (.build [.int .i64 0, .int .i64 0, .str []] [(0, 1, (.c (.int .i64 11)))]),iI 26 (.build [.int .i64 0, .int .i64 0, .str []] [(0, 1, (.c (.int .i64 24)))]),iI 27 (.bslice 88 3 3 [.int .i64 0, .int .i64 0, .str []] [(0, (.t 24)), (1, (.t 25)), (2, (.t 26))]),iI 28 (.faddr 5 (.t 3)),iN (.store 1 (.t 28) (.t 27))] false)
 (.seq
 (.region [iI 29 (.load true 3 (.t 1)),iI 30 (.build [.str [], .int .i64 0, .int .i64 0, .int .i64 0] [(0, 1, (.c (.str [120]))), (1, 3, (.t 29))]),iI 31 (.bslice 106 4 1 [.str [], .int .i64 0, .int .i64 0, .int .i64 0] [(0, (.t 30))]),iI 32 (.build [.str [], .nilS, .int .i64 0, .nilS, .nilS] [(0, 1, (.c (.str [109]))), (1, 1, (.t 31))]),iI 33 (.bslice 103 5 1 [.str [], .nilS, .int .i64 0, .nilS, .nilS] [(0, (.t 32))]),iI 4 (.mv (.t 33))] false)
 (.seq
 (.region [iI 35 (.load true 6 (.t 2)),iI 36 (.mv (.t 4)),iI 37 (.call 21 [(.t 35), (.t 36)]),iI 34 (.mv (.t 37)),iI 38 (.extract 0 (.t 34)),iI 39 (.extract 1 (.t 34)),iI 5 (.mv (.t 38)),iI 6 (.mv (.t 39))] false)
 (.seq
 (.region [iI 41 (.load true 6 (.t 3)),iI 42 (.mv (.t 4)),iI 43 (.call 21 [(.t 41), (.t 42)]),iI 40 (.mv (.t 43)),iI 44 (.extract 0 (.t 40)),iI 45 (.extract 1 (.t 40)),iI 7 (.mv (.t 44)),iI 8 (.mv (.t 45))] false)
 (.seq
 (.region [iI 47 (.load true 6 (.t 2)),iI 48 (.bslice 3 1 1 [.int .i64 0] [(0, (.c (.int .i64 1)))]),iI 49 (.call 17 [(.t 47), (.c (.int .i64 0)), (.c (.nilS)), (.t 48)]),iI 46 (.mv (.t 49)),iI 50 (.extract 0 (.t 46)),iI 51 (.extract 1 (.t 46)),iI 52 (.extract 2 (.t 46)),iI 9 (.mv (.t 50)),iI 10 (.mv (.t 51)),iI 11 (.mv (.t 52))] false)
 (.seq
 (.region [iI 53 (.mv (.t 6)),iI 54 (.bin .eql (.t 53) (.c (.int .i64 0))),iI 55 (.mv (.t 54)),iG 56 55 true (.mv (.t 7)),iG 57 55 true (.bin .eql (.t 56) (.c (.int .i64 1))),iI 58 (.pick (.t 55) (.t 57) (.c (.bool false))),iI 59 (.mv (.t 58)),iG 60 59 true (.mv (.t 8)),iG 61 59 true (.bin .eql (.t 60) (.c (.int .i64 11))),iI 62 (.pick (.t 59) (.t 61) (.c (.bool false))),iI 63 (.mv (.t 62)),iG 64 63 true (.mv (.t 11)),iG 65 63 true (.bin .eql (.t 64) (.c (.int .i64 0))),iI 66 (.pick (.t 63) (.t 65) (.c (.bool false))),iI 67 (.mv (.t 66)),iG 68 67 true (.mv (.t 9)),iG 69 67 true (.bin .eql (.t 68) (.c (.int .i64 2))),iI 70 (.pick (.t 67) (.t 69) (.c (.bool false))),iI 0 (.mv (.t 70))] false)
 .ret))))))))))
def r15 : List ERes := [.t 0]
theorem c15 : chkF Try.prog Try.f15 0 e15 r15 = true := by kernel_rfl
def e17 : EC :=
 (.seq
 (.region [iI 4 (.box 41 (.t 0)),iI 8 (.mv (.c (.int .i64 0))),iI 9 (.mv (.c (.int .i64 0))),iI 10 (.mv (.c (.int .i64 0)))] false)
 (.seq
 (.seq
 (.region [iI 17 (.load true 6 (.t 4)),iI 18 (.call 43 [(.t 17)]),iI 19 (.not (.t 18)),iI 20 (.mv (.t 19)),iG 21 20 false (.mv (.t 1)),iG 22 20 false (.bin .lss (.t 21) (.c (.int .i64 0))),iI 23 (.pick (.t 20) (.c (.bool true)) (.t 22)),iI 24 (.mv (.t 23)),iG 25 24 false (.mv (.t 1)),iG 26 24 false (.faddr 5 (.t 4)),iG 27 24 false (.load false 1 (.t 26)),iG 28 24 false (.len (.t 27)),iG 29 24 false (.bin .geq (.t 25) (.t 28)),iI 30 (.pick (.t 24) (.c (.bool true)) (.t 29))] false)
 (.cond (.t 30)
 (.seq
 (.region [iI 8 (.mv (.c (.int .i64 0))),iI 9 (.mv (.c (.int .i64 0))),iI 10 (.mv (.c (.int .i64 1)))] false)
 .ret)
 .skip))
 (.seq
 (.region [iI 31 (.load true 6 (.t 4)),iI 32 (.mv (.t 2)),iI 33 (.mv (.t 3)),iI 34 (.faddr 5 (.t 4)),iI 35 (.load false 1 (.t 34)),iI 36 (.len (.t 35)),iI 37 (.mkM 123 1 8 [.raw (.pointer none)] (.t 36)),iI 38 (.build [.str [], .int .i64 0, .nilS, .nilS, .nilS, .nilS, .nilS, .nilS, .nilS] [(0, 6, (.t 31)), (6, 1, (.t 32)), (7, 1, (.t 33)), (8, 1, (.t 37))]),iI 39 (.box 122 (.t 38)),iI 11 (.mv (.t 39))] true)
 (.seq
 (.region [iI 40 (.mv (.t 11)),iI 41 (.nilck (.t 40)),iI 42 (.faddr 8 (.t 41)),iI 43 (.load false 1 (.t 42)),iI 44 (.mv (.t 1)),iI 45 (.build [.nilS, .nilS] []),iI 46 (.box 125 (.t 45)),iI 47 (.iaddrM 1 (.t 43) (.t 44)),iN (.store 1 (.t 47) (.t 46))] false)
 (.seq
 (.seq
 (.region [iI 48 (.mv (.t 1)),iI 12 (.mv (.t 48))] false)
 (.block 0
 (.loop
 (.seq
 (.seq
 (.region [iI 49 (.mv (.t 12)),iI 50 (.faddr 5 (.t 4)),iI 51 (.load false 1 (.t 50)),iI 52 (.len (.t 51)),iI 53 (.bin .lss (.t 49) (.t 52))] false)
 (.cond (.t 53)
 .skip
 (.exit 0)))
 (.seq
 (.block 1
 (.seq
 (.seq
 (.region [iI 56 (.mv (.t 11)),iI 57 (.nilck (.t 56)),iI 58 (.faddr 8 (.t 57)),iI 59 (.load false 1 (.t 58)),iI 60 (.mv (.t 12)),iI 61 (.iaddrM 1 (.t 59) (.t 60)),iI 62 (.loadM false 1 (.t 61)),iI 63 (.pnil false (.t 62))] false)
 (.cond (.t 63)
 (.exit 1)
 .skip))
 (.seq
 (.seq
 (.region [iI 64 (.mv (.t 11)),iI 65 (.mv (.t 12)),iI 66 (.call 44 [(.t 64), (.t 65)]),iI 13 (.mv (.t 66))] false)
 (.seq
 (.region [iI 67 (.mv (.t 13)),iI 68 (.bin .neq (.t 67) (.c (.int .i64 0)))] false)
 (.cond (.t 68)
 (.seq
 (.region [iI 69 (.mv (.t 12)),iI 70 (.mv (.t 13)),iI 8 (.mv (.c (.int .i64 0))),iI 9 (.mv (.t 69)),iI 10 (.mv (.t 70))] false)
 .ret)
 .skip)))
 (.seq
 (.region [iI 14 (.mv (.c (.int .i64 1)))] false)
 (.seq
 (.seq
 (.region [iI 71 (.mv (.t 11)),iI 72 (.nilck (.t 71)),iI 73 (.faddr 8 (.t 72)),iI 74 (.load false 1 (.t 73)),iI 75 (.mv (.t 12)),iI 76 (.iaddrM 1 (.t 74) (.t 75)),iI 77 (.loadM false 1 (.t 76)),iI 78 (.nilck (.t 77)),iI 79 (.faddr 1 (.t 78)),iI 80 (.load false 1 (.t 79)),iI 81 (.len (.t 80)),iI 82 (.mv (.c (.int .i64 0)))] false)
 (.block 2
 (.loop
 (.seq
 (.region [iI 83 (.bin .lss (.t 82) (.t 81))] false)
 (.seq
 (.cond (.t 83)
 .skip
 (.exit 2))
 (.seq
 (.block 3
 (.seq
 (.region [iI 84 (.iaddr 1 (.t 80) (.t 82)),iI 85 (.load false 1 (.t 84)),iI 16 (.mv (.t 85))] false)
 (.region [iI 86 (.mv (.t 14)),iI 87 (.faddr 5 (.t 4)),iI 88 (.load false 1 (.t 87)),iI 89 (.mv (.t 16)),iI 90 (.iaddr 3 (.t 88) (.t 89)),iI 91 (.faddr 1 (.t 90)),iI 92 (.load false 1 (.t 91)),iI 93 (.bin .mul (.t 86) (.t 92)),iI 14 (.mv (.t 93))] false)))
 (.region [iI 94 (.bin .add (.t 82) (.c (.int .i64 1))),iI 82 (.mv (.t 94))] false)))))))
 (.region [iI 95 (.mv (.t 8)),iI 96 (.mv (.t 14)),iI 97 (.bin .add (.t 95) (.t 96)),iI 8 (.mv (.t 97))] false))))))
 (.region [iI 54 (.mv (.t 12)),iI 55 (.bin .add (.t 54) (.c (.int .i64 1))),iI 12 (.mv (.t 55))] false))))))
 (.seq
 (.region [iI 98 (.mv (.t 8)),iI 8 (.mv (.t 98)),iI 9 (.mv (.c (.int .i64 0))),iI 10 (.mv (.c (.int .i64 0)))] false)
 .ret))))))
def r17 : List ERes := [.t 8, .t 9, .t 10]
theorem c17 : chkF Try.prog Try.f17 4 e17 r17 = true := by kernel_rfl
def e21 : EC :=
 (.seq
 (.region [iI 2 (.box 41 (.t 0)),iI 4 (.mv (.c (.int .i64 0))),iI 5 (.mv (.c (.int .i64 0)))] false)
 (.seq
 (.seq
 (.region [iI 13 (.load true 6 (.t 2)),iI 14 (.call 43 [(.t 13)]),iI 15 (.not (.t 14))] false)
 (.cond (.t 15)
 (.seq
 (.region [iI 4 (.mv (.c (.int .i64 0))),iI 5 (.mv (.c (.int .i64 1)))] false)
 .ret)
 .skip))
 (.seq
 (.seq
 (.region [iI 16 (.load true 6 (.t 2)),iI 17 (.call 46 [(.t 16)]),iI 18 (.len (.t 17)),iI 19 (.mv (.c (.int .i64 0)))] false)
 (.block 0
 (.loop
 (.seq
 (.region [iI 20 (.bin .lss (.t 19) (.t 18))] false)
 (.seq
 (.cond (.t 20)
 .skip
 (.exit 0))
 (.seq
 (.block 1
 (.seq
 (.region [iI 21 (.iaddr 3 (.t 17) (.t 19)),iI 22 (.load true 3 (.t 21)),iI 7 (.alloc 138 [.int .i64 0, .int .i64 0, .int .i64 0]),iN (.store 3 (.t 7) (.t 22))] false)
 (.seq
 (.seq
 (.region [iI 23 (.faddr 1 (.t 7)),iI 24 (.load false 1 (.t 23)),iI 25 (.mv (.t 1)),iI 26 (.len (.t 25)),iI 27 (.bin .geq (.t 24) (.t 26))] false)
 (.cond (.t 27)
 (.seq
 (.region [iI 28 (.faddr 0 (.t 7)),iI 29 (.load false 1 (.t 28)),iI 4 (.mv (.t 29)),iI 5 (.mv (.c (.int .i64 10)))] false)
 .ret)
 .skip))
 (.seq
 (.region [iI 8 (.mv (.c (.nilS))),iI 9 (.mv (.c (.nilS)))] false)
 (.seq
 (.seq
 (.region [iI 30 (.faddr 2 (.t 7)),iI 31 (.load false 1 (.t 30))] false)
 (.block 2
 (.seq
 (.region [iI 33 (.bin .eql (.t 31) (.c (.int .i64 0))),iI 32 (.mv (.t 33))] false)
 (.cond (.t 32)
 (.region [iI 34 (.mv (.t 1)),iI 35 (.faddr 1 (.t 7)),iI 36 (.load false 1 (.t 35)),iI 37 (.iaddr 5 (.t 34) (.t 36)),iI 38 (.load true 5 (.t 37)),iI 39 (.call 47 [(.t 38)]),iI 8 (.mv (.t 39))] false)
 (.seq
 (.region [iI 41 (.bin .eql (.t 31) (.c (.int .i64 1))),iI 40 (.mv (.t 41))] false)
 (.cond (.t 40)
 (.region [iI 42 (.bslice 3 1 1 [.int .i64 0] [(0, (.c (.int .i64 1)))]),iI 9 (.mv (.t 42))] false)
 (.seq
 (.region [iI 44 (.bin .eql (.t 31) (.c (.int .i64 2))),iI 43 (.mv (.t 44))] false)
 (.cond (.t 43)
 (.region [iI 45 (.mv (.t 1)),iI 46 (.faddr 1 (.t 7)),iI 47 (.load false 1 (.t 46)),iI 48 (.iaddr 5 (.t 45) (.t 47)),iI 49 (.load true 5 (.t 48)),iI 50 (.call 47 [(.t 49)]),iI 9 (.mv (.t 50))] false)
 .skip))))))))
 (.seq
 (.region [iI 52 (.load true 6 (.t 2)),iI 53 (.faddr 0 (.t 7)),iI 54 (.load false 1 (.t 53)),iI 55 (.mv (.t 8)),iI 56 (.mv (.t 9)),iI 57 (.call 17 [(.t 52), (.t 54), (.t 55), (.t 56)]),iI 51 (.mv (.t 57)),iI 58 (.extract 0 (.t 51)),iI 59 (.extract 1 (.t 51)),iI 60 (.extract 2 (.t 51)),iI 10 (.mv (.t 58)),iI 11 (.mv (.t 59)),iI 12 (.mv (.t 60))] false)
 (.block 3
 (.seq
 (.region [iI 62 (.mv (.t 12)),iI 63 (.bin .neq (.t 62) (.c (.int .i64 0))),iI 61 (.mv (.t 63))] false)
 (.cond (.t 61)
 (.seq
 (.region [iI 64 (.mv (.t 11)),iI 65 (.mv (.t 12)),iI 4 (.mv (.t 64)),iI 5 (.mv (.t 65))] false)
 .ret)
 (.seq
 (.region [iI 67 (.mv (.t 10)),iI 68 (.bin .gtr (.t 67) (.c (.int .i64 5000))),iI 66 (.mv (.t 68))] false)
 (.cond (.t 66)
 (.seq
 (.region [iI 69 (.faddr 0 (.t 7)),iI 70 (.load false 1 (.t 69)),iI 4 (.mv (.t 70)),iI 5 (.mv (.c (.int .i64 6)))] false)
 .ret)
 .skip)))))))))))
 (.region [iI 71 (.bin .add (.t 19) (.c (.int .i64 1))),iI 19 (.mv (.t 71))] false)))))))
 (.seq
 (.region [iI 4 (.mv (.c (.int .i64 0))),iI 5 (.mv (.c (.int .i64 0)))] false)
 .ret))))
def r21 : List ERes := [.t 4, .t 5]
theorem c21 : chkF Try.prog Try.f21 2 e21 r21 = true := by kernel_rfl
def e40 : EC :=
 (.seq
 (.region [iI 4 (.mv (.c (.bool false)))] false)
 (.seq
 (.seq
 (.region [iI 6 (.mv (.t 0)),iI 7 (.len (.t 6)),iI 8 (.mv (.t 1)),iI 9 (.len (.t 8)),iI 10 (.bin .neq (.t 7) (.t 9))] false)
 (.cond (.t 10)
 (.seq
 (.region [iI 4 (.mv (.c (.bool false)))] false)
 .ret)
 .skip))
 (.seq
 (.seq
 (.region [iI 5 (.mv (.c (.int .i64 0)))] false)
 (.block 0
 (.loop
 (.seq
 (.seq
 (.region [iI 11 (.mv (.t 5)),iI 12 (.mv (.t 0)),iI 13 (.len (.t 12)),iI 14 (.bin .lss (.t 11) (.t 13))] false)
 (.cond (.t 14)
 .skip
 (.exit 0)))
 (.seq
 (.block 1
 (.seq
 (.region [iI 17 (.mv (.t 0)),iI 18 (.mv (.t 5)),iI 19 (.iaddr 1 (.t 17) (.t 18)),iI 20 (.load false 1 (.t 19)),iI 21 (.mv (.t 1)),iI 22 (.mv (.t 5)),iI 23 (.iaddr 1 (.t 21) (.t 22)),iI 24 (.load false 1 (.t 23)),iI 25 (.bin .neq (.t 20) (.t 24))] true)
 (.cond (.t 25)
 (.seq
 (.region [iI 4 (.mv (.c (.bool false)))] false)
 .ret)
 .skip)))
 (.region [iI 15 (.mv (.t 5)),iI 16 (.bin .add (.t 15) (.c (.int .i64 1))),iI 5 (.mv (.t 16))] false))))))
 (.seq
 (.region [iI 4 (.mv (.c (.bool true)))] false)
 .ret))))
def r40 : List ERes := [.t 4]
theorem c40 : chkF Try.prog Try.f40 2 e40 r40 = true := by kernel_rfl
def e41 : EC :=
 (.seq
 (.region [iI 2 (.mv (.c (.nilS)))] false)
 (.seq
 (.region [iI 3 (.mv (.c (.nilS)))] false)
 (.seq
 (.seq
 (.region [iI 4 (.mv (.c (.int .i64 0)))] false)
 (.block 0
 (.loop
 (.seq
 (.seq
 (.region [iI 5 (.mv (.t 4)),iI 6 (.mv (.t 0)),iI 7 (.len (.t 6)),iI 8 (.bin .lss (.t 5) (.t 7))] false)
 (.cond (.t 8)
 .skip
 (.exit 0)))
 (.seq
 (.block 1
 (.region [iI 11 (.mv (.t 3)),iI 12 (.mv (.t 0)),iI 13 (.mv (.t 4)),iI 14 (.iaddr 3 (.t 12) (.t 13)),iI 15 (.faddr 0 (.t 14)),iI 16 (.load false 1 (.t 15)),iI 17 (.bslice 3 1 1 [.int .i64 0] [(0, (.t 16))]),iI 18 (.append 3 1 8 (.t 11) (.t 17)),iI 3 (.mv (.t 18))] false))
 (.region [iI 9 (.mv (.t 4)),iI 10 (.bin .add (.t 9) (.c (.int .i64 1))),iI 4 (.mv (.t 10))] false))))))
 (.seq
 (.region [iI 19 (.mv (.t 3)),iI 2 (.mv (.t 19))] false)
 .ret))))
def r41 : List ERes := [.t 2]
theorem c41 : chkF Try.prog Try.f41 1 e41 r41 = true := by kernel_rfl
def e44 : EC :=
 (.seq
 (.region [iI 4 (.alloc 33 [.int .i64 0])] false)
 (.seq
 (.dfr 8 73 [(.t 4)])
 (.seq
 (.region [iI 9 (.mv (.t 0)),iI 10 (.nilck (.t 9)),iI 11 (.faddr 0 (.t 10)),iI 12 (.faddr 5 (.t 11)),iI 13 (.load false 1 (.t 12)),iI 14 (.mv (.t 1)),iI 15 (.iaddr 3 (.t 13) (.t 14)),iI 16 (.load true 3 (.t 15)),iI 17 (.mv (.t 0)),iI 18 (.nilck (.t 17)),iI 19 (.faddr 8 (.t 18)),iI 20 (.loadD 0 false 1 (.t 19)),iI 21 (.mv (.t 1)),iI 22 (.iaddrM 1 (.t 20) (.t 21)),iI 23 (.loadM false 1 (.t 22)),iI 5 (.alloc 88 [.int .i64 0, .int .i64 0, .str []]),iN (.storeD 5 [0] 3 (.t 5) (.t 16)),iI 6 (.mv (.t 23))] true)
 (.seq
 (.region [iI 24 (.mv (.t 6)),iI 25 (.nilck (.t 24)),iI 26 (.faddr 0 (.t 25)),iI 27 (.load false 1 (.t 26)),iI 28 (.pcallM 3 1 74 [(.t 27)]),iI 29 (.mv (.t 6)),iI 30 (.nilck (.t 29)),iI 31 (.faddr 1 (.t 30)),iI 32 (.load false 1 (.t 31)),iI 33 (.pcallM 3 1 74 [(.t 32)]),iI 34 (.build [.nilS, .nilS] [(0, 1, (.t 28)), (1, 1, (.t 33))]),iI 35 (.box 125 (.t 34)),iI 7 (.mv (.t 35))] true)
 (.seq
 (.region [iI 36 (.mv (.t 0)),iI 37 (.mv (.t 7)),iI 38 (.load true 3 (.t 5)),iI 39 (.call 75 [(.t 36), (.t 37), (.t 38)])] false)
 (.seq
 (.region [iI 40 (.mv (.t 0)),iI 41 (.mv (.t 7)),iI 42 (.mv (.t 1)),iI 43 (.load true 3 (.t 5)),iI 44 (.call 76 [(.t 40), (.t 41), (.t 42), (.t 43)])] false)
 (.seq
 (.seq
 (.region [iI 45 (.faddr 0 (.t 5)),iI 46 (.load false 1 (.t 45)),iI 47 (.bin .neq (.t 46) (.c (.int .i64 19))),iI 48 (.mv (.t 47)),iG 49 48 true (.faddr 0 (.t 5)),iG 50 48 true (.load false 1 (.t 49)),iG 51 48 true (.bin .neq (.t 50) (.c (.int .i64 24))),iI 52 (.pick (.t 48) (.t 51) (.c (.bool false)))] false)
 (.cond (.t 52)
 (.region [iI 53 (.mv (.t 0)),iI 54 (.mv (.t 1)),iI 55 (.bin .add (.t 54) (.c (.int .i64 1))),iI 56 (.mv (.t 7)),iI 57 (.call 77 [(.t 53), (.t 55), (.t 56)])] false)
 .skip))
 (.seq
 (.seq
 (.region [iI 58 (.faddr 0 (.t 5)),iI 59 (.load false 1 (.t 58)),iI 60 (.bin .eql (.t 59) (.c (.int .i64 19))),iI 61 (.mv (.t 60)),iG 62 61 false (.faddr 0 (.t 5)),iG 63 61 false (.load false 1 (.t 62)),iG 64 61 false (.bin .eql (.t 63) (.c (.int .i64 20))),iI 65 (.pick (.t 61) (.c (.bool true)) (.t 64)),iI 66 (.mv (.t 65)),iG 67 66 false (.faddr 0 (.t 5)),iG 68 66 false (.load false 1 (.t 67)),iG 69 66 false (.bin .eql (.t 68) (.c (.int .i64 22))),iI 70 (.pick (.t 66) (.c (.bool true)) (.t 69))] false)
 (.cond (.t 70)
 (.region [iI 71 (.mv (.t 0)),iI 72 (.faddr 1 (.t 5)),iI 73 (.load false 1 (.t 72)),iI 74 (.mv (.t 7)),iI 75 (.call 77 [(.t 71), (.t 73), (.t 74)])] false)
 .skip))
 (.seq
 (.region [iN (.store 1 (.t 4) (.c (.int .i64 0)))] false)
 .ret)))))))))
def r44 : List ERes := [.cell false 1 4]
theorem c44 : chkF Try.prog Try.f44 2 e44 r44 = true := by kernel_rfl
def e46 : EC :=
 (.seq
 (.region [iI 1 (.box 41 (.t 0)),iI 2 (.mv (.c (.nilS)))] false)
 (.seq
 (.region [iI 3 (.mv (.c (.nilS)))] false)
 (.seq
 (.seq
 (.region [iI 8 (.faddr 3 (.t 1)),iI 9 (.load false 1 (.t 8)),iI 10 (.len (.t 9)),iI 11 (.mv (.c (.int .i64 0)))] false)
 (.block 0
 (.loop
 (.seq
 (.region [iI 12 (.bin .lss (.t 11) (.t 10))] false)
 (.seq
 (.cond (.t 12)
 .skip
 (.exit 0))
 (.seq
 (.block 1
 (.seq
 (.region [iI 13 (.iaddr 3 (.t 9) (.t 11)),iI 14 (.load true 3 (.t 13)),iI 5 (.alloc 128 [.int .i64 0, .int .i64 0, .int .i64 0]),iN (.store 3 (.t 5) (.t 14))] false)
 (.region [iI 15 (.mv (.t 3)),iI 16 (.faddr 2 (.t 5)),iI 17 (.load false 1 (.t 16)),iI 18 (.faddr 1 (.t 5)),iI 19 (.load false 1 (.t 18)),iI 20 (.build [.int .i64 0, .int .i64 0, .int .i64 0] [(0, 1, (.t 17)), (1, 1, (.t 19)), (2, 1, (.c (.int .i64 0)))]),iI 21 (.bslice 138 3 1 [.int .i64 0, .int .i64 0, .int .i64 0] [(0, (.t 20))]),iI 22 (.append 138 3 24 (.t 15) (.t 21)),iI 3 (.mv (.t 22))] false)))
 (.region [iI 23 (.bin .add (.t 11) (.c (.int .i64 1))),iI 11 (.mv (.t 23))] false)))))))
 (.seq
 (.seq
 (.region [iI 24 (.faddr 4 (.t 1)),iI 25 (.load false 1 (.t 24)),iI 26 (.len (.t 25)),iI 27 (.mv (.c (.int .i64 0)))] false)
 (.block 2
 (.loop
 (.seq
 (.region [iI 28 (.bin .lss (.t 27) (.t 26))] false)
 (.seq
 (.cond (.t 28)
 .skip
 (.exit 2))
 (.seq
 (.block 3
 (.seq
 (.region [iI 29 (.iaddr 4 (.t 25) (.t 27)),iI 30 (.load true 4 (.t 29)),iI 7 (.alloc 117 [.int .i64 0, .int .i64 0, .int .i64 0, .int .i64 0]),iN (.store 4 (.t 7) (.t 30))] false)
 (.seq
 (.seq
 (.region [iI 31 (.faddr 2 (.t 7)),iI 32 (.load false 1 (.t 31)),iI 33 (.bin .neq (.t 32) (.c (.int .i64 (-1))))] false)
 (.cond (.t 33)
 (.region [iI 34 (.mv (.t 3)),iI 35 (.faddr 2 (.t 7)),iI 36 (.load false 1 (.t 35)),iI 37 (.faddr 1 (.t 7)),iI 38 (.load false 1 (.t 37)),iI 39 (.build [.int .i64 0, .int .i64 0, .int .i64 0] [(0, 1, (.t 36)), (1, 1, (.t 38)), (2, 1, (.c (.int .i64 1)))]),iI 40 (.bslice 138 3 1 [.int .i64 0, .int .i64 0, .int .i64 0] [(0, (.t 39))]),iI 41 (.append 138 3 24 (.t 34) (.t 40)),iI 3 (.mv (.t 41))] false)
 .skip))
 (.region [iI 42 (.mv (.t 3)),iI 43 (.faddr 3 (.t 7)),iI 44 (.load false 1 (.t 43)),iI 45 (.faddr 1 (.t 7)),iI 46 (.load false 1 (.t 45)),iI 47 (.build [.int .i64 0, .int .i64 0, .int .i64 0] [(0, 1, (.t 44)), (1, 1, (.t 46)), (2, 1, (.c (.int .i64 2)))]),iI 48 (.bslice 138 3 1 [.int .i64 0, .int .i64 0, .int .i64 0] [(0, (.t 47))]),iI 49 (.append 138 3 24 (.t 42) (.t 48)),iI 3 (.mv (.t 49))] false))))
 (.region [iI 50 (.bin .add (.t 27) (.c (.int .i64 1))),iI 27 (.mv (.t 50))] false)))))))
 (.seq
 (.region [iI 51 (.mv (.t 3)),iI 2 (.mv (.t 51))] false)
 .ret)))))
def r46 : List ERes := [.t 2]
theorem c46 : chkF Try.prog Try.f46 1 e46 r46 = true := by kernel_rfl
def e47 : EC :=
 (.seq
 (.region [iI 1 (.box 103 (.t 0)),iI 2 (.mv (.c (.nilS)))] false)
 (.seq
 (.region [iI 3 (.mv (.c (.nilS)))] false)
 (.seq
 (.seq
 (.region [iI 6 (.faddr 1 (.t 1)),iI 7 (.load false 1 (.t 6)),iI 8 (.len (.t 7)),iI 9 (.mv (.c (.int .i64 0)))] false)
 (.block 0
 (.loop
 (.seq
 (.region [iI 10 (.bin .lss (.t 9) (.t 8))] false)
 (.seq
 (.cond (.t 10)
 .skip
 (.exit 0))
 (.seq
 (.block 1
 (.seq
 (.region [iI 11 (.iaddr 4 (.t 7) (.t 9)),iI 12 (.load true 4 (.t 11)),iI 5 (.alloc 106 [.str [], .int .i64 0, .int .i64 0, .int .i64 0]),iN (.store 4 (.t 5) (.t 12))] false)
 (.region [iI 13 (.mv (.t 3)),iI 14 (.faddr 1 (.t 5)),iI 15 (.faddr 0 (.t 14)),iI 16 (.load false 1 (.t 15)),iI 17 (.bslice 3 1 1 [.int .i64 0] [(0, (.t 16))]),iI 18 (.append 3 1 8 (.t 13) (.t 17)),iI 3 (.mv (.t 18))] false)))
 (.region [iI 19 (.bin .add (.t 9) (.c (.int .i64 1))),iI 9 (.mv (.t 19))] false)))))))
 (.seq
 (.region [iI 20 (.mv (.t 3)),iI 2 (.mv (.t 20))] false)
 .ret))))
def r47 : List ERes := [.t 2]
theorem c47 : chkF Try.prog Try.f47 1 e47 r47 = true := by kernel_rfl
def e74 : EC :=
 (.seq
 (.region [iI 2 (.mv (.c (.nilS)))] false)
 (.seq
 (.seq
 (.region [iI 3 (.mv (.t 0)),iI 4 (.isnil false (.t 3))] false)
 (.cond (.t 4)
 (.seq
 (.region [iI 2 (.mv (.c (.nilS)))] false)
 .ret)
 .skip))
 (.seq
 (.region [iI 5 (.bsliceM 3 1 0 [.int .i64 0] []),iI 6 (.mv (.t 0)),iI 7 (.appendM 3 1 8 (.t 5) (.t 6)),iI 2 (.mv (.t 7))] false)
 .ret)))
def r74 : List ERes := [.t 2]
theorem c74 : chkF Try.prog Try.f74 1 e74 r74 = true := by kernel_rfl
def e75 : EC :=
 (.seq
 (.region [iI 5 (.box 88 (.t 2))] false)
 (.seq
 (.region [iI 7 (.faddr 0 (.t 5)),iI 8 (.load false 1 (.t 7))] false)
 (.block 0
 (.seq
 (.region [iI 10 (.bin .eql (.t 8) (.c (.int .i64 1))),iI 9 (.mv (.t 10))] false)
 (.cond (.t 9)
 (.region [iI 11 (.mv (.t 1)),iI 12 (.call 114 [(.t 11), (.c (.int .i64 1))])] false)
 (.seq
 (.region [iI 14 (.bin .eql (.t 8) (.c (.int .i64 2))),iI 13 (.mv (.t 14))] false)
 (.cond (.t 13)
 (.region [iI 15 (.mv (.t 1)),iI 16 (.call 114 [(.t 15), (.c (.int .i64 2))])] false)
 (.seq
 (.region [iI 18 (.bin .eql (.t 8) (.c (.int .i64 3))),iI 17 (.mv (.t 18))] false)
 (.cond (.t 17)
 (.region [iI 19 (.mv (.t 1)),iI 20 (.mv (.t 0)),iI 21 (.nilck (.t 20)),iI 22 (.faddr 0 (.t 21)),iI 23 (.faddr 2 (.t 22)),iI 24 (.load false 1 (.t 23)),iI 25 (.faddr 1 (.t 5)),iI 26 (.load false 1 (.t 25)),iI 27 (.iaddr 7 (.t 24) (.t 26)),iI 28 (.faddr 1 (.t 27)),iI 29 (.faddr 0 (.t 28)),iI 30 (.load false 1 (.t 29)),iI 31 (.call 114 [(.t 19), (.t 30)])] true)
 (.seq
 (.region [iI 33 (.bin .eql (.t 8) (.c (.int .i64 4))),iI 32 (.mv (.t 33))] false)
 (.cond (.t 32)
 (.seq
 (.region [iI 34 (.faddr 1 (.t 5)),iI 35 (.load false 1 (.t 34)),iI 36 (.mv (.t 0)),iI 37 (.nilck (.t 36)),iI 38 (.faddr 6 (.t 37)),iI 39 (.load false 1 (.t 38)),iI 40 (.len (.t 39)),iI 41 (.bin .lss (.t 35) (.t 40)),iI 42 (.call 115 [(.t 41), (.c (.int .i64 11))])] true)
 (.region [iI 43 (.mv (.t 1)),iI 44 (.mv (.t 0)),iI 45 (.nilck (.t 44)),iI 46 (.faddr 6 (.t 45)),iI 47 (.load false 1 (.t 46)),iI 48 (.faddr 1 (.t 5)),iI 49 (.load false 1 (.t 48)),iI 50 (.iaddr 1 (.t 47) (.t 49)),iI 51 (.load false 1 (.t 50)),iI 52 (.call 114 [(.t 43), (.t 51)])] true))
 (.seq
 (.region [iI 54 (.bin .eql (.t 8) (.c (.int .i64 5))),iI 53 (.mv (.t 54))] false)
 (.cond (.t 53)
 (.region [iI 55 (.mv (.t 1)),iI 56 (.mv (.t 0)),iI 57 (.nilck (.t 56)),iI 58 (.faddr 0 (.t 57)),iI 59 (.faddr 2 (.t 58)),iI 60 (.load false 1 (.t 59)),iI 61 (.faddr 1 (.t 5)),iI 62 (.load false 1 (.t 61)),iI 63 (.iaddr 7 (.t 60) (.t 62)),iI 64 (.faddr 1 (.t 63)),iI 65 (.faddr 0 (.t 64)),iI 66 (.load false 1 (.t 65)),iI 67 (.bslice 3 1 1 [.int .i64 0] [(0, (.t 66))]),iI 68 (.call 116 [(.t 55), (.t 67)])] true)
 (.seq
 (.seq
 (.region [iI 70 (.bin .eql (.t 8) (.c (.int .i64 6))),iI 69 (.mv (.t 70))] false)
 (.cond (.t 69)
 .skip
 (.seq
 (.region [iI 71 (.bin .eql (.t 8) (.c (.int .i64 7))),iI 69 (.mv (.t 71))] false)
 (.cond (.t 69)
 .skip
 (.seq
 (.region [iI 72 (.bin .eql (.t 8) (.c (.int .i64 8))),iI 69 (.mv (.t 72))] false)
 (.cond (.t 69)
 .skip
 (.seq
 (.region [iI 73 (.bin .eql (.t 8) (.c (.int .i64 9))),iI 69 (.mv (.t 73))] false)
 (.cond (.t 69)
 .skip
 (.seq
 (.region [iI 74 (.bin .eql (.t 8) (.c (.int .i64 10))),iI 69 (.mv (.t 74))] false)
 (.cond (.t 69)
 .skip
 (.seq
 (.region [iI 75 (.bin .eql (.t 8) (.c (.int .i64 13))),iI 69 (.mv (.t 75))] false)
 (.cond (.t 69)
 .skip
 (.seq
 (.region [iI 76 (.bin .eql (.t 8) (.c (.int .i64 15))),iI 69 (.mv (.t 76))] false)
 (.cond (.t 69)
 .skip
 (.region [iI 77 (.bin .eql (.t 8) (.c (.int .i64 16))),iI 69 (.mv (.t 77))] false)))))))))))))))
 (.cond (.t 69)
 (.seq
 (.region [iI 78 (.mv (.t 1)),iI 79 (.bslice 3 1 2 [.int .i64 0] [(0, (.c (.int .i64 1))), (1, (.c (.int .i64 1)))]),iI 80 (.call 116 [(.t 78), (.t 79)])] false)
 (.region [iI 81 (.mv (.t 1)),iI 82 (.call 114 [(.t 81), (.c (.int .i64 1))])] false))
 (.seq
 (.seq
 (.region [iI 84 (.bin .eql (.t 8) (.c (.int .i64 11))),iI 83 (.mv (.t 84))] false)
 (.cond (.t 83)
 .skip
 (.region [iI 85 (.bin .eql (.t 8) (.c (.int .i64 14))),iI 83 (.mv (.t 85))] false)))
 (.cond (.t 83)
 (.seq
 (.region [iI 86 (.mv (.t 1)),iI 87 (.bslice 3 1 1 [.int .i64 0] [(0, (.c (.int .i64 1)))]),iI 88 (.call 116 [(.t 86), (.t 87)])] false)
 (.region [iI 89 (.mv (.t 1)),iI 90 (.call 114 [(.t 89), (.c (.int .i64 1))])] false))
 (.seq
 (.region [iI 92 (.bin .eql (.t 8) (.c (.int .i64 12))),iI 91 (.mv (.t 92))] false)
 (.cond (.t 91)
 (.seq
 (.region [iI 93 (.mv (.t 1)),iI 94 (.nilck (.t 93)),iI 95 (.faddr 0 (.t 94)),iI 96 (.load false 1 (.t 95)),iI 97 (.lenM (.t 96)),iI 98 (.bin .gtr (.t 97) (.c (.int .i64 0))),iI 99 (.call 115 [(.t 98), (.c (.int .i64 11))])] false)
 (.seq
 (.region [iI 100 (.mv (.t 1)),iI 101 (.nilck (.t 100)),iI 102 (.faddr 0 (.t 101)),iI 103 (.load false 1 (.t 102)),iI 104 (.mv (.t 1)),iI 105 (.nilck (.t 104)),iI 106 (.faddr 0 (.t 105)),iI 107 (.load false 1 (.t 106)),iI 108 (.lenM (.t 107)),iI 109 (.bin .sub (.t 108) (.c (.int .i64 1))),iI 110 (.iaddrM 1 (.t 103) (.t 109)),iI 111 (.loadM false 1 (.t 110)),iI 6 (.mv (.t 111))] true)
 (.seq
 (.region [iI 112 (.mv (.t 6)),iI 113 (.bin .eql (.t 112) (.c (.int .i64 1))),iI 114 (.mv (.t 113)),iG 115 114 false (.mv (.t 6)),iG 116 114 false (.bin .eql (.t 115) (.c (.int .i64 2))),iI 117 (.pick (.t 114) (.c (.bool true)) (.t 116)),iI 118 (.call 115 [(.t 117), (.c (.int .i64 11))])] false)
 (.seq
 (.region [iI 119 (.mv (.t 1)),iI 120 (.mv (.t 6)),iI 121 (.mv (.t 6)),iI 122 (.bslice 3 1 2 [.int .i64 0] [(0, (.t 120)), (1, (.t 121))]),iI 123 (.call 116 [(.t 119), (.t 122)])] false)
 (.region [iI 124 (.mv (.t 1)),iI 125 (.call 114 [(.t 124), (.c (.int .i64 1))])] false)))))
 (.seq
 (.region [iI 127 (.bin .eql (.t 8) (.c (.int .i64 17))),iI 126 (.mv (.t 127))] false)
 (.cond (.t 126)
 (.seq
 (.region [iI 128 (.mv (.t 1)),iI 129 (.bslice 3 1 2 [.int .i64 0] [(0, (.c (.int .i64 2))), (1, (.c (.int .i64 2)))]),iI 130 (.call 116 [(.t 128), (.t 129)])] false)
 (.region [iI 131 (.mv (.t 1)),iI 132 (.call 114 [(.t 131), (.c (.int .i64 2))])] false))
 (.seq
 (.region [iI 134 (.bin .eql (.t 8) (.c (.int .i64 18))),iI 133 (.mv (.t 134))] false)
 (.cond (.t 133)
 (.seq
 (.region [iI 135 (.mv (.t 1)),iI 136 (.bslice 3 1 1 [.int .i64 0] [(0, (.c (.int .i64 2)))]),iI 137 (.call 116 [(.t 135), (.t 136)])] false)
 (.region [iI 138 (.mv (.t 1)),iI 139 (.call 114 [(.t 138), (.c (.int .i64 1))])] false))
 (.seq
 (.region [iI 141 (.bin .eql (.t 8) (.c (.int .i64 20))),iI 140 (.mv (.t 141))] false)
 (.cond (.t 140)
 (.region [iI 142 (.mv (.t 1)),iI 143 (.bslice 3 1 1 [.int .i64 0] [(0, (.c (.int .i64 1)))]),iI 144 (.call 116 [(.t 142), (.t 143)])] false)
 (.seq
 (.region [iI 146 (.bin .eql (.t 8) (.c (.int .i64 24))),iI 145 (.mv (.t 146))] false)
 (.cond (.t 145)
 (.region [iI 147 (.mv (.t 1)),iI 148 (.nilck (.t 147)),iI 149 (.faddr 0 (.t 148)),iI 150 (.load false 1 (.t 149)),iI 151 (.mv (.t 0)),iI 152 (.nilck (.t 151)),iI 153 (.faddr 7 (.t 152)),iI 154 (.load false 1 (.t 153)),iI 155 (.call 117 [(.t 150), (.t 154)]),iI 156 (.call 115 [(.t 155), (.c (.int .i64 11))])] true)
 .skip)))))))))))))))))))))))))))
def r75 : List ERes := []
theorem c75 : chkF Try.prog Try.f75 3 e75 r75 = true := by kernel_rfl
def e76 : EC :=
 (.seq
 (.region [iI 7 (.box 88 (.t 3))] false)
 (.seq
 (.region [iI 9 (.mv (.t 1)),iI 10 (.nilck (.t 9)),iI 11 (.faddr 1 (.t 10)),iI 12 (.load false 1 (.t 11)),iI 13 (.lenM (.t 12)),iI 14 (.bin .sub (.t 13) (.c (.int .i64 1))),iI 8 (.mv (.t 14))] false)
 (.seq
 (.seq
 (.region [iI 15 (.faddr 0 (.t 7)),iI 16 (.load false 1 (.t 15))] false)
 (.block 0
 (.seq
 (.region [iI 18 (.bin .eql (.t 16) (.c (.int .i64 21))),iI 17 (.mv (.t 18))] false)
 (.cond (.t 17)
 (.seq
 (.region [iI 19 (.mv (.t 8)),iI 20 (.bin .add (.t 19) (.c (.int .i64 1))),iI 21 (.bin .lss (.t 20) (.c (.int .i64 4))),iI 22 (.call 115 [(.t 21), (.c (.int .i64 7))])] false)
 (.region [iI 23 (.mv (.t 1)),iI 24 (.mv (.t 1)),iI 25 (.nilck (.t 24)),iI 26 (.faddr 1 (.t 25)),iI 27 (.load false 1 (.t 26)),iI 28 (.mv (.t 2)),iI 29 (.bslice 3 1 1 [.int .i64 0] [(0, (.t 28))]),iI 30 (.appendM 3 1 8 (.t 27) (.t 29)),iI 31 (.nilck (.t 23)),iI 32 (.faddr 1 (.t 31)),iN (.store 1 (.t 32) (.t 30))] false))
 (.seq
 (.region [iI 34 (.bin .eql (.t 16) (.c (.int .i64 22))),iI 33 (.mv (.t 34))] false)
 (.cond (.t 33)
 (.region [iI 35 (.mv (.t 8)),iI 36 (.bin .geq (.t 35) (.c (.int .i64 0))),iI 37 (.mv (.t 36)),iG 38 37 true (.faddr 1 (.t 7)),iG 39 37 true (.load false 1 (.t 38)),iG 40 37 true (.mv (.t 1)),iG 41 37 true (.nilck (.t 40)),iG 42 37 true (.faddr 1 (.t 41)),iG 43 37 true (.load false 1 (.t 42)),iG 44 37 true (.mv (.t 8)),iG 45 37 true (.iaddrM 1 (.t 43) (.t 44)),iG 46 37 true (.loadM false 1 (.t 45)),iG 47 37 true (.bin .add (.t 46) (.c (.int .i64 1))),iG 48 37 true (.bin .eql (.t 39) (.t 47)),iI 49 (.pick (.t 37) (.t 48) (.c (.bool false))),iI 50 (.call 115 [(.t 49), (.c (.int .i64 7))])] true)
 (.seq
 (.region [iI 52 (.bin .eql (.t 16) (.c (.int .i64 23))),iI 51 (.mv (.t 52))] false)
 (.cond (.t 51)
 (.seq
 (.region [iI 53 (.mv (.t 8)),iI 54 (.bin .geq (.t 53) (.c (.int .i64 0))),iI 55 (.call 115 [(.t 54), (.c (.int .i64 7))])] false)
 (.region [iI 56 (.mv (.t 1)),iI 57 (.mv (.t 1)),iI 58 (.nilck (.t 57)),iI 59 (.faddr 1 (.t 58)),iI 60 (.load false 1 (.t 59)),iI 61 (.mv (.t 8)),iI 62 (.slM 1 (.t 60) none (some (.t 61))),iI 63 (.nilck (.t 56)),iI 64 (.faddr 1 (.t 63)),iN (.store 1 (.t 64) (.t 62))] false))
 (.seq
 (.region [iI 66 (.bin .eql (.t 16) (.c (.int .i64 24))),iI 65 (.mv (.t 66))] false)
 (.cond (.t 65)
 (.region [iI 67 (.mv (.t 8)),iI 68 (.bin .lss (.t 67) (.c (.int .i64 0))),iI 69 (.call 115 [(.t 68), (.c (.int .i64 7))])] false)
 (.seq
 (.seq
 (.region [iI 71 (.bin .eql (.t 16) (.c (.int .i64 19))),iI 70 (.mv (.t 71))] false)
 (.cond (.t 70)
 .skip
 (.region [iI 72 (.bin .eql (.t 16) (.c (.int .i64 20))),iI 70 (.mv (.t 72))] false)))
 (.cond (.t 70)
 (.region [iI 73 (.faddr 1 (.t 7)),iI 74 (.load false 1 (.t 73)),iI 75 (.mv (.t 2)),iI 76 (.bin .gtr (.t 74) (.t 75)),iI 77 (.call 115 [(.t 76), (.c (.int .i64 7))])] false)
 .skip))))))))))))
 (.region [iI 78 (.faddr 0 (.t 7)),iI 79 (.load false 1 (.t 78)),iI 80 (.bin .eql (.t 79) (.c (.int .i64 19))),iI 81 (.mv (.t 80)),iG 82 81 false (.faddr 0 (.t 7)),iG 83 81 false (.load false 1 (.t 82)),iG 84 81 false (.bin .eql (.t 83) (.c (.int .i64 24))),iI 85 (.pick (.t 81) (.c (.bool true)) (.t 84)),iI 86 (.mv (.t 85)),iG 87 86 false (.mv (.t 2)),iG 88 86 false (.bin .add (.t 87) (.c (.int .i64 1))),iG 89 86 false (.mv (.t 0)),iG 90 86 false (.nilck (.t 89)),iG 91 86 false (.faddr 0 (.t 90)),iG 92 86 false (.faddr 5 (.t 91)),iG 93 86 false (.load false 1 (.t 92)),iG 94 86 false (.len (.t 93)),iG 95 86 false (.bin .lss (.t 88) (.t 94)),iI 96 (.pick (.t 86) (.c (.bool true)) (.t 95)),iI 97 (.call 115 [(.t 96), (.c (.int .i64 7))])] false))))
def r76 : List ERes := []
theorem c76 : chkF Try.prog Try.f76 4 e76 r76 = true := by kernel_rfl
def e77 : EC :=
 (.seq
 (.region [iI 7 (.mv (.t 0)),iI 8 (.nilck (.t 7)),iI 9 (.faddr 8 (.t 8)),iI 10 (.load false 1 (.t 9)),iI 11 (.mv (.t 1)),iI 12 (.iaddrM 1 (.t 10) (.t 11)),iI 13 (.loadM false 1 (.t 12)),iI 6 (.mv (.t 13))] false)
 (.seq
 (.seq
 (.region [iI 14 (.mv (.t 6)),iI 15 (.pnil false (.t 14))] false)
 (.cond (.t 15)
 (.seq
 (.region [iI 16 (.mv (.t 0)),iI 17 (.nilck (.t 16)),iI 18 (.faddr 8 (.t 17)),iI 19 (.load false 1 (.t 18)),iI 20 (.mv (.t 1)),iI 21 (.mv (.t 2)),iI 22 (.iaddrM 1 (.t 19) (.t 20)),iN (.store 1 (.t 22) (.t 21))] false)
 .ret)
 .skip))
 (.seq
 (.region [iI 23 (.mv (.t 6)),iI 24 (.nilck (.t 23)),iI 25 (.faddr 0 (.t 24)),iI 26 (.load false 1 (.t 25)),iI 27 (.mv (.t 2)),iI 28 (.nilck (.t 27)),iI 29 (.faddr 0 (.t 28)),iI 30 (.load false 1 (.t 29)),iI 31 (.pcall 117 [(.t 26), (.t 30)]),iI 32 (.call 115 [(.t 31), (.c (.int .i64 11))])] true)
 (.region [iI 33 (.mv (.t 6)),iI 34 (.nilck (.t 33)),iI 35 (.faddr 1 (.t 34)),iI 36 (.load false 1 (.t 35)),iI 37 (.mv (.t 2)),iI 38 (.nilck (.t 37)),iI 39 (.faddr 1 (.t 38)),iI 40 (.load false 1 (.t 39)),iI 41 (.pcall 117 [(.t 36), (.t 40)]),iI 42 (.call 115 [(.t 41), (.c (.int .i64 7))])] true))))
def r77 : List ERes := []
theorem c77 : chkF Try.prog Try.f77 3 e77 r77 = true := by kernel_rfl
def e114 : EC :=
 (.seq
 (.region [iI 4 (.mv (.t 0)),iI 5 (.nilck (.t 4)),iI 6 (.faddr 0 (.t 5)),iI 7 (.load false 1 (.t 6)),iI 8 (.lenM (.t 7)),iI 9 (.bin .lss (.t 8) (.c (.int .i64 16))),iI 10 (.call 115 [(.t 9), (.c (.int .i64 11))])] false)
 (.region [iI 11 (.mv (.t 0)),iI 12 (.mv (.t 0)),iI 13 (.nilck (.t 12)),iI 14 (.faddr 0 (.t 13)),iI 15 (.load false 1 (.t 14)),iI 16 (.mv (.t 1)),iI 17 (.bslice 3 1 1 [.int .i64 0] [(0, (.t 16))]),iI 18 (.appendM 3 1 8 (.t 15) (.t 17)),iI 19 (.nilck (.t 11)),iI 20 (.faddr 0 (.t 19)),iN (.store 1 (.t 20) (.t 18))] false))
def r114 : List ERes := []
theorem c114 : chkF Try.prog Try.f114 2 e114 r114 = true := by kernel_rfl
def e115 : EC :=
 (.seq
 (.region [iI 4 (.mv (.t 0)),iI 5 (.not (.t 4))] false)
 (.cond (.t 5)
 (.region [iI 6 (.mv (.t 1)),iI 7 (.build [.int .i64 0] [(0, 1, (.t 6))]),iI 8 (.mkif 162 (.t 7)),iN (.panic (.t 8))] false)
 .skip))
def r115 : List ERes := []
theorem c115 : chkF Try.prog Try.f115 2 e115 r115 = true := by kernel_rfl
def e116 : EC :=
 (.seq
 (.region [iI 7 (.mv (.t 1)),iI 8 (.len (.t 7)),iI 9 (.mv (.c (.int .i64 0)))] false)
 (.block 0
 (.loop
 (.seq
 (.region [iI 10 (.bin .lss (.t 9) (.t 8))] false)
 (.seq
 (.cond (.t 10)
 .skip
 (.exit 0))
 (.seq
 (.block 1
 (.seq
 (.region [iI 11 (.iaddr 1 (.t 7) (.t 9)),iI 12 (.load false 1 (.t 11)),iI 5 (.mv (.t 12))] false)
 (.seq
 (.region [iI 13 (.mv (.t 0)),iI 14 (.nilck (.t 13)),iI 15 (.faddr 0 (.t 14)),iI 16 (.load false 1 (.t 15)),iI 17 (.lenM (.t 16)),iI 6 (.mv (.t 17))] false)
 (.seq
 (.region [iI 18 (.mv (.t 6)),iI 19 (.bin .gtr (.t 18) (.c (.int .i64 0))),iI 20 (.mv (.t 19)),iG 21 20 true (.mv (.t 0)),iG 22 20 true (.nilck (.t 21)),iG 23 20 true (.faddr 0 (.t 22)),iG 24 20 true (.load false 1 (.t 23)),iG 25 20 true (.mv (.t 6)),iG 26 20 true (.bin .sub (.t 25) (.c (.int .i64 1))),iG 27 20 true (.iaddrM 1 (.t 24) (.t 26)),iG 28 20 true (.loadM false 1 (.t 27)),iG 29 20 true (.mv (.t 5)),iG 30 20 true (.bin .eql (.t 28) (.t 29)),iI 31 (.pick (.t 20) (.t 30) (.c (.bool false))),iI 32 (.call 115 [(.t 31), (.c (.int .i64 11))])] false)
 (.region [iI 33 (.mv (.t 0)),iI 34 (.mv (.t 0)),iI 35 (.nilck (.t 34)),iI 36 (.faddr 0 (.t 35)),iI 37 (.load false 1 (.t 36)),iI 38 (.mv (.t 6)),iI 39 (.bin .sub (.t 38) (.c (.int .i64 1))),iI 40 (.slM 1 (.t 37) none (some (.t 39))),iI 41 (.nilck (.t 33)),iI 42 (.faddr 0 (.t 41)),iN (.store 1 (.t 42) (.t 40))] false)))))
 (.region [iI 43 (.bin .add (.t 9) (.c (.int .i64 1))),iI 9 (.mv (.t 43))] false)))))))
def r116 : List ERes := []
theorem c116 : chkF Try.prog Try.f116 2 e116 r116 = true := by kernel_rfl
def e117 : EC :=
 (.seq
 (.region [iI 4 (.mv (.c (.bool false)))] false)
 (.seq
 (.seq
 (.region [iI 6 (.mv (.t 0)),iI 7 (.len (.t 6)),iI 8 (.mv (.t 1)),iI 9 (.len (.t 8)),iI 10 (.bin .neq (.t 7) (.t 9))] false)
 (.cond (.t 10)
 (.seq
 (.region [iI 4 (.mv (.c (.bool false)))] false)
 .ret)
 .skip))
 (.seq
 (.seq
 (.region [iI 11 (.mv (.t 0)),iI 12 (.len (.t 11)),iI 13 (.mv (.c (.int .i64 0)))] false)
 (.block 0
 (.loop
 (.seq
 (.region [iI 14 (.bin .lss (.t 13) (.t 12))] false)
 (.seq
 (.cond (.t 14)
 .skip
 (.exit 0))
 (.seq
 (.block 1
 (.seq
 (.region [iI 15 (.mv (.t 13)),iI 5 (.mv (.t 15))] false)
 (.seq
 (.region [iI 16 (.mv (.t 0)),iI 17 (.mv (.t 5)),iI 18 (.iaddr 1 (.t 16) (.t 17)),iI 19 (.load false 1 (.t 18)),iI 20 (.mv (.t 1)),iI 21 (.mv (.t 5)),iI 22 (.iaddr 1 (.t 20) (.t 21)),iI 23 (.load false 1 (.t 22)),iI 24 (.bin .neq (.t 19) (.t 23))] true)
 (.cond (.t 24)
 (.seq
 (.region [iI 4 (.mv (.c (.bool false)))] false)
 .ret)
 .skip))))
 (.region [iI 25 (.bin .add (.t 13) (.c (.int .i64 1))),iI 13 (.mv (.t 25))] false)))))))
 (.seq
 (.region [iI 4 (.mv (.c (.bool true)))] false)
 .ret))))
def r117 : List ERes := [.t 4]
theorem c117 : chkF Try.prog Try.f117 2 e117 r117 = true := by kernel_rfl
def e13 : EC :=
 (.seq
 (.region [iI 3 (.box 27 (.t 0)),iI 6 (.mv (.c (.bool false)))] false)
 (.seq
 (.seq
 (.region [iI 18 (.call 15 []),iI 19 (.not (.t 18))] false)
 (.cond (.t 19)
 (.seq
 (.region [iI 6 (.mv (.c (.bool false)))] false)
 .ret)
 .skip))
 (.seq
 (.seq
 (.region [iI 20 (.load true 6 (.t 3)),iI 21 (.call 16 [(.t 20)]),iI 22 (.not (.t 21)),iI 23 (.mv (.t 22)),iG 24 23 false (.load true 6 (.t 3)),iG 25 23 false (.call 22 [(.t 24)]),iG 26 23 false (.not (.t 25)),iI 27 (.pick (.t 23) (.c (.bool true)) (.t 26)),iI 28 (.mv (.t 27)),iG 29 28 false (.faddr 5 (.t 3)),iG 30 28 false (.load false 1 (.t 29)),iG 31 28 false (.len (.t 30)),iG 32 28 false (.bin .gtr (.t 31) (.c (.int .i64 40))),iI 33 (.pick (.t 28) (.c (.bool true)) (.t 32)),iI 34 (.mv (.t 33)),iG 35 34 false (.mv (.t 1)),iG 36 34 false (.len (.t 35)),iG 37 34 false (.bin .gtr (.t 36) (.c (.int .i64 4))),iI 38 (.pick (.t 34) (.c (.bool true)) (.t 37)),iI 39 (.mv (.t 38)),iG 40 39 false (.mv (.t 2)),iG 41 39 false (.len (.t 40)),iG 42 39 false (.bin .gtr (.t 41) (.c (.int .i64 40))),iI 43 (.pick (.t 39) (.c (.bool true)) (.t 42))] false)
 (.cond (.t 43)
 (.seq
 (.region [iI 6 (.mv (.c (.bool true)))] false)
 .ret)
 .skip))
 (.seq
 (.seq
 (.region [iI 7 (.mv (.c (.int .i64 0)))] false)
 (.block 0
 (.loop
 (.seq
 (.seq
 (.region [iI 44 (.mv (.t 7)),iI 45 (.faddr 5 (.t 3)),iI 46 (.load false 1 (.t 45)),iI 47 (.len (.t 46)),iI 48 (.bin .lss (.t 44) (.t 47))] false)
 (.cond (.t 48)
 .skip
 (.exit 0)))
 (.seq
 (.block 1
 (.seq
 (.region [iI 51 (.faddr 5 (.t 3)),iI 52 (.load false 1 (.t 51)),iI 53 (.mv (.t 7)),iI 54 (.iaddr 3 (.t 52) (.t 53)),iI 55 (.faddr 0 (.t 54)),iI 56 (.load false 1 (.t 55)),iI 8 (.mv (.t 56))] false)
 (.seq
 (.region [iI 57 (.mv (.t 8)),iI 58 (.call 42 [(.t 57)]),iI 59 (.mv (.t 58)),iG 60 59 false (.mv (.t 8)),iG 61 59 false (.bin .eql (.t 60) (.c (.int .i64 21))),iI 62 (.pick (.t 59) (.c (.bool true)) (.t 61)),iI 63 (.mv (.t 62)),iG 64 63 false (.mv (.t 8)),iG 65 63 false (.bin .eql (.t 64) (.c (.int .i64 23))),iI 66 (.pick (.t 63) (.c (.bool true)) (.t 65))] false)
 (.cond (.t 66)
 (.seq
 (.region [iI 6 (.mv (.c (.bool true)))] false)
 .ret)
 .skip))))
 (.region [iI 49 (.mv (.t 7)),iI 50 (.bin .add (.t 49) (.c (.int .i64 1))),iI 7 (.mv (.t 50))] false))))))
 (.seq
 (.seq
 (.region [iI 9 (.mv (.c (.int .i64 0)))] false)
 (.block 2
 (.loop
 (.seq
 (.seq
 (.region [iI 67 (.mv (.t 9)),iI 68 (.mv (.t 1)),iI 69 (.len (.t 68)),iI 70 (.bin .lss (.t 67) (.t 69))] false)
 (.cond (.t 70)
 .skip
 (.exit 2)))
 (.seq
 (.block 3
 (.seq
 (.region [iI 73 (.mv (.t 1)),iI 74 (.mv (.t 9)),iI 75 (.iaddr 3 (.t 73) (.t 74)),iI 76 (.load true 3 (.t 75)),iI 77 (.call 32 [(.t 76)]),iI 78 (.not (.t 77))] false)
 (.cond (.t 78)
 (.seq
 (.region [iI 6 (.mv (.c (.bool true)))] false)
 .ret)
 .skip)))
 (.region [iI 71 (.mv (.t 9)),iI 72 (.bin .add (.t 71) (.c (.int .i64 1))),iI 9 (.mv (.t 72))] false))))))
 (.seq
 (.region [iI 79 (.load true 6 (.t 3)),iI 80 (.call 18 [(.t 79)]),iI 10 (.alloc 41 [.str [], .int .i64 0, .nilS, .nilS, .nilS, .nilS]),iN (.store 6 (.t 10) (.t 80))] false)
 (.seq
 (.region [iI 82 (.load true 6 (.t 3)),iI 83 (.call 35 [(.t 82)]),iI 81 (.mv (.t 83)),iI 84 (.extract 0 (.t 81)),iI 85 (.extract 1 (.t 81)),iI 11 (.mv (.t 84)),iI 12 (.mv (.t 85))] false)
 (.seq
 (.region [iI 87 (.load true 6 (.t 10)),iI 88 (.mv (.t 1)),iI 89 (.pcall 41 [(.t 88)]),iI 90 (.mv (.t 2)),iI 91 (.pcall 17 [(.t 87), (.c (.int .i64 0)), (.t 89), (.t 90)]),iI 86 (.mv (.t 91)),iI 92 (.extract 0 (.t 86)),iI 93 (.extract 1 (.t 86)),iI 94 (.extract 2 (.t 86)),iI 13 (.mv (.t 92)),iI 14 (.mv (.t 93)),iI 15 (.mv (.t 94))] true)
 (.seq
 (.region [iI 96 (.load true 6 (.t 10)),iI 97 (.mv (.t 11)),iI 98 (.mv (.t 1)),iI 99 (.call 26 [(.t 96), (.c (.int .i64 0)), (.t 97), (.t 98), (.c (.int .i64 100))]),iI 95 (.mv (.t 99)),iI 100 (.extract 0 (.t 95)),iI 101 (.extract 1 (.t 95)),iI 16 (.alloc 60 [.nilS, .nilS, .int .i64 0]),iN (.store 3 (.t 16) (.t 100)),iI 17 (.mv (.t 101))] false)
 (.seq
 (.region [iI 102 (.mv (.t 15)),iI 103 (.bin .eql (.t 102) (.c (.int .i64 0))),iI 104 (.mv (.t 17)),iI 105 (.bin .eql (.t 104) (.c (.int .i64 0))),iI 106 (.mv (.t 105)),iG 107 106 true (.faddr 0 (.t 16)),iG 108 106 true (.load false 1 (.t 107)),iG 109 106 true (.call 41 [(.t 108)]),iG 110 106 true (.mv (.t 2)),iG 111 106 true (.call 40 [(.t 109), (.t 110)]),iI 112 (.pick (.t 106) (.t 111) (.c (.bool false))),iI 113 (.binB .eql (.t 103) (.t 112)),iI 114 (.mv (.t 113)),iG 115 114 true (.mv (.t 15)),iG 116 114 true (.bin .neq (.t 115) (.c (.int .i64 0))),iG 117 114 true (.mv (.t 116)),iG 118 117 false (.mv (.t 13)),iG 119 117 false (.faddr 2 (.t 16)),iG 120 117 false (.load false 1 (.t 119)),iG 121 117 false (.bin .eql (.t 118) (.t 120)),iG 122 114 true (.pick (.t 117) (.c (.bool true)) (.t 121)),iI 123 (.pick (.t 114) (.t 122) (.c (.bool false))),iI 6 (.mv (.t 123))] false)
 .ret))))))))))
def r13 : List ERes := [.t 6]
theorem c13 : chkF Try.prog Try.f13 3 e13 r13 = true := by kernel_rfl
end Go.Aw.T
namespace Go.Aw.T
open Go Go.Aw Go.Proofs Go.RowKit
set_option maxRecDepth 100000
attribute [local irreducible] Go.Aw.DM Go.Aw.AHeap.setB Go.Aw.AHeap.setT
attribute [local go_sem] peval EOpd.ev Env.get binInt binStr binBool buildParts AV.cells AV.okc setRange minmaxAV AV.one AV.ofCells eqCells eqCell bslRows cond_true cond_false beq_self_eq_true Bool.not_true Bool.not_false beq_true beq_false eq_self if_true Option.some.injEq List.length_cons List.length_nil List.take_succ_cons List.take_zero List.drop_succ_cons List.drop_zero List.set_cons_succ List.set_cons_zero List.nil_append List.cons_append List.append_nil and_self Option.map_some List.map_cons List.map_nil Bool.false_eq_true if_false Nat.zero_add Nat.add_zero true_and and_true Bool.and_true Bool.true_and List.getElem?_cons_zero List.getElem?_cons_succ Nat.zero_le Nat.le_refl
set_option linter.unusedSimpArgs false
set_option linter.unusedVariables false
theorem mo : Try.prog.follows .mixedOrders = true := by kernel_rfl
structure Val where
 k : Int
 n : Int
 s : List UInt8
abbrev Val.row (v : Val) : List AV := [.int .i64 v.k, .int .i64 v.n, .str v.s]
abbrev Val.av (v : Val) : AV := .agg [.int .i64 v.k, .int .i64 v.n, .str v.s]
theorem p29 (n : Int) : Pure Try.prog 29 [.int .i64 n] (.agg [.int .i64 1, .int .i64 n, .str []]) := by
 refine pure_intro mo Try.func29 c29 fun H => ?_
 unfold e29 r29
 simp only [initEnv, initFrom]
 repeat' first|(apply Sp.go;·constructor<;>first|exact ss|(change _=_;first|(simp only[go_sem,Nat.reduceBEq,Nat.reduceAdd,Nat.reduceLeDiff,reduceIte]<;>rfl)|rfl)|exact Nat.le_of_ble_eq_true rfl|decide|(repeat' first|(apply Lk.go;constructor)|assumption|exact nb ‹_› ‹_›|exact nt ‹_› ‹_›))|(intro b hb;repeat first|(refine fe hb ?_;intro _ _ hb)|(refine fT hb ?_;intro hb))|refine rt ?_|refine gA rfl ?_|refine gB rfl ?_|apply cT rfl|apply cF rfl|(apply DM.gbT;rfl)|(apply DM.gbF;rfl)|intro h
 (apply Sr.go;·constructor<;>first|(apply Lk.go;constructor<;>first|exact ss|(change _=_;first|(simp only[go_sem,Nat.reduceBEq,Nat.reduceAdd,Nat.reduceLeDiff,reduceIte]<;>rfl)|rfl)|exact Nat.le_of_ble_eq_true rfl|decide|(repeat' first|(apply Lk.go;constructor)|assumption|exact nb ‹_› ‹_›|exact nt ‹_› ‹_›))|assumption)
 exact AVLe.refl _
theorem p88 (n : Int) : Pure Try.prog 88 [.int .i64 n] (.agg [.int .i64 1, .int .i64 (max (-1000000) (min 1000000 n)), .str []]) := by
 refine pure_intro mo Try.func88 c88 fun H => ?_
 unfold e88 r88
 simp only [initEnv, initFrom]
 repeat' first|(apply Sp.go;·constructor<;>first|exact ss|(change _=_;first|(simp only[go_sem,Nat.reduceBEq,Nat.reduceAdd,Nat.reduceLeDiff,reduceIte]<;>rfl)|rfl)|exact Nat.le_of_ble_eq_true rfl|decide|(repeat' first|(apply Lk.go;constructor)|assumption|exact nb ‹_› ‹_›|exact nt ‹_› ‹_›))|(intro b hb;repeat first|(refine fe hb ?_;intro _ _ hb)|(refine fT hb ?_;intro hb))|refine rt ?_|refine gA rfl ?_|refine gB rfl ?_|apply cT rfl|apply cF rfl|(apply DM.gbT;rfl)|(apply DM.gbF;rfl)|intro h
 (apply Sr.go;·constructor<;>first|(apply Lk.go;constructor<;>first|exact ss|(change _=_;first|(simp only[go_sem,Nat.reduceBEq,Nat.reduceAdd,Nat.reduceLeDiff,reduceIte]<;>rfl)|rfl)|exact Nat.le_of_ble_eq_true rfl|decide|(repeat' first|(apply Lk.go;constructor)|assumption|exact nb ‹_› ‹_›|exact nt ‹_› ‹_›))|assumption)
 exact AVLe.refl _
theorem p92 (b : Bool) : Pure Try.prog 92 [.bool b] (.int .i64 (if b then 1 else 0)) := by
 refine pure_intro mo Try.func92 c92 fun H => ?_
 unfold e92 r92
 simp only [initEnv, initFrom]
 repeat' first|(apply Sp.go;·constructor<;>first|exact ss|(change _=_;first|(simp only[go_sem,Nat.reduceBEq,Nat.reduceAdd,Nat.reduceLeDiff,reduceIte]<;>rfl)|rfl)|exact Nat.le_of_ble_eq_true rfl|decide|(repeat' first|(apply Lk.go;constructor)|assumption|exact nb ‹_› ‹_›|exact nt ‹_› ‹_›))|(intro b hb;repeat first|(refine fe hb ?_;intro _ _ hb)|(refine fT hb ?_;intro hb))|refine rt ?_|refine gA rfl ?_|refine gB rfl ?_|apply cT rfl|apply cF rfl|(apply DM.gbT;rfl)|(apply DM.gbF;rfl)|intro h
 (apply AM.cond; (· rfl))
 ·intro h
  subst h
  repeat' first|(apply Sp.go;·constructor<;>first|exact ss|(change _=_;first|(simp only[go_sem,Nat.reduceBEq,Nat.reduceAdd,Nat.reduceLeDiff,reduceIte]<;>rfl)|rfl)|exact Nat.le_of_ble_eq_true rfl|decide|(repeat' first|(apply Lk.go;constructor)|assumption|exact nb ‹_› ‹_›|exact nt ‹_› ‹_›))|(intro b hb;repeat first|(refine fe hb ?_;intro _ _ hb)|(refine fT hb ?_;intro hb))|refine rt ?_|refine gA rfl ?_|refine gB rfl ?_|apply cT rfl|apply cF rfl|(apply DM.gbT;rfl)|(apply DM.gbF;rfl)|intro h
  (apply Sr.go;·constructor<;>first|(apply Lk.go;constructor<;>first|exact ss|(change _=_;first|(simp only[go_sem,Nat.reduceBEq,Nat.reduceAdd,Nat.reduceLeDiff,reduceIte]<;>rfl)|rfl)|exact Nat.le_of_ble_eq_true rfl|decide|(repeat' first|(apply Lk.go;constructor)|assumption|exact nb ‹_› ‹_›|exact nt ‹_› ‹_›))|assumption)
  exact AVLe.refl _
 ·intro h
  subst h
  repeat' first|(apply Sp.go;·constructor<;>first|exact ss|(change _=_;first|(simp only[go_sem,Nat.reduceBEq,Nat.reduceAdd,Nat.reduceLeDiff,reduceIte]<;>rfl)|rfl)|exact Nat.le_of_ble_eq_true rfl|decide|(repeat' first|(apply Lk.go;constructor)|assumption|exact nb ‹_› ‹_›|exact nt ‹_› ‹_›))|(intro b hb;repeat first|(refine fe hb ?_;intro _ _ hb)|(refine fT hb ?_;intro hb))|refine rt ?_|refine gA rfl ?_|refine gB rfl ?_|apply cT rfl|apply cF rfl|(apply DM.gbT;rfl)|(apply DM.gbF;rfl)|intro h
  (apply Sr.go;·constructor<;>first|(apply Lk.go;constructor<;>first|exact ss|(change _=_;first|(simp only[go_sem,Nat.reduceBEq,Nat.reduceAdd,Nat.reduceLeDiff,reduceIte]<;>rfl)|rfl)|exact Nat.le_of_ble_eq_true rfl|decide|(repeat' first|(apply Lk.go;constructor)|assumption|exact nb ‹_› ‹_›|exact nt ‹_› ‹_›))|assumption)
  exact AVLe.refl _
def digit (c : UInt8) : Bool := decide (48 ≤ c.toNat) && decide (c.toNat ≤ 57)
def letter (c : UInt8) : Bool := (decide (97 ≤ c.toNat) && decide (c.toNat ≤ 122)) || (decide (65 ≤ c.toNat) && decide (c.toNat ≤ 90))
def inner (c : UInt8) : Bool := letter c || digit c || decide (c.toNat = 95)
def isName (s : List UInt8) : Bool := match s with | [] => false | c :: _ => letter c && s.all inner && decide (s.length ≤ 16)
theorem p125 (c : UInt8) : Pure Try.prog 125 [.int .u8 c.toNat] (.bool (digit c)) := by
 refine pure_intro mo Try.func125 c125 fun H => ?_
 unfold e125 r125
 simp only [initEnv, initFrom]
 repeat' first|(apply Sp.go;·constructor<;>first|exact ss|(change _=_;first|(simp only[go_sem,Nat.reduceBEq,Nat.reduceAdd,Nat.reduceLeDiff,reduceIte]<;>rfl)|rfl)|exact Nat.le_of_ble_eq_true rfl|decide|(repeat' first|(apply Lk.go;constructor)|assumption|exact nb ‹_› ‹_›|exact nt ‹_› ‹_›))|(intro b hb;repeat first|(refine fe hb ?_;intro _ _ hb)|(refine fT hb ?_;intro hb))|refine rt ?_|refine gA rfl ?_|refine gB rfl ?_|apply cT rfl|apply cF rfl|(apply DM.gbT;rfl)|(apply DM.gbF;rfl)|intro h
 all_goals ((apply Sr.go;·constructor<;>first|(apply Lk.go;constructor<;>first|exact ss|(change _=_;first|(simp only[go_sem,Nat.reduceBEq,Nat.reduceAdd,Nat.reduceLeDiff,reduceIte]<;>rfl)|rfl)|exact Nat.le_of_ble_eq_true rfl|decide|(repeat' first|(apply Lk.go;constructor)|assumption|exact nb ‹_› ‹_›|exact nt ‹_› ‹_›))|assumption))
 all_goals (refine avle_eq ?_; rw [AV.bool.injEq, Bool.eq_iff_iff]; simp [digit] at *; try omega)
theorem p106 (c : UInt8) : Pure Try.prog 106 [.int .u8 c.toNat] (.bool (letter c)) := by
 refine pure_intro mo Try.func106 c106 fun H => ?_
 unfold e106 r106
 simp only [initEnv, initFrom]
 repeat' first|(apply Sp.go;·constructor<;>first|exact ss|(change _=_;first|(simp only[go_sem,Nat.reduceBEq,Nat.reduceAdd,Nat.reduceLeDiff,reduceIte]<;>rfl)|rfl)|exact Nat.le_of_ble_eq_true rfl|decide|(repeat' first|(apply Lk.go;constructor)|assumption|exact nb ‹_› ‹_›|exact nt ‹_› ‹_›))|(intro b hb;repeat first|(refine fe hb ?_;intro _ _ hb)|(refine fT hb ?_;intro hb))|refine rt ?_|refine gA rfl ?_|refine gB rfl ?_|apply cT rfl|apply cF rfl|(apply DM.gbT;rfl)|(apply DM.gbF;rfl)|intro h
 all_goals ((apply Sr.go;·constructor<;>first|(apply Lk.go;constructor<;>first|exact ss|(change _=_;first|(simp only[go_sem,Nat.reduceBEq,Nat.reduceAdd,Nat.reduceLeDiff,reduceIte]<;>rfl)|rfl)|exact Nat.le_of_ble_eq_true rfl|decide|(repeat' first|(apply Lk.go;constructor)|assumption|exact nb ‹_› ‹_›|exact nt ‹_› ‹_›))|assumption))
 all_goals (refine avle_eq ?_; rw [AV.bool.injEq, Bool.eq_iff_iff]; simp [letter] at *; try omega)
theorem p107 (c : UInt8) : Pure Try.prog 107 [.int .u8 c.toNat] (.bool (inner c)) := by
 refine pure_intro mo Try.func107 c107 fun H => ?_
 unfold e107 r107
 simp only [initEnv, initFrom]
 repeat' first|(apply Sp.go;·constructor<;>first|exact ss|(change _=_;first|(simp only[go_sem,Nat.reduceBEq,Nat.reduceAdd,Nat.reduceLeDiff,reduceIte]<;>rfl)|rfl)|exact Nat.le_of_ble_eq_true rfl|decide|(repeat' first|(apply Lk.go;constructor)|assumption|exact nb ‹_› ‹_›|exact nt ‹_› ‹_›))|(intro b hb;repeat first|(refine fe hb ?_;intro _ _ hb)|(refine fT hb ?_;intro hb))|refine rt ?_|refine gA rfl ?_|refine gB rfl ?_|apply cT rfl|apply cF rfl|(apply DM.gbT;rfl)|(apply DM.gbF;rfl)|(apply DM.pcs (p106 _); (· simp only [go_sem, Nat.reduceBEq, Nat.reduceAdd] <;> rfl); (· exact AVLes.refl _))|(apply DM.pcs (p125 _); (· simp only [go_sem, Nat.reduceBEq, Nat.reduceAdd] <;> rfl); (· exact AVLes.refl _))|intro h
 all_goals ((apply Sr.go;·constructor<;>first|(apply Lk.go;constructor<;>first|exact ss|(change _=_;first|(simp only[go_sem,Nat.reduceBEq,Nat.reduceAdd,Nat.reduceLeDiff,reduceIte]<;>rfl)|rfl)|exact Nat.le_of_ble_eq_true rfl|decide|(repeat' first|(apply Lk.go;constructor)|assumption|exact nb ‹_› ‹_›|exact nt ‹_› ‹_›))|assumption))
 all_goals (refine avle_eq ?_; rw [AV.bool.injEq, Bool.eq_iff_iff]; simp [inner] at *; first | omega | (simp [*]; done) | (simp [*]; omega))
theorem isName_of {s : List UInt8} {c : UInt8} (h : s[0]? = some c) : isName s = (letter c && s.all inner && decide (s.length ≤ 16)) := by
 cases s with
 | nil => simp at h
 | cons d l => simp at h; subst h; rfl
theorem p67 (s : List UInt8) (hs : s.length ≤ maxLen) : Pure Try.prog 67 [.str s] (.bool (isName s)) := by
 refine pure_intro mo Try.func67 c67 fun H => ?_
 unfold e67 r67
 simp only [initEnv, initFrom]
 repeat' first|(apply Sp.go;·constructor<;>first|exact ss|(change _=_;first|(simp only[go_sem,Nat.reduceBEq,Nat.reduceAdd,Nat.reduceLeDiff,reduceIte]<;>rfl)|rfl)|exact Nat.le_of_ble_eq_true rfl|decide|(repeat' first|(apply Lk.go;constructor)|assumption|exact nb ‹_› ‹_›|exact nt ‹_› ‹_›))|(intro b hb;repeat first|(refine fe hb ?_;intro _ _ hb)|(refine fT hb ?_;intro hb))|refine rt ?_|refine gA rfl ?_|refine gB rfl ?_|apply cT rfl|apply cF rfl|(apply DM.gbT;rfl)|(apply DM.gbF;rfl)|intro h
 ·obtain ⟨c, hc⟩ : ∃ c, s[0]? = some c := by cases s with | nil => simp at * | cons c l => exact ⟨c, rfl⟩
  have hn := isName_of hc
  (apply DM.idxSs s .i64 0 c (by decide) hc; (· rfl); (· rfl))
  repeat' first|(apply Sp.go;·constructor<;>first|exact ss|(change _=_;first|(simp only[go_sem,Nat.reduceBEq,Nat.reduceAdd,Nat.reduceLeDiff,reduceIte]<;>rfl)|rfl)|exact Nat.le_of_ble_eq_true rfl|decide|(repeat' first|(apply Lk.go;constructor)|assumption|exact nb ‹_› ‹_›|exact nt ‹_› ‹_›))|(intro b hb;repeat first|(refine fe hb ?_;intro _ _ hb)|(refine fT hb ?_;intro hb))|refine rt ?_|refine gA rfl ?_|refine gB rfl ?_|apply cT rfl|apply cF rfl|(apply DM.gbT;rfl)|(apply DM.gbF;rfl)|(apply DM.pcs (p106 _); (· simp only [go_sem, Nat.reduceBEq, Nat.reduceAdd] <;> rfl); (· exact AVLes.refl _))|intro h
  ·(apply AM.cond; (· rfl))
   ·intro h
    repeat' first|(apply Sp.go;·constructor<;>first|exact ss|(change _=_;first|(simp only[go_sem,Nat.reduceBEq,Nat.reduceAdd,Nat.reduceLeDiff,reduceIte]<;>rfl)|rfl)|exact Nat.le_of_ble_eq_true rfl|decide|(repeat' first|(apply Lk.go;constructor)|assumption|exact nb ‹_› ‹_›|exact nt ‹_› ‹_›))|(intro b hb;repeat first|(refine fe hb ?_;intro _ _ hb)|(refine fT hb ?_;intro hb))|refine rt ?_|refine gA rfl ?_|refine gB rfl ?_|apply cT rfl|apply cF rfl|(apply DM.gbT;rfl)|(apply DM.gbF;rfl)|intro h
    (apply Sr.go;·constructor<;>first|(apply Lk.go;constructor<;>first|exact ss|(change _=_;first|(simp only[go_sem,Nat.reduceBEq,Nat.reduceAdd,Nat.reduceLeDiff,reduceIte]<;>rfl)|rfl)|exact Nat.le_of_ble_eq_true rfl|decide|(repeat' first|(apply Lk.go;constructor)|assumption|exact nb ‹_› ‹_›|exact nt ‹_› ‹_›))|assumption)
    refine avle_eq ?_
    rw [hn]; simp at h; simp [h]
   ·intro h
    repeat' first|(apply Sp.go;·constructor<;>first|exact ss|(change _=_;first|(simp only[go_sem,Nat.reduceBEq,Nat.reduceAdd,Nat.reduceLeDiff,reduceIte]<;>rfl)|rfl)|exact Nat.le_of_ble_eq_true rfl|decide|(repeat' first|(apply Lk.go;constructor)|assumption|exact nb ‹_› ‹_›|exact nt ‹_› ‹_›))|(intro b hb;repeat first|(refine fe hb ?_;intro _ _ hb)|(refine fT hb ?_;intro hb))|refine rt ?_|refine gA rfl ?_|refine gB rfl ?_|apply cT rfl|apply cF rfl|(apply DM.gbT;rfl)|(apply DM.gbF;rfl)|intro h
    refine AM.loopX (X := Nat) 0 (fun i => [(0, .str s), (18, .int .i64 s.length), (19, .int .i64 i)]) (fun i H' => H' = H ∧ i ≤ s.length ∧ isName s = (s.drop i).all inner) (fun i => s.length - i) ⟨rfl, by omega, ?_⟩ ?_ ?_
    ·rename_i h2
     simp at h h2
     rw [hn, h]; simp; intro _; omega
    ·(repeat first | exact envle_nil _ | (refine envle_cons ?_ ?_; · (simp only [go_sem, Nat.reduceBEq, Nat.reduceAdd]; exact AVLe.refl _)))
    ·intro i H' ⟨e, hi, he⟩
     subst e
     repeat' first|(apply Sp.go;·constructor<;>first|exact ss|(change _=_;first|(simp only[go_sem,Nat.reduceBEq,Nat.reduceAdd,Nat.reduceLeDiff,reduceIte]<;>rfl)|rfl)|exact Nat.le_of_ble_eq_true rfl|decide|(repeat' first|(apply Lk.go;constructor)|assumption|exact nb ‹_› ‹_›|exact nt ‹_› ‹_›))|(intro b hb;repeat first|(refine fe hb ?_;intro _ _ hb)|(refine fT hb ?_;intro hb))|refine rt ?_|refine gA rfl ?_|refine gB rfl ?_|apply cT rfl|apply cF rfl|(apply DM.gbT;rfl)|(apply DM.gbF;rfl)|intro h
     (apply AM.cond; (· rfl))
     ·intro h3
      simp at h3
      obtain ⟨c, hc⟩ : ∃ c, s[i]? = some c := ⟨_, List.getElem?_eq_getElem h3⟩
      have hd : s.drop i = c :: s.drop (i + 1) := by rw [List.drop_eq_getElem_cons h3]; congr 1; rw [List.getElem?_eq_getElem h3] at hc; simpa using hc
      repeat' first|(apply Sp.go;·constructor<;>first|exact ss|(change _=_;first|(simp only[go_sem,Nat.reduceBEq,Nat.reduceAdd,Nat.reduceLeDiff,reduceIte]<;>rfl)|rfl)|exact Nat.le_of_ble_eq_true rfl|decide|(repeat' first|(apply Lk.go;constructor)|assumption|exact nb ‹_› ‹_›|exact nt ‹_› ‹_›))|(intro b hb;repeat first|(refine fe hb ?_;intro _ _ hb)|(refine fT hb ?_;intro hb))|refine rt ?_|refine gA rfl ?_|refine gB rfl ?_|apply cT rfl|apply cF rfl|(apply DM.gbT;rfl)|(apply DM.gbF;rfl)|(apply DM.idxSs s .i64 i c (by omega) (by simpa using hc); (· rfl); (· rfl))|(apply DM.pcs (p107 _); (· simp only [go_sem, Nat.reduceBEq, Nat.reduceAdd] <;> rfl); (· exact AVLes.refl _))|intro h
      (apply AM.cond; (· rfl))
      ·intro h4
       repeat' first|(apply Sp.go;·constructor<;>first|exact ss|(change _=_;first|(simp only[go_sem,Nat.reduceBEq,Nat.reduceAdd,Nat.reduceLeDiff,reduceIte]<;>rfl)|rfl)|exact Nat.le_of_ble_eq_true rfl|decide|(repeat' first|(apply Lk.go;constructor)|assumption|exact nb ‹_› ‹_›|exact nt ‹_› ‹_›))|(intro b hb;repeat first|(refine fe hb ?_;intro _ _ hb)|(refine fT hb ?_;intro hb))|refine rt ?_|refine gA rfl ?_|refine gB rfl ?_|apply cT rfl|apply cF rfl|(apply DM.gbT;rfl)|(apply DM.gbF;rfl)|intro h
       (apply Sr.go;·constructor<;>first|(apply Lk.go;constructor<;>first|exact ss|(change _=_;first|(simp only[go_sem,Nat.reduceBEq,Nat.reduceAdd,Nat.reduceLeDiff,reduceIte]<;>rfl)|rfl)|exact Nat.le_of_ble_eq_true rfl|decide|(repeat' first|(apply Lk.go;constructor)|assumption|exact nb ‹_› ‹_›|exact nt ‹_› ‹_›))|assumption)
       refine avle_eq ?_
       simp at h4
       rw [he, hd]; simp [h4]
      ·intro h4
       repeat' first|(apply Sp.go;·constructor<;>first|exact ss|(change _=_;first|(simp only[go_sem,Nat.reduceBEq,Nat.reduceAdd,Nat.reduceLeDiff,reduceIte]<;>rfl)|rfl)|exact Nat.le_of_ble_eq_true rfl|decide|(repeat' first|(apply Lk.go;constructor)|assumption|exact nb ‹_› ‹_›|exact nt ‹_› ‹_›))|(intro b hb;repeat first|(refine fe hb ?_;intro _ _ hb)|(refine fT hb ?_;intro hb))|refine rt ?_|refine gA rfl ?_|refine gB rfl ?_|apply cT rfl|apply cF rfl|(apply DM.gbT;rfl)|(apply DM.gbF;rfl)|intro h
       refine AM.roundX (i + 1) ⟨rfl, by omega, ?_⟩ ?_ ?_
       ·simp at h4
        rw [he, hd]; simp [h4]
       ·(repeat first | exact envle_nil _ | (refine envle_cons ?_ ?_; · (simp only [go_sem, Nat.reduceBEq, Nat.reduceAdd]; exact AVLe.refl _)))
        refine envle_cons ?_ (envle_nil _)
        simp only [Env.get, Nat.reduceBEq, cond_true, cond_false, beq_self_eq_true]
        refine avle_int ?_
        rw [wrap64 (by omega) (by unfold maxLen at hs; omega)]; omega
       ·show s.length - (i + 1) < s.length - i
        omega
     ·intro h3
      repeat' first|(apply Sp.go;·constructor<;>first|exact ss|(change _=_;first|(simp only[go_sem,Nat.reduceBEq,Nat.reduceAdd,Nat.reduceLeDiff,reduceIte]<;>rfl)|rfl)|exact Nat.le_of_ble_eq_true rfl|decide|(repeat' first|(apply Lk.go;constructor)|assumption|exact nb ‹_› ‹_›|exact nt ‹_› ‹_›))|(intro b hb;repeat first|(refine fe hb ?_;intro _ _ hb)|(refine fT hb ?_;intro hb))|refine rt ?_|refine gA rfl ?_|refine gB rfl ?_|apply cT rfl|apply cF rfl|(apply DM.gbT;rfl)|(apply DM.gbF;rfl)|intro h
      (apply Sr.go;·constructor<;>first|(apply Lk.go;constructor<;>first|exact ss|(change _=_;first|(simp only[go_sem,Nat.reduceBEq,Nat.reduceAdd,Nat.reduceLeDiff,reduceIte]<;>rfl)|rfl)|exact Nat.le_of_ble_eq_true rfl|decide|(repeat' first|(apply Lk.go;constructor)|assumption|exact nb ‹_› ‹_›|exact nt ‹_› ‹_›))|assumption)
      refine avle_eq ?_
      simp at h3
      rw [he, List.drop_eq_nil_of_le (by omega)]; rfl
 ·(apply Sr.go;·constructor<;>first|(apply Lk.go;constructor<;>first|exact ss|(change _=_;first|(simp only[go_sem,Nat.reduceBEq,Nat.reduceAdd,Nat.reduceLeDiff,reduceIte]<;>rfl)|rfl)|exact Nat.le_of_ble_eq_true rfl|decide|(repeat' first|(apply Lk.go;constructor)|assumption|exact nb ‹_› ‹_›|exact nt ‹_› ‹_›))|assumption)
  refine avle_eq ?_
  simp at h
  cases s with
  | nil => rfl
  | cons c l =>
   simp only [isName]
   have : decide ((c :: l).length ≤ 16) = false := by simp at h ⊢; omega
   rw [this]; simp
 ·(apply Sr.go;·constructor<;>first|(apply Lk.go;constructor<;>first|exact ss|(change _=_;first|(simp only[go_sem,Nat.reduceBEq,Nat.reduceAdd,Nat.reduceLeDiff,reduceIte]<;>rfl)|rfl)|exact Nat.le_of_ble_eq_true rfl|decide|(repeat' first|(apply Lk.go;constructor)|assumption|exact nb ‹_› ‹_›|exact nt ‹_› ‹_›))|assumption)
  refine avle_eq ?_
  simp at h
  subst h; rfl
theorem calls_plain {P : Program} {f : FuncId} {args : List AV} {r : AV} (h : Pure P f args r) (w : World) (vs : List Value) (ha : ∀ m, RvL m args vs) :
  Calls P f ⟨vs⟩ w fun e w' => (∃ v, e = .returned v ∧ ∃ m : Mem, Rv m r v) ∧ Below w.heap.size w w' := by
 have := h AHeap.none ⟨w, AHeap.none, fun _ => .nilFunc, 0⟩ vs rfl ⟨fun b T cs hb => by simp [AHeap.none] at hb, fun t i hi => by simp [AHeap.none] at hi⟩ (ha _)
 refine this.mono fun e w' ⟨o, H', L', T', g1, g2, g3, g4, g5⟩ => ?_
 subst g4
 simp only [RvOut] at g3
 obtain ⟨v, e1, e2⟩ := g3
 exact ⟨⟨v, e1, _, e2⟩, ⟨g2.os, g2.tape, g2.output, g2.size, fun b hb => (g2.block b hb rfl (fun t i hi => by simp [AHeap.none] at hi)).1⟩⟩
theorem pure_of_plain {P : Program} {f : FuncId} {args : List AV} {r : AV} (h : ∀ (m : Mem) (vs : List Value), RvL m args vs → Calls P f ⟨vs⟩ m.w fun e w' => ∃ v, e = .returned v ∧ (∀ m', Rv m' r v) ∧ Below m.w.heap.size m.w w') : Pure P f args r := by
 intro H m vs hH rh hv
 subst hH
 refine (h m vs hv).mono fun e w' ⟨v, e1, e2, hb⟩ => ?_
 exact ⟨.ret r, m.H, m.L, m.T, RH.hid rh hb.os hb.tape hb.output hb.size hb.block, Ev.hid hb.os hb.tape hb.output hb.size hb.block, ⟨v, e1, e2 _⟩, rfl, rfl⟩
def bad (n : Nat) : Bool := decide ((n : Int) < 32) || decide ((126 : Int) < n)
theorem p122 (n : Nat) : Pure Try.prog 122 [.int .i32 (n : Int)] (.bool (bad n)) := by
 refine pure_intro mo Try.func122 c122 fun H => ?_
 unfold e122 r122
 simp only [initEnv, initFrom]
 repeat' first|(apply Sp.go;·constructor<;>first|exact ss|(change _=_;first|(simp only[go_sem,Nat.reduceBEq,Nat.reduceAdd,Nat.reduceLeDiff,reduceIte]<;>rfl)|rfl)|exact Nat.le_of_ble_eq_true rfl|decide|(repeat' first|(apply Lk.go;constructor)|assumption|exact nb ‹_› ‹_›|exact nt ‹_› ‹_›))|(intro b hb;repeat first|(refine fe hb ?_;intro _ _ hb)|(refine fT hb ?_;intro hb))|refine rt ?_|refine gA rfl ?_|refine gB rfl ?_|apply cT rfl|apply cF rfl|(apply DM.gbT;rfl)|(apply DM.gbF;rfl)|intro h
 all_goals ((apply Sr.go;·constructor<;>first|(apply Lk.go;constructor<;>first|exact ss|(change _=_;first|(simp only[go_sem,Nat.reduceBEq,Nat.reduceAdd,Nat.reduceLeDiff,reduceIte]<;>rfl)|rfl)|exact Nat.le_of_ble_eq_true rfl|decide|(repeat' first|(apply Lk.go;constructor)|assumption|exact nb ‹_› ‹_›|exact nt ‹_› ‹_›))|assumption))
 all_goals (refine avle_eq ?_; rw [AV.bool.injEq, Bool.eq_iff_iff]; simp [bad] at *; try omega)
def idxFrom (s : ByteArray) : Nat → Nat → Int
 | 0, _ => -1
 | f + 1, pos => if pos < s.size then (if bad (Utf8.decode s pos).1 then (pos : Int) else idxFrom s f (pos + (Utf8.decode s pos).2)) else -1
theorem idxFrom_end (s : ByteArray) (f pos : Nat) (h : ¬ pos < s.size) : idxFrom s f pos = -1 := by cases f <;> simp [idxFrom, h]
theorem width_pos' (s : ByteArray) (pos : Nat) (h : pos < s.size) : 1 ≤ (Utf8.decode s pos).2 := by
 by_cases ha : (s[pos]'h).toNat < 128
 ·rw [decode_ascii s pos h ha]; exact Nat.le_refl _
 ·exact (decode_high s pos h (by omega)).2
open Go.Lib in
set_option maxHeartbeats 2000000 in
theorem w128 (s : ByteArray) (w : World) : Calls Try.prog 128 #[.string s, .func (.func 122) #[] #[], .bool true] w fun e w' => e = .returned (.int .i64 (idxFrom s s.size 0)) ∧ Below w.heap.size w w' := by
 have hp : ∀ (W : World) (r : Nat), Calls Try.prog 122 #[.int .i32 (r : Int)] W fun e w' => e = .returned (.bool (bad r)) ∧ Below W.heap.size W w' := by
  intro W r
  refine (calls_plain (p122 r) W [.int .i32 (r : Int)] (fun m => by simp only [RvL, Rv]; exact ⟨_, _, rfl, rfl, rfl⟩)).mono ?_
  rintro e w' ⟨⟨v, rfl, m, hv⟩, hb⟩
  simp only [Rv] at hv
  subst hv
  exact ⟨rfl, hb⟩
 go_enter Try.func128, Try.ntmps128
 go_wp2
 go_loopg [] s.size (fun gf wx => ∃ pos : Nat, wx.heap[w.heap.size]? = some (.stringIter s pos) ∧ Below w.heap.size w wx ∧ idxFrom s gf pos = idxFrom s s.size 0 ∧ s.size ≤ pos + gf)
 case atStart => exact ⟨0, World.iter_heap w s 0, (Below.refl _ w).alloc (Nat.le_refl _) _, rfl, by omega⟩
 case round =>
  obtain ⟨pos, hit, hbw, hleft, hfu⟩ := hrel
  by_cases hps : pos < s.size
  ·obtain ⟨g', rfl⟩ : ∃ g', gk = g' + 1 := ⟨gk - 1, by omega⟩
   have hnx : ∀ ty, (Instr.next (.pointer (some ⟨w.heap.size, 0, none⟩)) true ty).run Try.prog wr = _ := fun ty => Lib.run_next_any_at wr w.heap.size s pos ty hit hps
   have hwd := width_pos' s pos hps
   obtain ⟨R, hR⟩ : ∃ R, (Utf8.decode s pos).1 = R := ⟨_, rfl⟩
   obtain ⟨K, hK⟩ : ∃ K, (Utf8.decode s pos).2 = K := ⟨_, rfl⟩
   simp only [idxFrom, hps, if_true, hR, hK] at hleft
   rw [hR, hK] at hnx
   rw [hK] at hwd
   have hit2 := Lib.iterAt_heap wr w.heap.size s pos (pos + K) hit
   have hbw2 := Lib.below_iterAt hbw (k := w.heap.size) (Nat.le_refl _) s (pos + K)
   obtain ⟨W, hWd⟩ : ∃ W, wr.iterAt w.heap.size s (pos + K) = W := ⟨_, rfl⟩
   rw [hWd] at hnx hit2 hbw2
   have cS := hp W R
   clear hp
   have hlt : w.heap.size < W.heap.size := (Array.getElem?_eq_some_iff.1 hit2).1
   cases hsp : bad R <;> rw [hsp] at cS <;> simp only [hsp, if_true, Bool.false_eq_true, if_false] at hleft
   ·go_wp2_with (refine cS.mono ?_; rintro e W' ⟨rfl, q⟩)
    go_roundg g'
    case measure => omega
    case rel => exact ⟨pos + K, (q.block _ hlt).trans hit2, hbw2.trans (q.mono (by omega)), hleft, by omega⟩
   ·go_wp2_with (refine cS.mono ?_; rintro e W' ⟨rfl, q⟩)
    go_ret
    exact ⟨by rw [← hleft] <;> rfl, hbw2.trans (q.mono (by omega))⟩
  ·have hnx : ∀ ty, (Instr.next (.pointer (some ⟨w.heap.size, 0, none⟩)) true ty).run Try.prog wr = _ := fun ty => Lib.run_next_end_at wr w.heap.size s pos ty hit hps
   rw [idxFrom_end s gk pos hps] at hleft
   go_wp2
   go_ret
   exact ⟨by rw [← hleft] <;> rfl, hbw⟩
def okc (b : UInt8) : Bool := decide (32 ≤ b.toNat) && decide (b.toNat ≤ 126)
theorem idx_ok (bs : ByteArray) : ∀ (f pos : Nat), bs.size ≤ pos + f → decide (0 ≤ idxFrom bs f pos) = !((bs.data.toList.drop pos).all okc)
 | 0, pos, h => by
  have : bs.data.toList.drop pos = [] := List.drop_eq_nil_of_le (by rw [Array.length_toList]; exact (by omega : bs.size ≤ pos))
  simp [idxFrom, this]
 | f + 1, pos, h => by
  by_cases hp : pos < bs.size
  ·have hd : bs.data.toList.drop pos = bs[pos] :: bs.data.toList.drop (pos + 1) := by
    rw [List.drop_eq_getElem_cons (by rw [Array.length_toList]; exact hp)]
    rfl
   simp only [idxFrom, hp, if_true, hd, List.all_cons]
   by_cases ha : (bs[pos]'hp).toNat < 128
   ·rw [decode_ascii bs pos hp ha]
    have ih := idx_ok bs f (pos + 1) (by omega)
    by_cases hb : okc bs[pos] = true
    ·have : bad (bs[pos]).toNat = false := by simp [okc] at hb; simp [bad]; omega
     simp only [this, hb, Bool.true_and, Bool.false_eq_true, if_false]
     exact ih
    ·have : bad (bs[pos]).toNat = true := by simp [okc] at hb; simp [bad]; omega
     have hb' : okc bs[pos] = false := by simpa using hb
     simp [this, hb']
   ·have hh := (decode_high bs pos hp (by omega)).1
    have : bad (Utf8.decode bs pos).1 = true := by simp [bad]; omega
    have hb' : okc bs[pos] = false := by simp [okc]; omega
    simp [this, hb']
  ·have : bs.data.toList.drop pos = [] := List.drop_eq_nil_of_le (by rw [Array.length_toList]; exact (by omega : bs.size ≤ pos))
   simp [idxFrom, hp, this]
def idxBad (s : List UInt8) : Int := idxFrom ⟨⟨s⟩⟩ s.length 0
theorem idxBad_ok (s : List UInt8) : decide (0 ≤ idxBad s) = !(s.all okc) := by
 have := idx_ok ⟨⟨s⟩⟩ s.length 0 (by show s.length ≤ 0 + s.length; omega)
 exact this
theorem p128 (s : List UInt8) : Pure Try.prog 128 [.str s, .fn 122 [], .bool true] (.int .i64 (idxBad s)) := by
 refine pure_of_plain fun m vs hv => ?_
 simp only [RvL, Rv] at hv
 obtain ⟨_, _, rfl, ⟨rfl, _⟩, _, _, rfl, ⟨l, rfl, rfl⟩, _, _, rfl, rfl, rfl⟩ := hv
 refine (w128 ⟨⟨s⟩⟩ m.w).mono ?_
 rintro e w' ⟨rfl, hb⟩
 exact ⟨_, rfl, fun m' => by simp only [Rv]; rfl, hb⟩
theorem p126 (s : List UInt8) : Pure Try.prog 126 [.str s, .fn 122 []] (.int .i64 (idxBad s)) := by
 refine pure_intro mo Try.func126 c126 fun H => ?_
 unfold e126 r126
 simp only [initEnv, initFrom]
 repeat' first|(apply Sp.go;·constructor<;>first|exact ss|(change _=_;first|(simp only[go_sem,Nat.reduceBEq,Nat.reduceAdd,Nat.reduceLeDiff,reduceIte]<;>rfl)|rfl)|exact Nat.le_of_ble_eq_true rfl|decide|(repeat' first|(apply Lk.go;constructor)|assumption|exact nb ‹_› ‹_›|exact nt ‹_› ‹_›))|(intro b hb;repeat first|(refine fe hb ?_;intro _ _ hb)|(refine fT hb ?_;intro hb))|refine rt ?_|refine gA rfl ?_|refine gB rfl ?_|apply cT rfl|apply cF rfl|(apply DM.gbT;rfl)|(apply DM.gbF;rfl)|(apply DM.pcs (p128 _); (· simp only [go_sem, Nat.reduceBEq, Nat.reduceAdd] <;> rfl); (· exact AVLes.refl _))|intro h
 (apply Sr.go;·constructor<;>first|(apply Lk.go;constructor<;>first|exact ss|(change _=_;first|(simp only[go_sem,Nat.reduceBEq,Nat.reduceAdd,Nat.reduceLeDiff,reduceIte]<;>rfl)|rfl)|exact Nat.le_of_ble_eq_true rfl|decide|(repeat' first|(apply Lk.go;constructor)|assumption|exact nb ‹_› ‹_›|exact nt ‹_› ‹_›))|assumption)
 exact AVLe.refl _
theorem p121 (s : List UInt8) : Pure Try.prog 121 [.str s, .fn 122 []] (.bool (!(s.all okc))) := by
 refine pure_intro mo Try.func121 c121 fun H => ?_
 unfold e121 r121
 simp only [initEnv, initFrom]
 repeat' first|(apply Sp.go;·constructor<;>first|exact ss|(change _=_;first|(simp only[go_sem,Nat.reduceBEq,Nat.reduceAdd,Nat.reduceLeDiff,reduceIte]<;>rfl)|rfl)|exact Nat.le_of_ble_eq_true rfl|decide|(repeat' first|(apply Lk.go;constructor)|assumption|exact nb ‹_› ‹_›|exact nt ‹_› ‹_›))|(intro b hb;repeat first|(refine fe hb ?_;intro _ _ hb)|(refine fT hb ?_;intro hb))|refine rt ?_|refine gA rfl ?_|refine gB rfl ?_|apply cT rfl|apply cF rfl|(apply DM.gbT;rfl)|(apply DM.gbF;rfl)|(apply DM.pcs (p126 _); (· simp only [go_sem, Nat.reduceBEq, Nat.reduceAdd] <;> rfl); (· exact AVLes.refl _))|intro h
 (apply Sr.go;·constructor<;>first|(apply Lk.go;constructor<;>first|exact ss|(change _=_;first|(simp only[go_sem,Nat.reduceBEq,Nat.reduceAdd,Nat.reduceLeDiff,reduceIte]<;>rfl)|rfl)|exact Nat.le_of_ble_eq_true rfl|decide|(repeat' first|(apply Lk.go;constructor)|assumption|exact nb ‹_› ‹_›|exact nt ‹_› ‹_›))|assumption)
 rw [idxBad_ok]
 exact AVLe.refl _
def printable (s : List UInt8) : Bool := s.all okc
theorem p85 (s : List UInt8) : Pure Try.prog 85 [.str s] (.bool (printable s)) := by
 refine pure_intro mo Try.func85 c85 fun H => ?_
 unfold e85 r85
 simp only [initEnv, initFrom]
 repeat' first|(apply Sp.go;·constructor<;>first|exact ss|(change _=_;first|(simp only[go_sem,Nat.reduceBEq,Nat.reduceAdd,Nat.reduceLeDiff,reduceIte]<;>rfl)|rfl)|exact Nat.le_of_ble_eq_true rfl|decide|(repeat' first|(apply Lk.go;constructor)|assumption|exact nb ‹_› ‹_›|exact nt ‹_› ‹_›))|(intro b hb;repeat first|(refine fe hb ?_;intro _ _ hb)|(refine fT hb ?_;intro hb))|refine rt ?_|refine gA rfl ?_|refine gB rfl ?_|apply cT rfl|apply cF rfl|(apply DM.gbT;rfl)|(apply DM.gbF;rfl)|(apply DM.pcs (p121 _); (· simp only [go_sem, Nat.reduceBEq, Nat.reduceAdd] <;> rfl); (· exact AVLes.refl _))|intro h
 (apply Sr.go;·constructor<;>first|(apply Lk.go;constructor<;>first|exact ss|(change _=_;first|(simp only[go_sem,Nat.reduceBEq,Nat.reduceAdd,Nat.reduceLeDiff,reduceIte]<;>rfl)|rfl)|exact Nat.le_of_ble_eq_true rfl|decide|(repeat' first|(apply Lk.go;constructor)|assumption|exact nb ‹_› ‹_›|exact nt ‹_› ‹_›))|assumption)
 rw [Bool.not_not]
 exact AVLe.refl _
def validV (v : Val) : Bool := (decide (v.k = 1) && decide (-1000 ≤ v.n) && decide (v.n ≤ 1000) && decide (v.s = [])) || (decide (v.k = 2) && decide (v.n = 0) && decide (v.s.length ≤ 40) && printable v.s)
theorem p55 (v : Val) : Pure Try.prog 55 [v.av] (.bool (validV v)) := by
 refine pure_intro mo Try.func55 c55 fun H => ?_
 unfold e55 r55
 simp only [initEnv, initFrom]
 repeat' first|(apply Sp.go;·constructor<;>first|exact ss|(change _=_;first|(simp only[go_sem,Nat.reduceBEq,Nat.reduceAdd,Nat.reduceLeDiff,reduceIte]<;>rfl)|rfl)|exact Nat.le_of_ble_eq_true rfl|decide|(repeat' first|(apply Lk.go;constructor)|assumption|exact nb ‹_› ‹_›|exact nt ‹_› ‹_›))|(intro b hb;repeat first|(refine fe hb ?_;intro _ _ hb)|(refine fT hb ?_;intro hb))|refine rt ?_|refine gA rfl ?_|refine gB rfl ?_|apply cT rfl|apply cF rfl|(apply DM.gbT;rfl)|(apply DM.gbF;rfl)|intro h
 (apply AM.cond; (· rfl))
 ·intro h1
  repeat' first|(apply Sp.go;·constructor<;>first|exact ss|(change _=_;first|(simp only[go_sem,Nat.reduceBEq,Nat.reduceAdd,Nat.reduceLeDiff,reduceIte]<;>rfl)|rfl)|exact Nat.le_of_ble_eq_true rfl|decide|(repeat' first|(apply Lk.go;constructor)|assumption|exact nb ‹_› ‹_›|exact nt ‹_› ‹_›))|(intro b hb;repeat first|(refine fe hb ?_;intro _ _ hb)|(refine fT hb ?_;intro hb))|refine rt ?_|refine gA rfl ?_|refine gB rfl ?_|apply cT rfl|apply cF rfl|(apply DM.gbT;rfl)|(apply DM.gbF;rfl)|intro h
  all_goals ((apply Sr.go;·constructor<;>first|(apply Lk.go;constructor<;>first|exact ss|(change _=_;first|(simp only[go_sem,Nat.reduceBEq,Nat.reduceAdd,Nat.reduceLeDiff,reduceIte]<;>rfl)|rfl)|exact Nat.le_of_ble_eq_true rfl|decide|(repeat' first|(apply Lk.go;constructor)|assumption|exact nb ‹_› ‹_›|exact nt ‹_› ‹_›))|assumption))
  all_goals (refine avle_eq ?_; rw [AV.bool.injEq]; simp [validV] at *; try (simp [*]; done))
  all_goals (simp [*]; try omega)
 ·intro h1
  repeat' first|(apply Sp.go;·constructor<;>first|exact ss|(change _=_;first|(simp only[go_sem,Nat.reduceBEq,Nat.reduceAdd,Nat.reduceLeDiff,reduceIte]<;>rfl)|rfl)|exact Nat.le_of_ble_eq_true rfl|decide|(repeat' first|(apply Lk.go;constructor)|assumption|exact nb ‹_› ‹_›|exact nt ‹_› ‹_›))|(intro b hb;repeat first|(refine fe hb ?_;intro _ _ hb)|(refine fT hb ?_;intro hb))|refine rt ?_|refine gA rfl ?_|refine gB rfl ?_|apply cT rfl|apply cF rfl|(apply DM.gbT;rfl)|(apply DM.gbF;rfl)|intro h
  (apply AM.cond; (· rfl))
  ·intro h2
   repeat' first|(apply Sp.go;·constructor<;>first|exact ss|(change _=_;first|(simp only[go_sem,Nat.reduceBEq,Nat.reduceAdd,Nat.reduceLeDiff,reduceIte]<;>rfl)|rfl)|exact Nat.le_of_ble_eq_true rfl|decide|(repeat' first|(apply Lk.go;constructor)|assumption|exact nb ‹_› ‹_›|exact nt ‹_› ‹_›))|(intro b hb;repeat first|(refine fe hb ?_;intro _ _ hb)|(refine fT hb ?_;intro hb))|refine rt ?_|refine gA rfl ?_|refine gB rfl ?_|apply cT rfl|apply cF rfl|(apply DM.gbT;rfl)|(apply DM.gbF;rfl)|intro h
   ·(apply DM.pcs (p85 _); (· simp only [go_sem, Nat.reduceBEq, Nat.reduceAdd] <;> rfl); (· exact AVLes.refl _))
    repeat' first|(apply Sp.go;·constructor<;>first|exact ss|(change _=_;first|(simp only[go_sem,Nat.reduceBEq,Nat.reduceAdd,Nat.reduceLeDiff,reduceIte]<;>rfl)|rfl)|exact Nat.le_of_ble_eq_true rfl|decide|(repeat' first|(apply Lk.go;constructor)|assumption|exact nb ‹_› ‹_›|exact nt ‹_› ‹_›))|(intro b hb;repeat first|(refine fe hb ?_;intro _ _ hb)|(refine fT hb ?_;intro hb))|refine rt ?_|refine gA rfl ?_|refine gB rfl ?_|apply cT rfl|apply cF rfl|(apply DM.gbT;rfl)|(apply DM.gbF;rfl)|intro h
    (apply Sr.go;·constructor<;>first|(apply Lk.go;constructor<;>first|exact ss|(change _=_;first|(simp only[go_sem,Nat.reduceBEq,Nat.reduceAdd,Nat.reduceLeDiff,reduceIte]<;>rfl)|rfl)|exact Nat.le_of_ble_eq_true rfl|decide|(repeat' first|(apply Lk.go;constructor)|assumption|exact nb ‹_› ‹_›|exact nt ‹_› ‹_›))|assumption)
    refine avle_eq ?_; rw [AV.bool.injEq]; simp [validV] at *; simp [*]
    omega
   all_goals ((apply Sr.go;·constructor<;>first|(apply Lk.go;constructor<;>first|exact ss|(change _=_;first|(simp only[go_sem,Nat.reduceBEq,Nat.reduceAdd,Nat.reduceLeDiff,reduceIte]<;>rfl)|rfl)|exact Nat.le_of_ble_eq_true rfl|decide|(repeat' first|(apply Lk.go;constructor)|assumption|exact nb ‹_› ‹_›|exact nt ‹_› ‹_›))|assumption))
   all_goals (refine avle_eq ?_; rw [AV.bool.injEq]; simp [validV] at *; try (simp [*]; done))
   all_goals (simp [*]; try omega)
  ·intro h2
   repeat' first|(apply Sp.go;·constructor<;>first|exact ss|(change _=_;first|(simp only[go_sem,Nat.reduceBEq,Nat.reduceAdd,Nat.reduceLeDiff,reduceIte]<;>rfl)|rfl)|exact Nat.le_of_ble_eq_true rfl|decide|(repeat' first|(apply Lk.go;constructor)|assumption|exact nb ‹_› ‹_›|exact nt ‹_› ‹_›))|(intro b hb;repeat first|(refine fe hb ?_;intro _ _ hb)|(refine fT hb ?_;intro hb))|refine rt ?_|refine gA rfl ?_|refine gB rfl ?_|apply cT rfl|apply cF rfl|(apply DM.gbT;rfl)|(apply DM.gbF;rfl)|intro h
   (apply Sr.go;·constructor<;>first|(apply Lk.go;constructor<;>first|exact ss|(change _=_;first|(simp only[go_sem,Nat.reduceBEq,Nat.reduceAdd,Nat.reduceLeDiff,reduceIte]<;>rfl)|rfl)|exact Nat.le_of_ble_eq_true rfl|decide|(repeat' first|(apply Lk.go;constructor)|assumption|exact nb ‹_› ‹_›|exact nt ‹_› ‹_›))|assumption)
   refine avle_eq ?_; rw [AV.bool.injEq]; simp [validV] at *; simp [*]
def numberV (v : Val) : Int := if v.k = 1 then v.n else if v.k = 2 then v.s.length else 0
theorem p96 (v : Val) : Pure Try.prog 96 [v.av] (.int .i64 (numberV v)) := by
 refine pure_intro mo Try.func96 c96 fun H => ?_
 unfold e96 r96
 simp only [initEnv, initFrom]
 repeat' first|(apply Sp.go;·constructor<;>first|exact ss|(change _=_;first|(simp only[go_sem,Nat.reduceBEq,Nat.reduceAdd,Nat.reduceLeDiff,reduceIte]<;>rfl)|rfl)|exact Nat.le_of_ble_eq_true rfl|decide|(repeat' first|(apply Lk.go;constructor)|assumption|exact nb ‹_› ‹_›|exact nt ‹_› ‹_›))|(intro b hb;repeat first|(refine fe hb ?_;intro _ _ hb)|(refine fT hb ?_;intro hb))|refine rt ?_|refine gA rfl ?_|refine gB rfl ?_|apply cT rfl|apply cF rfl|(apply DM.gbT;rfl)|(apply DM.gbF;rfl)|intro h
 (apply AM.cond; (· rfl))
 ·intro h1
  repeat' first|(apply Sp.go;·constructor<;>first|exact ss|(change _=_;first|(simp only[go_sem,Nat.reduceBEq,Nat.reduceAdd,Nat.reduceLeDiff,reduceIte]<;>rfl)|rfl)|exact Nat.le_of_ble_eq_true rfl|decide|(repeat' first|(apply Lk.go;constructor)|assumption|exact nb ‹_› ‹_›|exact nt ‹_› ‹_›))|(intro b hb;repeat first|(refine fe hb ?_;intro _ _ hb)|(refine fT hb ?_;intro hb))|refine rt ?_|refine gA rfl ?_|refine gB rfl ?_|apply cT rfl|apply cF rfl|(apply DM.gbT;rfl)|(apply DM.gbF;rfl)|intro h
  (apply Sr.go;·constructor<;>first|(apply Lk.go;constructor<;>first|exact ss|(change _=_;first|(simp only[go_sem,Nat.reduceBEq,Nat.reduceAdd,Nat.reduceLeDiff,reduceIte]<;>rfl)|rfl)|exact Nat.le_of_ble_eq_true rfl|decide|(repeat' first|(apply Lk.go;constructor)|assumption|exact nb ‹_› ‹_›|exact nt ‹_› ‹_›))|assumption)
  refine avle_int ?_; simp [numberV] at *; simp [*]
 ·intro h1
  repeat' first|(apply Sp.go;·constructor<;>first|exact ss|(change _=_;first|(simp only[go_sem,Nat.reduceBEq,Nat.reduceAdd,Nat.reduceLeDiff,reduceIte]<;>rfl)|rfl)|exact Nat.le_of_ble_eq_true rfl|decide|(repeat' first|(apply Lk.go;constructor)|assumption|exact nb ‹_› ‹_›|exact nt ‹_› ‹_›))|(intro b hb;repeat first|(refine fe hb ?_;intro _ _ hb)|(refine fT hb ?_;intro hb))|refine rt ?_|refine gA rfl ?_|refine gB rfl ?_|apply cT rfl|apply cF rfl|(apply DM.gbT;rfl)|(apply DM.gbF;rfl)|intro h
  (apply AM.cond; (· rfl))
  ·intro h2
   repeat' first|(apply Sp.go;·constructor<;>first|exact ss|(change _=_;first|(simp only[go_sem,Nat.reduceBEq,Nat.reduceAdd,Nat.reduceLeDiff,reduceIte]<;>rfl)|rfl)|exact Nat.le_of_ble_eq_true rfl|decide|(repeat' first|(apply Lk.go;constructor)|assumption|exact nb ‹_› ‹_›|exact nt ‹_› ‹_›))|(intro b hb;repeat first|(refine fe hb ?_;intro _ _ hb)|(refine fT hb ?_;intro hb))|refine rt ?_|refine gA rfl ?_|refine gB rfl ?_|apply cT rfl|apply cF rfl|(apply DM.gbT;rfl)|(apply DM.gbF;rfl)|intro h
   (apply Sr.go;·constructor<;>first|(apply Lk.go;constructor<;>first|exact ss|(change _=_;first|(simp only[go_sem,Nat.reduceBEq,Nat.reduceAdd,Nat.reduceLeDiff,reduceIte]<;>rfl)|rfl)|exact Nat.le_of_ble_eq_true rfl|decide|(repeat' first|(apply Lk.go;constructor)|assumption|exact nb ‹_› ‹_›|exact nt ‹_› ‹_›))|assumption)
   refine avle_int ?_; simp [numberV] at *; simp [*]
  ·intro h2
   repeat' first|(apply Sp.go;·constructor<;>first|exact ss|(change _=_;first|(simp only[go_sem,Nat.reduceBEq,Nat.reduceAdd,Nat.reduceLeDiff,reduceIte]<;>rfl)|rfl)|exact Nat.le_of_ble_eq_true rfl|decide|(repeat' first|(apply Lk.go;constructor)|assumption|exact nb ‹_› ‹_›|exact nt ‹_› ‹_›))|(intro b hb;repeat first|(refine fe hb ?_;intro _ _ hb)|(refine fT hb ?_;intro hb))|refine rt ?_|refine gA rfl ?_|refine gB rfl ?_|apply cT rfl|apply cF rfl|(apply DM.gbT;rfl)|(apply DM.gbF;rfl)|intro h
   (apply Sr.go;·constructor<;>first|(apply Lk.go;constructor<;>first|exact ss|(change _=_;first|(simp only[go_sem,Nat.reduceBEq,Nat.reduceAdd,Nat.reduceLeDiff,reduceIte]<;>rfl)|rfl)|exact Nat.le_of_ble_eq_true rfl|decide|(repeat' first|(apply Lk.go;constructor)|assumption|exact nb ‹_› ‹_›|exact nt ‹_› ‹_›))|assumption)
   refine avle_int ?_; simp [numberV] at *; simp [*]
structure Sort_ where
 k : Int
 lo : Int
 hi : Int
abbrev Sort_.row (v : Sort_) : List AV := [.int .i64 v.k, .int .i64 v.lo, .int .i64 v.hi]
abbrev Sort_.av (v : Sort_) : AV := .agg [.int .i64 v.k, .int .i64 v.lo, .int .i64 v.hi]
def validS (s : Sort_) : Bool := (decide (s.k = 1) && decide (-1000 ≤ s.lo) && decide (s.lo ≤ s.hi) && decide (s.hi ≤ 1000)) || (decide (s.k = 2) && decide (0 ≤ s.lo) && decide (s.lo ≤ s.hi) && decide (s.hi ≤ 40))
theorem p97 (s : Sort_) : Pure Try.prog 97 [s.av] (.bool (validS s)) := by
 refine pure_intro mo Try.func97 c97 fun H => ?_
 unfold e97 r97
 simp only [initEnv, initFrom]
 repeat' first|(apply Sp.go;·constructor<;>first|exact ss|(change _=_;first|(simp only[go_sem,Nat.reduceBEq,Nat.reduceAdd,Nat.reduceLeDiff,reduceIte]<;>rfl)|rfl)|exact Nat.le_of_ble_eq_true rfl|decide|(repeat' first|(apply Lk.go;constructor)|assumption|exact nb ‹_› ‹_›|exact nt ‹_› ‹_›))|(intro b hb;repeat first|(refine fe hb ?_;intro _ _ hb)|(refine fT hb ?_;intro hb))|refine rt ?_|refine gA rfl ?_|refine gB rfl ?_|apply cT rfl|apply cF rfl|(apply DM.gbT;rfl)|(apply DM.gbF;rfl)|intro h
 (apply AM.cond; (· rfl))
 ·intro h1
  repeat' first|(apply Sp.go;·constructor<;>first|exact ss|(change _=_;first|(simp only[go_sem,Nat.reduceBEq,Nat.reduceAdd,Nat.reduceLeDiff,reduceIte]<;>rfl)|rfl)|exact Nat.le_of_ble_eq_true rfl|decide|(repeat' first|(apply Lk.go;constructor)|assumption|exact nb ‹_› ‹_›|exact nt ‹_› ‹_›))|(intro b hb;repeat first|(refine fe hb ?_;intro _ _ hb)|(refine fT hb ?_;intro hb))|refine rt ?_|refine gA rfl ?_|refine gB rfl ?_|apply cT rfl|apply cF rfl|(apply DM.gbT;rfl)|(apply DM.gbF;rfl)|intro h
  all_goals ((apply Sr.go;·constructor<;>first|(apply Lk.go;constructor<;>first|exact ss|(change _=_;first|(simp only[go_sem,Nat.reduceBEq,Nat.reduceAdd,Nat.reduceLeDiff,reduceIte]<;>rfl)|rfl)|exact Nat.le_of_ble_eq_true rfl|decide|(repeat' first|(apply Lk.go;constructor)|assumption|exact nb ‹_› ‹_›|exact nt ‹_› ‹_›))|assumption))
  all_goals (refine avle_eq ?_; rw [AV.bool.injEq]; simp [validS] at *; try (simp [*]; done))
  all_goals (simp [*]; try omega)
 ·intro h1
  repeat' first|(apply Sp.go;·constructor<;>first|exact ss|(change _=_;first|(simp only[go_sem,Nat.reduceBEq,Nat.reduceAdd,Nat.reduceLeDiff,reduceIte]<;>rfl)|rfl)|exact Nat.le_of_ble_eq_true rfl|decide|(repeat' first|(apply Lk.go;constructor)|assumption|exact nb ‹_› ‹_›|exact nt ‹_› ‹_›))|(intro b hb;repeat first|(refine fe hb ?_;intro _ _ hb)|(refine fT hb ?_;intro hb))|refine rt ?_|refine gA rfl ?_|refine gB rfl ?_|apply cT rfl|apply cF rfl|(apply DM.gbT;rfl)|(apply DM.gbF;rfl)|intro h
  (apply AM.cond; (· rfl))
  ·intro h2
   repeat' first|(apply Sp.go;·constructor<;>first|exact ss|(change _=_;first|(simp only[go_sem,Nat.reduceBEq,Nat.reduceAdd,Nat.reduceLeDiff,reduceIte]<;>rfl)|rfl)|exact Nat.le_of_ble_eq_true rfl|decide|(repeat' first|(apply Lk.go;constructor)|assumption|exact nb ‹_› ‹_›|exact nt ‹_› ‹_›))|(intro b hb;repeat first|(refine fe hb ?_;intro _ _ hb)|(refine fT hb ?_;intro hb))|refine rt ?_|refine gA rfl ?_|refine gB rfl ?_|apply cT rfl|apply cF rfl|(apply DM.gbT;rfl)|(apply DM.gbF;rfl)|intro h
   all_goals ((apply Sr.go;·constructor<;>first|(apply Lk.go;constructor<;>first|exact ss|(change _=_;first|(simp only[go_sem,Nat.reduceBEq,Nat.reduceAdd,Nat.reduceLeDiff,reduceIte]<;>rfl)|rfl)|exact Nat.le_of_ble_eq_true rfl|decide|(repeat' first|(apply Lk.go;constructor)|assumption|exact nb ‹_› ‹_›|exact nt ‹_› ‹_›))|assumption))
   all_goals (refine avle_eq ?_; rw [AV.bool.injEq]; simp [validS] at *; try (simp [*]; done))
   all_goals (simp [*]; try omega)
  ·intro h2
   repeat' first|(apply Sp.go;·constructor<;>first|exact ss|(change _=_;first|(simp only[go_sem,Nat.reduceBEq,Nat.reduceAdd,Nat.reduceLeDiff,reduceIte]<;>rfl)|rfl)|exact Nat.le_of_ble_eq_true rfl|decide|(repeat' first|(apply Lk.go;constructor)|assumption|exact nb ‹_› ‹_›|exact nt ‹_› ‹_›))|(intro b hb;repeat first|(refine fe hb ?_;intro _ _ hb)|(refine fT hb ?_;intro hb))|refine rt ?_|refine gA rfl ?_|refine gB rfl ?_|apply cT rfl|apply cF rfl|(apply DM.gbT;rfl)|(apply DM.gbF;rfl)|intro h
   (apply Sr.go;·constructor<;>first|(apply Lk.go;constructor<;>first|exact ss|(change _=_;first|(simp only[go_sem,Nat.reduceBEq,Nat.reduceAdd,Nat.reduceLeDiff,reduceIte]<;>rfl)|rfl)|exact Nat.le_of_ble_eq_true rfl|decide|(repeat' first|(apply Lk.go;constructor)|assumption|exact nb ‹_› ‹_›|exact nt ‹_› ‹_›))|assumption)
   refine avle_eq ?_; rw [AV.bool.injEq]; simp [validS] at *; simp [*]
def fitsV (s : Sort_) (v : Val) : Bool := validS s && validV v && decide (s.k = v.k) && decide (s.lo ≤ numberV v) && decide (numberV v ≤ s.hi)
theorem p61 (s : Sort_) (v : Val) : Pure Try.prog 61 [s.av, v.av] (.bool (fitsV s v)) := by
 refine pure_intro mo Try.func61 c61 fun H => ?_
 unfold e61 r61
 simp only [initEnv, initFrom]
 repeat' first|(apply Sp.go;·constructor<;>first|exact ss|(change _=_;first|(simp only[go_sem,Nat.reduceBEq,Nat.reduceAdd,Nat.reduceLeDiff,reduceIte]<;>rfl)|rfl)|exact Nat.le_of_ble_eq_true rfl|decide|(repeat' first|(apply Lk.go;constructor)|assumption|exact nb ‹_› ‹_›|exact nt ‹_› ‹_›))|(intro b hb;repeat first|(refine fe hb ?_;intro _ _ hb)|(refine fT hb ?_;intro hb))|refine rt ?_|refine gA rfl ?_|refine gB rfl ?_|apply cT rfl|apply cF rfl|(apply DM.gbT;rfl)|(apply DM.gbF;rfl)|(apply DM.pcs (p96 v); (· simp only [go_sem, Nat.reduceBEq, Nat.reduceAdd] <;> rfl); (· exact AVLes.refl _))|(apply DM.pcs (p97 s); (· simp only [go_sem, Nat.reduceBEq, Nat.reduceAdd] <;> rfl); (· exact AVLes.refl _))|intro h
 ·(apply DM.pcs (p55 v); (· simp only [go_sem, Nat.reduceBEq, Nat.reduceAdd] <;> rfl); (· exact AVLes.refl _))
  repeat' first|(apply Sp.go;·constructor<;>first|exact ss|(change _=_;first|(simp only[go_sem,Nat.reduceBEq,Nat.reduceAdd,Nat.reduceLeDiff,reduceIte]<;>rfl)|rfl)|exact Nat.le_of_ble_eq_true rfl|decide|(repeat' first|(apply Lk.go;constructor)|assumption|exact nb ‹_› ‹_›|exact nt ‹_› ‹_›))|(intro b hb;repeat first|(refine fe hb ?_;intro _ _ hb)|(refine fT hb ?_;intro hb))|refine rt ?_|refine gA rfl ?_|refine gB rfl ?_|apply cT rfl|apply cF rfl|(apply DM.gbT;rfl)|(apply DM.gbF;rfl)|intro h
  all_goals ((apply Sr.go;·constructor<;>first|(apply Lk.go;constructor<;>first|exact ss|(change _=_;first|(simp only[go_sem,Nat.reduceBEq,Nat.reduceAdd,Nat.reduceLeDiff,reduceIte]<;>rfl)|rfl)|exact Nat.le_of_ble_eq_true rfl|decide|(repeat' first|(apply Lk.go;constructor)|assumption|exact nb ‹_› ‹_›|exact nt ‹_› ‹_›))|assumption))
  all_goals (refine avle_eq ?_; rw [AV.bool.injEq]; simp [fitsV] at *; simp [*]; try omega)
 ·(apply Sr.go;·constructor<;>first|(apply Lk.go;constructor<;>first|exact ss|(change _=_;first|(simp only[go_sem,Nat.reduceBEq,Nat.reduceAdd,Nat.reduceLeDiff,reduceIte]<;>rfl)|rfl)|exact Nat.le_of_ble_eq_true rfl|decide|(repeat' first|(apply Lk.go;constructor)|assumption|exact nb ‹_› ‹_›|exact nt ‹_› ‹_›))|assumption)
  refine avle_eq ?_; rw [AV.bool.injEq]; simp [fitsV] at *; simp [*]
theorem p54 (v : Val) : Pure Try.prog 54 [v.av] (.bool (!(validV v))) := by
 refine pure_intro mo Try.func54 c54 fun H => ?_
 unfold e54 r54
 simp only [initEnv, initFrom]
 repeat' first|(apply Sp.go;·constructor<;>first|exact ss|(change _=_;first|(simp only[go_sem,Nat.reduceBEq,Nat.reduceAdd,Nat.reduceLeDiff,reduceIte]<;>rfl)|rfl)|exact Nat.le_of_ble_eq_true rfl|decide|(repeat' first|(apply Lk.go;constructor)|assumption|exact nb ‹_› ‹_›|exact nt ‹_› ‹_›))|(intro b hb;repeat first|(refine fe hb ?_;intro _ _ hb)|(refine fT hb ?_;intro hb))|refine rt ?_|refine gA rfl ?_|refine gB rfl ?_|apply cT rfl|apply cF rfl|(apply DM.gbT;rfl)|(apply DM.gbF;rfl)|(apply DM.pcs (p55 v); (· simp only [go_sem, Nat.reduceBEq, Nat.reduceAdd] <;> rfl); (· exact AVLes.refl _))|intro h
 (apply Sr.go;·constructor<;>first|(apply Lk.go;constructor<;>first|exact ss|(change _=_;first|(simp only[go_sem,Nat.reduceBEq,Nat.reduceAdd,Nat.reduceLeDiff,reduceIte]<;>rfl)|rfl)|exact Nat.le_of_ble_eq_true rfl|decide|(repeat' first|(apply Lk.go;constructor)|assumption|exact nb ‹_› ‹_›|exact nt ‹_› ‹_›))|assumption)
 exact AVLe.refl _
theorem p67' (s : List UInt8) : Pure Try.prog 67 [.str s] (.bool (isName s)) :=
 pure_assume (G := s.length ≤ maxLen) (fun m vs h => by simp only [RvL, Rv] at h; obtain ⟨_, _, _, ⟨_, h⟩, _⟩ := h; exact h) (p67 s)
def inB (n lo hi : Int) : Bool := decide (lo ≤ n) && decide (n ≤ hi)
theorem p68 (n lo hi : Int) : Pure Try.prog 68 [.int .i64 n, .int .i64 lo, .int .i64 hi] (.bool (inB n lo hi)) := by
 refine pure_intro mo Try.func68 c68 fun H => ?_
 unfold e68 r68
 simp only [initEnv, initFrom]
 repeat' first|(apply Sp.go;·constructor<;>first|exact ss|(change _=_;first|(simp only[go_sem,Nat.reduceBEq,Nat.reduceAdd,Nat.reduceLeDiff,reduceIte]<;>rfl)|rfl)|exact Nat.le_of_ble_eq_true rfl|decide|(repeat' first|(apply Lk.go;constructor)|assumption|exact nb ‹_› ‹_›|exact nt ‹_› ‹_›))|(intro b hb;repeat first|(refine fe hb ?_;intro _ _ hb)|(refine fT hb ?_;intro hb))|refine rt ?_|refine gA rfl ?_|refine gB rfl ?_|apply cT rfl|apply cF rfl|(apply DM.gbT;rfl)|(apply DM.gbF;rfl)|intro h
 all_goals ((apply Sr.go;·constructor<;>first|(apply Lk.go;constructor<;>first|exact ss|(change _=_;first|(simp only[go_sem,Nat.reduceBEq,Nat.reduceAdd,Nat.reduceLeDiff,reduceIte]<;>rfl)|rfl)|exact Nat.le_of_ble_eq_true rfl|decide|(repeat' first|(apply Lk.go;constructor)|assumption|exact nb ‹_› ‹_›|exact nt ‹_› ‹_›))|assumption))
 all_goals (refine avle_eq ?_; rw [AV.bool.injEq, Bool.eq_iff_iff]; simp [inB] at *; try omega)
def numd (op : Int) : Int × Int × Bool :=
 if op = 1 then (-1000, 1000, true) else if op = 3 ∨ op = 5 then (0, 11, true) else if op = 4 then (0, 3, true) else if op = 19 ∨ op = 20 ∨ op = 22 then (0, 999, true) else if op = 21 then (1, 50, true) else (0, 0, false)
theorem p113 (op : Int) : Pure Try.prog 113 [.int .i64 op] (.tup [.int .i64 (numd op).1, .int .i64 (numd op).2.1, .bool (numd op).2.2]) := by
 have key : ∀ {a b : Int} {c : Bool}, numd op = (a, b, c) → AVLe (.tup [.int .i64 a, .int .i64 b, .bool c]) (.tup [.int .i64 (numd op).1, .int .i64 (numd op).2.1, .bool (numd op).2.2]) := by
  intro a b c h
  rw [h]
  exact AVLe.refl _
 refine pure_intro mo Try.func113 c113 fun H => ?_
 unfold e113 r113
 simp only [initEnv, initFrom]
 repeat' first|(apply Sp.go;·constructor<;>first|exact ss|(change _=_;first|(simp only[go_sem,Nat.reduceBEq,Nat.reduceAdd,Nat.reduceLeDiff,reduceIte]<;>rfl)|rfl)|exact Nat.le_of_ble_eq_true rfl|decide|(repeat' first|(apply Lk.go;constructor)|assumption|exact nb ‹_› ‹_›|exact nt ‹_› ‹_›))|(intro b hb;repeat first|(refine fe hb ?_;intro _ _ hb)|(refine fT hb ?_;intro hb))|refine rt ?_|refine gA rfl ?_|refine gB rfl ?_|apply cT rfl|apply cF rfl|(apply DM.gbT;rfl)|(apply DM.gbF;rfl)|(apply AM.condS;rfl)|intro h
 all_goals ((apply Sr.go;·constructor<;>first|(apply Lk.go;constructor<;>first|exact ss|(change _=_;first|(simp only[go_sem,Nat.reduceBEq,Nat.reduceAdd,Nat.reduceLeDiff,reduceIte]<;>rfl)|rfl)|exact Nat.le_of_ble_eq_true rfl|decide|(repeat' first|(apply Lk.go;constructor)|assumption|exact nb ‹_› ‹_›|exact nt ‹_› ‹_›))|assumption))
 all_goals (refine key ?_; clear key; simp at *; simp [numd, *])
structure Ins_ where
 op : Int
 n : Int
 s : List UInt8
abbrev Ins_.row (v : Ins_) : List AV := [.int .i64 v.op, .int .i64 v.n, .str v.s]
abbrev Ins_.av (v : Ins_) : AV := .agg [.int .i64 v.op, .int .i64 v.n, .str v.s]
def formed (x : Ins_) : Bool :=
 if x.op = 2 then decide (x.n = 0) && validV ⟨2, 0, x.s⟩
 else if (numd x.op).2.2 then inB x.n (numd x.op).1 (numd x.op).2.1 && decide (x.s = []) else inB x.op 1 24 && decide (x.n = 0) && decide (x.s = [])
theorem p71 (x : Ins_) : Pure Try.prog 71 [x.av] (.bool (formed x)) := by
 refine pure_intro mo Try.func71 c71 fun H => ?_
 unfold e71 r71
 simp only [initEnv, initFrom]
 repeat' first|(apply Sp.go;·constructor<;>first|exact ss|(change _=_;first|(simp only[go_sem,Nat.reduceBEq,Nat.reduceAdd,Nat.reduceLeDiff,reduceIte]<;>rfl)|rfl)|exact Nat.le_of_ble_eq_true rfl|decide|(repeat' first|(apply Lk.go;constructor)|assumption|exact nb ‹_› ‹_›|exact nt ‹_› ‹_›))|(intro b hb;repeat first|(refine fe hb ?_;intro _ _ hb)|(refine fT hb ?_;intro hb))|refine rt ?_|refine gA rfl ?_|refine gB rfl ?_|apply cT rfl|apply cF rfl|(apply DM.gbT;rfl)|(apply DM.gbF;rfl)|(apply AM.condS;rfl)|intro h
 ·(apply DM.pcs (p55 ⟨2, 0, x.s⟩); (· simp only [go_sem, Nat.reduceBEq, Nat.reduceAdd] <;> rfl); (· exact AVLes.refl _))
  repeat' first|(apply Sp.go;·constructor<;>first|exact ss|(change _=_;first|(simp only[go_sem,Nat.reduceBEq,Nat.reduceAdd,Nat.reduceLeDiff,reduceIte]<;>rfl)|rfl)|exact Nat.le_of_ble_eq_true rfl|decide|(repeat' first|(apply Lk.go;constructor)|assumption|exact nb ‹_› ‹_›|exact nt ‹_› ‹_›))|(intro b hb;repeat first|(refine fe hb ?_;intro _ _ hb)|(refine fT hb ?_;intro hb))|refine rt ?_|refine gA rfl ?_|refine gB rfl ?_|apply cT rfl|apply cF rfl|(apply DM.gbT;rfl)|(apply DM.gbF;rfl)|(apply AM.condS;rfl)|intro h
  (apply Sr.go;·constructor<;>first|(apply Lk.go;constructor<;>first|exact ss|(change _=_;first|(simp only[go_sem,Nat.reduceBEq,Nat.reduceAdd,Nat.reduceLeDiff,reduceIte]<;>rfl)|rfl)|exact Nat.le_of_ble_eq_true rfl|decide|(repeat' first|(apply Lk.go;constructor)|assumption|exact nb ‹_› ‹_›|exact nt ‹_› ‹_›))|assumption)
  refine avle_eq ?_; rw [AV.bool.injEq]; simp at *; simp [formed, *]
 ·(apply Sr.go;·constructor<;>first|(apply Lk.go;constructor<;>first|exact ss|(change _=_;first|(simp only[go_sem,Nat.reduceBEq,Nat.reduceAdd,Nat.reduceLeDiff,reduceIte]<;>rfl)|rfl)|exact Nat.le_of_ble_eq_true rfl|decide|(repeat' first|(apply Lk.go;constructor)|assumption|exact nb ‹_› ‹_›|exact nt ‹_› ‹_›))|assumption)
  refine avle_eq ?_; rw [AV.bool.injEq]; simp at *; simp [formed, *]
 ·(apply DM.pcs (p113 _); (· simp only [go_sem, Nat.reduceBEq, Nat.reduceAdd] <;> rfl); (· exact AVLes.refl _))
  repeat' first|(apply Sp.go;·constructor<;>first|exact ss|(change _=_;first|(simp only[go_sem,Nat.reduceBEq,Nat.reduceAdd,Nat.reduceLeDiff,reduceIte]<;>rfl)|rfl)|exact Nat.le_of_ble_eq_true rfl|decide|(repeat' first|(apply Lk.go;constructor)|assumption|exact nb ‹_› ‹_›|exact nt ‹_› ‹_›))|(intro b hb;repeat first|(refine fe hb ?_;intro _ _ hb)|(refine fT hb ?_;intro hb))|refine rt ?_|refine gA rfl ?_|refine gB rfl ?_|apply cT rfl|apply cF rfl|(apply DM.gbT;rfl)|(apply DM.gbF;rfl)|(apply AM.condS;rfl)|intro h
  ·(apply DM.pcs (p68 _ _ _); (· simp only [go_sem, Nat.reduceBEq, Nat.reduceAdd] <;> rfl); (· exact AVLes.refl _))
   repeat' first|(apply Sp.go;·constructor<;>first|exact ss|(change _=_;first|(simp only[go_sem,Nat.reduceBEq,Nat.reduceAdd,Nat.reduceLeDiff,reduceIte]<;>rfl)|rfl)|exact Nat.le_of_ble_eq_true rfl|decide|(repeat' first|(apply Lk.go;constructor)|assumption|exact nb ‹_› ‹_›|exact nt ‹_› ‹_›))|(intro b hb;repeat first|(refine fe hb ?_;intro _ _ hb)|(refine fT hb ?_;intro hb))|refine rt ?_|refine gA rfl ?_|refine gB rfl ?_|apply cT rfl|apply cF rfl|(apply DM.gbT;rfl)|(apply DM.gbF;rfl)|(apply AM.condS;rfl)|intro h
   all_goals ((apply Sr.go;·constructor<;>first|(apply Lk.go;constructor<;>first|exact ss|(change _=_;first|(simp only[go_sem,Nat.reduceBEq,Nat.reduceAdd,Nat.reduceLeDiff,reduceIte]<;>rfl)|rfl)|exact Nat.le_of_ble_eq_true rfl|decide|(repeat' first|(apply Lk.go;constructor)|assumption|exact nb ‹_› ‹_›|exact nt ‹_› ‹_›))|assumption))
   all_goals (refine avle_eq ?_; rw [AV.bool.injEq]; simp at *; simp [formed, *])
  ·(apply DM.pcs (p68 _ _ _); (· simp only [go_sem, Nat.reduceBEq, Nat.reduceAdd] <;> rfl); (· exact AVLes.refl _))
   repeat' first|(apply Sp.go;·constructor<;>first|exact ss|(change _=_;first|(simp only[go_sem,Nat.reduceBEq,Nat.reduceAdd,Nat.reduceLeDiff,reduceIte]<;>rfl)|rfl)|exact Nat.le_of_ble_eq_true rfl|decide|(repeat' first|(apply Lk.go;constructor)|assumption|exact nb ‹_› ‹_›|exact nt ‹_› ‹_›))|(intro b hb;repeat first|(refine fe hb ?_;intro _ _ hb)|(refine fT hb ?_;intro hb))|refine rt ?_|refine gA rfl ?_|refine gB rfl ?_|apply cT rfl|apply cF rfl|(apply DM.gbT;rfl)|(apply DM.gbF;rfl)|(apply AM.condS;rfl)|intro h
   all_goals ((apply Sr.go;·constructor<;>first|(apply Lk.go;constructor<;>first|exact ss|(change _=_;first|(simp only[go_sem,Nat.reduceBEq,Nat.reduceAdd,Nat.reduceLeDiff,reduceIte]<;>rfl)|rfl)|exact Nat.le_of_ble_eq_true rfl|decide|(repeat' first|(apply Lk.go;constructor)|assumption|exact nb ‹_› ‹_›|exact nt ‹_› ‹_›))|assumption))
   all_goals (refine avle_eq ?_; rw [AV.bool.injEq]; simp at *; simp [formed, *])
structure Var_ where
 name : List UInt8
 sort : Sort_
 init : Val
abbrev Var_.row (v : Var_) : List AV := [.str v.name, .int .i64 v.sort.k, .int .i64 v.sort.lo, .int .i64 v.sort.hi, .int .i64 v.init.k, .int .i64 v.init.n, .str v.init.s]
abbrev Var_.av (v : Var_) : AV := .agg [.str v.name, .int .i64 v.sort.k, .int .i64 v.sort.lo, .int .i64 v.sort.hi, .int .i64 v.init.k, .int .i64 v.init.n, .str v.init.s]
structure Hd where
 peer : Int
 label : Int
 entry : Int
abbrev Hd.row (v : Hd) : List AV := [.int .i64 v.peer, .int .i64 v.label, .int .i64 v.entry]
abbrev Hd.av (v : Hd) : AV := .agg [.int .i64 v.peer, .int .i64 v.label, .int .i64 v.entry]
structure Of_ where
 peer : Int
 label : Int
 cond : Int
 args : Int
abbrev Of_.row (v : Of_) : List AV := [.int .i64 v.peer, .int .i64 v.label, .int .i64 v.cond, .int .i64 v.args]
structure Prog where
 name : List UInt8
 role : Int
 vars : List Var_
 hs : List Hd
 os : List Of_
 code : List Ins_
abbrev Prog.cells (p : Prog) : List AV := [.str p.name, .int .i64 p.role, .vs 7 (p.vars.map Var_.row), .vs 3 (p.hs.map Hd.row), .vs 4 (p.os.map Of_.row), .vs 3 (p.code.map Ins_.row)]
abbrev Prog.av (p : Prog) : AV := .agg [.str p.name, .int .i64 p.role, .vs 7 (p.vars.map Var_.row), .vs 3 (p.hs.map Hd.row), .vs 4 (p.os.map Of_.row), .vs 3 (p.code.map Ins_.row)]
structure Prog.Ok (p : Prog) : Prop where
 vars : p.vars.length ≤ maxLen
 hs : p.hs.length ≤ maxLen
 os : p.os.length ≤ maxLen
 code : p.code.length ≤ maxLen
theorem vs_len {m : Mem} {size : Nat} {rows : List (List AV)} {v : Value} (h : Rv m (.vs size rows) v) : rows.length ≤ maxLen := by
 simp only [Rv] at h
 obtain ⟨_, _, _, _, rfl, ⟨h1, h2⟩, _⟩ := h
 omega
theorem Prog.ok {m : Mem} {p : Prog} {v : Value} (h : Rv m p.av v) : p.Ok := by
 simp only [Rv] at h
 obtain ⟨l, _, h⟩ := h
 simp only [RvL] at h
 obtain ⟨_, _, _, _, _, _, _, _, _, _, _, h1, _, _, _, h2, _, _, _, h3, _, _, _, h4, _⟩ := h
 have := vs_len h1; have := vs_len h2; have := vs_len h3; have := vs_len h4
 simp only [List.length_map] at *
 constructor <;> assumption
theorem ok_args {f : FuncId} {p : Prog} {rest : List AV} {r : AV} (h : p.Ok → Pure Try.prog f (p.av :: rest) r) : Pure Try.prog f (p.av :: rest) r :=
 pure_assume (G := p.Ok) (fun m vs h => by simp only [RvL] at h; obtain ⟨_, _, _, h, _⟩ := h; exact Prog.ok h) h
def Prog.target (p : Prog) (n : Int) : Bool := inB n 0 (p.code.length - 1)
def Prog.party (p : Prog) (peer label : Int) : Bool := inB peer 0 5 && decide (peer ≠ p.role) && inB label 0 39
theorem p72 (p : Prog) (n : Int) : Pure Try.prog 72 [p.av, .int .i64 n] (.bool (p.target n)) := by
 refine ok_args fun ok => ?_
 refine pure_intro mo Try.func72 c72 fun H => ?_
 unfold e72 r72
 simp only [initEnv, initFrom]
 repeat' first|(apply Sp.go;·constructor<;>first|exact ss|(change _=_;first|(simp only[go_sem,Nat.reduceBEq,Nat.reduceAdd,Nat.reduceLeDiff,reduceIte]<;>rfl)|rfl)|exact Nat.le_of_ble_eq_true rfl|decide|(repeat' first|(apply Lk.go;constructor)|assumption|exact nb ‹_› ‹_›|exact nt ‹_› ‹_›))|(intro b hb;repeat first|(refine fe hb ?_;intro _ _ hb)|(refine fT hb ?_;intro hb))|refine rt ?_|refine gA rfl ?_|refine gB rfl ?_|apply cT rfl|apply cF rfl|(apply DM.gbT;rfl)|(apply DM.gbF;rfl)|intro h
 (apply DM.pcs (p68 _ _ _); (· simp only [go_sem, Nat.reduceBEq, Nat.reduceAdd] <;> rfl); (· exact AVLes.refl _))
 repeat' first|(apply Sp.go;·constructor<;>first|exact ss|(change _=_;first|(simp only[go_sem,Nat.reduceBEq,Nat.reduceAdd,Nat.reduceLeDiff,reduceIte]<;>rfl)|rfl)|exact Nat.le_of_ble_eq_true rfl|decide|(repeat' first|(apply Lk.go;constructor)|assumption|exact nb ‹_› ‹_›|exact nt ‹_› ‹_›))|(intro b hb;repeat first|(refine fe hb ?_;intro _ _ hb)|(refine fT hb ?_;intro hb))|refine rt ?_|refine gA rfl ?_|refine gB rfl ?_|apply cT rfl|apply cF rfl|(apply DM.gbT;rfl)|(apply DM.gbF;rfl)|intro h
 (apply Sr.go;·constructor<;>first|(apply Lk.go;constructor<;>first|exact ss|(change _=_;first|(simp only[go_sem,Nat.reduceBEq,Nat.reduceAdd,Nat.reduceLeDiff,reduceIte]<;>rfl)|rfl)|exact Nat.le_of_ble_eq_true rfl|decide|(repeat' first|(apply Lk.go;constructor)|assumption|exact nb ‹_› ‹_›|exact nt ‹_› ‹_›))|assumption)
 refine avle_eq ?_
 have := ok.code
 rw [Prog.target, List.length_map, wrap64 (by omega) (by unfold maxLen at this; omega)]
theorem p111 (p : Prog) (peer label : Int) : Pure Try.prog 111 [p.av, .int .i64 peer, .int .i64 label] (.bool (p.party peer label)) := by
 refine pure_intro mo Try.func111 c111 fun H => ?_
 unfold e111 r111
 simp only [initEnv, initFrom]
 repeat' first|(apply Sp.go;·constructor<;>first|exact ss|(change _=_;first|(simp only[go_sem,Nat.reduceBEq,Nat.reduceAdd,Nat.reduceLeDiff,reduceIte]<;>rfl)|rfl)|exact Nat.le_of_ble_eq_true rfl|decide|(repeat' first|(apply Lk.go;constructor)|assumption|exact nb ‹_› ‹_›|exact nt ‹_› ‹_›))|(intro b hb;repeat first|(refine fe hb ?_;intro _ _ hb)|(refine fT hb ?_;intro hb))|refine rt ?_|refine gA rfl ?_|refine gB rfl ?_|apply cT rfl|apply cF rfl|(apply DM.gbT;rfl)|(apply DM.gbF;rfl)|intro h
 (apply DM.pcs (p68 _ _ _); (· simp only [go_sem, Nat.reduceBEq, Nat.reduceAdd] <;> rfl); (· exact AVLes.refl _))
 repeat' first|(apply Sp.go;·constructor<;>first|exact ss|(change _=_;first|(simp only[go_sem,Nat.reduceBEq,Nat.reduceAdd,Nat.reduceLeDiff,reduceIte]<;>rfl)|rfl)|exact Nat.le_of_ble_eq_true rfl|decide|(repeat' first|(apply Lk.go;constructor)|assumption|exact nb ‹_› ‹_›|exact nt ‹_› ‹_›))|(intro b hb;repeat first|(refine fe hb ?_;intro _ _ hb)|(refine fT hb ?_;intro hb))|refine rt ?_|refine gA rfl ?_|refine gB rfl ?_|apply cT rfl|apply cF rfl|(apply DM.gbT;rfl)|(apply DM.gbF;rfl)|intro h
 ·(apply DM.pcs (p68 _ _ _); (· simp only [go_sem, Nat.reduceBEq, Nat.reduceAdd] <;> rfl); (· exact AVLes.refl _))
  repeat' first|(apply Sp.go;·constructor<;>first|exact ss|(change _=_;first|(simp only[go_sem,Nat.reduceBEq,Nat.reduceAdd,Nat.reduceLeDiff,reduceIte]<;>rfl)|rfl)|exact Nat.le_of_ble_eq_true rfl|decide|(repeat' first|(apply Lk.go;constructor)|assumption|exact nb ‹_› ‹_›|exact nt ‹_› ‹_›))|(intro b hb;repeat first|(refine fe hb ?_;intro _ _ hb)|(refine fT hb ?_;intro hb))|refine rt ?_|refine gA rfl ?_|refine gB rfl ?_|apply cT rfl|apply cF rfl|(apply DM.gbT;rfl)|(apply DM.gbF;rfl)|intro h
  all_goals ((apply Sr.go;·constructor<;>first|(apply Lk.go;constructor<;>first|exact ss|(change _=_;first|(simp only[go_sem,Nat.reduceBEq,Nat.reduceAdd,Nat.reduceLeDiff,reduceIte]<;>rfl)|rfl)|exact Nat.le_of_ble_eq_true rfl|decide|(repeat' first|(apply Lk.go;constructor)|assumption|exact nb ‹_› ‹_›|exact nt ‹_› ‹_›))|assumption))
  all_goals (refine avle_eq ?_; rw [AV.bool.injEq]; simp at *; simp [Prog.party, *])
 all_goals ((apply Sr.go;·constructor<;>first|(apply Lk.go;constructor<;>first|exact ss|(change _=_;first|(simp only[go_sem,Nat.reduceBEq,Nat.reduceAdd,Nat.reduceLeDiff,reduceIte]<;>rfl)|rfl)|exact Nat.le_of_ble_eq_true rfl|decide|(repeat' first|(apply Lk.go;constructor)|assumption|exact nb ‹_› ‹_›|exact nt ‹_› ‹_›))|assumption))
 all_goals (refine avle_eq ?_; rw [AV.bool.injEq]; simp at *; simp [Prog.party, *])
theorem row_get {α β : Type} (f : α → β) {l : List α} {i : Nat} {v : α} (h : l[i]? = some v) : (l.map f)[((i : Int)).toNat]? = some (f v) := by simp [h]
def idxP {α : Type} (q : α → Bool) : List α → Int → Int
 | [], _ => -1
 | a :: l, i => if q a then i else idxP q l (i + 1)
theorem p86 (H : AHeap) (f : FuncId) (cap : List AV) (vals : List Val) (q : Val → Bool) (hf : callable Try.prog f = true) (hq : ∀ v ∈ vals, PureAt Try.prog f (v.av :: cap) H (.bool (q v))) : PureAt Try.prog 86 [.vs 3 (vals.map Val.row), .fn f cap] H (.int .i64 (idxP q vals 0)) := by
 refine pureAt_assume (G := vals.length ≤ maxLen) (fun m vs h => by simp only [RvL] at h; obtain ⟨_, _, _, h, _⟩ := h; simpa using vs_len h) fun hlen => ?_
 refine pureAt_intro mo Try.func86 c86 ?_
 unfold e86 r86
 simp only [initEnv, initFrom]
 repeat' first|(apply Sp.go;·constructor<;>first|exact ss|(change _=_;first|(simp only[go_sem,Nat.reduceBEq,Nat.reduceAdd,Nat.reduceLeDiff,reduceIte]<;>rfl)|rfl)|exact Nat.le_of_ble_eq_true rfl|decide|(repeat' first|(apply Lk.go;constructor)|assumption|exact nb ‹_› ‹_›|exact nt ‹_› ‹_›))|(intro b hb;repeat first|(refine fe hb ?_;intro _ _ hb)|(refine fT hb ?_;intro hb))|refine rt ?_|refine gA rfl ?_|refine gB rfl ?_|apply cT rfl|apply cF rfl|(apply DM.gbT;rfl)|(apply DM.gbF;rfl)|intro h
 refine AM.loopX (X := Nat) 0 (fun i => [(0, .vs 3 (vals.map Val.row)), (1, .fn f cap), (7, .int .i64 vals.length), (8, .int .i64 i)]) (fun i H' => H' = H ∧ i ≤ vals.length ∧ idxP q vals 0 = idxP q (vals.drop i) i) (fun i => vals.length - i) ⟨rfl, by omega, by simp⟩ ?_ ?_
 ·(repeat first | exact envle_nil _ | (refine envle_cons ?_ ?_; · (simp only [go_sem, Nat.reduceBEq, Nat.reduceAdd]; exact AVLe.refl _)))
  refine envle_cons ?_ (envle_cons ?_ (envle_nil _))
  ·simp only [Env.get, Nat.reduceBEq, cond_true, cond_false, beq_self_eq_true]
   exact avle_int (by simp)
  ·simp only [Env.get, Nat.reduceBEq, cond_true, cond_false, beq_self_eq_true]
   exact AVLe.refl _
 ·intro i H' ⟨e, hi, he⟩
  subst e
  repeat' first|(apply Sp.go;·constructor<;>first|exact ss|(change _=_;first|(simp only[go_sem,Nat.reduceBEq,Nat.reduceAdd,Nat.reduceLeDiff,reduceIte]<;>rfl)|rfl)|exact Nat.le_of_ble_eq_true rfl|decide|(repeat' first|(apply Lk.go;constructor)|assumption|exact nb ‹_› ‹_›|exact nt ‹_› ‹_›))|(intro b hb;repeat first|(refine fe hb ?_;intro _ _ hb)|(refine fT hb ?_;intro hb))|refine rt ?_|refine gA rfl ?_|refine gB rfl ?_|apply cT rfl|apply cF rfl|(apply DM.gbT;rfl)|(apply DM.gbF;rfl)|intro h
  (apply AM.cond; (· rfl))
  ·intro h3
   simp at h3
   obtain ⟨v, hv⟩ : ∃ v, vals[i]? = some v := ⟨_, List.getElem?_eq_getElem h3⟩
   have hd : vals.drop i = v :: vals.drop (i + 1) := by rw [List.drop_eq_getElem_cons h3]; congr 1; rw [List.getElem?_eq_getElem h3] at hv; simpa using hv
   rw [hd] at he
   simp only [idxP] at he
   repeat' first|(apply Sp.go;·constructor<;>first|exact ss|(change _=_;first|(simp only[go_sem,Nat.reduceBEq,Nat.reduceAdd,Nat.reduceLeDiff,reduceIte]<;>rfl)|rfl)|exact Nat.le_of_ble_eq_true rfl|decide|(repeat' first|(apply Lk.go;constructor)|assumption|exact nb ‹_› ‹_›|exact nt ‹_› ‹_›))|(intro b hb;repeat first|(refine fe hb ?_;intro _ _ hb)|(refine fT hb ?_;intro hb))|refine rt ?_|refine gA rfl ?_|refine gB rfl ?_|apply cT rfl|apply cF rfl|(apply DM.gbT;rfl)|(apply DM.gbF;rfl)|(apply DM.ixV (row := v.row) (z := (i : Int)) (by omega) (row_get Val.row hv); (· rfl); (· rfl))|(apply DM.pvat (hq v (List.mem_of_getElem? hv)) (hf); (· rfl); (· simp only [go_sem, Nat.reduceBEq, Nat.reduceAdd] <;> rfl); (· exact AVLes.refl _))|intro h
   (apply AM.cond; (· rfl))
   ·intro h4
    repeat' first|(apply Sp.go;·constructor<;>first|exact ss|(change _=_;first|(simp only[go_sem,Nat.reduceBEq,Nat.reduceAdd,Nat.reduceLeDiff,reduceIte]<;>rfl)|rfl)|exact Nat.le_of_ble_eq_true rfl|decide|(repeat' first|(apply Lk.go;constructor)|assumption|exact nb ‹_› ‹_›|exact nt ‹_› ‹_›))|(intro b hb;repeat first|(refine fe hb ?_;intro _ _ hb)|(refine fT hb ?_;intro hb))|refine rt ?_|refine gA rfl ?_|refine gB rfl ?_|apply cT rfl|apply cF rfl|(apply DM.gbT;rfl)|(apply DM.gbF;rfl)|intro h
    (apply Sr.go;·constructor<;>first|(apply Lk.go;constructor<;>first|exact ss|(change _=_;first|(simp only[go_sem,Nat.reduceBEq,Nat.reduceAdd,Nat.reduceLeDiff,reduceIte]<;>rfl)|rfl)|exact Nat.le_of_ble_eq_true rfl|decide|(repeat' first|(apply Lk.go;constructor)|assumption|exact nb ‹_› ‹_›|exact nt ‹_› ‹_›))|assumption)
    rw [h4] at he
    refine avle_int ?_
    rw [he]; simp
   ·intro h4
    repeat' first|(apply Sp.go;·constructor<;>first|exact ss|(change _=_;first|(simp only[go_sem,Nat.reduceBEq,Nat.reduceAdd,Nat.reduceLeDiff,reduceIte]<;>rfl)|rfl)|exact Nat.le_of_ble_eq_true rfl|decide|(repeat' first|(apply Lk.go;constructor)|assumption|exact nb ‹_› ‹_›|exact nt ‹_› ‹_›))|(intro b hb;repeat first|(refine fe hb ?_;intro _ _ hb)|(refine fT hb ?_;intro hb))|refine rt ?_|refine gA rfl ?_|refine gB rfl ?_|apply cT rfl|apply cF rfl|(apply DM.gbT;rfl)|(apply DM.gbF;rfl)|intro h
    rw [h4] at he
    refine AM.roundX (i + 1) ⟨rfl, by omega, ?_⟩ ?_ ?_
    ·rw [he]; simp
    ·(repeat first | exact envle_nil _ | (refine envle_cons ?_ ?_; · (simp only [go_sem, Nat.reduceBEq, Nat.reduceAdd]; exact AVLe.refl _)))
     refine envle_cons ?_ ?_
     ·simp only [go_sem, Nat.reduceBEq, Nat.reduceAdd]
      refine avle_int ?_
      rw [inc64 h3 hlen]
     exact envle_nil _
    ·show vals.length - (i + 1) < vals.length - i
     omega
  ·intro h3
   repeat' first|(apply Sp.go;·constructor<;>first|exact ss|(change _=_;first|(simp only[go_sem,Nat.reduceBEq,Nat.reduceAdd,Nat.reduceLeDiff,reduceIte]<;>rfl)|rfl)|exact Nat.le_of_ble_eq_true rfl|decide|(repeat' first|(apply Lk.go;constructor)|assumption|exact nb ‹_› ‹_›|exact nt ‹_› ‹_›))|(intro b hb;repeat first|(refine fe hb ?_;intro _ _ hb)|(refine fT hb ?_;intro hb))|refine rt ?_|refine gA rfl ?_|refine gB rfl ?_|apply cT rfl|apply cF rfl|(apply DM.gbT;rfl)|(apply DM.gbF;rfl)|intro h
   (apply Sr.go;·constructor<;>first|(apply Lk.go;constructor<;>first|exact ss|(change _=_;first|(simp only[go_sem,Nat.reduceBEq,Nat.reduceAdd,Nat.reduceLeDiff,reduceIte]<;>rfl)|rfl)|exact Nat.le_of_ble_eq_true rfl|decide|(repeat' first|(apply Lk.go;constructor)|assumption|exact nb ‹_› ‹_›|exact nt ‹_› ‹_›))|assumption)
   simp at h3
   refine avle_int ?_
   rw [he, List.drop_eq_nil_of_le (by omega)]; rfl
theorem p109 (H : AHeap) (f : FuncId) (cap : List AV) (vals : List Var_) (q : Var_ → Bool) (hf : callable Try.prog f = true) (hq : ∀ v ∈ vals, PureAt Try.prog f (v.av :: cap) H (.bool (q v))) : PureAt Try.prog 109 [.vs 7 (vals.map Var_.row), .fn f cap] H (.int .i64 (idxP q vals 0)) := by
 refine pureAt_assume (G := vals.length ≤ maxLen) (fun m vs h => by simp only [RvL] at h; obtain ⟨_, _, _, h, _⟩ := h; simpa using vs_len h) fun hlen => ?_
 refine pureAt_intro mo Try.func109 c109 ?_
 unfold e109 r109
 simp only [initEnv, initFrom]
 repeat' first|(apply Sp.go;·constructor<;>first|exact ss|(change _=_;first|(simp only[go_sem,Nat.reduceBEq,Nat.reduceAdd,Nat.reduceLeDiff,reduceIte]<;>rfl)|rfl)|exact Nat.le_of_ble_eq_true rfl|decide|(repeat' first|(apply Lk.go;constructor)|assumption|exact nb ‹_› ‹_›|exact nt ‹_› ‹_›))|(intro b hb;repeat first|(refine fe hb ?_;intro _ _ hb)|(refine fT hb ?_;intro hb))|refine rt ?_|refine gA rfl ?_|refine gB rfl ?_|apply cT rfl|apply cF rfl|(apply DM.gbT;rfl)|(apply DM.gbF;rfl)|intro h
 refine AM.loopX (X := Nat) 0 (fun i => [(0, .vs 7 (vals.map Var_.row)), (1, .fn f cap), (7, .int .i64 vals.length), (8, .int .i64 i)]) (fun i H' => H' = H ∧ i ≤ vals.length ∧ idxP q vals 0 = idxP q (vals.drop i) i) (fun i => vals.length - i) ⟨rfl, by omega, by simp⟩ ?_ ?_
 ·(repeat first | exact envle_nil _ | (refine envle_cons ?_ ?_; · (simp only [go_sem, Nat.reduceBEq, Nat.reduceAdd]; exact AVLe.refl _)))
  refine envle_cons ?_ (envle_cons ?_ (envle_nil _))
  ·simp only [Env.get, Nat.reduceBEq, cond_true, cond_false, beq_self_eq_true]
   exact avle_int (by simp)
  ·simp only [Env.get, Nat.reduceBEq, cond_true, cond_false, beq_self_eq_true]
   exact AVLe.refl _
 ·intro i H' ⟨e, hi, he⟩
  subst e
  repeat' first|(apply Sp.go;·constructor<;>first|exact ss|(change _=_;first|(simp only[go_sem,Nat.reduceBEq,Nat.reduceAdd,Nat.reduceLeDiff,reduceIte]<;>rfl)|rfl)|exact Nat.le_of_ble_eq_true rfl|decide|(repeat' first|(apply Lk.go;constructor)|assumption|exact nb ‹_› ‹_›|exact nt ‹_› ‹_›))|(intro b hb;repeat first|(refine fe hb ?_;intro _ _ hb)|(refine fT hb ?_;intro hb))|refine rt ?_|refine gA rfl ?_|refine gB rfl ?_|apply cT rfl|apply cF rfl|(apply DM.gbT;rfl)|(apply DM.gbF;rfl)|intro h
  (apply AM.cond; (· rfl))
  ·intro h3
   simp at h3
   obtain ⟨v, hv⟩ : ∃ v, vals[i]? = some v := ⟨_, List.getElem?_eq_getElem h3⟩
   have hd : vals.drop i = v :: vals.drop (i + 1) := by rw [List.drop_eq_getElem_cons h3]; congr 1; rw [List.getElem?_eq_getElem h3] at hv; simpa using hv
   rw [hd] at he
   simp only [idxP] at he
   repeat' first|(apply Sp.go;·constructor<;>first|exact ss|(change _=_;first|(simp only[go_sem,Nat.reduceBEq,Nat.reduceAdd,Nat.reduceLeDiff,reduceIte]<;>rfl)|rfl)|exact Nat.le_of_ble_eq_true rfl|decide|(repeat' first|(apply Lk.go;constructor)|assumption|exact nb ‹_› ‹_›|exact nt ‹_› ‹_›))|(intro b hb;repeat first|(refine fe hb ?_;intro _ _ hb)|(refine fT hb ?_;intro hb))|refine rt ?_|refine gA rfl ?_|refine gB rfl ?_|apply cT rfl|apply cF rfl|(apply DM.gbT;rfl)|(apply DM.gbF;rfl)|(apply DM.ixV (row := v.row) (z := (i : Int)) (by omega) (row_get Var_.row hv); (· rfl); (· rfl))|(apply DM.pvat (hq v (List.mem_of_getElem? hv)) (hf); (· rfl); (· simp only [go_sem, Nat.reduceBEq, Nat.reduceAdd] <;> rfl); (· exact AVLes.refl _))|intro h
   (apply AM.cond; (· rfl))
   ·intro h4
    repeat' first|(apply Sp.go;·constructor<;>first|exact ss|(change _=_;first|(simp only[go_sem,Nat.reduceBEq,Nat.reduceAdd,Nat.reduceLeDiff,reduceIte]<;>rfl)|rfl)|exact Nat.le_of_ble_eq_true rfl|decide|(repeat' first|(apply Lk.go;constructor)|assumption|exact nb ‹_› ‹_›|exact nt ‹_› ‹_›))|(intro b hb;repeat first|(refine fe hb ?_;intro _ _ hb)|(refine fT hb ?_;intro hb))|refine rt ?_|refine gA rfl ?_|refine gB rfl ?_|apply cT rfl|apply cF rfl|(apply DM.gbT;rfl)|(apply DM.gbF;rfl)|intro h
    (apply Sr.go;·constructor<;>first|(apply Lk.go;constructor<;>first|exact ss|(change _=_;first|(simp only[go_sem,Nat.reduceBEq,Nat.reduceAdd,Nat.reduceLeDiff,reduceIte]<;>rfl)|rfl)|exact Nat.le_of_ble_eq_true rfl|decide|(repeat' first|(apply Lk.go;constructor)|assumption|exact nb ‹_› ‹_›|exact nt ‹_› ‹_›))|assumption)
    rw [h4] at he
    refine avle_int ?_
    rw [he]; simp
   ·intro h4
    repeat' first|(apply Sp.go;·constructor<;>first|exact ss|(change _=_;first|(simp only[go_sem,Nat.reduceBEq,Nat.reduceAdd,Nat.reduceLeDiff,reduceIte]<;>rfl)|rfl)|exact Nat.le_of_ble_eq_true rfl|decide|(repeat' first|(apply Lk.go;constructor)|assumption|exact nb ‹_› ‹_›|exact nt ‹_› ‹_›))|(intro b hb;repeat first|(refine fe hb ?_;intro _ _ hb)|(refine fT hb ?_;intro hb))|refine rt ?_|refine gA rfl ?_|refine gB rfl ?_|apply cT rfl|apply cF rfl|(apply DM.gbT;rfl)|(apply DM.gbF;rfl)|intro h
    rw [h4] at he
    refine AM.roundX (i + 1) ⟨rfl, by omega, ?_⟩ ?_ ?_
    ·rw [he]; simp
    ·(repeat first | exact envle_nil _ | (refine envle_cons ?_ ?_; · (simp only [go_sem, Nat.reduceBEq, Nat.reduceAdd]; exact AVLe.refl _)))
     refine envle_cons ?_ ?_
     ·simp only [go_sem, Nat.reduceBEq, Nat.reduceAdd]
      refine avle_int ?_
      rw [inc64 h3 hlen]
     exact envle_nil _
    ·show vals.length - (i + 1) < vals.length - i
     omega
  ·intro h3
   repeat' first|(apply Sp.go;·constructor<;>first|exact ss|(change _=_;first|(simp only[go_sem,Nat.reduceBEq,Nat.reduceAdd,Nat.reduceLeDiff,reduceIte]<;>rfl)|rfl)|exact Nat.le_of_ble_eq_true rfl|decide|(repeat' first|(apply Lk.go;constructor)|assumption|exact nb ‹_› ‹_›|exact nt ‹_› ‹_›))|(intro b hb;repeat first|(refine fe hb ?_;intro _ _ hb)|(refine fT hb ?_;intro hb))|refine rt ?_|refine gA rfl ?_|refine gB rfl ?_|apply cT rfl|apply cF rfl|(apply DM.gbT;rfl)|(apply DM.gbF;rfl)|intro h
   (apply Sr.go;·constructor<;>first|(apply Lk.go;constructor<;>first|exact ss|(change _=_;first|(simp only[go_sem,Nat.reduceBEq,Nat.reduceAdd,Nat.reduceLeDiff,reduceIte]<;>rfl)|rfl)|exact Nat.le_of_ble_eq_true rfl|decide|(repeat' first|(apply Lk.go;constructor)|assumption|exact nb ‹_› ‹_›|exact nt ‹_› ‹_›))|assumption)
   simp at h3
   refine avle_int ?_
   rw [he, List.drop_eq_nil_of_le (by omega)]; rfl
theorem p112 (H : AHeap) (f : FuncId) (cap : List AV) (vals : List Hd) (q : Hd → Bool) (hf : callable Try.prog f = true) (hq : ∀ v ∈ vals, PureAt Try.prog f (v.av :: cap) H (.bool (q v))) : PureAt Try.prog 112 [.vs 3 (vals.map Hd.row), .fn f cap] H (.int .i64 (idxP q vals 0)) := by
 refine pureAt_assume (G := vals.length ≤ maxLen) (fun m vs h => by simp only [RvL] at h; obtain ⟨_, _, _, h, _⟩ := h; simpa using vs_len h) fun hlen => ?_
 refine pureAt_intro mo Try.func112 c112 ?_
 unfold e112 r112
 simp only [initEnv, initFrom]
 repeat' first|(apply Sp.go;·constructor<;>first|exact ss|(change _=_;first|(simp only[go_sem,Nat.reduceBEq,Nat.reduceAdd,Nat.reduceLeDiff,reduceIte]<;>rfl)|rfl)|exact Nat.le_of_ble_eq_true rfl|decide|(repeat' first|(apply Lk.go;constructor)|assumption|exact nb ‹_› ‹_›|exact nt ‹_› ‹_›))|(intro b hb;repeat first|(refine fe hb ?_;intro _ _ hb)|(refine fT hb ?_;intro hb))|refine rt ?_|refine gA rfl ?_|refine gB rfl ?_|apply cT rfl|apply cF rfl|(apply DM.gbT;rfl)|(apply DM.gbF;rfl)|intro h
 refine AM.loopX (X := Nat) 0 (fun i => [(0, .vs 3 (vals.map Hd.row)), (1, .fn f cap), (7, .int .i64 vals.length), (8, .int .i64 i)]) (fun i H' => H' = H ∧ i ≤ vals.length ∧ idxP q vals 0 = idxP q (vals.drop i) i) (fun i => vals.length - i) ⟨rfl, by omega, by simp⟩ ?_ ?_
 ·(repeat first | exact envle_nil _ | (refine envle_cons ?_ ?_; · (simp only [go_sem, Nat.reduceBEq, Nat.reduceAdd]; exact AVLe.refl _)))
  refine envle_cons ?_ (envle_cons ?_ (envle_nil _))
  ·simp only [Env.get, Nat.reduceBEq, cond_true, cond_false, beq_self_eq_true]
   exact avle_int (by simp)
  ·simp only [Env.get, Nat.reduceBEq, cond_true, cond_false, beq_self_eq_true]
   exact AVLe.refl _
 ·intro i H' ⟨e, hi, he⟩
  subst e
  repeat' first|(apply Sp.go;·constructor<;>first|exact ss|(change _=_;first|(simp only[go_sem,Nat.reduceBEq,Nat.reduceAdd,Nat.reduceLeDiff,reduceIte]<;>rfl)|rfl)|exact Nat.le_of_ble_eq_true rfl|decide|(repeat' first|(apply Lk.go;constructor)|assumption|exact nb ‹_› ‹_›|exact nt ‹_› ‹_›))|(intro b hb;repeat first|(refine fe hb ?_;intro _ _ hb)|(refine fT hb ?_;intro hb))|refine rt ?_|refine gA rfl ?_|refine gB rfl ?_|apply cT rfl|apply cF rfl|(apply DM.gbT;rfl)|(apply DM.gbF;rfl)|intro h
  (apply AM.cond; (· rfl))
  ·intro h3
   simp at h3
   obtain ⟨v, hv⟩ : ∃ v, vals[i]? = some v := ⟨_, List.getElem?_eq_getElem h3⟩
   have hd : vals.drop i = v :: vals.drop (i + 1) := by rw [List.drop_eq_getElem_cons h3]; congr 1; rw [List.getElem?_eq_getElem h3] at hv; simpa using hv
   rw [hd] at he
   simp only [idxP] at he
   repeat' first|(apply Sp.go;·constructor<;>first|exact ss|(change _=_;first|(simp only[go_sem,Nat.reduceBEq,Nat.reduceAdd,Nat.reduceLeDiff,reduceIte]<;>rfl)|rfl)|exact Nat.le_of_ble_eq_true rfl|decide|(repeat' first|(apply Lk.go;constructor)|assumption|exact nb ‹_› ‹_›|exact nt ‹_› ‹_›))|(intro b hb;repeat first|(refine fe hb ?_;intro _ _ hb)|(refine fT hb ?_;intro hb))|refine rt ?_|refine gA rfl ?_|refine gB rfl ?_|apply cT rfl|apply cF rfl|(apply DM.gbT;rfl)|(apply DM.gbF;rfl)|(apply DM.ixV (row := v.row) (z := (i : Int)) (by omega) (row_get Hd.row hv); (· rfl); (· rfl))|(apply DM.pvat (hq v (List.mem_of_getElem? hv)) (hf); (· rfl); (· simp only [go_sem, Nat.reduceBEq, Nat.reduceAdd] <;> rfl); (· exact AVLes.refl _))|intro h
   (apply AM.cond; (· rfl))
   ·intro h4
    repeat' first|(apply Sp.go;·constructor<;>first|exact ss|(change _=_;first|(simp only[go_sem,Nat.reduceBEq,Nat.reduceAdd,Nat.reduceLeDiff,reduceIte]<;>rfl)|rfl)|exact Nat.le_of_ble_eq_true rfl|decide|(repeat' first|(apply Lk.go;constructor)|assumption|exact nb ‹_› ‹_›|exact nt ‹_› ‹_›))|(intro b hb;repeat first|(refine fe hb ?_;intro _ _ hb)|(refine fT hb ?_;intro hb))|refine rt ?_|refine gA rfl ?_|refine gB rfl ?_|apply cT rfl|apply cF rfl|(apply DM.gbT;rfl)|(apply DM.gbF;rfl)|intro h
    (apply Sr.go;·constructor<;>first|(apply Lk.go;constructor<;>first|exact ss|(change _=_;first|(simp only[go_sem,Nat.reduceBEq,Nat.reduceAdd,Nat.reduceLeDiff,reduceIte]<;>rfl)|rfl)|exact Nat.le_of_ble_eq_true rfl|decide|(repeat' first|(apply Lk.go;constructor)|assumption|exact nb ‹_› ‹_›|exact nt ‹_› ‹_›))|assumption)
    rw [h4] at he
    refine avle_int ?_
    rw [he]; simp
   ·intro h4
    repeat' first|(apply Sp.go;·constructor<;>first|exact ss|(change _=_;first|(simp only[go_sem,Nat.reduceBEq,Nat.reduceAdd,Nat.reduceLeDiff,reduceIte]<;>rfl)|rfl)|exact Nat.le_of_ble_eq_true rfl|decide|(repeat' first|(apply Lk.go;constructor)|assumption|exact nb ‹_› ‹_›|exact nt ‹_› ‹_›))|(intro b hb;repeat first|(refine fe hb ?_;intro _ _ hb)|(refine fT hb ?_;intro hb))|refine rt ?_|refine gA rfl ?_|refine gB rfl ?_|apply cT rfl|apply cF rfl|(apply DM.gbT;rfl)|(apply DM.gbF;rfl)|intro h
    rw [h4] at he
    refine AM.roundX (i + 1) ⟨rfl, by omega, ?_⟩ ?_ ?_
    ·rw [he]; simp
    ·(repeat first | exact envle_nil _ | (refine envle_cons ?_ ?_; · (simp only [go_sem, Nat.reduceBEq, Nat.reduceAdd]; exact AVLe.refl _)))
     refine envle_cons ?_ ?_
     ·simp only [go_sem, Nat.reduceBEq, Nat.reduceAdd]
      refine avle_int ?_
      rw [inc64 h3 hlen]
     exact envle_nil _
    ·show vals.length - (i + 1) < vals.length - i
     omega
  ·intro h3
   repeat' first|(apply Sp.go;·constructor<;>first|exact ss|(change _=_;first|(simp only[go_sem,Nat.reduceBEq,Nat.reduceAdd,Nat.reduceLeDiff,reduceIte]<;>rfl)|rfl)|exact Nat.le_of_ble_eq_true rfl|decide|(repeat' first|(apply Lk.go;constructor)|assumption|exact nb ‹_› ‹_›|exact nt ‹_› ‹_›))|(intro b hb;repeat first|(refine fe hb ?_;intro _ _ hb)|(refine fT hb ?_;intro hb))|refine rt ?_|refine gA rfl ?_|refine gB rfl ?_|apply cT rfl|apply cF rfl|(apply DM.gbT;rfl)|(apply DM.gbF;rfl)|intro h
   (apply Sr.go;·constructor<;>first|(apply Lk.go;constructor<;>first|exact ss|(change _=_;first|(simp only[go_sem,Nat.reduceBEq,Nat.reduceAdd,Nat.reduceLeDiff,reduceIte]<;>rfl)|rfl)|exact Nat.le_of_ble_eq_true rfl|decide|(repeat' first|(apply Lk.go;constructor)|assumption|exact nb ‹_› ‹_›|exact nt ‹_› ‹_›))|assumption)
   simp at h3
   refine avle_int ?_
   rw [he, List.drop_eq_nil_of_le (by omega)]; rfl
theorem call108 : callable Try.prog 108 = true := by kernel_rfl
theorem call110 : callable Try.prog 110 = true := by kernel_rfl
theorem p108 (w v : Var_) (H : AHeap) (b : Nat) (hv : H.blk b = some (87, v.row)) : PureAt Try.prog 108 [w.av, .ptr b 0] H (.bool (decide (w.name = v.name))) := by
 refine pureAt_intro mo Try.func108 c108 ?_
 unfold e108 r108
 simp only [initEnv, initFrom]
 repeat' first|(apply Sp.go;·constructor<;>first|exact ss|(change _=_;first|(simp only[go_sem,Nat.reduceBEq,Nat.reduceAdd,Nat.reduceLeDiff,reduceIte]<;>rfl)|rfl)|exact Nat.le_of_ble_eq_true rfl|decide|(repeat' first|(apply Lk.go;constructor)|assumption|exact nb ‹_› ‹_›|exact nt ‹_› ‹_›))|(intro b hb;repeat first|(refine fe hb ?_;intro _ _ hb)|(refine fT hb ?_;intro hb))|refine rt ?_|refine gA rfl ?_|refine gB rfl ?_|apply cT rfl|apply cF rfl|(apply DM.gbT;rfl)|(apply DM.gbF;rfl)|intro h
 (apply Sr.go;·constructor<;>first|(apply Lk.go;constructor<;>first|exact ss|(change _=_;first|(simp only[go_sem,Nat.reduceBEq,Nat.reduceAdd,Nat.reduceLeDiff,reduceIte]<;>rfl)|rfl)|exact Nat.le_of_ble_eq_true rfl|decide|(repeat' first|(apply Lk.go;constructor)|assumption|exact nb ‹_› ‹_›|exact nt ‹_› ‹_›))|assumption)
 exact AVLe.refl _
theorem p110 (w v : Hd) (H : AHeap) (b : Nat) (hv : H.blk b = some (128, v.row)) : PureAt Try.prog 110 [w.av, .ptr b 0] H (.bool (decide (w.peer = v.peer) && decide (w.label = v.label))) := by
 refine pureAt_intro mo Try.func110 c110 ?_
 unfold e110 r110
 simp only [initEnv, initFrom]
 repeat' first|(apply Sp.go;·constructor<;>first|exact ss|(change _=_;first|(simp only[go_sem,Nat.reduceBEq,Nat.reduceAdd,Nat.reduceLeDiff,reduceIte]<;>rfl)|rfl)|exact Nat.le_of_ble_eq_true rfl|decide|(repeat' first|(apply Lk.go;constructor)|assumption|exact nb ‹_› ‹_›|exact nt ‹_› ‹_›))|(intro b hb;repeat first|(refine fe hb ?_;intro _ _ hb)|(refine fT hb ?_;intro hb))|refine rt ?_|refine gA rfl ?_|refine gB rfl ?_|apply cT rfl|apply cF rfl|(apply DM.gbT;rfl)|(apply DM.gbF;rfl)|intro h
 all_goals ((apply Sr.go;·constructor<;>first|(apply Lk.go;constructor<;>first|exact ss|(change _=_;first|(simp only[go_sem,Nat.reduceBEq,Nat.reduceAdd,Nat.reduceLeDiff,reduceIte]<;>rfl)|rfl)|exact Nat.le_of_ble_eq_true rfl|decide|(repeat' first|(apply Lk.go;constructor)|assumption|exact nb ‹_› ‹_›|exact nt ‹_› ‹_›))|assumption))
 all_goals (refine avle_eq ?_; rw [AV.bool.injEq]; simp at *; simp [*])
def okVar (vs : List Var_) (i : Nat) : Bool := match vs[i]? with
 | none => false
 | some v => isName v.name && decide (idxP (fun w : Var_ => decide (w.name = v.name)) vs 0 = (i : Int)) && fitsV v.sort v.init
def allI (n : Nat) (q : Nat → Bool) : Bool := (List.range n).all q
theorem allI_true {n : Nat} {q : Nat → Bool} (h : ∀ j, j < n → q j = true) : allI n q = true := by
 simp only [allI, List.all_eq_true, List.mem_range]; exact h
theorem allI_false {n i : Nat} {q : Nat → Bool} (hi : i < n) (h : q i = false) : allI n q = false := by
 simp only [allI, List.all_eq_false, List.mem_range]
 exact ⟨i, hi, by simp [h]⟩
def varsOk (vs : List Var_) : Bool := allI vs.length (okVar vs) && decide (vs.length ≤ 12)
theorem p69 (p : Prog) : Pure Try.prog 69 [p.av] (.bool (varsOk p.vars)) := by
 refine ok_args fun ok => ?_
 refine pure_intro mo Try.func69 c69 fun H => ?_
 unfold e69 r69
 simp only [initEnv, initFrom]
 repeat' first|(apply Sp.go;·constructor<;>first|exact ss|(change _=_;first|(simp only[go_sem,Nat.reduceBEq,Nat.reduceAdd,Nat.reduceLeDiff,reduceIte]<;>rfl)|rfl)|exact Nat.le_of_ble_eq_true rfl|decide|(repeat' first|(apply Lk.go;constructor)|assumption|exact nb ‹_› ‹_›|exact nt ‹_› ‹_›))|(intro b hb;repeat first|(refine fe hb ?_;intro _ _ hb)|(refine fT hb ?_;intro hb))|refine rt ?_|refine gA rfl ?_|refine gB rfl ?_|apply cT rfl|apply cF rfl|(apply DM.gbT;rfl)|(apply DM.gbF;rfl)|intro h
 rename Nat => b1
 refine AM.loopX (X := Nat) 0 (fun i => [(1, .ptr b1 0), (7, .vs 7 (p.vars.map Var_.row)), (8, .int .i64 p.vars.length), (9, .int .i64 i)]) (fun i H' => H' = H.setB b1 41 p.cells ∧ i ≤ p.vars.length ∧ ∀ j, j < i → okVar p.vars j = true) (fun i => p.vars.length - i) ⟨rfl, by omega, fun j hj => by omega⟩ ?_ ?_
 ·(repeat first | exact envle_nil _ | (refine envle_cons ?_ ?_; · (simp only [go_sem, Nat.reduceBEq, Nat.reduceAdd]; exact AVLe.refl _)))
  refine envle_cons ?_ (envle_cons ?_ (envle_nil _))
  ·simp only [Env.get, Nat.reduceBEq, cond_true, cond_false, beq_self_eq_true]
   exact avle_int (by simp)
  ·simp only [Env.get, Nat.reduceBEq, cond_true, cond_false, beq_self_eq_true]
   exact AVLe.refl _
 ·intro i H' ⟨e, hi, he⟩
  subst e
  repeat' first|(apply Sp.go;·constructor<;>first|exact ss|(change _=_;first|(simp only[go_sem,Nat.reduceBEq,Nat.reduceAdd,Nat.reduceLeDiff,reduceIte]<;>rfl)|rfl)|exact Nat.le_of_ble_eq_true rfl|decide|(repeat' first|(apply Lk.go;constructor)|assumption|exact nb ‹_› ‹_›|exact nt ‹_› ‹_›))|(intro b hb;repeat first|(refine fe hb ?_;intro _ _ hb)|(refine fT hb ?_;intro hb))|refine rt ?_|refine gA rfl ?_|refine gB rfl ?_|apply cT rfl|apply cF rfl|(apply DM.gbT;rfl)|(apply DM.gbF;rfl)|intro h
  (apply AM.cond; (· rfl))
  ·intro h3
   simp at h3
   obtain ⟨v, hv⟩ : ∃ v, p.vars[i]? = some v := ⟨_, List.getElem?_eq_getElem h3⟩
   have hok : okVar p.vars i = (isName v.name && decide (idxP (fun w : Var_ => decide (w.name = v.name)) p.vars 0 = (i : Int)) && fitsV v.sort v.init) := by simp [okVar, hv]
   repeat' first|(apply Sp.go;·constructor<;>first|exact ss|(change _=_;first|(simp only[go_sem,Nat.reduceBEq,Nat.reduceAdd,Nat.reduceLeDiff,reduceIte]<;>rfl)|rfl)|exact Nat.le_of_ble_eq_true rfl|decide|(repeat' first|(apply Lk.go;constructor)|assumption|exact nb ‹_› ‹_›|exact nt ‹_› ‹_›))|(intro b hb;repeat first|(refine fe hb ?_;intro _ _ hb)|(refine fT hb ?_;intro hb))|refine rt ?_|refine gA rfl ?_|refine gB rfl ?_|apply cT rfl|apply cF rfl|(apply DM.gbT;rfl)|(apply DM.gbF;rfl)|(apply DM.ixV (row := v.row) (z := (i : Int)) (by omega) (row_get Var_.row hv); (· rfl); (· rfl))|(apply DM.pcs (p67' _); (· simp only [go_sem, Nat.reduceBEq, Nat.reduceAdd] <;> rfl); (· exact AVLes.refl _))|intro h
   ·(apply DM.pcat (p109 _ 108 _ p.vars (fun w => decide (w.name = v.name)) call108 (fun w _ => p108 w v _ _ g_same)); (· simp only [go_sem, Nat.reduceBEq, Nat.reduceAdd] <;> rfl); (· exact AVLes.refl _))
    repeat' first|(apply Sp.go;·constructor<;>first|exact ss|(change _=_;first|(simp only[go_sem,Nat.reduceBEq,Nat.reduceAdd,Nat.reduceLeDiff,reduceIte]<;>rfl)|rfl)|exact Nat.le_of_ble_eq_true rfl|decide|(repeat' first|(apply Lk.go;constructor)|assumption|exact nb ‹_› ‹_›|exact nt ‹_› ‹_›))|(intro b hb;repeat first|(refine fe hb ?_;intro _ _ hb)|(refine fT hb ?_;intro hb))|refine rt ?_|refine gA rfl ?_|refine gB rfl ?_|apply cT rfl|apply cF rfl|(apply DM.gbT;rfl)|(apply DM.gbF;rfl)|intro h
    ·(apply DM.pcs (p61 v.sort v.init); (· simp only [go_sem, Nat.reduceBEq, Nat.reduceAdd] <;> rfl); (· exact AVLes.refl _))
     repeat' first|(apply Sp.go;·constructor<;>first|exact ss|(change _=_;first|(simp only[go_sem,Nat.reduceBEq,Nat.reduceAdd,Nat.reduceLeDiff,reduceIte]<;>rfl)|rfl)|exact Nat.le_of_ble_eq_true rfl|decide|(repeat' first|(apply Lk.go;constructor)|assumption|exact nb ‹_› ‹_›|exact nt ‹_› ‹_›))|(intro b hb;repeat first|(refine fe hb ?_;intro _ _ hb)|(refine fT hb ?_;intro hb))|refine rt ?_|refine gA rfl ?_|refine gB rfl ?_|apply cT rfl|apply cF rfl|(apply DM.gbT;rfl)|(apply DM.gbF;rfl)|intro h
     (apply AM.cond; (· rfl))
     ·intro h4
      repeat' first|(apply Sp.go;·constructor<;>first|exact ss|(change _=_;first|(simp only[go_sem,Nat.reduceBEq,Nat.reduceAdd,Nat.reduceLeDiff,reduceIte]<;>rfl)|rfl)|exact Nat.le_of_ble_eq_true rfl|decide|(repeat' first|(apply Lk.go;constructor)|assumption|exact nb ‹_› ‹_›|exact nt ‹_› ‹_›))|(intro b hb;repeat first|(refine fe hb ?_;intro _ _ hb)|(refine fT hb ?_;intro hb))|refine rt ?_|refine gA rfl ?_|refine gB rfl ?_|apply cT rfl|apply cF rfl|(apply DM.gbT;rfl)|(apply DM.gbF;rfl)|intro h
      (apply Sr.go;·constructor<;>first|(apply Lk.go;constructor<;>first|exact ss|(change _=_;first|(simp only[go_sem,Nat.reduceBEq,Nat.reduceAdd,Nat.reduceLeDiff,reduceIte]<;>rfl)|rfl)|exact Nat.le_of_ble_eq_true rfl|decide|(repeat' first|(apply Lk.go;constructor)|assumption|exact nb ‹_› ‹_›|exact nt ‹_› ‹_›))|assumption)
      refine avle_eq ?_; rw [AV.bool.injEq]
      refine (Bool.and_eq_false_iff.2 (.inl (allI_false h3 ?_))).symm
      rw [hok]; simp at *; simp [*]
     ·intro h4
      repeat' first|(apply Sp.go;·constructor<;>first|exact ss|(change _=_;first|(simp only[go_sem,Nat.reduceBEq,Nat.reduceAdd,Nat.reduceLeDiff,reduceIte]<;>rfl)|rfl)|exact Nat.le_of_ble_eq_true rfl|decide|(repeat' first|(apply Lk.go;constructor)|assumption|exact nb ‹_› ‹_›|exact nt ‹_› ‹_›))|(intro b hb;repeat first|(refine fe hb ?_;intro _ _ hb)|(refine fT hb ?_;intro hb))|refine rt ?_|refine gA rfl ?_|refine gB rfl ?_|apply cT rfl|apply cF rfl|(apply DM.gbT;rfl)|(apply DM.gbF;rfl)|intro h
      refine AM.forget (H.setB b1 41 p.cells) ?_ ?_
      ·(repeat' first|assumption|(apply Lk.go;constructor))
      refine AM.roundX (i + 1) ⟨rfl, by omega, fun j hj => ?_⟩ ?_ ?_
      ·by_cases e : j = i
       ·subst e; rw [hok]; simp at *; simp [*]
       ·exact he j (by omega)
      ·(repeat first | exact envle_nil _ | (refine envle_cons ?_ ?_; · (simp only [go_sem, Nat.reduceBEq, Nat.reduceAdd]; exact AVLe.refl _)))
       refine envle_cons ?_ ?_
       ·simp only [go_sem, Nat.reduceBEq, Nat.reduceAdd]
        refine avle_int ?_
        rw [inc64 h3 ok.vars]
       exact envle_nil _
      ·show p.vars.length - (i + 1) < p.vars.length - i
       omega
    ·(apply Sr.go;·constructor<;>first|(apply Lk.go;constructor<;>first|exact ss|(change _=_;first|(simp only[go_sem,Nat.reduceBEq,Nat.reduceAdd,Nat.reduceLeDiff,reduceIte]<;>rfl)|rfl)|exact Nat.le_of_ble_eq_true rfl|decide|(repeat' first|(apply Lk.go;constructor)|assumption|exact nb ‹_› ‹_›|exact nt ‹_› ‹_›))|assumption)
     refine avle_eq ?_; rw [AV.bool.injEq]
     refine (Bool.and_eq_false_iff.2 (.inl (allI_false h3 ?_))).symm
     rw [hok]; simp at *; simp [*]
   ·(apply Sr.go;·constructor<;>first|(apply Lk.go;constructor<;>first|exact ss|(change _=_;first|(simp only[go_sem,Nat.reduceBEq,Nat.reduceAdd,Nat.reduceLeDiff,reduceIte]<;>rfl)|rfl)|exact Nat.le_of_ble_eq_true rfl|decide|(repeat' first|(apply Lk.go;constructor)|assumption|exact nb ‹_› ‹_›|exact nt ‹_› ‹_›))|assumption)
    refine avle_eq ?_; rw [AV.bool.injEq]
    refine (Bool.and_eq_false_iff.2 (.inl (allI_false h3 ?_))).symm
    rw [hok]; simp at *; simp [*]
  ·intro h3
   repeat' first|(apply Sp.go;·constructor<;>first|exact ss|(change _=_;first|(simp only[go_sem,Nat.reduceBEq,Nat.reduceAdd,Nat.reduceLeDiff,reduceIte]<;>rfl)|rfl)|exact Nat.le_of_ble_eq_true rfl|decide|(repeat' first|(apply Lk.go;constructor)|assumption|exact nb ‹_› ‹_›|exact nt ‹_› ‹_›))|(intro b hb;repeat first|(refine fe hb ?_;intro _ _ hb)|(refine fT hb ?_;intro hb))|refine rt ?_|refine gA rfl ?_|refine gB rfl ?_|apply cT rfl|apply cF rfl|(apply DM.gbT;rfl)|(apply DM.gbF;rfl)|intro h
   (apply Sr.go;·constructor<;>first|(apply Lk.go;constructor<;>first|exact ss|(change _=_;first|(simp only[go_sem,Nat.reduceBEq,Nat.reduceAdd,Nat.reduceLeDiff,reduceIte]<;>rfl)|rfl)|exact Nat.le_of_ble_eq_true rfl|decide|(repeat' first|(apply Lk.go;constructor)|assumption|exact nb ‹_› ‹_›|exact nt ‹_› ‹_›))|assumption)
   refine avle_eq ?_; rw [AV.bool.injEq]
   simp at h3
   rw [varsOk, allI_true fun j hj => he j (by omega), Bool.true_and, Bool.eq_iff_iff]
   simp
   omega
def okHd (p : Prog) (i : Nat) : Bool := match p.hs[i]? with
  | none => false
  | some v => p.party v.peer v.label && p.target v.entry && decide (idxP (fun w : Hd => decide (w.peer = v.peer) && decide (w.label = v.label)) p.hs 0 = (i : Int))
def okOf (p : Prog) (i : Nat) : Bool := match p.os[i]? with
  | none => false
  | some v => p.party v.peer v.label && p.target v.args && (decide (v.cond = -1) || p.target v.cond)
def partsOk (p : Prog) : Bool := allI p.hs.length (okHd p) && allI p.os.length (okOf p) && decide (p.hs.length ≤ 40) && decide (p.os.length ≤ 40)
theorem p70 (p : Prog) : Pure Try.prog 70 [p.av] (.bool (partsOk p)) := by
  refine ok_args fun ok => ?_
  refine pure_intro mo Try.func70 c70 fun H => ?_
  unfold e70 r70
  simp only [initEnv, initFrom]
  repeat' first|(apply Sp.go;·constructor<;>first|exact ss|(change _=_;first|(simp only[go_sem,Nat.reduceBEq,Nat.reduceAdd,Nat.reduceLeDiff,reduceIte]<;>rfl)|rfl)|exact Nat.le_of_ble_eq_true rfl|decide|(repeat' first|(apply Lk.go;constructor)|assumption|exact nb ‹_› ‹_›|exact nt ‹_› ‹_›))|(intro b hb;repeat first|(refine fe hb ?_;intro _ _ hb)|(refine fT hb ?_;intro hb))|refine rt ?_|refine gA rfl ?_|refine gB rfl ?_|apply cT rfl|apply cF rfl|(apply DM.gbT;rfl)|(apply DM.gbF;rfl)|intro h
  rename Nat => b1
  refine AM.loopX (X := Nat) 0 (fun i => [(1, .ptr b1 0), (9, .vs 3 (p.hs.map Hd.row)), (10, .int .i64 p.hs.length), (11, .int .i64 i)]) (fun i H' => H' = H.setB b1 41 p.cells ∧ i ≤ p.hs.length ∧ ∀ j, j < i → okHd p j = true) (fun i => p.hs.length - i) ⟨rfl, by omega, fun j hj => by omega⟩ ?_ ?_
  · (repeat first | exact envle_nil _ | (refine envle_cons ?_ ?_; · (simp only [go_sem, Nat.reduceBEq, Nat.reduceAdd]; exact AVLe.refl _)))
    refine envle_cons ?_ (envle_cons ?_ (envle_nil _))
    · simp only [Env.get, Nat.reduceBEq, cond_true, cond_false, beq_self_eq_true]
      exact avle_int (by simp)
    · simp only [Env.get, Nat.reduceBEq, cond_true, cond_false, beq_self_eq_true]
      exact AVLe.refl _
  · intro i H' ⟨e, hi, he⟩
    subst e
    repeat' first|(apply Sp.go;·constructor<;>first|exact ss|(change _=_;first|(simp only[go_sem,Nat.reduceBEq,Nat.reduceAdd,Nat.reduceLeDiff,reduceIte]<;>rfl)|rfl)|exact Nat.le_of_ble_eq_true rfl|decide|(repeat' first|(apply Lk.go;constructor)|assumption|exact nb ‹_› ‹_›|exact nt ‹_› ‹_›))|(intro b hb;repeat first|(refine fe hb ?_;intro _ _ hb)|(refine fT hb ?_;intro hb))|refine rt ?_|refine gA rfl ?_|refine gB rfl ?_|apply cT rfl|apply cF rfl|(apply DM.gbT;rfl)|(apply DM.gbF;rfl)|intro h
    (apply AM.cond; (· rfl))
    · intro h3
      simp at h3
      obtain ⟨v, hv⟩ : ∃ v, p.hs[i]? = some v := ⟨_, List.getElem?_eq_getElem h3⟩
      have hok : okHd p i = (p.party v.peer v.label && p.target v.entry && decide (idxP (fun w : Hd => decide (w.peer = v.peer) && decide (w.label = v.label)) p.hs 0 = (i : Int))) := by simp [okHd, hv]
      repeat' first|(apply Sp.go;·constructor<;>first|exact ss|(change _=_;first|(simp only[go_sem,Nat.reduceBEq,Nat.reduceAdd,Nat.reduceLeDiff,reduceIte]<;>rfl)|rfl)|exact Nat.le_of_ble_eq_true rfl|decide|(repeat' first|(apply Lk.go;constructor)|assumption|exact nb ‹_› ‹_›|exact nt ‹_› ‹_›))|(intro b hb;repeat first|(refine fe hb ?_;intro _ _ hb)|(refine fT hb ?_;intro hb))|refine rt ?_|refine gA rfl ?_|refine gB rfl ?_|apply cT rfl|apply cF rfl|(apply DM.gbT;rfl)|(apply DM.gbF;rfl)|(apply DM.ixV (row := v.row) (z := (i : Int)) (by omega) (row_get Hd.row hv); (· rfl); (· rfl))|(apply DM.pcs (p111 p _ _); (· simp only [go_sem, Nat.reduceBEq, Nat.reduceAdd] <;> rfl); (· exact AVLes.refl _))|intro h
      · (apply DM.pcs (p72 p _); (· simp only [go_sem, Nat.reduceBEq, Nat.reduceAdd] <;> rfl); (· exact AVLes.refl _))
        repeat' first|(apply Sp.go;·constructor<;>first|exact ss|(change _=_;first|(simp only[go_sem,Nat.reduceBEq,Nat.reduceAdd,Nat.reduceLeDiff,reduceIte]<;>rfl)|rfl)|exact Nat.le_of_ble_eq_true rfl|decide|(repeat' first|(apply Lk.go;constructor)|assumption|exact nb ‹_› ‹_›|exact nt ‹_› ‹_›))|(intro b hb;repeat first|(refine fe hb ?_;intro _ _ hb)|(refine fT hb ?_;intro hb))|refine rt ?_|refine gA rfl ?_|refine gB rfl ?_|apply cT rfl|apply cF rfl|(apply DM.gbT;rfl)|(apply DM.gbF;rfl)|intro h
        · (apply DM.pcat (p112 _ 110 _ p.hs (fun w => decide (w.peer = v.peer) && decide (w.label = v.label)) call110 (fun w _ => p110 w v _ _ g_same)); (· simp only [go_sem, Nat.reduceBEq, Nat.reduceAdd] <;> rfl); (· exact AVLes.refl _))
          repeat' first|(apply Sp.go;·constructor<;>first|exact ss|(change _=_;first|(simp only[go_sem,Nat.reduceBEq,Nat.reduceAdd,Nat.reduceLeDiff,reduceIte]<;>rfl)|rfl)|exact Nat.le_of_ble_eq_true rfl|decide|(repeat' first|(apply Lk.go;constructor)|assumption|exact nb ‹_› ‹_›|exact nt ‹_› ‹_›))|(intro b hb;repeat first|(refine fe hb ?_;intro _ _ hb)|(refine fT hb ?_;intro hb))|refine rt ?_|refine gA rfl ?_|refine gB rfl ?_|apply cT rfl|apply cF rfl|(apply DM.gbT;rfl)|(apply DM.gbF;rfl)|intro h
          (apply AM.cond; (· rfl))
          · intro h4
            repeat' first|(apply Sp.go;·constructor<;>first|exact ss|(change _=_;first|(simp only[go_sem,Nat.reduceBEq,Nat.reduceAdd,Nat.reduceLeDiff,reduceIte]<;>rfl)|rfl)|exact Nat.le_of_ble_eq_true rfl|decide|(repeat' first|(apply Lk.go;constructor)|assumption|exact nb ‹_› ‹_›|exact nt ‹_› ‹_›))|(intro b hb;repeat first|(refine fe hb ?_;intro _ _ hb)|(refine fT hb ?_;intro hb))|refine rt ?_|refine gA rfl ?_|refine gB rfl ?_|apply cT rfl|apply cF rfl|(apply DM.gbT;rfl)|(apply DM.gbF;rfl)|intro h
            (apply Sr.go;·constructor<;>first|(apply Lk.go;constructor<;>first|exact ss|(change _=_;first|(simp only[go_sem,Nat.reduceBEq,Nat.reduceAdd,Nat.reduceLeDiff,reduceIte]<;>rfl)|rfl)|exact Nat.le_of_ble_eq_true rfl|decide|(repeat' first|(apply Lk.go;constructor)|assumption|exact nb ‹_› ‹_›|exact nt ‹_› ‹_›))|assumption)
            refine avle_eq ?_; rw [AV.bool.injEq]
            simp only [partsOk]
            rw [allI_false h3]
            · simp
            · rw [hok]; simp at *; simp [*]
          · intro h4
            repeat' first|(apply Sp.go;·constructor<;>first|exact ss|(change _=_;first|(simp only[go_sem,Nat.reduceBEq,Nat.reduceAdd,Nat.reduceLeDiff,reduceIte]<;>rfl)|rfl)|exact Nat.le_of_ble_eq_true rfl|decide|(repeat' first|(apply Lk.go;constructor)|assumption|exact nb ‹_› ‹_›|exact nt ‹_› ‹_›))|(intro b hb;repeat first|(refine fe hb ?_;intro _ _ hb)|(refine fT hb ?_;intro hb))|refine rt ?_|refine gA rfl ?_|refine gB rfl ?_|apply cT rfl|apply cF rfl|(apply DM.gbT;rfl)|(apply DM.gbF;rfl)|intro h
            refine AM.forget (H.setB b1 41 p.cells) ?_ ?_
            · (repeat' first|assumption|(apply Lk.go;constructor))
            refine AM.roundX (i + 1) ⟨rfl, by omega, fun j hj => ?_⟩ ?_ ?_
            · by_cases e : j = i
              · subst e; rw [hok]; simp at *; simp [*]
              · exact he j (by omega)
            · (repeat first | exact envle_nil _ | (refine envle_cons ?_ ?_; · (simp only [go_sem, Nat.reduceBEq, Nat.reduceAdd]; exact AVLe.refl _)))
              refine envle_cons ?_ ?_
              · simp only [go_sem, Nat.reduceBEq, Nat.reduceAdd]
                refine avle_int ?_
                rw [inc64 h3 ok.hs]
              exact envle_nil _
            · show p.hs.length - (i + 1) < p.hs.length - i
              omega
        · (apply Sr.go;·constructor<;>first|(apply Lk.go;constructor<;>first|exact ss|(change _=_;first|(simp only[go_sem,Nat.reduceBEq,Nat.reduceAdd,Nat.reduceLeDiff,reduceIte]<;>rfl)|rfl)|exact Nat.le_of_ble_eq_true rfl|decide|(repeat' first|(apply Lk.go;constructor)|assumption|exact nb ‹_› ‹_›|exact nt ‹_› ‹_›))|assumption)
          refine avle_eq ?_; rw [AV.bool.injEq]
          simp only [partsOk]
          rw [allI_false h3]
          · simp
          · rw [hok]; simp at *; simp [*]
      · (apply Sr.go;·constructor<;>first|(apply Lk.go;constructor<;>first|exact ss|(change _=_;first|(simp only[go_sem,Nat.reduceBEq,Nat.reduceAdd,Nat.reduceLeDiff,reduceIte]<;>rfl)|rfl)|exact Nat.le_of_ble_eq_true rfl|decide|(repeat' first|(apply Lk.go;constructor)|assumption|exact nb ‹_› ‹_›|exact nt ‹_› ‹_›))|assumption)
        refine avle_eq ?_; rw [AV.bool.injEq]
        simp only [partsOk]
        rw [allI_false h3]
        · simp
        · rw [hok]; simp at *; simp [*]
    · intro h3
      simp at h3
      have hall : allI p.hs.length (okHd p) = true := allI_true fun j hj => he j (by omega)
      repeat' first|(apply Sp.go;·constructor<;>first|exact ss|(change _=_;first|(simp only[go_sem,Nat.reduceBEq,Nat.reduceAdd,Nat.reduceLeDiff,reduceIte]<;>rfl)|rfl)|exact Nat.le_of_ble_eq_true rfl|decide|(repeat' first|(apply Lk.go;constructor)|assumption|exact nb ‹_› ‹_›|exact nt ‹_› ‹_›))|(intro b hb;repeat first|(refine fe hb ?_;intro _ _ hb)|(refine fT hb ?_;intro hb))|refine rt ?_|refine gA rfl ?_|refine gB rfl ?_|apply cT rfl|apply cF rfl|(apply DM.gbT;rfl)|(apply DM.gbF;rfl)|intro h
      refine AM.loopX (X := Nat) 0 (fun i => [(1, .ptr b1 0), (41, .vs 4 (p.os.map Of_.row)), (42, .int .i64 p.os.length), (43, .int .i64 i)]) (fun i H' => H' = H.setB b1 41 p.cells ∧ i ≤ p.os.length ∧ ∀ j, j < i → okOf p j = true) (fun i => p.os.length - i) ⟨rfl, by omega, fun j hj => by omega⟩ ?_ ?_
      · (repeat first | exact envle_nil _ | (refine envle_cons ?_ ?_; · (simp only [go_sem, Nat.reduceBEq, Nat.reduceAdd]; exact AVLe.refl _)))
        refine envle_cons ?_ (envle_cons ?_ (envle_nil _))
        · simp only [Env.get, Nat.reduceBEq, cond_true, cond_false, beq_self_eq_true]
          exact avle_int (by simp)
        · simp only [Env.get, Nat.reduceBEq, cond_true, cond_false, beq_self_eq_true]
          exact AVLe.refl _
      · clear he hi h3
        intro i H' ⟨e, hi, he⟩
        subst e
        repeat' first|(apply Sp.go;·constructor<;>first|exact ss|(change _=_;first|(simp only[go_sem,Nat.reduceBEq,Nat.reduceAdd,Nat.reduceLeDiff,reduceIte]<;>rfl)|rfl)|exact Nat.le_of_ble_eq_true rfl|decide|(repeat' first|(apply Lk.go;constructor)|assumption|exact nb ‹_› ‹_›|exact nt ‹_› ‹_›))|(intro b hb;repeat first|(refine fe hb ?_;intro _ _ hb)|(refine fT hb ?_;intro hb))|refine rt ?_|refine gA rfl ?_|refine gB rfl ?_|apply cT rfl|apply cF rfl|(apply DM.gbT;rfl)|(apply DM.gbF;rfl)|intro h
        (apply AM.cond; (· rfl))
        · intro h3
          simp at h3
          obtain ⟨v, hv⟩ : ∃ v, p.os[i]? = some v := ⟨_, List.getElem?_eq_getElem h3⟩
          have hok : okOf p i = (p.party v.peer v.label && p.target v.args && (decide (v.cond = -1) || p.target v.cond)) := by simp [okOf, hv]
          have fin : okOf p i = false → partsOk p = false := fun h => by simp only [partsOk]; rw [allI_false h3 h]; simp
          repeat' first|(apply Sp.go;·constructor<;>first|exact ss|(change _=_;first|(simp only[go_sem,Nat.reduceBEq,Nat.reduceAdd,Nat.reduceLeDiff,reduceIte]<;>rfl)|rfl)|exact Nat.le_of_ble_eq_true rfl|decide|(repeat' first|(apply Lk.go;constructor)|assumption|exact nb ‹_› ‹_›|exact nt ‹_› ‹_›))|(intro b hb;repeat first|(refine fe hb ?_;intro _ _ hb)|(refine fT hb ?_;intro hb))|refine rt ?_|refine gA rfl ?_|refine gB rfl ?_|apply cT rfl|apply cF rfl|(apply DM.gbT;rfl)|(apply DM.gbF;rfl)|(apply DM.ixV (row := v.row) (z := (i : Int)) (by omega) (row_get Of_.row hv); (· rfl); (· rfl))|(apply DM.pcs (p111 p _ _); (· simp only [go_sem, Nat.reduceBEq, Nat.reduceAdd] <;> rfl); (· exact AVLes.refl _))|intro h
          · (apply DM.pcs (p72 p _); (· simp only [go_sem, Nat.reduceBEq, Nat.reduceAdd] <;> rfl); (· exact AVLes.refl _))
            repeat' first|(apply Sp.go;·constructor<;>first|exact ss|(change _=_;first|(simp only[go_sem,Nat.reduceBEq,Nat.reduceAdd,Nat.reduceLeDiff,reduceIte]<;>rfl)|rfl)|exact Nat.le_of_ble_eq_true rfl|decide|(repeat' first|(apply Lk.go;constructor)|assumption|exact nb ‹_› ‹_›|exact nt ‹_› ‹_›))|(intro b hb;repeat first|(refine fe hb ?_;intro _ _ hb)|(refine fT hb ?_;intro hb))|refine rt ?_|refine gA rfl ?_|refine gB rfl ?_|apply cT rfl|apply cF rfl|(apply DM.gbT;rfl)|(apply DM.gbF;rfl)|intro h
            · (apply DM.pcs (p72 p _); (· simp only [go_sem, Nat.reduceBEq, Nat.reduceAdd] <;> rfl); (· exact AVLes.refl _))
              repeat' first|(apply Sp.go;·constructor<;>first|exact ss|(change _=_;first|(simp only[go_sem,Nat.reduceBEq,Nat.reduceAdd,Nat.reduceLeDiff,reduceIte]<;>rfl)|rfl)|exact Nat.le_of_ble_eq_true rfl|decide|(repeat' first|(apply Lk.go;constructor)|assumption|exact nb ‹_› ‹_›|exact nt ‹_› ‹_›))|(intro b hb;repeat first|(refine fe hb ?_;intro _ _ hb)|(refine fT hb ?_;intro hb))|refine rt ?_|refine gA rfl ?_|refine gB rfl ?_|apply cT rfl|apply cF rfl|(apply DM.gbT;rfl)|(apply DM.gbF;rfl)|intro h
              (apply AM.cond; (· rfl))
              · intro h4
                repeat' first|(apply Sp.go;·constructor<;>first|exact ss|(change _=_;first|(simp only[go_sem,Nat.reduceBEq,Nat.reduceAdd,Nat.reduceLeDiff,reduceIte]<;>rfl)|rfl)|exact Nat.le_of_ble_eq_true rfl|decide|(repeat' first|(apply Lk.go;constructor)|assumption|exact nb ‹_› ‹_›|exact nt ‹_› ‹_›))|(intro b hb;repeat first|(refine fe hb ?_;intro _ _ hb)|(refine fT hb ?_;intro hb))|refine rt ?_|refine gA rfl ?_|refine gB rfl ?_|apply cT rfl|apply cF rfl|(apply DM.gbT;rfl)|(apply DM.gbF;rfl)|intro h
                (apply Sr.go;·constructor<;>first|(apply Lk.go;constructor<;>first|exact ss|(change _=_;first|(simp only[go_sem,Nat.reduceBEq,Nat.reduceAdd,Nat.reduceLeDiff,reduceIte]<;>rfl)|rfl)|exact Nat.le_of_ble_eq_true rfl|decide|(repeat' first|(apply Lk.go;constructor)|assumption|exact nb ‹_› ‹_›|exact nt ‹_› ‹_›))|assumption)
                refine avle_eq ?_; rw [AV.bool.injEq, fin]
                rw [hok]; simp at *; simp [*]
              · intro h4
                repeat' first|(apply Sp.go;·constructor<;>first|exact ss|(change _=_;first|(simp only[go_sem,Nat.reduceBEq,Nat.reduceAdd,Nat.reduceLeDiff,reduceIte]<;>rfl)|rfl)|exact Nat.le_of_ble_eq_true rfl|decide|(repeat' first|(apply Lk.go;constructor)|assumption|exact nb ‹_› ‹_›|exact nt ‹_› ‹_›))|(intro b hb;repeat first|(refine fe hb ?_;intro _ _ hb)|(refine fT hb ?_;intro hb))|refine rt ?_|refine gA rfl ?_|refine gB rfl ?_|apply cT rfl|apply cF rfl|(apply DM.gbT;rfl)|(apply DM.gbF;rfl)|intro h
                refine AM.forget (H.setB b1 41 p.cells) ?_ ?_
                · (repeat' first|assumption|(apply Lk.go;constructor))
                refine AM.roundX (i + 1) ⟨rfl, by omega, fun j hj => ?_⟩ ?_ ?_
                · by_cases e : j = i
                  · subst e; rw [hok]; simp at *; simp [*]
                  · exact he j (by omega)
                · (repeat first | exact envle_nil _ | (refine envle_cons ?_ ?_; · (simp only [go_sem, Nat.reduceBEq, Nat.reduceAdd]; exact AVLe.refl _)))
                  refine envle_cons ?_ ?_
                  · simp only [go_sem, Nat.reduceBEq, Nat.reduceAdd]
                    refine avle_int ?_
                    rw [inc64 h3 ok.os]
                  exact envle_nil _
                · show p.os.length - (i + 1) < p.os.length - i
                  omega
            · refine AM.forget (H.setB b1 41 p.cells) ?_ ?_
              · (repeat' first|assumption|(apply Lk.go;constructor))
              refine AM.roundX (i + 1) ⟨rfl, by omega, fun j hj => ?_⟩ ?_ ?_
              · by_cases e : j = i
                · subst e; rw [hok]; simp at *; simp [*]
                · exact he j (by omega)
              · (repeat first | exact envle_nil _ | (refine envle_cons ?_ ?_; · (simp only [go_sem, Nat.reduceBEq, Nat.reduceAdd]; exact AVLe.refl _)))
                refine envle_cons ?_ ?_
                · simp only [go_sem, Nat.reduceBEq, Nat.reduceAdd]
                  refine avle_int ?_
                  rw [inc64 h3 ok.os]
                exact envle_nil _
              · show p.os.length - (i + 1) < p.os.length - i
                omega
            · (apply Sr.go;·constructor<;>first|(apply Lk.go;constructor<;>first|exact ss|(change _=_;first|(simp only[go_sem,Nat.reduceBEq,Nat.reduceAdd,Nat.reduceLeDiff,reduceIte]<;>rfl)|rfl)|exact Nat.le_of_ble_eq_true rfl|decide|(repeat' first|(apply Lk.go;constructor)|assumption|exact nb ‹_› ‹_›|exact nt ‹_› ‹_›))|assumption)
              refine avle_eq ?_; rw [AV.bool.injEq, fin]
              rw [hok]; simp at *; simp [*]
          · (apply Sr.go;·constructor<;>first|(apply Lk.go;constructor<;>first|exact ss|(change _=_;first|(simp only[go_sem,Nat.reduceBEq,Nat.reduceAdd,Nat.reduceLeDiff,reduceIte]<;>rfl)|rfl)|exact Nat.le_of_ble_eq_true rfl|decide|(repeat' first|(apply Lk.go;constructor)|assumption|exact nb ‹_› ‹_›|exact nt ‹_› ‹_›))|assumption)
            refine avle_eq ?_; rw [AV.bool.injEq, fin]
            rw [hok]; simp at *; simp [*]
        · intro h3
          simp at h3
          have hall2 : allI p.os.length (okOf p) = true := allI_true fun j hj => he j (by omega)
          repeat' first|(apply Sp.go;·constructor<;>first|exact ss|(change _=_;first|(simp only[go_sem,Nat.reduceBEq,Nat.reduceAdd,Nat.reduceLeDiff,reduceIte]<;>rfl)|rfl)|exact Nat.le_of_ble_eq_true rfl|decide|(repeat' first|(apply Lk.go;constructor)|assumption|exact nb ‹_› ‹_›|exact nt ‹_› ‹_›))|(intro b hb;repeat first|(refine fe hb ?_;intro _ _ hb)|(refine fT hb ?_;intro hb))|refine rt ?_|refine gA rfl ?_|refine gB rfl ?_|apply cT rfl|apply cF rfl|(apply DM.gbT;rfl)|(apply DM.gbF;rfl)|intro h
          all_goals ((apply Sr.go;·constructor<;>first|(apply Lk.go;constructor<;>first|exact ss|(change _=_;first|(simp only[go_sem,Nat.reduceBEq,Nat.reduceAdd,Nat.reduceLeDiff,reduceIte]<;>rfl)|rfl)|exact Nat.le_of_ble_eq_true rfl|decide|(repeat' first|(apply Lk.go;constructor)|assumption|exact nb ‹_› ‹_›|exact nt ‹_› ‹_›))|assumption))
          all_goals (refine avle_eq ?_; rw [AV.bool.injEq, partsOk, hall, hall2, Bool.true_and, Bool.true_and, Bool.eq_iff_iff]; simp at *; omega)
def okIns (p : Prog) (x : Ins_) : Bool := formed x && (if x.op = 3 ∨ x.op = 5 then decide (x.n < p.vars.length) else if x.op = 19 ∨ x.op = 20 ∨ x.op = 22 then p.target x.n else true)
def okIx (p : Prog) (i : Nat) : Bool := match p.code[i]? with
  | none => false
  | some x => okIns p x
def validP (p : Prog) : Bool := isName p.name && inB p.role 0 5 && inB p.code.length 1 1000 && varsOk p.vars && partsOk p && allI p.code.length (okIx p)
theorem p43 (p : Prog) : Pure Try.prog 43 [p.av] (.bool (validP p)) := by
  refine ok_args fun ok => ?_
  refine pure_intro mo Try.func43 c43 fun H => ?_
  unfold e43 r43
  simp only [initEnv, initFrom]
  repeat' first|(apply Sp.go;·constructor<;>first|exact ss|(change _=_;first|(simp only[go_sem,Nat.reduceBEq,Nat.reduceAdd,Nat.reduceLeDiff,reduceIte]<;>rfl)|rfl)|exact Nat.le_of_ble_eq_true rfl|decide|(repeat' first|(apply Lk.go;constructor)|assumption|exact nb ‹_› ‹_›|exact nt ‹_› ‹_›))|(intro b hb;repeat first|(refine fe hb ?_;intro _ _ hb)|(refine fT hb ?_;intro hb))|refine rt ?_|refine gA rfl ?_|refine gB rfl ?_|apply cT rfl|apply cF rfl|(apply DM.gbT;rfl)|(apply DM.gbF;rfl)|(apply DM.pcs (p67' _); (· simp only [go_sem, Nat.reduceBEq, Nat.reduceAdd] <;> rfl); (· exact AVLes.refl _))|intro h
  · (apply DM.pcs (p68 _ _ _); (· simp only [go_sem, Nat.reduceBEq, Nat.reduceAdd] <;> rfl); (· exact AVLes.refl _))
    repeat' first|(apply Sp.go;·constructor<;>first|exact ss|(change _=_;first|(simp only[go_sem,Nat.reduceBEq,Nat.reduceAdd,Nat.reduceLeDiff,reduceIte]<;>rfl)|rfl)|exact Nat.le_of_ble_eq_true rfl|decide|(repeat' first|(apply Lk.go;constructor)|assumption|exact nb ‹_› ‹_›|exact nt ‹_› ‹_›))|(intro b hb;repeat first|(refine fe hb ?_;intro _ _ hb)|(refine fT hb ?_;intro hb))|refine rt ?_|refine gA rfl ?_|refine gB rfl ?_|apply cT rfl|apply cF rfl|(apply DM.gbT;rfl)|(apply DM.gbF;rfl)|intro h
    · (apply DM.pcs (p68 _ _ _); (· simp only [go_sem, Nat.reduceBEq, Nat.reduceAdd] <;> rfl); (· exact AVLes.refl _))
      repeat' first|(apply Sp.go;·constructor<;>first|exact ss|(change _=_;first|(simp only[go_sem,Nat.reduceBEq,Nat.reduceAdd,Nat.reduceLeDiff,reduceIte]<;>rfl)|rfl)|exact Nat.le_of_ble_eq_true rfl|decide|(repeat' first|(apply Lk.go;constructor)|assumption|exact nb ‹_› ‹_›|exact nt ‹_› ‹_›))|(intro b hb;repeat first|(refine fe hb ?_;intro _ _ hb)|(refine fT hb ?_;intro hb))|refine rt ?_|refine gA rfl ?_|refine gB rfl ?_|apply cT rfl|apply cF rfl|(apply DM.gbT;rfl)|(apply DM.gbF;rfl)|intro h
      · (apply DM.pcs (p69 p); (· simp only [go_sem, Nat.reduceBEq, Nat.reduceAdd] <;> rfl); (· exact AVLes.refl _))
        repeat' first|(apply Sp.go;·constructor<;>first|exact ss|(change _=_;first|(simp only[go_sem,Nat.reduceBEq,Nat.reduceAdd,Nat.reduceLeDiff,reduceIte]<;>rfl)|rfl)|exact Nat.le_of_ble_eq_true rfl|decide|(repeat' first|(apply Lk.go;constructor)|assumption|exact nb ‹_› ‹_›|exact nt ‹_› ‹_›))|(intro b hb;repeat first|(refine fe hb ?_;intro _ _ hb)|(refine fT hb ?_;intro hb))|refine rt ?_|refine gA rfl ?_|refine gB rfl ?_|apply cT rfl|apply cF rfl|(apply DM.gbT;rfl)|(apply DM.gbF;rfl)|intro h
        · (apply DM.pcs (p70 p); (· simp only [go_sem, Nat.reduceBEq, Nat.reduceAdd] <;> rfl); (· exact AVLes.refl _))
          repeat' first|(apply Sp.go;·constructor<;>first|exact ss|(change _=_;first|(simp only[go_sem,Nat.reduceBEq,Nat.reduceAdd,Nat.reduceLeDiff,reduceIte]<;>rfl)|rfl)|exact Nat.le_of_ble_eq_true rfl|decide|(repeat' first|(apply Lk.go;constructor)|assumption|exact nb ‹_› ‹_›|exact nt ‹_› ‹_›))|(intro b hb;repeat first|(refine fe hb ?_;intro _ _ hb)|(refine fT hb ?_;intro hb))|refine rt ?_|refine gA rfl ?_|refine gB rfl ?_|apply cT rfl|apply cF rfl|(apply DM.gbT;rfl)|(apply DM.gbF;rfl)|intro h
          · (apply AM.cond; (· rfl))
            · intro h
              repeat' first|(apply Sp.go;·constructor<;>first|exact ss|(change _=_;first|(simp only[go_sem,Nat.reduceBEq,Nat.reduceAdd,Nat.reduceLeDiff,reduceIte]<;>rfl)|rfl)|exact Nat.le_of_ble_eq_true rfl|decide|(repeat' first|(apply Lk.go;constructor)|assumption|exact nb ‹_› ‹_›|exact nt ‹_› ‹_›))|(intro b hb;repeat first|(refine fe hb ?_;intro _ _ hb)|(refine fT hb ?_;intro hb))|refine rt ?_|refine gA rfl ?_|refine gB rfl ?_|apply cT rfl|apply cF rfl|(apply DM.gbT;rfl)|(apply DM.gbF;rfl)|intro h
              (apply Sr.go;·constructor<;>first|(apply Lk.go;constructor<;>first|exact ss|(change _=_;first|(simp only[go_sem,Nat.reduceBEq,Nat.reduceAdd,Nat.reduceLeDiff,reduceIte]<;>rfl)|rfl)|exact Nat.le_of_ble_eq_true rfl|decide|(repeat' first|(apply Lk.go;constructor)|assumption|exact nb ‹_› ‹_›|exact nt ‹_› ‹_›))|assumption)
              refine avle_eq ?_; rw [AV.bool.injEq]; simp at *; simp [validP, *]
            · intro h
              have hpre : (isName p.name && inB p.role 0 5 && inB p.code.length 1 1000 && varsOk p.vars && partsOk p) = true := by simp at *; simp [*]
              rename Nat => b1
              repeat' first|(apply Sp.go;·constructor<;>first|exact ss|(change _=_;first|(simp only[go_sem,Nat.reduceBEq,Nat.reduceAdd,Nat.reduceLeDiff,reduceIte]<;>rfl)|rfl)|exact Nat.le_of_ble_eq_true rfl|decide|(repeat' first|(apply Lk.go;constructor)|assumption|exact nb ‹_› ‹_›|exact nt ‹_› ‹_›))|(intro b hb;repeat first|(refine fe hb ?_;intro _ _ hb)|(refine fT hb ?_;intro hb))|refine rt ?_|refine gA rfl ?_|refine gB rfl ?_|apply cT rfl|apply cF rfl|(apply DM.gbT;rfl)|(apply DM.gbF;rfl)|intro h
              refine AM.loopX (X := Nat) 0 (fun i => [(1, .ptr b1 0), (33, .vs 3 (p.code.map Ins_.row)), (34, .int .i64 p.code.length), (35, .int .i64 i)]) (fun i H' => H' = H.setB b1 41 p.cells ∧ i ≤ p.code.length ∧ ∀ j, j < i → okIx p j = true) (fun i => p.code.length - i) ⟨rfl, by omega, fun j hj => by omega⟩ ?_ ?_
              · (repeat first | exact envle_nil _ | (refine envle_cons ?_ ?_; · (simp only [go_sem, Nat.reduceBEq, Nat.reduceAdd]; exact AVLe.refl _)))
                refine envle_cons ?_ (envle_cons ?_ (envle_nil _))
                · simp only [Env.get, Nat.reduceBEq, cond_true, cond_false, beq_self_eq_true]
                  exact avle_int (by simp)
                · simp only [Env.get, Nat.reduceBEq, cond_true, cond_false, beq_self_eq_true]
                  exact AVLe.refl _
              · intro i H' ⟨e, hi, he⟩
                subst e
                repeat' first|(apply Sp.go;·constructor<;>first|exact ss|(change _=_;first|(simp only[go_sem,Nat.reduceBEq,Nat.reduceAdd,Nat.reduceLeDiff,reduceIte]<;>rfl)|rfl)|exact Nat.le_of_ble_eq_true rfl|decide|(repeat' first|(apply Lk.go;constructor)|assumption|exact nb ‹_› ‹_›|exact nt ‹_› ‹_›))|(intro b hb;repeat first|(refine fe hb ?_;intro _ _ hb)|(refine fT hb ?_;intro hb))|refine rt ?_|refine gA rfl ?_|refine gB rfl ?_|apply cT rfl|apply cF rfl|(apply DM.gbT;rfl)|(apply DM.gbF;rfl)|intro h
                (apply AM.cond; (· rfl))
                · intro h3
                  simp at h3
                  obtain ⟨x, hx⟩ : ∃ v, p.code[i]? = some v := ⟨_, List.getElem?_eq_getElem h3⟩
                  have hok : okIx p i = okIns p x := by simp [okIx, hx]
                  have fin : okIx p i = false → validP p = false := fun h => by simp only [validP]; rw [allI_false h3 h]; simp
                  repeat' first|(apply Sp.go;·constructor<;>first|exact ss|(change _=_;first|(simp only[go_sem,Nat.reduceBEq,Nat.reduceAdd,Nat.reduceLeDiff,reduceIte]<;>rfl)|rfl)|exact Nat.le_of_ble_eq_true rfl|decide|(repeat' first|(apply Lk.go;constructor)|assumption|exact nb ‹_› ‹_›|exact nt ‹_› ‹_›))|(intro b hb;repeat first|(refine fe hb ?_;intro _ _ hb)|(refine fT hb ?_;intro hb))|refine rt ?_|refine gA rfl ?_|refine gB rfl ?_|apply cT rfl|apply cF rfl|(apply DM.gbT;rfl)|(apply DM.gbF;rfl)|(apply DM.ixV (row := x.row) (z := (i : Int)) (by omega) (row_get Ins_.row hx); (· rfl); (· rfl))|intro h
                  (apply DM.pcs (p71 x); (· simp only [go_sem, Nat.reduceBEq, Nat.reduceAdd] <;> rfl); (· exact AVLes.refl _))
                  repeat' first|(apply Sp.go;·constructor<;>first|exact ss|(change _=_;first|(simp only[go_sem,Nat.reduceBEq,Nat.reduceAdd,Nat.reduceLeDiff,reduceIte]<;>rfl)|rfl)|exact Nat.le_of_ble_eq_true rfl|decide|(repeat' first|(apply Lk.go;constructor)|assumption|exact nb ‹_› ‹_›|exact nt ‹_› ‹_›))|(intro b hb;repeat first|(refine fe hb ?_;intro _ _ hb)|(refine fT hb ?_;intro hb))|refine rt ?_|refine gA rfl ?_|refine gB rfl ?_|apply cT rfl|apply cF rfl|(apply DM.gbT;rfl)|(apply DM.gbF;rfl)|(apply AM.condS;rfl)|intro h
                  all_goals try (apply DM.pcs (p72 p _); (· (simp only [List.map_cons, List.map_nil, EOpd.ev, Env.get, Nat.reduceBEq, cond_true, cond_false, beq_self_eq_true] <;> rfl)); (· exact AVLes.refl _))
                  all_goals (repeat' first|(apply Sp.go;·constructor<;>first|exact ss|(change _=_;first|(simp only[go_sem,Nat.reduceBEq,Nat.reduceAdd,Nat.reduceLeDiff,reduceIte]<;>rfl)|rfl)|exact Nat.le_of_ble_eq_true rfl|decide|(repeat' first|(apply Lk.go;constructor)|assumption|exact nb ‹_› ‹_›|exact nt ‹_› ‹_›))|(intro b hb;repeat first|(refine fe hb ?_;intro _ _ hb)|(refine fT hb ?_;intro hb))|refine rt ?_|refine gA rfl ?_|refine gB rfl ?_|apply cT rfl|apply cF rfl|(apply DM.gbT;rfl)|(apply DM.gbF;rfl)|(apply AM.condS;rfl)|intro h)
                  all_goals first
                    | (skip
                       (apply Sr.go;·constructor<;>first|(apply Lk.go;constructor<;>first|exact ss|(change _=_;first|(simp only[go_sem,Nat.reduceBEq,Nat.reduceAdd,Nat.reduceLeDiff,reduceIte]<;>rfl)|rfl)|exact Nat.le_of_ble_eq_true rfl|decide|(repeat' first|(apply Lk.go;constructor)|assumption|exact nb ‹_› ‹_›|exact nt ‹_› ‹_›))|assumption)
                       refine avle_eq ?_
                       rw [AV.bool.injEq, fin]
                       rw [hok]
                       simp at *
                       simp [okIns, *]
                       done)
                    | (skip
                       (apply Sr.go;·constructor<;>first|(apply Lk.go;constructor<;>first|exact ss|(change _=_;first|(simp only[go_sem,Nat.reduceBEq,Nat.reduceAdd,Nat.reduceLeDiff,reduceIte]<;>rfl)|rfl)|exact Nat.le_of_ble_eq_true rfl|decide|(repeat' first|(apply Lk.go;constructor)|assumption|exact nb ‹_› ‹_›|exact nt ‹_› ‹_›))|assumption)
                       refine avle_eq ?_
                       rw [AV.bool.injEq, fin]
                       rw [hok]
                       simp at *
                       simp [okIns, *]
                       omega)
                    | (skip
                       refine AM.forget (H.setB b1 41 p.cells) ?_ ?_
                       · (repeat' first|assumption|(apply Lk.go;constructor))
                       refine AM.roundX (i + 1) ⟨rfl, by omega, fun j hj => ?_⟩ ?_ ?_
                       · by_cases e : j = i
                         · subst e
                           rw [hok]
                           simp at *
                           simp [okIns, *]
                           try omega
                         · exact he j (by omega)
                       · (repeat first | exact envle_nil _ | (refine envle_cons ?_ ?_; · (simp only [go_sem, Nat.reduceBEq, Nat.reduceAdd]; exact AVLe.refl _)))
                         refine envle_cons ?_ ?_
                         · simp only [go_sem, Nat.reduceBEq, Nat.reduceAdd]
                           refine avle_int ?_
                           rw [inc64 h3 ok.code]
                         exact envle_nil _
                       · show p.code.length - (i + 1) < p.code.length - i
                         omega)
                · intro h3
                  simp at h3
                  repeat' first|(apply Sp.go;·constructor<;>first|exact ss|(change _=_;first|(simp only[go_sem,Nat.reduceBEq,Nat.reduceAdd,Nat.reduceLeDiff,reduceIte]<;>rfl)|rfl)|exact Nat.le_of_ble_eq_true rfl|decide|(repeat' first|(apply Lk.go;constructor)|assumption|exact nb ‹_› ‹_›|exact nt ‹_› ‹_›))|(intro b hb;repeat first|(refine fe hb ?_;intro _ _ hb)|(refine fT hb ?_;intro hb))|refine rt ?_|refine gA rfl ?_|refine gB rfl ?_|apply cT rfl|apply cF rfl|(apply DM.gbT;rfl)|(apply DM.gbF;rfl)|intro h
                  (apply Sr.go;·constructor<;>first|(apply Lk.go;constructor<;>first|exact ss|(change _=_;first|(simp only[go_sem,Nat.reduceBEq,Nat.reduceAdd,Nat.reduceLeDiff,reduceIte]<;>rfl)|rfl)|exact Nat.le_of_ble_eq_true rfl|decide|(repeat' first|(apply Lk.go;constructor)|assumption|exact nb ‹_› ‹_›|exact nt ‹_› ‹_›))|assumption)
                  refine avle_eq ?_; rw [AV.bool.injEq, validP, hpre, Bool.true_and, allI_true fun j hj => he j (by omega)]
        · (apply Sr.go;·constructor<;>first|(apply Lk.go;constructor<;>first|exact ss|(change _=_;first|(simp only[go_sem,Nat.reduceBEq,Nat.reduceAdd,Nat.reduceLeDiff,reduceIte]<;>rfl)|rfl)|exact Nat.le_of_ble_eq_true rfl|decide|(repeat' first|(apply Lk.go;constructor)|assumption|exact nb ‹_› ‹_›|exact nt ‹_› ‹_›))|assumption)
          refine avle_eq ?_; rw [AV.bool.injEq]; simp at *; simp [validP, *]
      · (apply Sr.go;·constructor<;>first|(apply Lk.go;constructor<;>first|exact ss|(change _=_;first|(simp only[go_sem,Nat.reduceBEq,Nat.reduceAdd,Nat.reduceLeDiff,reduceIte]<;>rfl)|rfl)|exact Nat.le_of_ble_eq_true rfl|decide|(repeat' first|(apply Lk.go;constructor)|assumption|exact nb ‹_› ‹_›|exact nt ‹_› ‹_›))|assumption)
        refine avle_eq ?_; rw [AV.bool.injEq]; simp at *; simp [validP, *]
    · (apply Sr.go;·constructor<;>first|(apply Lk.go;constructor<;>first|exact ss|(change _=_;first|(simp only[go_sem,Nat.reduceBEq,Nat.reduceAdd,Nat.reduceLeDiff,reduceIte]<;>rfl)|rfl)|exact Nat.le_of_ble_eq_true rfl|decide|(repeat' first|(apply Lk.go;constructor)|assumption|exact nb ‹_› ‹_›|exact nt ‹_› ‹_›))|assumption)
      refine avle_eq ?_; rw [AV.bool.injEq]; simp at *; simp [validP, *]
  · (apply Sr.go;·constructor<;>first|(apply Lk.go;constructor<;>first|exact ss|(change _=_;first|(simp only[go_sem,Nat.reduceBEq,Nat.reduceAdd,Nat.reduceLeDiff,reduceIte]<;>rfl)|rfl)|exact Nat.le_of_ble_eq_true rfl|decide|(repeat' first|(apply Lk.go;constructor)|assumption|exact nb ‹_› ‹_›|exact nt ‹_› ‹_›))|assumption)
    refine avle_eq ?_; rw [AV.bool.injEq]; simp at *; simp [validP, *]
end Go.Aw.T
