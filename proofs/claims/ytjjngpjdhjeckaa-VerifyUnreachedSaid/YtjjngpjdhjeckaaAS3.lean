/- Part of a proof; own work. -/
import Derived.Test.YtjjngpjdhjeckaaA0
import Derived.Test.YtjjngpjdhjeckaaProg
import Derived.Below
import Derived.Lib.OthersKept
import Derived.Deep.LoopGhost
import Derived.Laws.RangeAny
import Derived.Test.YtjjngpjdhjeckaaAS2
namespace Go.Aw.T
open Go Go.Aw Go.Proofs
set_option linter.unusedVariables false
theorem hid_box (m : Mem) (rh : RH m) (v0 v1 : Value) (T : TypeId) (w1 : World) (hw : w1 = (m.w.alloc (.cells #[v0] T)).setCell ⟨m.w.heap.size, 0, none⟩ v1) : RH ⟨w1, m.H, m.L, m.T⟩ ∧ Ev m ⟨w1, m.H, m.L, m.T⟩ ∧ (∀ b, b < m.w.heap.size → w1.heap[b]? = m.w.heap[b]?) ∧ w1.heap.size = m.w.heap.size + 1 := by
  have h5 : ∀ b, b < m.w.heap.size → w1.heap[b]? = m.w.heap[b]? := by
    intro b hb
    rw [hw, heap_setCell_other _ _ _ _ (by simp; omega)]
    exact hpold m.w _ b hb
  have h4 : w1.heap.size = m.w.heap.size + 1 := by rw [hw]; simp
  have h1 : w1.os = m.w.os := by rw [hw]; rfl
  have h2 : w1.tape = m.w.tape := by rw [hw]; rfl
  have h3 : w1.output = m.w.output := by rw [hw]; rfl
  exact ⟨RH.hid rh h1 h2 h3 (by omega) h5, Ev.hid h1 h2 h3 (by omega) h5, h5, h4⟩
theorem d73i (b : Nat) : DIdle Try.prog 73 [.ptr b 0] := by
  intro m vs rh hv
  simp only [RvL, Rv] at hv
  obtain ⟨v, vs', rfl, rfl, rfl⟩ := hv
  refine (catch_idle b m.w).mono ?_
  rintro e u' w' ⟨rfl, rfl, hw⟩
  obtain ⟨r1, r2, _, _⟩ := hid_box m rh _ _ _ w' hw
  exact ⟨⟨_, rfl⟩, rfl, m.L, m.T, r1, r2⟩
theorem d73p (b : Nat) (e0 ec : Int) (H : AHeap) (hb : H.blk b = some (33, [.int .i64 e0])) : DCalls Try.prog 73 [.ptr b 0] (.ifc 162 (.agg [.int .i64 ec])) H fun H2 => H2 = H.setB b 33 [.int .i64 ec] := by
  intro m vs cv hH rh hv hcv
  subst hH
  simp only [RvL, Rv] at hv hcv
  obtain ⟨v, vs', rfl, rfl, rfl⟩ := hv
  obtain ⟨x, rfl, l, rfl, y, l', rfl, rfl, rfl⟩ := hcv
  obtain ⟨l, g1, g2, g3⟩ := rh.blk b _ _ hb
  simp only [RvL, Rv] at g2
  obtain ⟨z, l', rfl, rfl, rfl⟩ := g2
  refine (catch_pan b e0 ec m.w g1).mono ?_
  rintro e u' w' ⟨rfl, rfl, hw⟩
  refine ⟨⟨_, rfl⟩, rfl, ?_⟩
  generalize hw1 : (m.w.alloc (.cells #[.int .i64 0] 162)).setCell ⟨m.w.heap.size, 0, none⟩ (.int .i64 ec) = w1 at hw
  obtain ⟨r1, r2, h5, h4⟩ := hid_box m rh _ _ _ w1 hw1.symm
  have hlt : b < m.w.heap.size := (Array.getElem?_eq_some_iff.1 g1).1
  have g1' : w1.heap[b]? = some (.cells ⟨[.int .i64 e0]⟩ 33 (0, 0)) := (h5 b hlt).trans g1
  have hb1 : (⟨w1, m.H, m.L, m.T⟩ : Mem).H.blk b = some (33, [.int .i64 e0]) := hb
  have q1 : w'.os = w1.os := by rw [hw]; rfl
  have q2 : w'.tape = w1.tape := by rw [hw]; rfl
  have q3 : w'.output = w1.output := by rw [hw]; rfl
  have q4 : w'.heap.size = w1.heap.size := by rw [hw]; simp
  have q5 : ∀ k, k ≠ b → w'.heap[k]? = w1.heap[k]? := fun k hk => by rw [hw]; exact heap_setCell_other _ _ _ _ hk
  have q6 : w'.heap[b]? = some (.cells ⟨[.int .i64 ec]⟩ 33 (0, 0)) := by
    rw [hw, heap_setCell_same _ b 0 _ _ _ g1']
    rfl
  have q7 : RvL (⟨w1, m.H, m.L, m.T⟩ : Mem) [.int .i64 ec] [.int .i64 ec] := by simp [RvL, Rv]
  have v2 := Ev.st r1 (w' := w') (cs := [.int .i64 ec]) (T := 33) hb1 q1 q2 q3 q4 q5
  have r3 := RH.st r1 (w' := w') (cs := [.int .i64 ec]) (T := 33) hb1 q1 q2 q3 q4 q5 q6 q7 (by simp [Value.oneCell'])
  exact ⟨_, m.L, m.T, r3, r2.trans v2, rfl⟩
end Go.Aw.T
namespace Go.Aw.T
open Go Go.Aw Go.Proofs
set_option maxRecDepth 1000000
def e29 : EC :=
 (.seq
 (.region [
 ⟨(some 2), none, .alloc 70 [.int .i64 0, .int .i64 0, .str []]⟩] false)
 (.seq
 (.region [
 ⟨(some 3), none, .mv (.t 0)⟩,
 ⟨(some 4), none, .build [.int .i64 0, .int .i64 0, .str []] [(0, 1, (.c (.int .i64 1))), (1, 1, (.t 3))]⟩,
 ⟨none, none, .store 3 (.t 2) (.t 4)⟩] false)
 .ret))
def r29 : List ERes := [.cell true 3 2]
theorem c29 : chkF Try.prog Try.f29 1 e29 r29 = true := by kernel_rfl
def e43 : EC :=
 (.seq
 (.region [
 ⟨(some 1), none, .box 41 (.t 0)⟩,
 ⟨(some 2), none, .mv (.c (.bool false))⟩] false)
 (.seq
 (.seq
 (.region [
 ⟨(some 5), none, .faddr 0 (.t 1)⟩,
 ⟨(some 6), none, .load false 1 (.t 5)⟩,
 ⟨(some 7), none, .call 67 [(.t 6)]⟩,
 ⟨(some 8), none, .not (.t 7)⟩,
 ⟨(some 9), none, .mv (.t 8)⟩,
 ⟨(some 10), (some (9, false)), .faddr 1 (.t 1)⟩,
 ⟨(some 11), (some (9, false)), .load false 1 (.t 10)⟩,
 ⟨(some 12), (some (9, false)), .call 68 [(.t 11), (.c (.int .i64 0)), (.c (.int .i64 5))]⟩,
 ⟨(some 13), (some (9, false)), .not (.t 12)⟩,
 ⟨(some 14), none, .pick (.t 9) (.c (.bool true)) (.t 13)⟩,
 ⟨(some 15), none, .mv (.t 14)⟩,
 ⟨(some 16), (some (15, false)), .faddr 5 (.t 1)⟩,
 ⟨(some 17), (some (15, false)), .load false 1 (.t 16)⟩,
 ⟨(some 18), (some (15, false)), .len (.t 17)⟩,
 ⟨(some 19), (some (15, false)), .call 68 [(.t 18), (.c (.int .i64 1)), (.c (.int .i64 1000))]⟩,
 ⟨(some 20), (some (15, false)), .not (.t 19)⟩,
 ⟨(some 21), none, .pick (.t 15) (.c (.bool true)) (.t 20)⟩,
 ⟨(some 22), none, .mv (.t 21)⟩,
 ⟨(some 23), (some (22, false)), .load true 6 (.t 1)⟩,
 ⟨(some 24), (some (22, false)), .call 69 [(.t 23)]⟩,
 ⟨(some 25), (some (22, false)), .not (.t 24)⟩,
 ⟨(some 26), none, .pick (.t 22) (.c (.bool true)) (.t 25)⟩,
 ⟨(some 27), none, .mv (.t 26)⟩,
 ⟨(some 28), (some (27, false)), .load true 6 (.t 1)⟩,
 ⟨(some 29), (some (27, false)), .call 70 [(.t 28)]⟩,
 ⟨(some 30), (some (27, false)), .not (.t 29)⟩,
 ⟨(some 31), none, .pick (.t 27) (.c (.bool true)) (.t 30)⟩] false)
 (.cond (.t 31)
 (.seq
 (.region [
 ⟨(some 2), none, .mv (.c (.bool false))⟩] false)
 .ret)
 .skip))
 (.seq
 (.seq
 (.region [
 ⟨(some 32), none, .faddr 5 (.t 1)⟩,
 ⟨(some 33), none, .load false 1 (.t 32)⟩,
 ⟨(some 34), none, .len (.t 33)⟩,
 ⟨(some 35), none, .mv (.c (.int .i64 0))⟩] false)
 (.block 0
 (.loop
 (.seq
 (.region [
 ⟨(some 36), none, .bin .lss (.t 35) (.t 34)⟩] false)
 (.seq
 (.cond (.t 36)
 .skip
 (.exit 0))
 (.seq
 (.block 1
 (.seq
 (.region [
 ⟨(some 37), none, .iaddr 3 (.t 33) (.t 35)⟩,
 ⟨(some 38), none, .load true 3 (.t 37)⟩,
 ⟨(some 4), none, .alloc 88 [.int .i64 0, .int .i64 0, .str []]⟩,
 ⟨none, none, .store 3 (.t 4) (.t 38)⟩] false)
 (.seq
 (.seq
 (.region [
 ⟨(some 39), none, .load true 3 (.t 4)⟩,
 ⟨(some 40), none, .call 71 [(.t 39)]⟩,
 ⟨(some 41), none, .not (.t 40)⟩] false)
 (.cond (.t 41)
 (.seq
 (.region [
 ⟨(some 2), none, .mv (.c (.bool false))⟩] false)
 .ret)
 .skip))
 (.seq
 (.region [
 ⟨(some 42), none, .faddr 0 (.t 4)⟩,
 ⟨(some 43), none, .load false 1 (.t 42)⟩] false)
 (.block 2
 (.seq
 (.seq
 (.region [
 ⟨(some 45), none, .bin .eql (.t 43) (.c (.int .i64 3))⟩,
 ⟨(some 44), none, .mv (.t 45)⟩] false)
 (.cond (.t 44)
 .skip
 (.region [
 ⟨(some 46), none, .bin .eql (.t 43) (.c (.int .i64 5))⟩,
 ⟨(some 44), none, .mv (.t 46)⟩] false)))
 (.cond (.t 44)
 (.seq
 (.region [
 ⟨(some 47), none, .faddr 1 (.t 4)⟩,
 ⟨(some 48), none, .load false 1 (.t 47)⟩,
 ⟨(some 49), none, .faddr 2 (.t 1)⟩,
 ⟨(some 50), none, .load false 1 (.t 49)⟩,
 ⟨(some 51), none, .len (.t 50)⟩,
 ⟨(some 52), none, .bin .geq (.t 48) (.t 51)⟩] false)
 (.cond (.t 52)
 (.seq
 (.region [
 ⟨(some 2), none, .mv (.c (.bool false))⟩] false)
 .ret)
 .skip))
 (.seq
 (.seq
 (.region [
 ⟨(some 54), none, .bin .eql (.t 43) (.c (.int .i64 19))⟩,
 ⟨(some 53), none, .mv (.t 54)⟩] false)
 (.cond (.t 53)
 .skip
 (.seq
 (.region [
 ⟨(some 55), none, .bin .eql (.t 43) (.c (.int .i64 20))⟩,
 ⟨(some 53), none, .mv (.t 55)⟩] false)
 (.cond (.t 53)
 .skip
 (.region [
 ⟨(some 56), none, .bin .eql (.t 43) (.c (.int .i64 22))⟩,
 ⟨(some 53), none, .mv (.t 56)⟩] false)))))
 (.cond (.t 53)
 (.seq
 (.region [
 ⟨(some 57), none, .load true 6 (.t 1)⟩,
 ⟨(some 58), none, .faddr 1 (.t 4)⟩,
 ⟨(some 59), none, .load false 1 (.t 58)⟩,
 ⟨(some 60), none, .call 72 [(.t 57), (.t 59)]⟩,
 ⟨(some 61), none, .not (.t 60)⟩] false)
 (.cond (.t 61)
 (.seq
 (.region [
 ⟨(some 2), none, .mv (.c (.bool false))⟩] false)
 .ret)
 .skip))
 .skip)))))))))
 (.region [
 ⟨(some 62), none, .bin .add (.t 35) (.c (.int .i64 1))⟩,
 ⟨(some 35), none, .mv (.t 62)⟩] false)))))))
 (.seq
 (.region [
 ⟨(some 2), none, .mv (.c (.bool true))⟩] false)
 .ret))))
def r43 : List ERes := [.t 2]
theorem c43 : chkF Try.prog Try.f43 1 e43 r43 = true := by kernel_rfl
def e55 : EC :=
 (.seq
 (.region [
 ⟨(some 1), none, .box 70 (.t 0)⟩,
 ⟨(some 2), none, .mv (.c (.bool false))⟩] false)
 (.seq
 (.seq
 (.region [
 ⟨(some 3), none, .faddr 0 (.t 1)⟩,
 ⟨(some 4), none, .load false 1 (.t 3)⟩] false)
 (.block 0
 (.seq
 (.region [
 ⟨(some 6), none, .bin .eql (.t 4) (.c (.int .i64 1))⟩,
 ⟨(some 5), none, .mv (.t 6)⟩] false)
 (.cond (.t 5)
 (.seq
 (.region [
 ⟨(some 7), none, .faddr 1 (.t 1)⟩,
 ⟨(some 8), none, .load false 1 (.t 7)⟩,
 ⟨(some 9), none, .bin .geq (.t 8) (.c (.int .i64 (-1000)))⟩,
 ⟨(some 10), none, .mv (.t 9)⟩,
 ⟨(some 11), (some (10, true)), .faddr 1 (.t 1)⟩,
 ⟨(some 12), (some (10, true)), .load false 1 (.t 11)⟩,
 ⟨(some 13), (some (10, true)), .bin .leq (.t 12) (.c (.int .i64 1000))⟩,
 ⟨(some 14), none, .pick (.t 10) (.t 13) (.c (.bool false))⟩,
 ⟨(some 15), none, .mv (.t 14)⟩,
 ⟨(some 16), (some (15, true)), .faddr 2 (.t 1)⟩,
 ⟨(some 17), (some (15, true)), .load false 1 (.t 16)⟩,
 ⟨(some 18), (some (15, true)), .bin .eql (.t 17) (.c (.str []))⟩,
 ⟨(some 19), none, .pick (.t 15) (.t 18) (.c (.bool false))⟩,
 ⟨(some 2), none, .mv (.t 19)⟩] false)
 .ret)
 (.seq
 (.region [
 ⟨(some 21), none, .bin .eql (.t 4) (.c (.int .i64 2))⟩,
 ⟨(some 20), none, .mv (.t 21)⟩] false)
 (.cond (.t 20)
 (.seq
 (.region [
 ⟨(some 22), none, .faddr 1 (.t 1)⟩,
 ⟨(some 23), none, .load false 1 (.t 22)⟩,
 ⟨(some 24), none, .bin .eql (.t 23) (.c (.int .i64 0))⟩,
 ⟨(some 25), none, .mv (.t 24)⟩,
 ⟨(some 26), (some (25, true)), .faddr 2 (.t 1)⟩,
 ⟨(some 27), (some (25, true)), .load false 1 (.t 26)⟩,
 ⟨(some 28), (some (25, true)), .lenS (.t 27)⟩,
 ⟨(some 29), (some (25, true)), .bin .leq (.t 28) (.c (.int .i64 40))⟩,
 ⟨(some 30), none, .pick (.t 25) (.t 29) (.c (.bool false))⟩,
 ⟨(some 31), none, .mv (.t 30)⟩,
 ⟨(some 32), (some (31, true)), .faddr 2 (.t 1)⟩,
 ⟨(some 33), (some (31, true)), .load false 1 (.t 32)⟩,
 ⟨(some 34), (some (31, true)), .call 85 [(.t 33)]⟩,
 ⟨(some 35), none, .pick (.t 31) (.t 34) (.c (.bool false))⟩,
 ⟨(some 2), none, .mv (.t 35)⟩] false)
 .ret)
 .skip))))))
 (.seq
 (.region [
 ⟨(some 2), none, .mv (.c (.bool false))⟩] false)
 .ret)))
def r55 : List ERes := [.t 2]
theorem c55 : chkF Try.prog Try.f55 1 e55 r55 = true := by kernel_rfl
def e61 : EC :=
 (.seq
 (.region [
 ⟨(some 2), none, .box 85 (.t 0)⟩,
 ⟨(some 3), none, .box 70 (.t 1)⟩,
 ⟨(some 4), none, .mv (.c (.bool false))⟩] false)
 (.seq
 (.region [
 ⟨(some 6), none, .load true 3 (.t 3)⟩,
 ⟨(some 7), none, .call 96 [(.t 6)]⟩,
 ⟨(some 5), none, .mv (.t 7)⟩] false)
 (.seq
 (.region [
 ⟨(some 8), none, .load true 3 (.t 2)⟩,
 ⟨(some 9), none, .call 97 [(.t 8)]⟩,
 ⟨(some 10), none, .mv (.t 9)⟩,
 ⟨(some 11), (some (10, true)), .load true 3 (.t 3)⟩,
 ⟨(some 12), (some (10, true)), .call 55 [(.t 11)]⟩,
 ⟨(some 13), none, .pick (.t 10) (.t 12) (.c (.bool false))⟩,
 ⟨(some 14), none, .mv (.t 13)⟩,
 ⟨(some 15), (some (14, true)), .faddr 0 (.t 2)⟩,
 ⟨(some 16), (some (14, true)), .load false 1 (.t 15)⟩,
 ⟨(some 17), (some (14, true)), .faddr 0 (.t 3)⟩,
 ⟨(some 18), (some (14, true)), .load false 1 (.t 17)⟩,
 ⟨(some 19), (some (14, true)), .bin .eql (.t 16) (.t 18)⟩,
 ⟨(some 20), none, .pick (.t 14) (.t 19) (.c (.bool false))⟩,
 ⟨(some 21), none, .mv (.t 20)⟩,
 ⟨(some 22), (some (21, true)), .mv (.t 5)⟩,
 ⟨(some 23), (some (21, true)), .faddr 1 (.t 2)⟩,
 ⟨(some 24), (some (21, true)), .load false 1 (.t 23)⟩,
 ⟨(some 25), (some (21, true)), .bin .geq (.t 22) (.t 24)⟩,
 ⟨(some 26), none, .pick (.t 21) (.t 25) (.c (.bool false))⟩,
 ⟨(some 27), none, .mv (.t 26)⟩,
 ⟨(some 28), (some (27, true)), .mv (.t 5)⟩,
 ⟨(some 29), (some (27, true)), .faddr 2 (.t 2)⟩,
 ⟨(some 30), (some (27, true)), .load false 1 (.t 29)⟩,
 ⟨(some 31), (some (27, true)), .bin .leq (.t 28) (.t 30)⟩,
 ⟨(some 32), none, .pick (.t 27) (.t 31) (.c (.bool false))⟩,
 ⟨(some 4), none, .mv (.t 32)⟩] false)
 .ret)))
def r61 : List ERes := [.t 4]
theorem c61 : chkF Try.prog Try.f61 2 e61 r61 = true := by kernel_rfl
def e67 : EC :=
 (.seq
 (.region [
 ⟨(some 2), none, .mv (.c (.bool false))⟩] false)
 (.seq
 (.seq
 (.region [
 ⟨(some 4), none, .mv (.t 0)⟩,
 ⟨(some 5), none, .bin .eql (.t 4) (.c (.str []))⟩,
 ⟨(some 6), none, .mv (.t 5)⟩,
 ⟨(some 7), (some (6, false)), .mv (.t 0)⟩,
 ⟨(some 8), (some (6, false)), .lenS (.t 7)⟩,
 ⟨(some 9), (some (6, false)), .bin .gtr (.t 8) (.c (.int .i64 16))⟩,
 ⟨(some 10), none, .pick (.t 6) (.c (.bool true)) (.t 9)⟩,
 ⟨(some 11), none, .mv (.t 10)⟩,
 ⟨(some 12), (some (11, false)), .mv (.t 0)⟩,
 ⟨(some 13), (some (11, false)), .idxS (.t 12) (.c (.int .i64 0))⟩,
 ⟨(some 14), (some (11, false)), .call 106 [(.t 13)]⟩,
 ⟨(some 15), (some (11, false)), .not (.t 14)⟩,
 ⟨(some 16), none, .pick (.t 11) (.c (.bool true)) (.t 15)⟩] false)
 (.cond (.t 16)
 (.seq
 (.region [
 ⟨(some 2), none, .mv (.c (.bool false))⟩] false)
 .ret)
 .skip))
 (.seq
 (.seq
 (.region [
 ⟨(some 17), none, .mv (.t 0)⟩,
 ⟨(some 18), none, .lenS (.t 17)⟩,
 ⟨(some 19), none, .mv (.c (.int .i64 0))⟩] false)
 (.block 0
 (.loop
 (.seq
 (.region [
 ⟨(some 20), none, .bin .lss (.t 19) (.t 18)⟩] false)
 (.seq
 (.cond (.t 20)
 .skip
 (.exit 0))
 (.seq
 (.block 1
 (.seq
 (.region [
 ⟨(some 21), none, .mv (.t 19)⟩,
 ⟨(some 3), none, .mv (.t 21)⟩] false)
 (.seq
 (.region [
 ⟨(some 22), none, .mv (.t 0)⟩,
 ⟨(some 23), none, .mv (.t 3)⟩,
 ⟨(some 24), none, .idxS (.t 22) (.t 23)⟩,
 ⟨(some 25), none, .call 107 [(.t 24)]⟩,
 ⟨(some 26), none, .not (.t 25)⟩] false)
 (.cond (.t 26)
 (.seq
 (.region [
 ⟨(some 2), none, .mv (.c (.bool false))⟩] false)
 .ret)
 .skip))))
 (.region [
 ⟨(some 27), none, .bin .add (.t 19) (.c (.int .i64 1))⟩,
 ⟨(some 19), none, .mv (.t 27)⟩] false)))))))
 (.seq
 (.region [
 ⟨(some 2), none, .mv (.c (.bool true))⟩] false)
 .ret))))
def r67 : List ERes := [.t 2]
theorem c67 : chkF Try.prog Try.f67 1 e67 r67 = true := by kernel_rfl
def e68 : EC :=
 (.seq
 (.region [
 ⟨(some 6), none, .mv (.c (.bool false))⟩] false)
 (.seq
 (.region [
 ⟨(some 7), none, .mv (.t 0)⟩,
 ⟨(some 8), none, .mv (.t 1)⟩,
 ⟨(some 9), none, .bin .geq (.t 7) (.t 8)⟩,
 ⟨(some 10), none, .mv (.t 9)⟩,
 ⟨(some 11), (some (10, true)), .mv (.t 0)⟩,
 ⟨(some 12), (some (10, true)), .mv (.t 2)⟩,
 ⟨(some 13), (some (10, true)), .bin .leq (.t 11) (.t 12)⟩,
 ⟨(some 14), none, .pick (.t 10) (.t 13) (.c (.bool false))⟩,
 ⟨(some 6), none, .mv (.t 14)⟩] false)
 .ret))
def r68 : List ERes := [.t 6]
theorem c68 : chkF Try.prog Try.f68 3 e68 r68 = true := by kernel_rfl
def e69 : EC :=
 (.seq
 (.region [
 ⟨(some 1), none, .box 41 (.t 0)⟩,
 ⟨(some 2), none, .mv (.c (.bool false))⟩] false)
 (.seq
 (.seq
 (.region [
 ⟨(some 6), none, .faddr 2 (.t 1)⟩,
 ⟨(some 7), none, .load false 1 (.t 6)⟩,
 ⟨(some 8), none, .len (.t 7)⟩,
 ⟨(some 9), none, .mv (.c (.int .i64 0))⟩] false)
 (.block 0
 (.loop
 (.seq
 (.region [
 ⟨(some 10), none, .bin .lss (.t 9) (.t 8)⟩] false)
 (.seq
 (.cond (.t 10)
 .skip
 (.exit 0))
 (.seq
 (.block 1
 (.seq
 (.region [
 ⟨(some 11), none, .mv (.t 9)⟩,
 ⟨(some 12), none, .iaddr 7 (.t 7) (.t 9)⟩,
 ⟨(some 13), none, .load true 7 (.t 12)⟩,
 ⟨(some 4), none, .alloc 87 [.str [], .int .i64 0, .int .i64 0, .int .i64 0, .int .i64 0, .int .i64 0, .str []]⟩,
 ⟨(some 3), none, .mv (.t 11)⟩,
 ⟨none, none, .store 7 (.t 4) (.t 13)⟩] false)
 (.seq
 (.region [
 ⟨(some 14), none, .mkfn 108 [(.t 4)]⟩,
 ⟨(some 5), none, .mv (.t 14)⟩] false)
 (.seq
 (.region [
 ⟨(some 15), none, .faddr 0 (.t 4)⟩,
 ⟨(some 16), none, .load false 1 (.t 15)⟩,
 ⟨(some 17), none, .call 67 [(.t 16)]⟩,
 ⟨(some 18), none, .not (.t 17)⟩,
 ⟨(some 19), none, .mv (.t 18)⟩,
 ⟨(some 20), (some (19, false)), .faddr 2 (.t 1)⟩,
 ⟨(some 21), (some (19, false)), .load false 1 (.t 20)⟩,
 ⟨(some 22), (some (19, false)), .mv (.t 5)⟩,
 ⟨(some 23), (some (19, false)), .call 109 [(.t 21), (.t 22)]⟩,
 ⟨(some 24), (some (19, false)), .mv (.t 3)⟩,
 ⟨(some 25), (some (19, false)), .bin .neq (.t 23) (.t 24)⟩,
 ⟨(some 26), none, .pick (.t 19) (.c (.bool true)) (.t 25)⟩,
 ⟨(some 27), none, .mv (.t 26)⟩,
 ⟨(some 28), (some (27, false)), .faddr 1 (.t 4)⟩,
 ⟨(some 29), (some (27, false)), .load true 3 (.t 28)⟩,
 ⟨(some 30), (some (27, false)), .faddr 4 (.t 4)⟩,
 ⟨(some 31), (some (27, false)), .load true 3 (.t 30)⟩,
 ⟨(some 32), (some (27, false)), .call 61 [(.t 29), (.t 31)]⟩,
 ⟨(some 33), (some (27, false)), .not (.t 32)⟩,
 ⟨(some 34), none, .pick (.t 27) (.c (.bool true)) (.t 33)⟩] false)
 (.cond (.t 34)
 (.seq
 (.region [
 ⟨(some 2), none, .mv (.c (.bool false))⟩] false)
 .ret)
 .skip)))))
 (.region [
 ⟨(some 35), none, .bin .add (.t 9) (.c (.int .i64 1))⟩,
 ⟨(some 9), none, .mv (.t 35)⟩] false)))))))
 (.seq
 (.region [
 ⟨(some 36), none, .faddr 2 (.t 1)⟩,
 ⟨(some 37), none, .load false 1 (.t 36)⟩,
 ⟨(some 38), none, .len (.t 37)⟩,
 ⟨(some 39), none, .bin .leq (.t 38) (.c (.int .i64 12))⟩,
 ⟨(some 2), none, .mv (.t 39)⟩] false)
 .ret)))
def r69 : List ERes := [.t 2]
theorem c69 : chkF Try.prog Try.f69 1 e69 r69 = true := by kernel_rfl
def e70 : EC :=
 (.seq
 (.region [
 ⟨(some 1), none, .box 41 (.t 0)⟩,
 ⟨(some 2), none, .mv (.c (.bool false))⟩] false)
 (.seq
 (.seq
 (.region [
 ⟨(some 8), none, .faddr 3 (.t 1)⟩,
 ⟨(some 9), none, .load false 1 (.t 8)⟩,
 ⟨(some 10), none, .len (.t 9)⟩,
 ⟨(some 11), none, .mv (.c (.int .i64 0))⟩] false)
 (.block 0
 (.loop
 (.seq
 (.region [
 ⟨(some 12), none, .bin .lss (.t 11) (.t 10)⟩] false)
 (.seq
 (.cond (.t 12)
 .skip
 (.exit 0))
 (.seq
 (.block 1
 (.seq
 (.region [
 ⟨(some 13), none, .mv (.t 11)⟩,
 ⟨(some 14), none, .iaddr 3 (.t 9) (.t 11)⟩,
 ⟨(some 15), none, .load true 3 (.t 14)⟩,
 ⟨(some 4), none, .alloc 128 [.int .i64 0, .int .i64 0, .int .i64 0]⟩,
 ⟨(some 3), none, .mv (.t 13)⟩,
 ⟨none, none, .store 3 (.t 4) (.t 15)⟩] false)
 (.seq
 (.region [
 ⟨(some 16), none, .mkfn 110 [(.t 4)]⟩,
 ⟨(some 5), none, .mv (.t 16)⟩] false)
 (.seq
 (.region [
 ⟨(some 17), none, .load true 6 (.t 1)⟩,
 ⟨(some 18), none, .faddr 0 (.t 4)⟩,
 ⟨(some 19), none, .load false 1 (.t 18)⟩,
 ⟨(some 20), none, .faddr 1 (.t 4)⟩,
 ⟨(some 21), none, .load false 1 (.t 20)⟩,
 ⟨(some 22), none, .call 111 [(.t 17), (.t 19), (.t 21)]⟩,
 ⟨(some 23), none, .not (.t 22)⟩,
 ⟨(some 24), none, .mv (.t 23)⟩,
 ⟨(some 25), (some (24, false)), .load true 6 (.t 1)⟩,
 ⟨(some 26), (some (24, false)), .faddr 2 (.t 4)⟩,
 ⟨(some 27), (some (24, false)), .load false 1 (.t 26)⟩,
 ⟨(some 28), (some (24, false)), .call 72 [(.t 25), (.t 27)]⟩,
 ⟨(some 29), (some (24, false)), .not (.t 28)⟩,
 ⟨(some 30), none, .pick (.t 24) (.c (.bool true)) (.t 29)⟩,
 ⟨(some 31), none, .mv (.t 30)⟩,
 ⟨(some 32), (some (31, false)), .faddr 3 (.t 1)⟩,
 ⟨(some 33), (some (31, false)), .load false 1 (.t 32)⟩,
 ⟨(some 34), (some (31, false)), .mv (.t 5)⟩,
 ⟨(some 35), (some (31, false)), .call 112 [(.t 33), (.t 34)]⟩,
 ⟨(some 36), (some (31, false)), .mv (.t 3)⟩,
 ⟨(some 37), (some (31, false)), .bin .neq (.t 35) (.t 36)⟩,
 ⟨(some 38), none, .pick (.t 31) (.c (.bool true)) (.t 37)⟩] false)
 (.cond (.t 38)
 (.seq
 (.region [
 ⟨(some 2), none, .mv (.c (.bool false))⟩] false)
 .ret)
 .skip)))))
 (.region [
 ⟨(some 39), none, .bin .add (.t 11) (.c (.int .i64 1))⟩,
 ⟨(some 11), none, .mv (.t 39)⟩] false)))))))
 (.seq
 (.seq
 (.region [
 ⟨(some 40), none, .faddr 4 (.t 1)⟩,
 ⟨(some 41), none, .load false 1 (.t 40)⟩,
 ⟨(some 42), none, .len (.t 41)⟩,
 ⟨(some 43), none, .mv (.c (.int .i64 0))⟩] false)
 (.block 2
 (.loop
 (.seq
 (.region [
 ⟨(some 44), none, .bin .lss (.t 43) (.t 42)⟩] false)
 (.seq
 (.cond (.t 44)
 .skip
 (.exit 2))
 (.seq
 (.block 3
 (.seq
 (.region [
 ⟨(some 45), none, .iaddr 4 (.t 41) (.t 43)⟩,
 ⟨(some 46), none, .load true 4 (.t 45)⟩,
 ⟨(some 7), none, .alloc 117 [.int .i64 0, .int .i64 0, .int .i64 0, .int .i64 0]⟩,
 ⟨none, none, .store 4 (.t 7) (.t 46)⟩] false)
 (.seq
 (.region [
 ⟨(some 47), none, .load true 6 (.t 1)⟩,
 ⟨(some 48), none, .faddr 0 (.t 7)⟩,
 ⟨(some 49), none, .load false 1 (.t 48)⟩,
 ⟨(some 50), none, .faddr 1 (.t 7)⟩,
 ⟨(some 51), none, .load false 1 (.t 50)⟩,
 ⟨(some 52), none, .call 111 [(.t 47), (.t 49), (.t 51)]⟩,
 ⟨(some 53), none, .not (.t 52)⟩,
 ⟨(some 54), none, .mv (.t 53)⟩,
 ⟨(some 55), (some (54, false)), .load true 6 (.t 1)⟩,
 ⟨(some 56), (some (54, false)), .faddr 3 (.t 7)⟩,
 ⟨(some 57), (some (54, false)), .load false 1 (.t 56)⟩,
 ⟨(some 58), (some (54, false)), .call 72 [(.t 55), (.t 57)]⟩,
 ⟨(some 59), (some (54, false)), .not (.t 58)⟩,
 ⟨(some 60), none, .pick (.t 54) (.c (.bool true)) (.t 59)⟩,
 ⟨(some 61), none, .mv (.t 60)⟩,
 ⟨(some 62), (some (61, false)), .faddr 2 (.t 7)⟩,
 ⟨(some 63), (some (61, false)), .load false 1 (.t 62)⟩,
 ⟨(some 64), (some (61, false)), .bin .neq (.t 63) (.c (.int .i64 (-1)))⟩,
 ⟨(some 65), (some (61, false)), .mv (.t 64)⟩,
 ⟨(some 66), (some (65, true)), .load true 6 (.t 1)⟩,
 ⟨(some 67), (some (65, true)), .faddr 2 (.t 7)⟩,
 ⟨(some 68), (some (65, true)), .load false 1 (.t 67)⟩,
 ⟨(some 69), (some (65, true)), .call 72 [(.t 66), (.t 68)]⟩,
 ⟨(some 70), (some (65, true)), .not (.t 69)⟩,
 ⟨(some 71), (some (61, false)), .pick (.t 65) (.t 70) (.c (.bool false))⟩,
 ⟨(some 72), none, .pick (.t 61) (.c (.bool true)) (.t 71)⟩] false)
 (.cond (.t 72)
 (.seq
 (.region [
 ⟨(some 2), none, .mv (.c (.bool false))⟩] false)
 .ret)
 .skip))))
 (.region [
 ⟨(some 73), none, .bin .add (.t 43) (.c (.int .i64 1))⟩,
 ⟨(some 43), none, .mv (.t 73)⟩] false)))))))
 (.seq
 (.region [
 ⟨(some 74), none, .faddr 3 (.t 1)⟩,
 ⟨(some 75), none, .load false 1 (.t 74)⟩,
 ⟨(some 76), none, .len (.t 75)⟩,
 ⟨(some 77), none, .bin .leq (.t 76) (.c (.int .i64 40))⟩,
 ⟨(some 78), none, .mv (.t 77)⟩,
 ⟨(some 79), (some (78, true)), .faddr 4 (.t 1)⟩,
 ⟨(some 80), (some (78, true)), .load false 1 (.t 79)⟩,
 ⟨(some 81), (some (78, true)), .len (.t 80)⟩,
 ⟨(some 82), (some (78, true)), .bin .leq (.t 81) (.c (.int .i64 40))⟩,
 ⟨(some 83), none, .pick (.t 78) (.t 82) (.c (.bool false))⟩,
 ⟨(some 2), none, .mv (.t 83)⟩] false)
 .ret))))
def r70 : List ERes := [.t 2]
theorem c70 : chkF Try.prog Try.f70 1 e70 r70 = true := by kernel_rfl
def e71 : EC :=
 (.seq
 (.region [
 ⟨(some 1), none, .box 88 (.t 0)⟩,
 ⟨(some 2), none, .mv (.c (.bool false))⟩] false)
 (.seq
 (.seq
 (.region [
 ⟨(some 6), none, .faddr 0 (.t 1)⟩,
 ⟨(some 7), none, .load false 1 (.t 6)⟩,
 ⟨(some 8), none, .bin .eql (.t 7) (.c (.int .i64 2))⟩] false)
 (.cond (.t 8)
 (.seq
 (.region [
 ⟨(some 9), none, .faddr 1 (.t 1)⟩,
 ⟨(some 10), none, .load false 1 (.t 9)⟩,
 ⟨(some 11), none, .bin .eql (.t 10) (.c (.int .i64 0))⟩,
 ⟨(some 12), none, .mv (.t 11)⟩,
 ⟨(some 13), (some (12, true)), .faddr 2 (.t 1)⟩,
 ⟨(some 14), (some (12, true)), .load false 1 (.t 13)⟩,
 ⟨(some 15), (some (12, true)), .build [.int .i64 0, .int .i64 0, .str []] [(0, 1, (.c (.int .i64 2))), (2, 1, (.t 14))]⟩,
 ⟨(some 16), (some (12, true)), .call 55 [(.t 15)]⟩,
 ⟨(some 17), none, .pick (.t 12) (.t 16) (.c (.bool false))⟩,
 ⟨(some 2), none, .mv (.t 17)⟩] false)
 .ret)
 .skip))
 (.seq
 (.seq
 (.region [
 ⟨(some 19), none, .faddr 0 (.t 1)⟩,
 ⟨(some 20), none, .load false 1 (.t 19)⟩,
 ⟨(some 21), none, .call 113 [(.t 20)]⟩,
 ⟨(some 18), none, .mv (.t 21)⟩,
 ⟨(some 22), none, .extract 0 (.t 18)⟩,
 ⟨(some 23), none, .extract 1 (.t 18)⟩,
 ⟨(some 24), none, .extract 2 (.t 18)⟩,
 ⟨(some 3), none, .mv (.t 22)⟩,
 ⟨(some 4), none, .mv (.t 23)⟩,
 ⟨(some 5), none, .mv (.t 24)⟩] false)
 (.seq
 (.region [
 ⟨(some 25), none, .mv (.t 5)⟩] false)
 (.cond (.t 25)
 (.seq
 (.region [
 ⟨(some 26), none, .faddr 1 (.t 1)⟩,
 ⟨(some 27), none, .load false 1 (.t 26)⟩,
 ⟨(some 28), none, .mv (.t 3)⟩,
 ⟨(some 29), none, .mv (.t 4)⟩,
 ⟨(some 30), none, .call 68 [(.t 27), (.t 28), (.t 29)]⟩,
 ⟨(some 31), none, .mv (.t 30)⟩,
 ⟨(some 32), (some (31, true)), .faddr 2 (.t 1)⟩,
 ⟨(some 33), (some (31, true)), .load false 1 (.t 32)⟩,
 ⟨(some 34), (some (31, true)), .bin .eql (.t 33) (.c (.str []))⟩,
 ⟨(some 35), none, .pick (.t 31) (.t 34) (.c (.bool false))⟩,
 ⟨(some 2), none, .mv (.t 35)⟩] false)
 .ret)
 .skip)))
 (.seq
 (.region [
 ⟨(some 36), none, .faddr 0 (.t 1)⟩,
 ⟨(some 37), none, .load false 1 (.t 36)⟩,
 ⟨(some 38), none, .call 68 [(.t 37), (.c (.int .i64 1)), (.c (.int .i64 24))]⟩,
 ⟨(some 39), none, .mv (.t 38)⟩,
 ⟨(some 40), (some (39, true)), .faddr 1 (.t 1)⟩,
 ⟨(some 41), (some (39, true)), .load false 1 (.t 40)⟩,
 ⟨(some 42), (some (39, true)), .bin .eql (.t 41) (.c (.int .i64 0))⟩,
 ⟨(some 43), none, .pick (.t 39) (.t 42) (.c (.bool false))⟩,
 ⟨(some 44), none, .mv (.t 43)⟩,
 ⟨(some 45), (some (44, true)), .faddr 2 (.t 1)⟩,
 ⟨(some 46), (some (44, true)), .load false 1 (.t 45)⟩,
 ⟨(some 47), (some (44, true)), .bin .eql (.t 46) (.c (.str []))⟩,
 ⟨(some 48), none, .pick (.t 44) (.t 47) (.c (.bool false))⟩,
 ⟨(some 2), none, .mv (.t 48)⟩] false)
 .ret))))
def r71 : List ERes := [.t 2]
theorem c71 : chkF Try.prog Try.f71 1 e71 r71 = true := by kernel_rfl
def e72 : EC :=
 (.seq
 (.region [
 ⟨(some 2), none, .box 41 (.t 0)⟩,
 ⟨(some 4), none, .mv (.c (.bool false))⟩] false)
 (.seq
 (.region [
 ⟨(some 5), none, .mv (.t 1)⟩,
 ⟨(some 6), none, .faddr 5 (.t 2)⟩,
 ⟨(some 7), none, .load false 1 (.t 6)⟩,
 ⟨(some 8), none, .len (.t 7)⟩,
 ⟨(some 9), none, .bin .sub (.t 8) (.c (.int .i64 1))⟩,
 ⟨(some 10), none, .call 68 [(.t 5), (.c (.int .i64 0)), (.t 9)]⟩,
 ⟨(some 4), none, .mv (.t 10)⟩] false)
 .ret))
def r72 : List ERes := [.t 4]
theorem c72 : chkF Try.prog Try.f72 2 e72 r72 = true := by kernel_rfl
def e85 : EC :=
 (.seq
 (.region [
 ⟨(some 2), none, .mv (.c (.bool false))⟩] false)
 (.seq
 (.region [
 ⟨(some 3), none, .mv (.t 0)⟩,
 ⟨(some 4), none, .call 121 [(.t 3), (.c (.fn 122 []))]⟩,
 ⟨(some 5), none, .not (.t 4)⟩,
 ⟨(some 2), none, .mv (.t 5)⟩] false)
 .ret))
def r85 : List ERes := [.t 2]
theorem c85 : chkF Try.prog Try.f85 1 e85 r85 = true := by kernel_rfl
def e96 : EC :=
 (.seq
 (.region [
 ⟨(some 1), none, .box 70 (.t 0)⟩,
 ⟨(some 2), none, .mv (.c (.int .i64 0))⟩] false)
 (.seq
 (.seq
 (.region [
 ⟨(some 3), none, .faddr 0 (.t 1)⟩,
 ⟨(some 4), none, .load false 1 (.t 3)⟩] false)
 (.block 0
 (.seq
 (.region [
 ⟨(some 6), none, .bin .eql (.t 4) (.c (.int .i64 1))⟩,
 ⟨(some 5), none, .mv (.t 6)⟩] false)
 (.cond (.t 5)
 (.seq
 (.region [
 ⟨(some 7), none, .faddr 1 (.t 1)⟩,
 ⟨(some 8), none, .load false 1 (.t 7)⟩,
 ⟨(some 2), none, .mv (.t 8)⟩] false)
 .ret)
 (.seq
 (.region [
 ⟨(some 10), none, .bin .eql (.t 4) (.c (.int .i64 2))⟩,
 ⟨(some 9), none, .mv (.t 10)⟩] false)
 (.cond (.t 9)
 (.seq
 (.region [
 ⟨(some 11), none, .faddr 2 (.t 1)⟩,
 ⟨(some 12), none, .load false 1 (.t 11)⟩,
 ⟨(some 13), none, .lenS (.t 12)⟩,
 ⟨(some 2), none, .mv (.t 13)⟩] false)
 .ret)
 .skip))))))
 (.seq
 (.region [
 ⟨(some 2), none, .mv (.c (.int .i64 0))⟩] false)
 .ret)))
def r96 : List ERes := [.t 2]
theorem c96 : chkF Try.prog Try.f96 1 e96 r96 = true := by kernel_rfl
def e97 : EC :=
 (.seq
 (.region [
 ⟨(some 1), none, .box 85 (.t 0)⟩,
 ⟨(some 2), none, .mv (.c (.bool false))⟩] false)
 (.seq
 (.region [
 ⟨(some 3), none, .mv (.c (.int .i64 0))⟩,
 ⟨(some 4), none, .mv (.c (.int .i64 0))⟩] false)
 (.seq
 (.seq
 (.region [
 ⟨(some 5), none, .faddr 0 (.t 1)⟩,
 ⟨(some 6), none, .load false 1 (.t 5)⟩] false)
 (.block 0
 (.seq
 (.region [
 ⟨(some 8), none, .bin .eql (.t 6) (.c (.int .i64 1))⟩,
 ⟨(some 7), none, .mv (.t 8)⟩] false)
 (.cond (.t 7)
 (.region [
 ⟨(some 3), none, .mv (.c (.int .i64 (-1000)))⟩,
 ⟨(some 4), none, .mv (.c (.int .i64 1000))⟩] false)
 (.seq
 (.region [
 ⟨(some 10), none, .bin .eql (.t 6) (.c (.int .i64 2))⟩,
 ⟨(some 9), none, .mv (.t 10)⟩] false)
 (.cond (.t 9)
 (.region [
 ⟨(some 3), none, .mv (.c (.int .i64 0))⟩,
 ⟨(some 4), none, .mv (.c (.int .i64 40))⟩] false)
 (.seq
 (.region [
 ⟨(some 2), none, .mv (.c (.bool false))⟩] false)
 .ret)))))))
 (.seq
 (.region [
 ⟨(some 11), none, .mv (.t 3)⟩,
 ⟨(some 12), none, .faddr 1 (.t 1)⟩,
 ⟨(some 13), none, .load false 1 (.t 12)⟩,
 ⟨(some 14), none, .bin .leq (.t 11) (.t 13)⟩,
 ⟨(some 15), none, .mv (.t 14)⟩,
 ⟨(some 16), (some (15, true)), .faddr 1 (.t 1)⟩,
 ⟨(some 17), (some (15, true)), .load false 1 (.t 16)⟩,
 ⟨(some 18), (some (15, true)), .faddr 2 (.t 1)⟩,
 ⟨(some 19), (some (15, true)), .load false 1 (.t 18)⟩,
 ⟨(some 20), (some (15, true)), .bin .leq (.t 17) (.t 19)⟩,
 ⟨(some 21), none, .pick (.t 15) (.t 20) (.c (.bool false))⟩,
 ⟨(some 22), none, .mv (.t 21)⟩,
 ⟨(some 23), (some (22, true)), .faddr 2 (.t 1)⟩,
 ⟨(some 24), (some (22, true)), .load false 1 (.t 23)⟩,
 ⟨(some 25), (some (22, true)), .mv (.t 4)⟩,
 ⟨(some 26), (some (22, true)), .bin .leq (.t 24) (.t 25)⟩,
 ⟨(some 27), none, .pick (.t 22) (.t 26) (.c (.bool false))⟩,
 ⟨(some 2), none, .mv (.t 27)⟩] false)
 .ret))))
def r97 : List ERes := [.t 2]
theorem c97 : chkF Try.prog Try.f97 1 e97 r97 = true := by kernel_rfl
def e106 : EC :=
 (.seq
 (.region [
 ⟨(some 2), none, .mv (.c (.bool false))⟩] false)
 (.seq
 (.region [
 ⟨(some 3), none, .mv (.t 0)⟩,
 ⟨(some 4), none, .bin .leq (.c (.int .u8 97)) (.t 3)⟩,
 ⟨(some 5), none, .mv (.t 4)⟩,
 ⟨(some 6), (some (5, true)), .mv (.t 0)⟩,
 ⟨(some 7), (some (5, true)), .bin .leq (.t 6) (.c (.int .u8 122))⟩,
 ⟨(some 8), none, .pick (.t 5) (.t 7) (.c (.bool false))⟩,
 ⟨(some 9), none, .mv (.t 8)⟩,
 ⟨(some 10), (some (9, false)), .mv (.t 0)⟩,
 ⟨(some 11), (some (9, false)), .bin .leq (.c (.int .u8 65)) (.t 10)⟩,
 ⟨(some 12), (some (9, false)), .mv (.t 11)⟩,
 ⟨(some 13), (some (12, true)), .mv (.t 0)⟩,
 ⟨(some 14), (some (12, true)), .bin .leq (.t 13) (.c (.int .u8 90))⟩,
 ⟨(some 15), (some (9, false)), .pick (.t 12) (.t 14) (.c (.bool false))⟩,
 ⟨(some 16), none, .pick (.t 9) (.c (.bool true)) (.t 15)⟩,
 ⟨(some 2), none, .mv (.t 16)⟩] false)
 .ret))
def r106 : List ERes := [.t 2]
theorem c106 : chkF Try.prog Try.f106 1 e106 r106 = true := by kernel_rfl
def e107 : EC :=
 (.seq
 (.region [
 ⟨(some 2), none, .mv (.c (.bool false))⟩] false)
 (.seq
 (.region [
 ⟨(some 3), none, .mv (.t 0)⟩,
 ⟨(some 4), none, .call 106 [(.t 3)]⟩,
 ⟨(some 5), none, .mv (.t 4)⟩,
 ⟨(some 6), (some (5, false)), .mv (.t 0)⟩,
 ⟨(some 7), (some (5, false)), .call 125 [(.t 6)]⟩,
 ⟨(some 8), none, .pick (.t 5) (.c (.bool true)) (.t 7)⟩,
 ⟨(some 9), none, .mv (.t 8)⟩,
 ⟨(some 10), (some (9, false)), .mv (.t 0)⟩,
 ⟨(some 11), (some (9, false)), .bin .eql (.t 10) (.c (.int .u8 95))⟩,
 ⟨(some 12), none, .pick (.t 9) (.c (.bool true)) (.t 11)⟩,
 ⟨(some 2), none, .mv (.t 12)⟩] false)
 .ret))
def r107 : List ERes := [.t 2]
theorem c107 : chkF Try.prog Try.f107 1 e107 r107 = true := by kernel_rfl
def e108 : EC :=
 (.seq
 (.region [
 ⟨(some 2), none, .box 87 (.t 0)⟩,
 ⟨(some 3), none, .mv (.c (.bool false))⟩] false)
 (.seq
 (.region [
 ⟨(some 4), none, .faddr 0 (.t 2)⟩,
 ⟨(some 5), none, .load false 1 (.t 4)⟩,
 ⟨(some 6), none, .faddr 0 (.t 1)⟩,
 ⟨(some 7), none, .load false 1 (.t 6)⟩,
 ⟨(some 8), none, .bin .eql (.t 5) (.t 7)⟩,
 ⟨(some 3), none, .mv (.t 8)⟩] false)
 .ret))
def r108 : List ERes := [.t 3]
theorem c108 : chkF Try.prog Try.f108 1 e108 r108 = true := by kernel_rfl
def e109 : EC :=
 (.seq
 (.region [
 ⟨(some 4), none, .mv (.c (.int .i64 0))⟩] false)
 (.seq
 (.seq
 (.region [
 ⟨(some 6), none, .mv (.t 0)⟩,
 ⟨(some 7), none, .len (.t 6)⟩,
 ⟨(some 8), none, .mv (.c (.int .i64 0))⟩] false)
 (.block 0
 (.loop
 (.seq
 (.region [
 ⟨(some 9), none, .bin .lss (.t 8) (.t 7)⟩] false)
 (.seq
 (.cond (.t 9)
 .skip
 (.exit 0))
 (.seq
 (.block 1
 (.seq
 (.region [
 ⟨(some 10), none, .mv (.t 8)⟩,
 ⟨(some 5), none, .mv (.t 10)⟩] false)
 (.seq
 (.region [
 ⟨(some 11), none, .mv (.t 1)⟩,
 ⟨(some 12), none, .mv (.t 0)⟩,
 ⟨(some 13), none, .mv (.t 5)⟩,
 ⟨(some 14), none, .iaddr 7 (.t 12) (.t 13)⟩,
 ⟨(some 15), none, .load true 7 (.t 14)⟩,
 ⟨(some 16), none, .callv (.t 11) [(.t 15)]⟩] false)
 (.cond (.t 16)
 (.seq
 (.region [
 ⟨(some 17), none, .mv (.t 5)⟩,
 ⟨(some 4), none, .mv (.t 17)⟩] false)
 .ret)
 .skip))))
 (.region [
 ⟨(some 18), none, .bin .add (.t 8) (.c (.int .i64 1))⟩,
 ⟨(some 8), none, .mv (.t 18)⟩] false)))))))
 (.seq
 (.region [
 ⟨(some 4), none, .mv (.c (.int .i64 (-1)))⟩] false)
 .ret)))
def r109 : List ERes := [.t 4]
theorem c109 : chkF Try.prog Try.f109 2 e109 r109 = true := by kernel_rfl
def e110 : EC :=
 (.seq
 (.region [
 ⟨(some 2), none, .box 128 (.t 0)⟩,
 ⟨(some 3), none, .mv (.c (.bool false))⟩] false)
 (.seq
 (.region [
 ⟨(some 4), none, .faddr 0 (.t 2)⟩,
 ⟨(some 5), none, .load false 1 (.t 4)⟩,
 ⟨(some 6), none, .faddr 0 (.t 1)⟩,
 ⟨(some 7), none, .load false 1 (.t 6)⟩,
 ⟨(some 8), none, .bin .eql (.t 5) (.t 7)⟩,
 ⟨(some 9), none, .mv (.t 8)⟩,
 ⟨(some 10), (some (9, true)), .faddr 1 (.t 2)⟩,
 ⟨(some 11), (some (9, true)), .load false 1 (.t 10)⟩,
 ⟨(some 12), (some (9, true)), .faddr 1 (.t 1)⟩,
 ⟨(some 13), (some (9, true)), .load false 1 (.t 12)⟩,
 ⟨(some 14), (some (9, true)), .bin .eql (.t 11) (.t 13)⟩,
 ⟨(some 15), none, .pick (.t 9) (.t 14) (.c (.bool false))⟩,
 ⟨(some 3), none, .mv (.t 15)⟩] false)
 .ret))
def r110 : List ERes := [.t 3]
theorem c110 : chkF Try.prog Try.f110 1 e110 r110 = true := by kernel_rfl
def e111 : EC :=
 (.seq
 (.region [
 ⟨(some 3), none, .box 41 (.t 0)⟩,
 ⟨(some 6), none, .mv (.c (.bool false))⟩] false)
 (.seq
 (.region [
 ⟨(some 7), none, .mv (.t 1)⟩,
 ⟨(some 8), none, .call 68 [(.t 7), (.c (.int .i64 0)), (.c (.int .i64 5))]⟩,
 ⟨(some 9), none, .mv (.t 8)⟩,
 ⟨(some 10), (some (9, true)), .mv (.t 1)⟩,
 ⟨(some 11), (some (9, true)), .faddr 1 (.t 3)⟩,
 ⟨(some 12), (some (9, true)), .load false 1 (.t 11)⟩,
 ⟨(some 13), (some (9, true)), .bin .neq (.t 10) (.t 12)⟩,
 ⟨(some 14), none, .pick (.t 9) (.t 13) (.c (.bool false))⟩,
 ⟨(some 15), none, .mv (.t 14)⟩,
 ⟨(some 16), (some (15, true)), .mv (.t 2)⟩,
 ⟨(some 17), (some (15, true)), .call 68 [(.t 16), (.c (.int .i64 0)), (.c (.int .i64 39))]⟩,
 ⟨(some 18), none, .pick (.t 15) (.t 17) (.c (.bool false))⟩,
 ⟨(some 6), none, .mv (.t 18)⟩] false)
 .ret))
def r111 : List ERes := [.t 6]
theorem c111 : chkF Try.prog Try.f111 3 e111 r111 = true := by kernel_rfl
def e112 : EC :=
 (.seq
 (.region [
 ⟨(some 4), none, .mv (.c (.int .i64 0))⟩] false)
 (.seq
 (.seq
 (.region [
 ⟨(some 6), none, .mv (.t 0)⟩,
 ⟨(some 7), none, .len (.t 6)⟩,
 ⟨(some 8), none, .mv (.c (.int .i64 0))⟩] false)
 (.block 0
 (.loop
 (.seq
 (.region [
 ⟨(some 9), none, .bin .lss (.t 8) (.t 7)⟩] false)
 (.seq
 (.cond (.t 9)
 .skip
 (.exit 0))
 (.seq
 (.block 1
 (.seq
 (.region [
 ⟨(some 10), none, .mv (.t 8)⟩,
 ⟨(some 5), none, .mv (.t 10)⟩] false)
 (.seq
 (.region [
 ⟨(some 11), none, .mv (.t 1)⟩,
 ⟨(some 12), none, .mv (.t 0)⟩,
 ⟨(some 13), none, .mv (.t 5)⟩,
 ⟨(some 14), none, .iaddr 3 (.t 12) (.t 13)⟩,
 ⟨(some 15), none, .load true 3 (.t 14)⟩,
 ⟨(some 16), none, .callv (.t 11) [(.t 15)]⟩] false)
 (.cond (.t 16)
 (.seq
 (.region [
 ⟨(some 17), none, .mv (.t 5)⟩,
 ⟨(some 4), none, .mv (.t 17)⟩] false)
 .ret)
 .skip))))
 (.region [
 ⟨(some 18), none, .bin .add (.t 8) (.c (.int .i64 1))⟩,
 ⟨(some 8), none, .mv (.t 18)⟩] false)))))))
 (.seq
 (.region [
 ⟨(some 4), none, .mv (.c (.int .i64 (-1)))⟩] false)
 .ret)))
def r112 : List ERes := [.t 4]
theorem c112 : chkF Try.prog Try.f112 2 e112 r112 = true := by kernel_rfl
def e113 : EC :=
 (.seq
 (.region [
 ⟨(some 2), none, .mv (.c (.int .i64 0))⟩,
 ⟨(some 3), none, .mv (.c (.int .i64 0))⟩,
 ⟨(some 4), none, .mv (.c (.bool false))⟩] false)
 (.seq
 (.seq
 (.region [
 ⟨(some 5), none, .mv (.t 0)⟩] false)
 (.block 0
 (.seq
 (.region [
 ⟨(some 7), none, .bin .eql (.t 5) (.c (.int .i64 1))⟩,
 ⟨(some 6), none, .mv (.t 7)⟩] false)
 (.cond (.t 6)
 (.seq
 (.region [
 ⟨(some 2), none, .mv (.c (.int .i64 (-1000)))⟩,
 ⟨(some 3), none, .mv (.c (.int .i64 1000))⟩,
 ⟨(some 4), none, .mv (.c (.bool true))⟩] false)
 .ret)
 (.seq
 (.seq
 (.region [
 ⟨(some 9), none, .bin .eql (.t 5) (.c (.int .i64 3))⟩,
 ⟨(some 8), none, .mv (.t 9)⟩] false)
 (.cond (.t 8)
 .skip
 (.region [
 ⟨(some 10), none, .bin .eql (.t 5) (.c (.int .i64 5))⟩,
 ⟨(some 8), none, .mv (.t 10)⟩] false)))
 (.cond (.t 8)
 (.seq
 (.region [
 ⟨(some 2), none, .mv (.c (.int .i64 0))⟩,
 ⟨(some 3), none, .mv (.c (.int .i64 11))⟩,
 ⟨(some 4), none, .mv (.c (.bool true))⟩] false)
 .ret)
 (.seq
 (.region [
 ⟨(some 12), none, .bin .eql (.t 5) (.c (.int .i64 4))⟩,
 ⟨(some 11), none, .mv (.t 12)⟩] false)
 (.cond (.t 11)
 (.seq
 (.region [
 ⟨(some 2), none, .mv (.c (.int .i64 0))⟩,
 ⟨(some 3), none, .mv (.c (.int .i64 3))⟩,
 ⟨(some 4), none, .mv (.c (.bool true))⟩] false)
 .ret)
 (.seq
 (.seq
 (.region [
 ⟨(some 14), none, .bin .eql (.t 5) (.c (.int .i64 19))⟩,
 ⟨(some 13), none, .mv (.t 14)⟩] false)
 (.cond (.t 13)
 .skip
 (.seq
 (.region [
 ⟨(some 15), none, .bin .eql (.t 5) (.c (.int .i64 20))⟩,
 ⟨(some 13), none, .mv (.t 15)⟩] false)
 (.cond (.t 13)
 .skip
 (.region [
 ⟨(some 16), none, .bin .eql (.t 5) (.c (.int .i64 22))⟩,
 ⟨(some 13), none, .mv (.t 16)⟩] false)))))
 (.cond (.t 13)
 (.seq
 (.region [
 ⟨(some 2), none, .mv (.c (.int .i64 0))⟩,
 ⟨(some 3), none, .mv (.c (.int .i64 999))⟩,
 ⟨(some 4), none, .mv (.c (.bool true))⟩] false)
 .ret)
 (.seq
 (.region [
 ⟨(some 18), none, .bin .eql (.t 5) (.c (.int .i64 21))⟩,
 ⟨(some 17), none, .mv (.t 18)⟩] false)
 (.cond (.t 17)
 (.seq
 (.region [
 ⟨(some 2), none, .mv (.c (.int .i64 1))⟩,
 ⟨(some 3), none, .mv (.c (.int .i64 50))⟩,
 ⟨(some 4), none, .mv (.c (.bool true))⟩] false)
 .ret)
 .skip))))))))))))
 (.seq
 (.region [
 ⟨(some 2), none, .mv (.c (.int .i64 0))⟩,
 ⟨(some 3), none, .mv (.c (.int .i64 0))⟩,
 ⟨(some 4), none, .mv (.c (.bool false))⟩] false)
 .ret)))
def r113 : List ERes := [.t 2, .t 3, .t 4]
theorem c113 : chkF Try.prog Try.f113 1 e113 r113 = true := by kernel_rfl
def e121 : EC :=
 (.seq
 (.region [
 ⟨(some 4), none, .mv (.c (.bool false))⟩] false)
 (.seq
 (.region [
 ⟨(some 5), none, .mv (.t 0)⟩,
 ⟨(some 6), none, .mv (.t 1)⟩,
 ⟨(some 7), none, .call 126 [(.t 5), (.t 6)]⟩,
 ⟨(some 8), none, .bin .geq (.t 7) (.c (.int .i64 0))⟩,
 ⟨(some 4), none, .mv (.t 8)⟩] false)
 .ret))
def r121 : List ERes := [.t 4]
theorem c121 : chkF Try.prog Try.f121 2 e121 r121 = true := by kernel_rfl
def e122 : EC :=
 (.seq
 (.region [
 ⟨(some 2), none, .mv (.c (.bool false))⟩] false)
 (.seq
 (.region [
 ⟨(some 3), none, .mv (.t 0)⟩,
 ⟨(some 4), none, .bin .lss (.t 3) (.c (.int .i32 32))⟩,
 ⟨(some 5), none, .mv (.t 4)⟩,
 ⟨(some 6), (some (5, false)), .mv (.t 0)⟩,
 ⟨(some 7), (some (5, false)), .bin .gtr (.t 6) (.c (.int .i32 126))⟩,
 ⟨(some 8), none, .pick (.t 5) (.c (.bool true)) (.t 7)⟩,
 ⟨(some 2), none, .mv (.t 8)⟩] false)
 .ret))
def r122 : List ERes := [.t 2]
theorem c122 : chkF Try.prog Try.f122 1 e122 r122 = true := by kernel_rfl
def e125 : EC :=
 (.seq
 (.region [
 ⟨(some 2), none, .mv (.c (.bool false))⟩] false)
 (.seq
 (.region [
 ⟨(some 3), none, .mv (.t 0)⟩,
 ⟨(some 4), none, .bin .leq (.c (.int .u8 48)) (.t 3)⟩,
 ⟨(some 5), none, .mv (.t 4)⟩,
 ⟨(some 6), (some (5, true)), .mv (.t 0)⟩,
 ⟨(some 7), (some (5, true)), .bin .leq (.t 6) (.c (.int .u8 57))⟩,
 ⟨(some 8), none, .pick (.t 5) (.t 7) (.c (.bool false))⟩,
 ⟨(some 2), none, .mv (.t 8)⟩] false)
 .ret))
def r125 : List ERes := [.t 2]
theorem c125 : chkF Try.prog Try.f125 1 e125 r125 = true := by kernel_rfl
def e126 : EC :=
 (.seq
 (.region [
 ⟨(some 4), none, .mv (.c (.int .i64 0))⟩] false)
 (.seq
 (.region [
 ⟨(some 5), none, .mv (.t 0)⟩,
 ⟨(some 6), none, .mv (.t 1)⟩,
 ⟨(some 7), none, .call 128 [(.t 5), (.t 6), (.c (.bool true))]⟩,
 ⟨(some 4), none, .mv (.t 7)⟩] false)
 .ret))
def r126 : List ERes := [.t 4]
theorem c126 : chkF Try.prog Try.f126 2 e126 r126 = true := by kernel_rfl
def e16 : EC :=
 (.seq
 (.region [
 ⟨(some 1), none, .box 27 (.t 0)⟩,
 ⟨(some 2), none, .mv (.c (.bool false))⟩] false)
 (.seq
 (.seq
 (.region [
 ⟨(some 3), none, .mv (.c (.int .i64 0))⟩] false)
 (.block 0
 (.loop
 (.seq
 (.seq
 (.region [
 ⟨(some 5), none, .mv (.t 3)⟩,
 ⟨(some 6), none, .faddr 5 (.t 1)⟩,
 ⟨(some 7), none, .load false 1 (.t 6)⟩,
 ⟨(some 8), none, .len (.t 7)⟩,
 ⟨(some 9), none, .bin .lss (.t 5) (.t 8)⟩] false)
 (.cond (.t 9)
 .skip
 (.exit 0)))
 (.seq
 (.block 1
 (.seq
 (.region [
 ⟨(some 12), none, .faddr 5 (.t 1)⟩,
 ⟨(some 13), none, .load false 1 (.t 12)⟩,
 ⟨(some 14), none, .mv (.t 3)⟩,
 ⟨(some 15), none, .iaddr 3 (.t 13) (.t 14)⟩,
 ⟨(some 16), none, .faddr 2 (.t 15)⟩,
 ⟨(some 17), none, .load false 1 (.t 16)⟩,
 ⟨(some 18), none, .lenS (.t 17)⟩,
 ⟨(some 19), none, .bin .gtr (.t 18) (.c (.int .i64 100))⟩] false)
 (.cond (.t 19)
 (.seq
 (.region [
 ⟨(some 2), none, .mv (.c (.bool false))⟩] false)
 .ret)
 .skip)))
 (.region [
 ⟨(some 10), none, .mv (.t 3)⟩,
 ⟨(some 11), none, .bin .add (.t 10) (.c (.int .i64 1))⟩,
 ⟨(some 3), none, .mv (.t 11)⟩] false))))))
 (.seq
 (.seq
 (.region [
 ⟨(some 4), none, .mv (.c (.int .i64 0))⟩] false)
 (.block 2
 (.loop
 (.seq
 (.seq
 (.region [
 ⟨(some 20), none, .mv (.t 4)⟩,
 ⟨(some 21), none, .faddr 2 (.t 1)⟩,
 ⟨(some 22), none, .load false 1 (.t 21)⟩,
 ⟨(some 23), none, .len (.t 22)⟩,
 ⟨(some 24), none, .bin .lss (.t 20) (.t 23)⟩] false)
 (.cond (.t 24)
 .skip
 (.exit 2)))
 (.seq
 (.block 3
 (.seq
 (.region [
 ⟨(some 27), none, .faddr 2 (.t 1)⟩,
 ⟨(some 28), none, .load false 1 (.t 27)⟩,
 ⟨(some 29), none, .mv (.t 4)⟩,
 ⟨(some 30), none, .iaddr 7 (.t 28) (.t 29)⟩,
 ⟨(some 31), none, .faddr 0 (.t 30)⟩,
 ⟨(some 32), none, .load false 1 (.t 31)⟩,
 ⟨(some 33), none, .lenS (.t 32)⟩,
 ⟨(some 34), none, .bin .gtr (.t 33) (.c (.int .i64 100))⟩,
 ⟨(some 35), none, .mv (.t 34)⟩,
 ⟨(some 36), (some (35, false)), .faddr 2 (.t 1)⟩,
 ⟨(some 37), (some (35, false)), .load false 1 (.t 36)⟩,
 ⟨(some 38), (some (35, false)), .mv (.t 4)⟩,
 ⟨(some 39), (some (35, false)), .iaddr 7 (.t 37) (.t 38)⟩,
 ⟨(some 40), (some (35, false)), .faddr 4 (.t 39)⟩,
 ⟨(some 41), (some (35, false)), .faddr 2 (.t 40)⟩,
 ⟨(some 42), (some (35, false)), .load false 1 (.t 41)⟩,
 ⟨(some 43), (some (35, false)), .lenS (.t 42)⟩,
 ⟨(some 44), (some (35, false)), .bin .gtr (.t 43) (.c (.int .i64 100))⟩,
 ⟨(some 45), none, .pick (.t 35) (.c (.bool true)) (.t 44)⟩] false)
 (.cond (.t 45)
 (.seq
 (.region [
 ⟨(some 2), none, .mv (.c (.bool false))⟩] false)
 .ret)
 .skip)))
 (.region [
 ⟨(some 25), none, .mv (.t 4)⟩,
 ⟨(some 26), none, .bin .add (.t 25) (.c (.int .i64 1))⟩,
 ⟨(some 4), none, .mv (.t 26)⟩] false))))))
 (.seq
 (.region [
 ⟨(some 46), none, .faddr 0 (.t 1)⟩,
 ⟨(some 47), none, .load false 1 (.t 46)⟩,
 ⟨(some 48), none, .lenS (.t 47)⟩,
 ⟨(some 49), none, .bin .leq (.t 48) (.c (.int .i64 100))⟩,
 ⟨(some 50), none, .mv (.t 49)⟩,
 ⟨(some 51), (some (50, true)), .faddr 2 (.t 1)⟩,
 ⟨(some 52), (some (50, true)), .load false 1 (.t 51)⟩,
 ⟨(some 53), (some (50, true)), .len (.t 52)⟩,
 ⟨(some 54), (some (50, true)), .bin .leq (.t 53) (.c (.int .i64 20))⟩,
 ⟨(some 55), none, .pick (.t 50) (.t 54) (.c (.bool false))⟩,
 ⟨(some 56), none, .mv (.t 55)⟩,
 ⟨(some 57), (some (56, true)), .faddr 3 (.t 1)⟩,
 ⟨(some 58), (some (56, true)), .load false 1 (.t 57)⟩,
 ⟨(some 59), (some (56, true)), .len (.t 58)⟩,
 ⟨(some 60), (some (56, true)), .bin .leq (.t 59) (.c (.int .i64 60))⟩,
 ⟨(some 61), none, .pick (.t 56) (.t 60) (.c (.bool false))⟩,
 ⟨(some 62), none, .mv (.t 61)⟩,
 ⟨(some 63), (some (62, true)), .faddr 4 (.t 1)⟩,
 ⟨(some 64), (some (62, true)), .load false 1 (.t 63)⟩,
 ⟨(some 65), (some (62, true)), .len (.t 64)⟩,
 ⟨(some 66), (some (62, true)), .bin .leq (.t 65) (.c (.int .i64 60))⟩,
 ⟨(some 67), none, .pick (.t 62) (.t 66) (.c (.bool false))⟩,
 ⟨(some 68), none, .mv (.t 67)⟩,
 ⟨(some 69), (some (68, true)), .faddr 5 (.t 1)⟩,
 ⟨(some 70), (some (68, true)), .load false 1 (.t 69)⟩,
 ⟨(some 71), (some (68, true)), .len (.t 70)⟩,
 ⟨(some 72), (some (68, true)), .bin .leq (.t 71) (.c (.int .i64 300))⟩,
 ⟨(some 73), none, .pick (.t 68) (.t 72) (.c (.bool false))⟩,
 ⟨(some 2), none, .mv (.t 73)⟩] false)
 .ret))))
def r16 : List ERes := [.t 2]
theorem c16 : chkF Try.prog Try.f16 1 e16 r16 = true := by kernel_rfl
def e18 : EC :=
 (.seq
 (.region [
 ⟨(some 1), none, .box 27 (.t 0)⟩,
 ⟨(some 2), none, .alloc 41 [.str [], .int .i64 0, .nilS, .nilS, .nilS, .nilS]⟩] false)
 (.seq
 (.region [
 ⟨(some 8), none, .faddr 0 (.t 1)⟩,
 ⟨(some 9), none, .load false 1 (.t 8)⟩,
 ⟨(some 10), none, .faddr 1 (.t 1)⟩,
 ⟨(some 11), none, .load false 1 (.t 10)⟩,
 ⟨(some 12), none, .build [.str [], .int .i64 0, .nilS, .nilS, .nilS, .nilS] [(0, 1, (.t 9)), (1, 1, (.t 11))]⟩,
 ⟨(some 3), none, .alloc 41 [.str [], .int .i64 0, .nilS, .nilS, .nilS, .nilS]⟩,
 ⟨none, none, .store 6 (.t 3) (.t 12)⟩] false)
 (.seq
 (.seq
 (.region [
 ⟨(some 4), none, .mv (.c (.int .i64 0))⟩] false)
 (.block 0
 (.loop
 (.seq
 (.seq
 (.region [
 ⟨(some 13), none, .mv (.t 4)⟩,
 ⟨(some 14), none, .faddr 2 (.t 1)⟩,
 ⟨(some 15), none, .load false 1 (.t 14)⟩,
 ⟨(some 16), none, .len (.t 15)⟩,
 ⟨(some 17), none, .bin .lss (.t 13) (.t 16)⟩] false)
 (.cond (.t 17)
 .skip
 (.exit 0)))
 (.seq
 (.block 1
 (.region [
 ⟨(some 20), none, .faddr 2 (.t 3)⟩,
 ⟨(some 21), none, .load false 1 (.t 20)⟩,
 ⟨(some 22), none, .faddr 2 (.t 1)⟩,
 ⟨(some 23), none, .load false 1 (.t 22)⟩,
 ⟨(some 24), none, .mv (.t 4)⟩,
 ⟨(some 25), none, .iaddr 7 (.t 23) (.t 24)⟩,
 ⟨(some 26), none, .load true 7 (.t 25)⟩,
 ⟨(some 27), none, .bslice 87 7 1 [.str [], .int .i64 0, .int .i64 0, .int .i64 0, .int .i64 0, .int .i64 0, .str []] [(0, (.t 26))]⟩,
 ⟨(some 28), none, .appendM 87 7 72 (.t 21) (.t 27)⟩,
 ⟨(some 29), none, .faddr 2 (.t 3)⟩,
 ⟨none, none, .store 1 (.t 29) (.t 28)⟩] true))
 (.region [
 ⟨(some 18), none, .mv (.t 4)⟩,
 ⟨(some 19), none, .bin .add (.t 18) (.c (.int .i64 1))⟩,
 ⟨(some 4), none, .mv (.t 19)⟩] false))))))
 (.seq
 (.seq
 (.region [
 ⟨(some 5), none, .mv (.c (.int .i64 0))⟩] false)
 (.block 2
 (.loop
 (.seq
 (.seq
 (.region [
 ⟨(some 30), none, .mv (.t 5)⟩,
 ⟨(some 31), none, .faddr 3 (.t 1)⟩,
 ⟨(some 32), none, .load false 1 (.t 31)⟩,
 ⟨(some 33), none, .len (.t 32)⟩,
 ⟨(some 34), none, .bin .lss (.t 30) (.t 33)⟩] false)
 (.cond (.t 34)
 .skip
 (.exit 2)))
 (.seq
 (.block 3
 (.region [
 ⟨(some 37), none, .faddr 3 (.t 3)⟩,
 ⟨(some 38), none, .load false 1 (.t 37)⟩,
 ⟨(some 39), none, .faddr 3 (.t 1)⟩,
 ⟨(some 40), none, .load false 1 (.t 39)⟩,
 ⟨(some 41), none, .mv (.t 5)⟩,
 ⟨(some 42), none, .iaddr 3 (.t 40) (.t 41)⟩,
 ⟨(some 43), none, .load true 3 (.t 42)⟩,
 ⟨(some 44), none, .bslice 128 3 1 [.int .i64 0, .int .i64 0, .int .i64 0] [(0, (.t 43))]⟩,
 ⟨(some 45), none, .appendM 128 3 24 (.t 38) (.t 44)⟩,
 ⟨(some 46), none, .faddr 3 (.t 3)⟩,
 ⟨none, none, .store 1 (.t 46) (.t 45)⟩] true))
 (.region [
 ⟨(some 35), none, .mv (.t 5)⟩,
 ⟨(some 36), none, .bin .add (.t 35) (.c (.int .i64 1))⟩,
 ⟨(some 5), none, .mv (.t 36)⟩] false))))))
 (.seq
 (.seq
 (.region [
 ⟨(some 6), none, .mv (.c (.int .i64 0))⟩] false)
 (.block 4
 (.loop
 (.seq
 (.seq
 (.region [
 ⟨(some 47), none, .mv (.t 6)⟩,
 ⟨(some 48), none, .faddr 4 (.t 1)⟩,
 ⟨(some 49), none, .load false 1 (.t 48)⟩,
 ⟨(some 50), none, .len (.t 49)⟩,
 ⟨(some 51), none, .bin .lss (.t 47) (.t 50)⟩] false)
 (.cond (.t 51)
 .skip
 (.exit 4)))
 (.seq
 (.block 5
 (.region [
 ⟨(some 54), none, .faddr 4 (.t 3)⟩,
 ⟨(some 55), none, .load false 1 (.t 54)⟩,
 ⟨(some 56), none, .faddr 4 (.t 1)⟩,
 ⟨(some 57), none, .load false 1 (.t 56)⟩,
 ⟨(some 58), none, .mv (.t 6)⟩,
 ⟨(some 59), none, .iaddr 4 (.t 57) (.t 58)⟩,
 ⟨(some 60), none, .load true 4 (.t 59)⟩,
 ⟨(some 61), none, .bslice 117 4 1 [.int .i64 0, .int .i64 0, .int .i64 0, .int .i64 0] [(0, (.t 60))]⟩,
 ⟨(some 62), none, .appendM 117 4 32 (.t 55) (.t 61)⟩,
 ⟨(some 63), none, .faddr 4 (.t 3)⟩,
 ⟨none, none, .store 1 (.t 63) (.t 62)⟩] true))
 (.region [
 ⟨(some 52), none, .mv (.t 6)⟩,
 ⟨(some 53), none, .bin .add (.t 52) (.c (.int .i64 1))⟩,
 ⟨(some 6), none, .mv (.t 53)⟩] false))))))
 (.seq
 (.seq
 (.region [
 ⟨(some 7), none, .mv (.c (.int .i64 0))⟩] false)
 (.block 6
 (.loop
 (.seq
 (.seq
 (.region [
 ⟨(some 64), none, .mv (.t 7)⟩,
 ⟨(some 65), none, .faddr 5 (.t 1)⟩,
 ⟨(some 66), none, .load false 1 (.t 65)⟩,
 ⟨(some 67), none, .len (.t 66)⟩,
 ⟨(some 68), none, .bin .lss (.t 64) (.t 67)⟩] false)
 (.cond (.t 68)
 .skip
 (.exit 6)))
 (.seq
 (.block 7
 (.region [
 ⟨(some 71), none, .faddr 5 (.t 3)⟩,
 ⟨(some 72), none, .load false 1 (.t 71)⟩,
 ⟨(some 73), none, .faddr 5 (.t 1)⟩,
 ⟨(some 74), none, .load false 1 (.t 73)⟩,
 ⟨(some 75), none, .mv (.t 7)⟩,
 ⟨(some 76), none, .iaddr 3 (.t 74) (.t 75)⟩,
 ⟨(some 77), none, .load true 3 (.t 76)⟩,
 ⟨(some 78), none, .bslice 88 3 1 [.int .i64 0, .int .i64 0, .str []] [(0, (.t 77))]⟩,
 ⟨(some 79), none, .appendM 88 3 32 (.t 72) (.t 78)⟩,
 ⟨(some 80), none, .faddr 5 (.t 3)⟩,
 ⟨none, none, .store 1 (.t 80) (.t 79)⟩] true))
 (.region [
 ⟨(some 69), none, .mv (.t 7)⟩,
 ⟨(some 70), none, .bin .add (.t 69) (.c (.int .i64 1))⟩,
 ⟨(some 7), none, .mv (.t 70)⟩] false))))))
 (.seq
 (.region [
 ⟨(some 81), none, .load true 6 (.t 3)⟩,
 ⟨none, none, .store 6 (.t 2) (.t 81)⟩] false)
 .ret)))))))
def r18 : List ERes := [.cell true 6 2]
theorem c18 : chkF Try.prog Try.f18 1 e18 r18 = true := by kernel_rfl
def e31 : EC :=
 (.seq
 (.region [
 ⟨(some 2), none, .alloc 70 [.int .i64 0, .int .i64 0, .str []]⟩] false)
 (.seq
 (.region [
 ⟨(some 3), none, .mv (.t 0)⟩,
 ⟨(some 4), none, .build [.int .i64 0, .int .i64 0, .str []] [(0, 1, (.c (.int .i64 2))), (2, 1, (.t 3))]⟩,
 ⟨none, none, .store 3 (.t 2) (.t 4)⟩] false)
 .ret))
def r31 : List ERes := [.cell true 3 2]
theorem c31 : chkF Try.prog Try.f31 1 e31 r31 = true := by kernel_rfl
def e22 : EC :=
 (.seq
 (.region [
 ⟨(some 1), none, .box 27 (.t 0)⟩,
 ⟨(some 2), none, .mv (.c (.bool false))⟩] false)
 (.seq
 (.region [
 ⟨(some 11), none, .faddr 5 (.t 1)⟩,
 ⟨(some 12), none, .load false 1 (.t 11)⟩,
 ⟨(some 13), none, .len (.t 12)⟩,
 ⟨(some 3), none, .mv (.t 13)⟩] false)
 (.seq
 (.seq
 (.region [
 ⟨(some 14), none, .faddr 0 (.t 1)⟩,
 ⟨(some 15), none, .load false 1 (.t 14)⟩,
 ⟨(some 16), none, .call 48 [(.t 15)]⟩,
 ⟨(some 17), none, .not (.t 16)⟩,
 ⟨(some 18), none, .mv (.t 17)⟩,
 ⟨(some 19), (some (18, false)), .faddr 1 (.t 1)⟩,
 ⟨(some 20), (some (18, false)), .load false 1 (.t 19)⟩,
 ⟨(some 21), (some (18, false)), .bin .lss (.t 20) (.c (.int .i64 0))⟩,
 ⟨(some 22), none, .pick (.t 18) (.c (.bool true)) (.t 21)⟩,
 ⟨(some 23), none, .mv (.t 22)⟩,
 ⟨(some 24), (some (23, false)), .faddr 1 (.t 1)⟩,
 ⟨(some 25), (some (23, false)), .load false 1 (.t 24)⟩,
 ⟨(some 26), (some (23, false)), .bin .geq (.t 25) (.c (.int .i64 6))⟩,
 ⟨(some 27), none, .pick (.t 23) (.c (.bool true)) (.t 26)⟩,
 ⟨(some 28), none, .mv (.t 27)⟩,
 ⟨(some 29), (some (28, false)), .faddr 2 (.t 1)⟩,
 ⟨(some 30), (some (28, false)), .load false 1 (.t 29)⟩,
 ⟨(some 31), (some (28, false)), .call 49 [(.t 30)]⟩,
 ⟨(some 32), (some (28, false)), .not (.t 31)⟩,
 ⟨(some 33), none, .pick (.t 28) (.c (.bool true)) (.t 32)⟩,
 ⟨(some 34), none, .mv (.t 33)⟩,
 ⟨(some 35), (some (34, false)), .faddr 3 (.t 1)⟩,
 ⟨(some 36), (some (34, false)), .load false 1 (.t 35)⟩,
 ⟨(some 37), (some (34, false)), .len (.t 36)⟩,
 ⟨(some 38), (some (34, false)), .bin .gtr (.t 37) (.c (.int .i64 40))⟩,
 ⟨(some 39), none, .pick (.t 34) (.c (.bool true)) (.t 38)⟩,
 ⟨(some 40), none, .mv (.t 39)⟩,
 ⟨(some 41), (some (40, false)), .faddr 4 (.t 1)⟩,
 ⟨(some 42), (some (40, false)), .load false 1 (.t 41)⟩,
 ⟨(some 43), (some (40, false)), .len (.t 42)⟩,
 ⟨(some 44), (some (40, false)), .bin .gtr (.t 43) (.c (.int .i64 40))⟩,
 ⟨(some 45), none, .pick (.t 40) (.c (.bool true)) (.t 44)⟩,
 ⟨(some 46), none, .mv (.t 45)⟩,
 ⟨(some 47), (some (46, false)), .mv (.t 3)⟩,
 ⟨(some 48), (some (46, false)), .bin .lss (.t 47) (.c (.int .i64 1))⟩,
 ⟨(some 49), none, .pick (.t 46) (.c (.bool true)) (.t 48)⟩,
 ⟨(some 50), none, .mv (.t 49)⟩,
 ⟨(some 51), (some (50, false)), .mv (.t 3)⟩,
 ⟨(some 52), (some (50, false)), .bin .gtr (.t 51) (.c (.int .i64 1000))⟩,
 ⟨(some 53), none, .pick (.t 50) (.c (.bool true)) (.t 52)⟩] false)
 (.cond (.t 53)
 (.seq
 (.region [
 ⟨(some 2), none, .mv (.c (.bool false))⟩] false)
 .ret)
 .skip))
 (.seq
 (.seq
 (.region [
 ⟨(some 4), none, .mv (.c (.int .i64 0))⟩] false)
 (.block 0
 (.loop
 (.seq
 (.seq
 (.region [
 ⟨(some 54), none, .mv (.t 4)⟩,
 ⟨(some 55), none, .faddr 3 (.t 1)⟩,
 ⟨(some 56), none, .load false 1 (.t 55)⟩,
 ⟨(some 57), none, .len (.t 56)⟩,
 ⟨(some 58), none, .bin .lss (.t 54) (.t 57)⟩] false)
 (.cond (.t 58)
 .skip
 (.exit 0)))
 (.seq
 (.block 1
 (.seq
 (.region [
 ⟨(some 61), none, .faddr 3 (.t 1)⟩,
 ⟨(some 62), none, .load false 1 (.t 61)⟩,
 ⟨(some 63), none, .mv (.t 4)⟩,
 ⟨(some 64), none, .iaddr 3 (.t 62) (.t 63)⟩,
 ⟨(some 65), none, .load true 3 (.t 64)⟩,
 ⟨(some 5), none, .alloc 129 [.int .i64 0, .int .i64 0, .int .i64 0]⟩,
 ⟨none, none, .store 3 (.t 5) (.t 65)⟩] false)
 (.seq
 (.seq
 (.region [
 ⟨(some 66), none, .faddr 0 (.t 5)⟩,
 ⟨(some 67), none, .load false 1 (.t 66)⟩,
 ⟨(some 68), none, .faddr 1 (.t 5)⟩,
 ⟨(some 69), none, .load false 1 (.t 68)⟩,
 ⟨(some 70), none, .faddr 1 (.t 1)⟩,
 ⟨(some 71), none, .load false 1 (.t 70)⟩,
 ⟨(some 72), none, .call 50 [(.t 67), (.t 69), (.t 71)]⟩,
 ⟨(some 73), none, .not (.t 72)⟩,
 ⟨(some 74), none, .mv (.t 73)⟩,
 ⟨(some 75), (some (74, false)), .faddr 2 (.t 5)⟩,
 ⟨(some 76), (some (74, false)), .load false 1 (.t 75)⟩,
 ⟨(some 77), (some (74, false)), .bin .lss (.t 76) (.c (.int .i64 0))⟩,
 ⟨(some 78), none, .pick (.t 74) (.c (.bool true)) (.t 77)⟩,
 ⟨(some 79), none, .mv (.t 78)⟩,
 ⟨(some 80), (some (79, false)), .faddr 2 (.t 5)⟩,
 ⟨(some 81), (some (79, false)), .load false 1 (.t 80)⟩,
 ⟨(some 82), (some (79, false)), .mv (.t 3)⟩,
 ⟨(some 83), (some (79, false)), .bin .geq (.t 81) (.t 82)⟩,
 ⟨(some 84), none, .pick (.t 79) (.c (.bool true)) (.t 83)⟩] false)
 (.cond (.t 84)
 (.seq
 (.region [
 ⟨(some 2), none, .mv (.c (.bool false))⟩] false)
 .ret)
 .skip))
 (.seq
 (.region [
 ⟨(some 6), none, .mv (.c (.int .i64 0))⟩] false)
 (.block 2
 (.loop
 (.seq
 (.seq
 (.region [
 ⟨(some 85), none, .mv (.t 6)⟩,
 ⟨(some 86), none, .mv (.t 4)⟩,
 ⟨(some 87), none, .bin .lss (.t 85) (.t 86)⟩] false)
 (.cond (.t 87)
 .skip
 (.exit 2)))
 (.seq
 (.block 3
 (.seq
 (.region [
 ⟨(some 90), none, .faddr 3 (.t 1)⟩,
 ⟨(some 91), none, .load false 1 (.t 90)⟩,
 ⟨(some 92), none, .mv (.t 6)⟩,
 ⟨(some 93), none, .iaddr 3 (.t 91) (.t 92)⟩,
 ⟨(some 94), none, .faddr 0 (.t 93)⟩,
 ⟨(some 95), none, .load false 1 (.t 94)⟩,
 ⟨(some 96), none, .faddr 0 (.t 5)⟩,
 ⟨(some 97), none, .load false 1 (.t 96)⟩,
 ⟨(some 98), none, .bin .eql (.t 95) (.t 97)⟩,
 ⟨(some 99), none, .mv (.t 98)⟩,
 ⟨(some 100), (some (99, true)), .faddr 3 (.t 1)⟩,
 ⟨(some 101), (some (99, true)), .load false 1 (.t 100)⟩,
 ⟨(some 102), (some (99, true)), .mv (.t 6)⟩,
 ⟨(some 103), (some (99, true)), .iaddr 3 (.t 101) (.t 102)⟩,
 ⟨(some 104), (some (99, true)), .faddr 1 (.t 103)⟩,
 ⟨(some 105), (some (99, true)), .load false 1 (.t 104)⟩,
 ⟨(some 106), (some (99, true)), .faddr 1 (.t 5)⟩,
 ⟨(some 107), (some (99, true)), .load false 1 (.t 106)⟩,
 ⟨(some 108), (some (99, true)), .bin .eql (.t 105) (.t 107)⟩,
 ⟨(some 109), none, .pick (.t 99) (.t 108) (.c (.bool false))⟩] true)
 (.cond (.t 109)
 (.seq
 (.region [
 ⟨(some 2), none, .mv (.c (.bool false))⟩] false)
 .ret)
 .skip)))
 (.region [
 ⟨(some 88), none, .mv (.t 6)⟩,
 ⟨(some 89), none, .bin .add (.t 88) (.c (.int .i64 1))⟩,
 ⟨(some 6), none, .mv (.t 89)⟩] false)))))))))
 (.region [
 ⟨(some 59), none, .mv (.t 4)⟩,
 ⟨(some 60), none, .bin .add (.t 59) (.c (.int .i64 1))⟩,
 ⟨(some 4), none, .mv (.t 60)⟩] false))))))
 (.seq
 (.seq
 (.region [
 ⟨(some 7), none, .mv (.c (.int .i64 0))⟩] false)
 (.block 4
 (.loop
 (.seq
 (.seq
 (.region [
 ⟨(some 110), none, .mv (.t 7)⟩,
 ⟨(some 111), none, .faddr 4 (.t 1)⟩,
 ⟨(some 112), none, .load false 1 (.t 111)⟩,
 ⟨(some 113), none, .len (.t 112)⟩,
 ⟨(some 114), none, .bin .lss (.t 110) (.t 113)⟩] false)
 (.cond (.t 114)
 .skip
 (.exit 4)))
 (.seq
 (.block 5
 (.seq
 (.region [
 ⟨(some 117), none, .faddr 4 (.t 1)⟩,
 ⟨(some 118), none, .load false 1 (.t 117)⟩,
 ⟨(some 119), none, .mv (.t 7)⟩,
 ⟨(some 120), none, .iaddr 4 (.t 118) (.t 119)⟩,
 ⟨(some 121), none, .load true 4 (.t 120)⟩,
 ⟨(some 8), none, .alloc 130 [.int .i64 0, .int .i64 0, .int .i64 0, .int .i64 0]⟩,
 ⟨none, none, .store 4 (.t 8) (.t 121)⟩] false)
 (.seq
 (.region [
 ⟨(some 122), none, .faddr 0 (.t 8)⟩,
 ⟨(some 123), none, .load false 1 (.t 122)⟩,
 ⟨(some 124), none, .faddr 1 (.t 8)⟩,
 ⟨(some 125), none, .load false 1 (.t 124)⟩,
 ⟨(some 126), none, .faddr 1 (.t 1)⟩,
 ⟨(some 127), none, .load false 1 (.t 126)⟩,
 ⟨(some 128), none, .call 50 [(.t 123), (.t 125), (.t 127)]⟩,
 ⟨(some 129), none, .not (.t 128)⟩,
 ⟨(some 130), none, .mv (.t 129)⟩,
 ⟨(some 131), (some (130, false)), .faddr 2 (.t 8)⟩,
 ⟨(some 132), (some (130, false)), .load false 1 (.t 131)⟩,
 ⟨(some 133), (some (130, false)), .bin .lss (.t 132) (.c (.int .i64 (-1)))⟩,
 ⟨(some 134), none, .pick (.t 130) (.c (.bool true)) (.t 133)⟩,
 ⟨(some 135), none, .mv (.t 134)⟩,
 ⟨(some 136), (some (135, false)), .faddr 2 (.t 8)⟩,
 ⟨(some 137), (some (135, false)), .load false 1 (.t 136)⟩,
 ⟨(some 138), (some (135, false)), .mv (.t 3)⟩,
 ⟨(some 139), (some (135, false)), .bin .geq (.t 137) (.t 138)⟩,
 ⟨(some 140), none, .pick (.t 135) (.c (.bool true)) (.t 139)⟩,
 ⟨(some 141), none, .mv (.t 140)⟩,
 ⟨(some 142), (some (141, false)), .faddr 3 (.t 8)⟩,
 ⟨(some 143), (some (141, false)), .load false 1 (.t 142)⟩,
 ⟨(some 144), (some (141, false)), .bin .lss (.t 143) (.c (.int .i64 0))⟩,
 ⟨(some 145), none, .pick (.t 141) (.c (.bool true)) (.t 144)⟩,
 ⟨(some 146), none, .mv (.t 145)⟩,
 ⟨(some 147), (some (146, false)), .faddr 3 (.t 8)⟩,
 ⟨(some 148), (some (146, false)), .load false 1 (.t 147)⟩,
 ⟨(some 149), (some (146, false)), .mv (.t 3)⟩,
 ⟨(some 150), (some (146, false)), .bin .geq (.t 148) (.t 149)⟩,
 ⟨(some 151), none, .pick (.t 146) (.c (.bool true)) (.t 150)⟩] false)
 (.cond (.t 151)
 (.seq
 (.region [
 ⟨(some 2), none, .mv (.c (.bool false))⟩] false)
 .ret)
 .skip))))
 (.region [
 ⟨(some 115), none, .mv (.t 7)⟩,
 ⟨(some 116), none, .bin .add (.t 115) (.c (.int .i64 1))⟩,
 ⟨(some 7), none, .mv (.t 116)⟩] false))))))
 (.seq
 (.seq
 (.region [
 ⟨(some 9), none, .mv (.c (.int .i64 0))⟩] false)
 (.block 6
 (.loop
 (.seq
 (.seq
 (.region [
 ⟨(some 152), none, .mv (.t 9)⟩,
 ⟨(some 153), none, .mv (.t 3)⟩,
 ⟨(some 154), none, .bin .lss (.t 152) (.t 153)⟩] false)
 (.cond (.t 154)
 .skip
 (.exit 6)))
 (.seq
 (.block 7
 (.seq
 (.region [
 ⟨(some 157), none, .faddr 5 (.t 1)⟩,
 ⟨(some 158), none, .load false 1 (.t 157)⟩,
 ⟨(some 159), none, .mv (.t 9)⟩,
 ⟨(some 160), none, .iaddr 3 (.t 158) (.t 159)⟩,
 ⟨(some 161), none, .load true 3 (.t 160)⟩,
 ⟨(some 10), none, .alloc 68 [.int .i64 0, .int .i64 0, .str []]⟩,
 ⟨none, none, .store 3 (.t 10) (.t 161)⟩] false)
 (.seq
 (.region [
 ⟨(some 162), none, .load true 3 (.t 10)⟩,
 ⟨(some 163), none, .call 51 [(.t 162)]⟩,
 ⟨(some 164), none, .not (.t 163)⟩,
 ⟨(some 165), none, .mv (.t 164)⟩,
 ⟨(some 166), (some (165, false)), .faddr 0 (.t 10)⟩,
 ⟨(some 167), (some (165, false)), .load false 1 (.t 166)⟩,
 ⟨(some 168), (some (165, false)), .call 42 [(.t 167)]⟩,
 ⟨(some 169), (some (165, false)), .mv (.t 168)⟩,
 ⟨(some 170), (some (169, true)), .faddr 1 (.t 10)⟩,
 ⟨(some 171), (some (169, true)), .load false 1 (.t 170)⟩,
 ⟨(some 172), (some (169, true)), .mv (.t 3)⟩,
 ⟨(some 173), (some (169, true)), .bin .geq (.t 171) (.t 172)⟩,
 ⟨(some 174), (some (165, false)), .pick (.t 169) (.t 173) (.c (.bool false))⟩,
 ⟨(some 175), none, .pick (.t 165) (.c (.bool true)) (.t 174)⟩,
 ⟨(some 176), none, .mv (.t 175)⟩,
 ⟨(some 177), (some (176, false)), .faddr 0 (.t 10)⟩,
 ⟨(some 178), (some (176, false)), .load false 1 (.t 177)⟩,
 ⟨(some 179), (some (176, false)), .bin .eql (.t 178) (.c (.int .i64 3))⟩,
 ⟨(some 180), (some (176, false)), .mv (.t 179)⟩,
 ⟨(some 181), (some (180, false)), .faddr 0 (.t 10)⟩,
 ⟨(some 182), (some (180, false)), .load false 1 (.t 181)⟩,
 ⟨(some 183), (some (180, false)), .bin .eql (.t 182) (.c (.int .i64 5))⟩,
 ⟨(some 184), (some (176, false)), .pick (.t 180) (.c (.bool true)) (.t 183)⟩,
 ⟨(some 185), (some (176, false)), .mv (.t 184)⟩,
 ⟨(some 186), (some (185, true)), .faddr 1 (.t 10)⟩,
 ⟨(some 187), (some (185, true)), .load false 1 (.t 186)⟩,
 ⟨(some 188), (some (185, true)), .faddr 2 (.t 1)⟩,
 ⟨(some 189), (some (185, true)), .load false 1 (.t 188)⟩,
 ⟨(some 190), (some (185, true)), .len (.t 189)⟩,
 ⟨(some 191), (some (185, true)), .bin .geq (.t 187) (.t 190)⟩,
 ⟨(some 192), (some (176, false)), .pick (.t 185) (.t 191) (.c (.bool false))⟩,
 ⟨(some 193), none, .pick (.t 176) (.c (.bool true)) (.t 192)⟩] false)
 (.cond (.t 193)
 (.seq
 (.region [
 ⟨(some 2), none, .mv (.c (.bool false))⟩] false)
 .ret)
 .skip))))
 (.region [
 ⟨(some 155), none, .mv (.t 9)⟩,
 ⟨(some 156), none, .bin .add (.t 155) (.c (.int .i64 1))⟩,
 ⟨(some 9), none, .mv (.t 156)⟩] false))))))
 (.seq
 (.region [
 ⟨(some 2), none, .mv (.c (.bool true))⟩] false)
 .ret)))))))
def r22 : List ERes := [.t 2]
theorem c22 : chkF Try.prog Try.f22 1 e22 r22 = true := by kernel_rfl
def e42 : EC :=
 (.seq
 (.region [
 ⟨(some 2), none, .mv (.c (.bool false))⟩] false)
 (.seq
 (.region [
 ⟨(some 3), none, .mv (.t 0)⟩,
 ⟨(some 4), none, .bin .eql (.t 3) (.c (.int .i64 19))⟩,
 ⟨(some 5), none, .mv (.t 4)⟩,
 ⟨(some 6), (some (5, false)), .mv (.t 0)⟩,
 ⟨(some 7), (some (5, false)), .bin .eql (.t 6) (.c (.int .i64 20))⟩,
 ⟨(some 8), none, .pick (.t 5) (.c (.bool true)) (.t 7)⟩,
 ⟨(some 9), none, .mv (.t 8)⟩,
 ⟨(some 10), (some (9, false)), .mv (.t 0)⟩,
 ⟨(some 11), (some (9, false)), .bin .eql (.t 10) (.c (.int .i64 22))⟩,
 ⟨(some 12), none, .pick (.t 9) (.c (.bool true)) (.t 11)⟩,
 ⟨(some 2), none, .mv (.t 12)⟩] false)
 .ret))
def r42 : List ERes := [.t 2]
theorem c42 : chkF Try.prog Try.f42 1 e42 r42 = true := by kernel_rfl
def e48 : EC :=
 (.seq
 (.region [
 ⟨(some 2), none, .mv (.c (.bool false))⟩] false)
 (.seq
 (.seq
 (.region [
 ⟨(some 4), none, .mv (.t 0)⟩,
 ⟨(some 5), none, .bin .eql (.t 4) (.c (.str []))⟩,
 ⟨(some 6), none, .mv (.t 5)⟩,
 ⟨(some 7), (some (6, false)), .mv (.t 0)⟩,
 ⟨(some 8), (some (6, false)), .idxS (.t 7) (.c (.int .i64 0))⟩,
 ⟨(some 9), (some (6, false)), .call 82 [(.t 8)]⟩,
 ⟨(some 10), (some (6, false)), .not (.t 9)⟩,
 ⟨(some 11), none, .pick (.t 6) (.c (.bool true)) (.t 10)⟩,
 ⟨(some 12), none, .mv (.t 11)⟩,
 ⟨(some 13), (some (12, false)), .mv (.t 0)⟩,
 ⟨(some 14), (some (12, false)), .lenS (.t 13)⟩,
 ⟨(some 15), (some (12, false)), .bin .gtr (.t 14) (.c (.int .i64 16))⟩,
 ⟨(some 16), none, .pick (.t 12) (.c (.bool true)) (.t 15)⟩] false)
 (.cond (.t 16)
 (.seq
 (.region [
 ⟨(some 2), none, .mv (.c (.bool false))⟩] false)
 .ret)
 .skip))
 (.seq
 (.seq
 (.region [
 ⟨(some 3), none, .mv (.c (.int .i64 0))⟩] false)
 (.block 0
 (.loop
 (.seq
 (.seq
 (.region [
 ⟨(some 17), none, .mv (.t 3)⟩,
 ⟨(some 18), none, .mv (.t 0)⟩,
 ⟨(some 19), none, .lenS (.t 18)⟩,
 ⟨(some 20), none, .bin .lss (.t 17) (.t 19)⟩] false)
 (.cond (.t 20)
 .skip
 (.exit 0)))
 (.seq
 (.block 1
 (.seq
 (.region [
 ⟨(some 23), none, .mv (.t 0)⟩,
 ⟨(some 24), none, .mv (.t 3)⟩,
 ⟨(some 25), none, .idxS (.t 23) (.t 24)⟩,
 ⟨(some 26), none, .call 83 [(.t 25)]⟩,
 ⟨(some 27), none, .not (.t 26)⟩] false)
 (.cond (.t 27)
 (.seq
 (.region [
 ⟨(some 2), none, .mv (.c (.bool false))⟩] false)
 .ret)
 .skip)))
 (.region [
 ⟨(some 21), none, .mv (.t 3)⟩,
 ⟨(some 22), none, .bin .add (.t 21) (.c (.int .i64 1))⟩,
 ⟨(some 3), none, .mv (.t 22)⟩] false))))))
 (.seq
 (.region [
 ⟨(some 2), none, .mv (.c (.bool true))⟩] false)
 .ret))))
def r48 : List ERes := [.t 2]
theorem c48 : chkF Try.prog Try.f48 1 e48 r48 = true := by kernel_rfl
def e49 : EC :=
 (.seq
 (.region [
 ⟨(some 2), none, .mv (.c (.bool false))⟩] false)
 (.seq
 (.seq
 (.region [
 ⟨(some 3), none, .mv (.c (.int .i64 0))⟩] false)
 (.block 0
 (.loop
 (.seq
 (.seq
 (.region [
 ⟨(some 5), none, .mv (.t 3)⟩,
 ⟨(some 6), none, .mv (.t 0)⟩,
 ⟨(some 7), none, .len (.t 6)⟩,
 ⟨(some 8), none, .bin .lss (.t 5) (.t 7)⟩] false)
 (.cond (.t 8)
 .skip
 (.exit 0)))
 (.seq
 (.block 1
 (.seq
 (.seq
 (.region [
 ⟨(some 11), none, .mv (.t 0)⟩,
 ⟨(some 12), none, .mv (.t 3)⟩,
 ⟨(some 13), none, .iaddr 7 (.t 11) (.t 12)⟩,
 ⟨(some 14), none, .faddr 0 (.t 13)⟩,
 ⟨(some 15), none, .load false 1 (.t 14)⟩,
 ⟨(some 16), none, .pcall 48 [(.t 15)]⟩,
 ⟨(some 17), none, .not (.t 16)⟩,
 ⟨(some 18), none, .mv (.t 17)⟩,
 ⟨(some 19), (some (18, false)), .mv (.t 0)⟩,
 ⟨(some 20), (some (18, false)), .mv (.t 3)⟩,
 ⟨(some 21), (some (18, false)), .iaddr 7 (.t 19) (.t 20)⟩,
 ⟨(some 22), (some (18, false)), .faddr 1 (.t 21)⟩,
 ⟨(some 23), (some (18, false)), .load true 3 (.t 22)⟩,
 ⟨(some 24), (some (18, false)), .mv (.t 0)⟩,
 ⟨(some 25), (some (18, false)), .mv (.t 3)⟩,
 ⟨(some 26), (some (18, false)), .iaddr 7 (.t 24) (.t 25)⟩,
 ⟨(some 27), (some (18, false)), .faddr 4 (.t 26)⟩,
 ⟨(some 28), (some (18, false)), .load true 3 (.t 27)⟩,
 ⟨(some 29), (some (18, false)), .pcall 64 [(.t 23), (.t 28)]⟩,
 ⟨(some 30), (some (18, false)), .not (.t 29)⟩,
 ⟨(some 31), none, .pick (.t 18) (.c (.bool true)) (.t 30)⟩] true)
 (.cond (.t 31)
 (.seq
 (.region [
 ⟨(some 2), none, .mv (.c (.bool false))⟩] false)
 .ret)
 .skip))
 (.seq
 (.region [
 ⟨(some 4), none, .mv (.c (.int .i64 0))⟩] false)
 (.block 2
 (.loop
 (.seq
 (.seq
 (.region [
 ⟨(some 32), none, .mv (.t 4)⟩,
 ⟨(some 33), none, .mv (.t 3)⟩,
 ⟨(some 34), none, .bin .lss (.t 32) (.t 33)⟩] false)
 (.cond (.t 34)
 .skip
 (.exit 2)))
 (.seq
 (.block 3
 (.seq
 (.region [
 ⟨(some 37), none, .mv (.t 0)⟩,
 ⟨(some 38), none, .mv (.t 4)⟩,
 ⟨(some 39), none, .iaddr 7 (.t 37) (.t 38)⟩,
 ⟨(some 40), none, .faddr 0 (.t 39)⟩,
 ⟨(some 41), none, .load false 1 (.t 40)⟩,
 ⟨(some 42), none, .mv (.t 0)⟩,
 ⟨(some 43), none, .mv (.t 3)⟩,
 ⟨(some 44), none, .iaddr 7 (.t 42) (.t 43)⟩,
 ⟨(some 45), none, .faddr 0 (.t 44)⟩,
 ⟨(some 46), none, .load false 1 (.t 45)⟩,
 ⟨(some 47), none, .bin .eql (.t 41) (.t 46)⟩] true)
 (.cond (.t 47)
 (.seq
 (.region [
 ⟨(some 2), none, .mv (.c (.bool false))⟩] false)
 .ret)
 .skip)))
 (.region [
 ⟨(some 35), none, .mv (.t 4)⟩,
 ⟨(some 36), none, .bin .add (.t 35) (.c (.int .i64 1))⟩,
 ⟨(some 4), none, .mv (.t 36)⟩] false))))))))
 (.region [
 ⟨(some 9), none, .mv (.t 3)⟩,
 ⟨(some 10), none, .bin .add (.t 9) (.c (.int .i64 1))⟩,
 ⟨(some 3), none, .mv (.t 10)⟩] false))))))
 (.seq
 (.region [
 ⟨(some 48), none, .mv (.t 0)⟩,
 ⟨(some 49), none, .len (.t 48)⟩,
 ⟨(some 50), none, .bin .leq (.t 49) (.c (.int .i64 12))⟩,
 ⟨(some 2), none, .mv (.t 50)⟩] false)
 .ret)))
def r49 : List ERes := [.t 2]
theorem c49 : chkF Try.prog Try.f49 1 e49 r49 = true := by kernel_rfl
def e50 : EC :=
 (.seq
 (.region [
 ⟨(some 6), none, .mv (.c (.bool false))⟩] false)
 (.seq
 (.region [
 ⟨(some 7), none, .mv (.t 0)⟩,
 ⟨(some 8), none, .bin .geq (.t 7) (.c (.int .i64 0))⟩,
 ⟨(some 9), none, .mv (.t 8)⟩,
 ⟨(some 10), (some (9, true)), .mv (.t 0)⟩,
 ⟨(some 11), (some (9, true)), .bin .lss (.t 10) (.c (.int .i64 6))⟩,
 ⟨(some 12), none, .pick (.t 9) (.t 11) (.c (.bool false))⟩,
 ⟨(some 13), none, .mv (.t 12)⟩,
 ⟨(some 14), (some (13, true)), .mv (.t 0)⟩,
 ⟨(some 15), (some (13, true)), .mv (.t 2)⟩,
 ⟨(some 16), (some (13, true)), .bin .neq (.t 14) (.t 15)⟩,
 ⟨(some 17), none, .pick (.t 13) (.t 16) (.c (.bool false))⟩,
 ⟨(some 18), none, .mv (.t 17)⟩,
 ⟨(some 19), (some (18, true)), .mv (.t 1)⟩,
 ⟨(some 20), (some (18, true)), .bin .geq (.t 19) (.c (.int .i64 0))⟩,
 ⟨(some 21), none, .pick (.t 18) (.t 20) (.c (.bool false))⟩,
 ⟨(some 22), none, .mv (.t 21)⟩,
 ⟨(some 23), (some (22, true)), .mv (.t 1)⟩,
 ⟨(some 24), (some (22, true)), .bin .lss (.t 23) (.c (.int .i64 40))⟩,
 ⟨(some 25), none, .pick (.t 22) (.t 24) (.c (.bool false))⟩,
 ⟨(some 6), none, .mv (.t 25)⟩] false)
 .ret))
def r50 : List ERes := [.t 6]
theorem c50 : chkF Try.prog Try.f50 3 e50 r50 = true := by kernel_rfl
def e51 : EC :=
 (.seq
 (.region [
 ⟨(some 1), none, .box 68 (.t 0)⟩,
 ⟨(some 2), none, .mv (.c (.bool false))⟩] false)
 (.seq
 (.seq
 (.region [
 ⟨(some 5), none, .faddr 0 (.t 1)⟩,
 ⟨(some 6), none, .load false 1 (.t 5)⟩,
 ⟨(some 7), none, .bin .lss (.t 6) (.c (.int .i64 1))⟩,
 ⟨(some 8), none, .mv (.t 7)⟩,
 ⟨(some 9), (some (8, false)), .faddr 0 (.t 1)⟩,
 ⟨(some 10), (some (8, false)), .load false 1 (.t 9)⟩,
 ⟨(some 11), (some (8, false)), .bin .gtr (.t 10) (.c (.int .i64 24))⟩,
 ⟨(some 12), none, .pick (.t 8) (.c (.bool true)) (.t 11)⟩] false)
 (.cond (.t 12)
 (.seq
 (.region [
 ⟨(some 2), none, .mv (.c (.bool false))⟩] false)
 .ret)
 .skip))
 (.seq
 (.region [
 ⟨(some 14), none, .faddr 0 (.t 1)⟩,
 ⟨(some 15), none, .load false 1 (.t 14)⟩,
 ⟨(some 16), none, .call 84 [(.t 15)]⟩,
 ⟨(some 13), none, .mv (.t 16)⟩,
 ⟨(some 17), none, .extract 0 (.t 13)⟩,
 ⟨(some 18), none, .extract 1 (.t 13)⟩,
 ⟨(some 3), none, .mv (.t 17)⟩,
 ⟨(some 4), none, .mv (.t 18)⟩] false)
 (.seq
 (.seq
 (.region [
 ⟨(some 19), none, .faddr 1 (.t 1)⟩,
 ⟨(some 20), none, .load false 1 (.t 19)⟩,
 ⟨(some 21), none, .mv (.t 3)⟩,
 ⟨(some 22), none, .bin .lss (.t 20) (.t 21)⟩,
 ⟨(some 23), none, .mv (.t 22)⟩,
 ⟨(some 24), (some (23, false)), .faddr 1 (.t 1)⟩,
 ⟨(some 25), (some (23, false)), .load false 1 (.t 24)⟩,
 ⟨(some 26), (some (23, false)), .mv (.t 4)⟩,
 ⟨(some 27), (some (23, false)), .bin .gtr (.t 25) (.t 26)⟩,
 ⟨(some 28), none, .pick (.t 23) (.c (.bool true)) (.t 27)⟩] false)
 (.cond (.t 28)
 (.seq
 (.region [
 ⟨(some 2), none, .mv (.c (.bool false))⟩] false)
 .ret)
 .skip))
 (.seq
 (.seq
 (.region [
 ⟨(some 29), none, .faddr 0 (.t 1)⟩,
 ⟨(some 30), none, .load false 1 (.t 29)⟩,
 ⟨(some 31), none, .bin .eql (.t 30) (.c (.int .i64 2))⟩] false)
 (.cond (.t 31)
 (.seq
 (.region [
 ⟨(some 32), none, .faddr 2 (.t 1)⟩,
 ⟨(some 33), none, .load false 1 (.t 32)⟩,
 ⟨(some 34), none, .call 31 [(.t 33)]⟩,
 ⟨(some 35), none, .call 32 [(.t 34)]⟩,
 ⟨(some 2), none, .mv (.t 35)⟩] false)
 .ret)
 .skip))
 (.seq
 (.region [
 ⟨(some 36), none, .faddr 2 (.t 1)⟩,
 ⟨(some 37), none, .load false 1 (.t 36)⟩,
 ⟨(some 38), none, .bin .eql (.t 37) (.c (.str []))⟩,
 ⟨(some 2), none, .mv (.t 38)⟩] false)
 .ret))))))
def r51 : List ERes := [.t 2]
theorem c51 : chkF Try.prog Try.f51 1 e51 r51 = true := by kernel_rfl
def e82 : EC :=
 (.seq
 (.region [
 ⟨(some 2), none, .mv (.c (.bool false))⟩] false)
 (.seq
 (.region [
 ⟨(some 3), none, .mv (.t 0)⟩,
 ⟨(some 4), none, .bin .geq (.t 3) (.c (.int .u8 97))⟩,
 ⟨(some 5), none, .mv (.t 4)⟩,
 ⟨(some 6), (some (5, true)), .mv (.t 0)⟩,
 ⟨(some 7), (some (5, true)), .bin .leq (.t 6) (.c (.int .u8 122))⟩,
 ⟨(some 8), none, .pick (.t 5) (.t 7) (.c (.bool false))⟩,
 ⟨(some 9), none, .mv (.t 8)⟩,
 ⟨(some 10), (some (9, false)), .mv (.t 0)⟩,
 ⟨(some 11), (some (9, false)), .bin .geq (.t 10) (.c (.int .u8 65))⟩,
 ⟨(some 12), (some (9, false)), .mv (.t 11)⟩,
 ⟨(some 13), (some (12, true)), .mv (.t 0)⟩,
 ⟨(some 14), (some (12, true)), .bin .leq (.t 13) (.c (.int .u8 90))⟩,
 ⟨(some 15), (some (9, false)), .pick (.t 12) (.t 14) (.c (.bool false))⟩,
 ⟨(some 16), none, .pick (.t 9) (.c (.bool true)) (.t 15)⟩,
 ⟨(some 2), none, .mv (.t 16)⟩] false)
 .ret))
def r82 : List ERes := [.t 2]
theorem c82 : chkF Try.prog Try.f82 1 e82 r82 = true := by kernel_rfl
def e83 : EC :=
 (.seq
 (.region [
 ⟨(some 2), none, .mv (.c (.bool false))⟩] false)
 (.seq
 (.region [
 ⟨(some 3), none, .mv (.t 0)⟩,
 ⟨(some 4), none, .call 82 [(.t 3)]⟩,
 ⟨(some 5), none, .mv (.t 4)⟩,
 ⟨(some 6), (some (5, false)), .mv (.t 0)⟩,
 ⟨(some 7), (some (5, false)), .call 120 [(.t 6)]⟩,
 ⟨(some 8), none, .pick (.t 5) (.c (.bool true)) (.t 7)⟩,
 ⟨(some 9), none, .mv (.t 8)⟩,
 ⟨(some 10), (some (9, false)), .mv (.t 0)⟩,
 ⟨(some 11), (some (9, false)), .bin .eql (.t 10) (.c (.int .u8 95))⟩,
 ⟨(some 12), none, .pick (.t 9) (.c (.bool true)) (.t 11)⟩,
 ⟨(some 2), none, .mv (.t 12)⟩] false)
 .ret))
def r83 : List ERes := [.t 2]
theorem c83 : chkF Try.prog Try.f83 1 e83 r83 = true := by kernel_rfl
def e84 : EC :=
 (.seq
 (.region [
 ⟨(some 2), none, .mv (.c (.int .i64 0))⟩,
 ⟨(some 3), none, .mv (.c (.int .i64 0))⟩] false)
 (.seq
 (.seq
 (.region [
 ⟨(some 4), none, .mv (.t 0)⟩] false)
 (.block 0
 (.seq
 (.region [
 ⟨(some 6), none, .bin .eql (.t 4) (.c (.int .i64 1))⟩,
 ⟨(some 5), none, .mv (.t 6)⟩] false)
 (.cond (.t 5)
 (.seq
 (.region [
 ⟨(some 2), none, .mv (.c (.int .i64 (-1000)))⟩,
 ⟨(some 3), none, .mv (.c (.int .i64 1000))⟩] false)
 .ret)
 (.seq
 (.seq
 (.region [
 ⟨(some 8), none, .bin .eql (.t 4) (.c (.int .i64 3))⟩,
 ⟨(some 7), none, .mv (.t 8)⟩] false)
 (.cond (.t 7)
 .skip
 (.region [
 ⟨(some 9), none, .bin .eql (.t 4) (.c (.int .i64 5))⟩,
 ⟨(some 7), none, .mv (.t 9)⟩] false)))
 (.cond (.t 7)
 (.seq
 (.region [
 ⟨(some 2), none, .mv (.c (.int .i64 0))⟩,
 ⟨(some 3), none, .mv (.c (.int .i64 11))⟩] false)
 .ret)
 (.seq
 (.region [
 ⟨(some 11), none, .bin .eql (.t 4) (.c (.int .i64 4))⟩,
 ⟨(some 10), none, .mv (.t 11)⟩] false)
 (.cond (.t 10)
 (.seq
 (.region [
 ⟨(some 2), none, .mv (.c (.int .i64 0))⟩,
 ⟨(some 3), none, .mv (.c (.int .i64 3))⟩] false)
 .ret)
 (.seq
 (.seq
 (.region [
 ⟨(some 13), none, .bin .eql (.t 4) (.c (.int .i64 19))⟩,
 ⟨(some 12), none, .mv (.t 13)⟩] false)
 (.cond (.t 12)
 .skip
 (.seq
 (.region [
 ⟨(some 14), none, .bin .eql (.t 4) (.c (.int .i64 20))⟩,
 ⟨(some 12), none, .mv (.t 14)⟩] false)
 (.cond (.t 12)
 .skip
 (.region [
 ⟨(some 15), none, .bin .eql (.t 4) (.c (.int .i64 22))⟩,
 ⟨(some 12), none, .mv (.t 15)⟩] false)))))
 (.cond (.t 12)
 (.seq
 (.region [
 ⟨(some 2), none, .mv (.c (.int .i64 0))⟩,
 ⟨(some 3), none, .mv (.c (.int .i64 999))⟩] false)
 .ret)
 (.seq
 (.region [
 ⟨(some 17), none, .bin .eql (.t 4) (.c (.int .i64 21))⟩,
 ⟨(some 16), none, .mv (.t 17)⟩] false)
 (.cond (.t 16)
 (.seq
 (.region [
 ⟨(some 2), none, .mv (.c (.int .i64 1))⟩,
 ⟨(some 3), none, .mv (.c (.int .i64 50))⟩] false)
 .ret)
 .skip))))))))))))
 (.seq
 (.region [
 ⟨(some 2), none, .mv (.c (.int .i64 0))⟩,
 ⟨(some 3), none, .mv (.c (.int .i64 0))⟩] false)
 .ret)))
def r84 : List ERes := [.t 2, .t 3]
theorem c84 : chkF Try.prog Try.f84 1 e84 r84 = true := by kernel_rfl
def e120 : EC :=
 (.seq
 (.region [
 ⟨(some 2), none, .mv (.c (.bool false))⟩] false)
 (.seq
 (.region [
 ⟨(some 3), none, .mv (.t 0)⟩,
 ⟨(some 4), none, .bin .geq (.t 3) (.c (.int .u8 48))⟩,
 ⟨(some 5), none, .mv (.t 4)⟩,
 ⟨(some 6), (some (5, true)), .mv (.t 0)⟩,
 ⟨(some 7), (some (5, true)), .bin .leq (.t 6) (.c (.int .u8 57))⟩,
 ⟨(some 8), none, .pick (.t 5) (.t 7) (.c (.bool false))⟩,
 ⟨(some 2), none, .mv (.t 8)⟩] false)
 .ret))
def r120 : List ERes := [.t 2]
theorem c120 : chkF Try.prog Try.f120 1 e120 r120 = true := by kernel_rfl
def e32 : EC :=
 (.seq
 (.region [
 ⟨(some 1), none, .box 70 (.t 0)⟩,
 ⟨(some 2), none, .mv (.c (.bool false))⟩] false)
 (.seq
 (.seq
 (.region [
 ⟨(some 3), none, .faddr 0 (.t 1)⟩,
 ⟨(some 4), none, .load false 1 (.t 3)⟩] false)
 (.block 0
 (.seq
 (.region [
 ⟨(some 6), none, .bin .eql (.t 4) (.c (.int .i64 1))⟩,
 ⟨(some 5), none, .mv (.t 6)⟩] false)
 (.cond (.t 5)
 (.seq
 (.region [
 ⟨(some 7), none, .faddr 1 (.t 1)⟩,
 ⟨(some 8), none, .load false 1 (.t 7)⟩,
 ⟨(some 9), none, .bin .geq (.t 8) (.c (.int .i64 (-1000)))⟩,
 ⟨(some 10), none, .mv (.t 9)⟩,
 ⟨(some 11), (some (10, true)), .faddr 1 (.t 1)⟩,
 ⟨(some 12), (some (10, true)), .load false 1 (.t 11)⟩,
 ⟨(some 13), (some (10, true)), .bin .leq (.t 12) (.c (.int .i64 1000))⟩,
 ⟨(some 14), none, .pick (.t 10) (.t 13) (.c (.bool false))⟩,
 ⟨(some 15), none, .mv (.t 14)⟩,
 ⟨(some 16), (some (15, true)), .faddr 2 (.t 1)⟩,
 ⟨(some 17), (some (15, true)), .load false 1 (.t 16)⟩,
 ⟨(some 18), (some (15, true)), .bin .eql (.t 17) (.c (.str []))⟩,
 ⟨(some 19), none, .pick (.t 15) (.t 18) (.c (.bool false))⟩,
 ⟨(some 2), none, .mv (.t 19)⟩] false)
 .ret)
 (.seq
 (.region [
 ⟨(some 21), none, .bin .eql (.t 4) (.c (.int .i64 2))⟩,
 ⟨(some 20), none, .mv (.t 21)⟩] false)
 (.cond (.t 20)
 (.seq
 (.region [
 ⟨(some 22), none, .faddr 1 (.t 1)⟩,
 ⟨(some 23), none, .load false 1 (.t 22)⟩,
 ⟨(some 24), none, .bin .eql (.t 23) (.c (.int .i64 0))⟩,
 ⟨(some 25), none, .mv (.t 24)⟩,
 ⟨(some 26), (some (25, true)), .faddr 2 (.t 1)⟩,
 ⟨(some 27), (some (25, true)), .load false 1 (.t 26)⟩,
 ⟨(some 28), (some (25, true)), .lenS (.t 27)⟩,
 ⟨(some 29), (some (25, true)), .bin .leq (.t 28) (.c (.int .i64 40))⟩,
 ⟨(some 30), none, .pick (.t 25) (.t 29) (.c (.bool false))⟩,
 ⟨(some 31), none, .mv (.t 30)⟩,
 ⟨(some 32), (some (31, true)), .faddr 2 (.t 1)⟩,
 ⟨(some 33), (some (31, true)), .load false 1 (.t 32)⟩,
 ⟨(some 34), (some (31, true)), .call 62 [(.t 33)]⟩,
 ⟨(some 35), none, .pick (.t 31) (.t 34) (.c (.bool false))⟩,
 ⟨(some 2), none, .mv (.t 35)⟩] false)
 .ret)
 .skip))))))
 (.seq
 (.region [
 ⟨(some 2), none, .mv (.c (.bool false))⟩] false)
 .ret)))
def r32 : List ERes := [.t 2]
theorem c32 : chkF Try.prog Try.f32 1 e32 r32 = true := by kernel_rfl
def e38 : EC :=
 (.seq
 (.region [
 ⟨(some 1), none, .box 85 (.t 0)⟩,
 ⟨(some 2), none, .mv (.c (.bool false))⟩] false)
 (.seq
 (.seq
 (.region [
 ⟨(some 3), none, .faddr 0 (.t 1)⟩,
 ⟨(some 4), none, .load false 1 (.t 3)⟩] false)
 (.block 0
 (.seq
 (.region [
 ⟨(some 6), none, .bin .eql (.t 4) (.c (.int .i64 1))⟩,
 ⟨(some 5), none, .mv (.t 6)⟩] false)
 (.cond (.t 5)
 (.seq
 (.region [
 ⟨(some 7), none, .faddr 1 (.t 1)⟩,
 ⟨(some 8), none, .load false 1 (.t 7)⟩,
 ⟨(some 9), none, .bin .leq (.c (.int .i64 (-1000))) (.t 8)⟩,
 ⟨(some 10), none, .mv (.t 9)⟩,
 ⟨(some 11), (some (10, true)), .faddr 1 (.t 1)⟩,
 ⟨(some 12), (some (10, true)), .load false 1 (.t 11)⟩,
 ⟨(some 13), (some (10, true)), .faddr 2 (.t 1)⟩,
 ⟨(some 14), (some (10, true)), .load false 1 (.t 13)⟩,
 ⟨(some 15), (some (10, true)), .bin .leq (.t 12) (.t 14)⟩,
 ⟨(some 16), none, .pick (.t 10) (.t 15) (.c (.bool false))⟩,
 ⟨(some 17), none, .mv (.t 16)⟩,
 ⟨(some 18), (some (17, true)), .faddr 2 (.t 1)⟩,
 ⟨(some 19), (some (17, true)), .load false 1 (.t 18)⟩,
 ⟨(some 20), (some (17, true)), .bin .leq (.t 19) (.c (.int .i64 1000))⟩,
 ⟨(some 21), none, .pick (.t 17) (.t 20) (.c (.bool false))⟩,
 ⟨(some 2), none, .mv (.t 21)⟩] false)
 .ret)
 (.seq
 (.region [
 ⟨(some 23), none, .bin .eql (.t 4) (.c (.int .i64 2))⟩,
 ⟨(some 22), none, .mv (.t 23)⟩] false)
 (.cond (.t 22)
 (.seq
 (.region [
 ⟨(some 24), none, .faddr 1 (.t 1)⟩,
 ⟨(some 25), none, .load false 1 (.t 24)⟩,
 ⟨(some 26), none, .bin .leq (.c (.int .i64 0)) (.t 25)⟩,
 ⟨(some 27), none, .mv (.t 26)⟩,
 ⟨(some 28), (some (27, true)), .faddr 1 (.t 1)⟩,
 ⟨(some 29), (some (27, true)), .load false 1 (.t 28)⟩,
 ⟨(some 30), (some (27, true)), .faddr 2 (.t 1)⟩,
 ⟨(some 31), (some (27, true)), .load false 1 (.t 30)⟩,
 ⟨(some 32), (some (27, true)), .bin .leq (.t 29) (.t 31)⟩,
 ⟨(some 33), none, .pick (.t 27) (.t 32) (.c (.bool false))⟩,
 ⟨(some 34), none, .mv (.t 33)⟩,
 ⟨(some 35), (some (34, true)), .faddr 2 (.t 1)⟩,
 ⟨(some 36), (some (34, true)), .load false 1 (.t 35)⟩,
 ⟨(some 37), (some (34, true)), .bin .leq (.t 36) (.c (.int .i64 40))⟩,
 ⟨(some 38), none, .pick (.t 34) (.t 37) (.c (.bool false))⟩,
 ⟨(some 2), none, .mv (.t 38)⟩] false)
 .ret)
 .skip))))))
 (.seq
 (.region [
 ⟨(some 2), none, .mv (.c (.bool false))⟩] false)
 .ret)))
def r38 : List ERes := [.t 2]
theorem c38 : chkF Try.prog Try.f38 1 e38 r38 = true := by kernel_rfl
def e62 : EC :=
 (.seq
 (.region [
 ⟨(some 2), none, .mv (.c (.bool false))⟩] false)
 (.seq
 (.seq
 (.region [
 ⟨(some 3), none, .mv (.c (.int .i64 0))⟩] false)
 (.block 0
 (.loop
 (.seq
 (.seq
 (.region [
 ⟨(some 4), none, .mv (.t 3)⟩,
 ⟨(some 5), none, .mv (.t 0)⟩,
 ⟨(some 6), none, .lenS (.t 5)⟩,
 ⟨(some 7), none, .bin .lss (.t 4) (.t 6)⟩] false)
 (.cond (.t 7)
 .skip
 (.exit 0)))
 (.seq
 (.block 1
 (.seq
 (.region [
 ⟨(some 10), none, .mv (.t 0)⟩,
 ⟨(some 11), none, .mv (.t 3)⟩,
 ⟨(some 12), none, .idxS (.t 10) (.t 11)⟩,
 ⟨(some 13), none, .bin .lss (.t 12) (.c (.int .u8 32))⟩,
 ⟨(some 14), none, .mv (.t 13)⟩,
 ⟨(some 15), (some (14, false)), .mv (.t 0)⟩,
 ⟨(some 16), (some (14, false)), .mv (.t 3)⟩,
 ⟨(some 17), (some (14, false)), .idxS (.t 15) (.t 16)⟩,
 ⟨(some 18), (some (14, false)), .bin .gtr (.t 17) (.c (.int .u8 126))⟩,
 ⟨(some 19), none, .pick (.t 14) (.c (.bool true)) (.t 18)⟩] false)
 (.cond (.t 19)
 (.seq
 (.region [
 ⟨(some 2), none, .mv (.c (.bool false))⟩] false)
 .ret)
 .skip)))
 (.region [
 ⟨(some 8), none, .mv (.t 3)⟩,
 ⟨(some 9), none, .bin .add (.t 8) (.c (.int .i64 1))⟩,
 ⟨(some 3), none, .mv (.t 9)⟩] false))))))
 (.seq
 (.region [
 ⟨(some 2), none, .mv (.c (.bool true))⟩] false)
 .ret)))
def r62 : List ERes := [.t 2]
theorem c62 : chkF Try.prog Try.f62 1 e62 r62 = true := by kernel_rfl
def e64 : EC :=
 (.seq
 (.region [
 ⟨(some 2), none, .box 85 (.t 0)⟩,
 ⟨(some 3), none, .box 70 (.t 1)⟩,
 ⟨(some 4), none, .mv (.c (.bool false))⟩] false)
 (.seq
 (.region [
 ⟨(some 5), none, .load true 3 (.t 2)⟩,
 ⟨(some 6), none, .pcall 38 [(.t 5)]⟩,
 ⟨(some 7), none, .mv (.t 6)⟩,
 ⟨(some 8), (some (7, true)), .load true 3 (.t 3)⟩,
 ⟨(some 9), (some (7, true)), .pcall 32 [(.t 8)]⟩,
 ⟨(some 10), none, .pick (.t 7) (.t 9) (.c (.bool false))⟩,
 ⟨(some 11), none, .mv (.t 10)⟩,
 ⟨(some 12), (some (11, true)), .faddr 0 (.t 2)⟩,
 ⟨(some 13), (some (11, true)), .load false 1 (.t 12)⟩,
 ⟨(some 14), (some (11, true)), .faddr 0 (.t 3)⟩,
 ⟨(some 15), (some (11, true)), .load false 1 (.t 14)⟩,
 ⟨(some 16), (some (11, true)), .bin .eql (.t 13) (.t 15)⟩,
 ⟨(some 17), none, .pick (.t 11) (.t 16) (.c (.bool false))⟩,
 ⟨(some 18), none, .mv (.t 17)⟩,
 ⟨(some 19), (some (18, true)), .load true 3 (.t 3)⟩,
 ⟨(some 20), (some (18, true)), .pcall 104 [(.t 19)]⟩,
 ⟨(some 21), (some (18, true)), .faddr 1 (.t 2)⟩,
 ⟨(some 22), (some (18, true)), .load false 1 (.t 21)⟩,
 ⟨(some 23), (some (18, true)), .bin .geq (.t 20) (.t 22)⟩,
 ⟨(some 24), none, .pick (.t 18) (.t 23) (.c (.bool false))⟩,
 ⟨(some 25), none, .mv (.t 24)⟩,
 ⟨(some 26), (some (25, true)), .load true 3 (.t 3)⟩,
 ⟨(some 27), (some (25, true)), .pcall 104 [(.t 26)]⟩,
 ⟨(some 28), (some (25, true)), .faddr 2 (.t 2)⟩,
 ⟨(some 29), (some (25, true)), .load false 1 (.t 28)⟩,
 ⟨(some 30), (some (25, true)), .bin .leq (.t 27) (.t 29)⟩,
 ⟨(some 31), none, .pick (.t 25) (.t 30) (.c (.bool false))⟩,
 ⟨(some 4), none, .mv (.t 31)⟩] true)
 .ret))
def r64 : List ERes := [.t 4]
theorem c64 : chkF Try.prog Try.f64 2 e64 r64 = true := by kernel_rfl
def e104 : EC :=
 (.seq
 (.region [
 ⟨(some 1), none, .box 70 (.t 0)⟩,
 ⟨(some 2), none, .mv (.c (.int .i64 0))⟩] false)
 (.seq
 (.seq
 (.region [
 ⟨(some 3), none, .faddr 0 (.t 1)⟩,
 ⟨(some 4), none, .load false 1 (.t 3)⟩] false)
 (.block 0
 (.seq
 (.region [
 ⟨(some 6), none, .bin .eql (.t 4) (.c (.int .i64 1))⟩,
 ⟨(some 5), none, .mv (.t 6)⟩] false)
 (.cond (.t 5)
 (.seq
 (.region [
 ⟨(some 7), none, .faddr 1 (.t 1)⟩,
 ⟨(some 8), none, .load false 1 (.t 7)⟩,
 ⟨(some 2), none, .mv (.t 8)⟩] false)
 .ret)
 (.seq
 (.region [
 ⟨(some 10), none, .bin .eql (.t 4) (.c (.int .i64 2))⟩,
 ⟨(some 9), none, .mv (.t 10)⟩] false)
 (.cond (.t 9)
 (.seq
 (.region [
 ⟨(some 11), none, .faddr 2 (.t 1)⟩,
 ⟨(some 12), none, .load false 1 (.t 11)⟩,
 ⟨(some 13), none, .lenS (.t 12)⟩,
 ⟨(some 2), none, .mv (.t 13)⟩] false)
 .ret)
 .skip))))))
 (.seq
 (.region [
 ⟨(some 2), none, .mv (.c (.int .i64 0))⟩] false)
 .ret)))
def r104 : List ERes := [.t 2]
theorem c104 : chkF Try.prog Try.f104 1 e104 r104 = true := by kernel_rfl
def e15 : EC :=
 (.seq
 (.region [
 ⟨(some 0), none, .mv (.c (.bool false))⟩] false)
 (.seq
 (.region [
 ⟨(some 12), none, .build [.int .i64 0, .int .i64 0, .int .i64 0] [(0, 1, (.c (.int .i64 1))), (2, 1, (.c (.int .i64 9)))]⟩,
 ⟨(some 1), none, .alloc 85 [.int .i64 0, .int .i64 0, .int .i64 0]⟩,
 ⟨none, none, .store 3 (.t 1) (.t 12)⟩] false)
 (.seq
 (.region [
 ⟨(some 13), none, .load true 3 (.t 1)⟩,
 ⟨(some 14), none, .pcall 29 [(.c (.int .i64 0))]⟩,
 ⟨(some 15), none, .build [.str [], .int .i64 0, .int .i64 0, .int .i64 0, .int .i64 0, .int .i64 0, .str []] [(0, 1, (.c (.str [110]))), (1, 3, (.t 13)), (4, 3, (.t 14))]⟩,
 ⟨(some 16), none, .bslice 87 7 1 [.str [], .int .i64 0, .int .i64 0, .int .i64 0, .int .i64 0, .int .i64 0, .str []] [(0, (.t 15))]⟩,
 ⟨(some 17), none, .build [.int .i64 0, .int .i64 0, .int .i64 0, .int .i64 0] [(0, 1, (.c (.int .i64 1))), (2, 1, (.c (.int .i64 (-1))))]⟩,
 ⟨(some 18), none, .bslice 117 4 1 [.int .i64 0, .int .i64 0, .int .i64 0, .int .i64 0] [(0, (.t 17))]⟩,
 ⟨(some 19), none, .build [.int .i64 0, .int .i64 0, .str []] [(0, 1, (.c (.int .i64 3)))]⟩,
 ⟨(some 20), none, .build [.int .i64 0, .int .i64 0, .str []] [(0, 1, (.c (.int .i64 24)))]⟩,
 ⟨(some 21), none, .bslice 88 3 2 [.int .i64 0, .int .i64 0, .str []] [(0, (.t 19)), (1, (.t 20))]⟩,
 ⟨(some 22), none, .build [.str [], .int .i64 0, .nilS, .nilS, .nilS, .nilS] [(0, 1, (.c (.str [115]))), (2, 1, (.t 16)), (4, 1, (.t 18)), (5, 1, (.t 21))]⟩,
 ⟨(some 2), none, .alloc 41 [.str [], .int .i64 0, .nilS, .nilS, .nilS, .nilS]⟩,
 ⟨none, none, .store 6 (.t 2) (.t 22)⟩] true)
 (.seq
 (.region [
 ⟨(some 23), none, .load true 6 (.t 2)⟩,
 ⟨(some 3), none, .alloc 41 [.str [], .int .i64 0, .nilS, .nilS, .nilS, .nilS]⟩,
 ⟨none, none, .store 6 (.t 3) (.t 23)⟩] false)
 (.seq
 (.region [
 ⟨(some 24), none, .build [.int .i64 0, .int .i64 0, .str []] [(0, 1, (.c (.int .i64 2))), (2, 1, (.c (.str [97])))]⟩,
 ⟨(some 25), none, .build [.int .i64 0, .int .i64 0, .str []] [(0, 1, (.c (.int .i64 11)))]⟩,
 ⟨(some 26), none, .build [.int .i64 0, .int .i64 0, .str []] [(0, 1, (.c (.int .i64 24)))]⟩,
 ⟨(some 27), none, .bslice 88 3 3 [.int .i64 0, .int .i64 0, .str []] [(0, (.t 24)), (1, (.t 25)), (2, (.t 26))]⟩,
 ⟨(some 28), none, .faddr 5 (.t 3)⟩,
 ⟨none, none, .store 1 (.t 28) (.t 27)⟩] false)
 (.seq
 (.region [
 ⟨(some 29), none, .load true 3 (.t 1)⟩,
 ⟨(some 30), none, .build [.str [], .int .i64 0, .int .i64 0, .int .i64 0] [(0, 1, (.c (.str [120]))), (1, 3, (.t 29))]⟩,
 ⟨(some 31), none, .bslice 106 4 1 [.str [], .int .i64 0, .int .i64 0, .int .i64 0] [(0, (.t 30))]⟩,
 ⟨(some 32), none, .build [.str [], .nilS, .int .i64 0, .nilS, .nilS] [(0, 1, (.c (.str [109]))), (1, 1, (.t 31))]⟩,
 ⟨(some 33), none, .bslice 103 5 1 [.str [], .nilS, .int .i64 0, .nilS, .nilS] [(0, (.t 32))]⟩,
 ⟨(some 4), none, .mv (.t 33)⟩] false)
 (.seq
 (.region [
 ⟨(some 35), none, .load true 6 (.t 2)⟩,
 ⟨(some 36), none, .mv (.t 4)⟩,
 ⟨(some 37), none, .call 21 [(.t 35), (.t 36)]⟩,
 ⟨(some 34), none, .mv (.t 37)⟩,
 ⟨(some 38), none, .extract 0 (.t 34)⟩,
 ⟨(some 39), none, .extract 1 (.t 34)⟩,
 ⟨(some 5), none, .mv (.t 38)⟩,
 ⟨(some 6), none, .mv (.t 39)⟩] false)
 (.seq
 (.region [
 ⟨(some 41), none, .load true 6 (.t 3)⟩,
 ⟨(some 42), none, .mv (.t 4)⟩,
 ⟨(some 43), none, .call 21 [(.t 41), (.t 42)]⟩,
 ⟨(some 40), none, .mv (.t 43)⟩,
 ⟨(some 44), none, .extract 0 (.t 40)⟩,
 ⟨(some 45), none, .extract 1 (.t 40)⟩,
 ⟨(some 7), none, .mv (.t 44)⟩,
 ⟨(some 8), none, .mv (.t 45)⟩] false)
 (.seq
 (.region [
 ⟨(some 47), none, .load true 6 (.t 2)⟩,
 ⟨(some 48), none, .bslice 3 1 1 [.int .i64 0] [(0, (.c (.int .i64 1)))]⟩,
 ⟨(some 49), none, .call 17 [(.t 47), (.c (.int .i64 0)), (.c (.nilS)), (.t 48)]⟩,
 ⟨(some 46), none, .mv (.t 49)⟩,
 ⟨(some 50), none, .extract 0 (.t 46)⟩,
 ⟨(some 51), none, .extract 1 (.t 46)⟩,
 ⟨(some 52), none, .extract 2 (.t 46)⟩,
 ⟨(some 9), none, .mv (.t 50)⟩,
 ⟨(some 10), none, .mv (.t 51)⟩,
 ⟨(some 11), none, .mv (.t 52)⟩] false)
 (.seq
 (.region [
 ⟨(some 53), none, .mv (.t 6)⟩,
 ⟨(some 54), none, .bin .eql (.t 53) (.c (.int .i64 0))⟩,
 ⟨(some 55), none, .mv (.t 54)⟩,
 ⟨(some 56), (some (55, true)), .mv (.t 7)⟩,
 ⟨(some 57), (some (55, true)), .bin .eql (.t 56) (.c (.int .i64 1))⟩,
 ⟨(some 58), none, .pick (.t 55) (.t 57) (.c (.bool false))⟩,
 ⟨(some 59), none, .mv (.t 58)⟩,
 ⟨(some 60), (some (59, true)), .mv (.t 8)⟩,
 ⟨(some 61), (some (59, true)), .bin .eql (.t 60) (.c (.int .i64 11))⟩,
 ⟨(some 62), none, .pick (.t 59) (.t 61) (.c (.bool false))⟩,
 ⟨(some 63), none, .mv (.t 62)⟩,
 ⟨(some 64), (some (63, true)), .mv (.t 11)⟩,
 ⟨(some 65), (some (63, true)), .bin .eql (.t 64) (.c (.int .i64 0))⟩,
 ⟨(some 66), none, .pick (.t 63) (.t 65) (.c (.bool false))⟩,
 ⟨(some 67), none, .mv (.t 66)⟩,
 ⟨(some 68), (some (67, true)), .mv (.t 9)⟩,
 ⟨(some 69), (some (67, true)), .bin .eql (.t 68) (.c (.int .i64 2))⟩,
 ⟨(some 70), none, .pick (.t 67) (.t 69) (.c (.bool false))⟩,
 ⟨(some 0), none, .mv (.t 70)⟩] false)
 .ret))))))))))
def r15 : List ERes := [.t 0]
theorem c15 : chkF Try.prog Try.f15 0 e15 r15 = true := by kernel_rfl
def e17 : EC :=
 (.seq
 (.region [
 ⟨(some 4), none, .box 41 (.t 0)⟩,
 ⟨(some 8), none, .mv (.c (.int .i64 0))⟩,
 ⟨(some 9), none, .mv (.c (.int .i64 0))⟩,
 ⟨(some 10), none, .mv (.c (.int .i64 0))⟩] false)
 (.seq
 (.seq
 (.region [
 ⟨(some 17), none, .load true 6 (.t 4)⟩,
 ⟨(some 18), none, .call 43 [(.t 17)]⟩,
 ⟨(some 19), none, .not (.t 18)⟩,
 ⟨(some 20), none, .mv (.t 19)⟩,
 ⟨(some 21), (some (20, false)), .mv (.t 1)⟩,
 ⟨(some 22), (some (20, false)), .bin .lss (.t 21) (.c (.int .i64 0))⟩,
 ⟨(some 23), none, .pick (.t 20) (.c (.bool true)) (.t 22)⟩,
 ⟨(some 24), none, .mv (.t 23)⟩,
 ⟨(some 25), (some (24, false)), .mv (.t 1)⟩,
 ⟨(some 26), (some (24, false)), .faddr 5 (.t 4)⟩,
 ⟨(some 27), (some (24, false)), .load false 1 (.t 26)⟩,
 ⟨(some 28), (some (24, false)), .len (.t 27)⟩,
 ⟨(some 29), (some (24, false)), .bin .geq (.t 25) (.t 28)⟩,
 ⟨(some 30), none, .pick (.t 24) (.c (.bool true)) (.t 29)⟩] false)
 (.cond (.t 30)
 (.seq
 (.region [
 ⟨(some 8), none, .mv (.c (.int .i64 0))⟩,
 ⟨(some 9), none, .mv (.c (.int .i64 0))⟩,
 ⟨(some 10), none, .mv (.c (.int .i64 1))⟩] false)
 .ret)
 .skip))
 (.seq
 (.region [
 ⟨(some 31), none, .load true 6 (.t 4)⟩,
 ⟨(some 32), none, .mv (.t 2)⟩,
 ⟨(some 33), none, .mv (.t 3)⟩,
 ⟨(some 34), none, .faddr 5 (.t 4)⟩,
 ⟨(some 35), none, .load false 1 (.t 34)⟩,
 ⟨(some 36), none, .len (.t 35)⟩,
 ⟨(some 37), none, .mkM 123 1 8 [.raw (.pointer none)] (.t 36)⟩,
 ⟨(some 38), none, .build [.str [], .int .i64 0, .nilS, .nilS, .nilS, .nilS, .nilS, .nilS, .nilS] [(0, 6, (.t 31)), (6, 1, (.t 32)), (7, 1, (.t 33)), (8, 1, (.t 37))]⟩,
 ⟨(some 39), none, .box 122 (.t 38)⟩,
 ⟨(some 11), none, .mv (.t 39)⟩] true)
 (.seq
 (.region [
 ⟨(some 40), none, .mv (.t 11)⟩,
 ⟨(some 41), none, .nilck (.t 40)⟩,
 ⟨(some 42), none, .faddr 8 (.t 41)⟩,
 ⟨(some 43), none, .load false 1 (.t 42)⟩,
 ⟨(some 44), none, .mv (.t 1)⟩,
 ⟨(some 45), none, .build [.nilS, .nilS] []⟩,
 ⟨(some 46), none, .box 125 (.t 45)⟩,
 ⟨(some 47), none, .iaddrM 1 (.t 43) (.t 44)⟩,
 ⟨none, none, .store 1 (.t 47) (.t 46)⟩] false)
 (.seq
 (.seq
 (.region [
 ⟨(some 48), none, .mv (.t 1)⟩,
 ⟨(some 12), none, .mv (.t 48)⟩] false)
 (.block 0
 (.loop
 (.seq
 (.seq
 (.region [
 ⟨(some 49), none, .mv (.t 12)⟩,
 ⟨(some 50), none, .faddr 5 (.t 4)⟩,
 ⟨(some 51), none, .load false 1 (.t 50)⟩,
 ⟨(some 52), none, .len (.t 51)⟩,
 ⟨(some 53), none, .bin .lss (.t 49) (.t 52)⟩] false)
 (.cond (.t 53)
 .skip
 (.exit 0)))
 (.seq
 (.block 1
 (.seq
 (.seq
 (.region [
 ⟨(some 56), none, .mv (.t 11)⟩,
 ⟨(some 57), none, .nilck (.t 56)⟩,
 ⟨(some 58), none, .faddr 8 (.t 57)⟩,
 ⟨(some 59), none, .load false 1 (.t 58)⟩,
 ⟨(some 60), none, .mv (.t 12)⟩,
 ⟨(some 61), none, .iaddrM 1 (.t 59) (.t 60)⟩,
 ⟨(some 62), none, .loadM false 1 (.t 61)⟩,
 ⟨(some 63), none, .pnil false (.t 62)⟩] false)
 (.cond (.t 63)
 (.exit 1)
 .skip))
 (.seq
 (.seq
 (.region [
 ⟨(some 64), none, .mv (.t 11)⟩,
 ⟨(some 65), none, .mv (.t 12)⟩,
 ⟨(some 66), none, .call 44 [(.t 64), (.t 65)]⟩,
 ⟨(some 13), none, .mv (.t 66)⟩] false)
 (.seq
 (.region [
 ⟨(some 67), none, .mv (.t 13)⟩,
 ⟨(some 68), none, .bin .neq (.t 67) (.c (.int .i64 0))⟩] false)
 (.cond (.t 68)
 (.seq
 (.region [
 ⟨(some 69), none, .mv (.t 12)⟩,
 ⟨(some 70), none, .mv (.t 13)⟩,
 ⟨(some 8), none, .mv (.c (.int .i64 0))⟩,
 ⟨(some 9), none, .mv (.t 69)⟩,
 ⟨(some 10), none, .mv (.t 70)⟩] false)
 .ret)
 .skip)))
 (.seq
 (.region [
 ⟨(some 14), none, .mv (.c (.int .i64 1))⟩] false)
 (.seq
 (.seq
 (.region [
 ⟨(some 71), none, .mv (.t 11)⟩,
 ⟨(some 72), none, .nilck (.t 71)⟩,
 ⟨(some 73), none, .faddr 8 (.t 72)⟩,
 ⟨(some 74), none, .load false 1 (.t 73)⟩,
 ⟨(some 75), none, .mv (.t 12)⟩,
 ⟨(some 76), none, .iaddrM 1 (.t 74) (.t 75)⟩,
 ⟨(some 77), none, .loadM false 1 (.t 76)⟩,
 ⟨(some 78), none, .nilck (.t 77)⟩,
 ⟨(some 79), none, .faddr 1 (.t 78)⟩,
 ⟨(some 80), none, .load false 1 (.t 79)⟩,
 ⟨(some 81), none, .len (.t 80)⟩,
 ⟨(some 82), none, .mv (.c (.int .i64 0))⟩] false)
 (.block 2
 (.loop
 (.seq
 (.region [
 ⟨(some 83), none, .bin .lss (.t 82) (.t 81)⟩] false)
 (.seq
 (.cond (.t 83)
 .skip
 (.exit 2))
 (.seq
 (.block 3
 (.seq
 (.region [
 ⟨(some 84), none, .iaddr 1 (.t 80) (.t 82)⟩,
 ⟨(some 85), none, .load false 1 (.t 84)⟩,
 ⟨(some 16), none, .mv (.t 85)⟩] false)
 (.region [
 ⟨(some 86), none, .mv (.t 14)⟩,
 ⟨(some 87), none, .faddr 5 (.t 4)⟩,
 ⟨(some 88), none, .load false 1 (.t 87)⟩,
 ⟨(some 89), none, .mv (.t 16)⟩,
 ⟨(some 90), none, .iaddr 3 (.t 88) (.t 89)⟩,
 ⟨(some 91), none, .faddr 1 (.t 90)⟩,
 ⟨(some 92), none, .load false 1 (.t 91)⟩,
 ⟨(some 93), none, .bin .mul (.t 86) (.t 92)⟩,
 ⟨(some 14), none, .mv (.t 93)⟩] false)))
 (.region [
 ⟨(some 94), none, .bin .add (.t 82) (.c (.int .i64 1))⟩,
 ⟨(some 82), none, .mv (.t 94)⟩] false)))))))
 (.region [
 ⟨(some 95), none, .mv (.t 8)⟩,
 ⟨(some 96), none, .mv (.t 14)⟩,
 ⟨(some 97), none, .bin .add (.t 95) (.t 96)⟩,
 ⟨(some 8), none, .mv (.t 97)⟩] false))))))
 (.region [
 ⟨(some 54), none, .mv (.t 12)⟩,
 ⟨(some 55), none, .bin .add (.t 54) (.c (.int .i64 1))⟩,
 ⟨(some 12), none, .mv (.t 55)⟩] false))))))
 (.seq
 (.region [
 ⟨(some 98), none, .mv (.t 8)⟩,
 ⟨(some 8), none, .mv (.t 98)⟩,
 ⟨(some 9), none, .mv (.c (.int .i64 0))⟩,
 ⟨(some 10), none, .mv (.c (.int .i64 0))⟩] false)
 .ret))))))
def r17 : List ERes := [.t 8, .t 9, .t 10]
theorem c17 : chkF Try.prog Try.f17 4 e17 r17 = true := by kernel_rfl
def e20 : EC :=
 (.seq
 (.region [
 ⟨(some 2), none, .mv (.c (.bool false))⟩] false)
 (.seq
 (.seq
 (.region [
 ⟨(some 3), none, .mv (.c (.int .i64 0))⟩] false)
 (.block 0
 (.loop
 (.seq
 (.seq
 (.region [
 ⟨(some 4), none, .mv (.t 3)⟩,
 ⟨(some 5), none, .mv (.t 0)⟩,
 ⟨(some 6), none, .len (.t 5)⟩,
 ⟨(some 7), none, .bin .lss (.t 4) (.t 6)⟩] false)
 (.cond (.t 7)
 .skip
 (.exit 0)))
 (.seq
 (.block 1
 (.seq
 (.region [
 ⟨(some 10), none, .mv (.t 0)⟩,
 ⟨(some 11), none, .mv (.t 3)⟩,
 ⟨(some 12), none, .iaddr 5 (.t 10) (.t 11)⟩,
 ⟨(some 13), none, .faddr 1 (.t 12)⟩,
 ⟨(some 14), none, .load false 1 (.t 13)⟩,
 ⟨(some 15), none, .len (.t 14)⟩,
 ⟨(some 16), none, .bin .gtr (.t 15) (.c (.int .i64 6))⟩] false)
 (.cond (.t 16)
 (.seq
 (.region [
 ⟨(some 2), none, .mv (.c (.bool false))⟩] false)
 .ret)
 .skip)))
 (.region [
 ⟨(some 8), none, .mv (.t 3)⟩,
 ⟨(some 9), none, .bin .add (.t 8) (.c (.int .i64 1))⟩,
 ⟨(some 3), none, .mv (.t 9)⟩] false))))))
 (.seq
 (.region [
 ⟨(some 17), none, .mv (.t 0)⟩,
 ⟨(some 18), none, .len (.t 17)⟩,
 ⟨(some 19), none, .bin .leq (.t 18) (.c (.int .i64 20))⟩,
 ⟨(some 2), none, .mv (.t 19)⟩] false)
 .ret)))
def r20 : List ERes := [.t 2]
theorem c20 : chkF Try.prog Try.f20 1 e20 r20 = true := by kernel_rfl
def e21 : EC :=
 (.seq
 (.region [
 ⟨(some 2), none, .box 41 (.t 0)⟩,
 ⟨(some 4), none, .mv (.c (.int .i64 0))⟩,
 ⟨(some 5), none, .mv (.c (.int .i64 0))⟩] false)
 (.seq
 (.seq
 (.region [
 ⟨(some 13), none, .load true 6 (.t 2)⟩,
 ⟨(some 14), none, .call 43 [(.t 13)]⟩,
 ⟨(some 15), none, .not (.t 14)⟩] false)
 (.cond (.t 15)
 (.seq
 (.region [
 ⟨(some 4), none, .mv (.c (.int .i64 0))⟩,
 ⟨(some 5), none, .mv (.c (.int .i64 1))⟩] false)
 .ret)
 .skip))
 (.seq
 (.seq
 (.region [
 ⟨(some 16), none, .load true 6 (.t 2)⟩,
 ⟨(some 17), none, .call 46 [(.t 16)]⟩,
 ⟨(some 18), none, .len (.t 17)⟩,
 ⟨(some 19), none, .mv (.c (.int .i64 0))⟩] false)
 (.block 0
 (.loop
 (.seq
 (.region [
 ⟨(some 20), none, .bin .lss (.t 19) (.t 18)⟩] false)
 (.seq
 (.cond (.t 20)
 .skip
 (.exit 0))
 (.seq
 (.block 1
 (.seq
 (.region [
 ⟨(some 21), none, .iaddr 3 (.t 17) (.t 19)⟩,
 ⟨(some 22), none, .load true 3 (.t 21)⟩,
 ⟨(some 7), none, .alloc 138 [.int .i64 0, .int .i64 0, .int .i64 0]⟩,
 ⟨none, none, .store 3 (.t 7) (.t 22)⟩] false)
 (.seq
 (.seq
 (.region [
 ⟨(some 23), none, .faddr 1 (.t 7)⟩,
 ⟨(some 24), none, .load false 1 (.t 23)⟩,
 ⟨(some 25), none, .mv (.t 1)⟩,
 ⟨(some 26), none, .len (.t 25)⟩,
 ⟨(some 27), none, .bin .geq (.t 24) (.t 26)⟩] false)
 (.cond (.t 27)
 (.seq
 (.region [
 ⟨(some 28), none, .faddr 0 (.t 7)⟩,
 ⟨(some 29), none, .load false 1 (.t 28)⟩,
 ⟨(some 4), none, .mv (.t 29)⟩,
 ⟨(some 5), none, .mv (.c (.int .i64 10))⟩] false)
 .ret)
 .skip))
 (.seq
 (.region [
 ⟨(some 8), none, .mv (.c (.nilS))⟩,
 ⟨(some 9), none, .mv (.c (.nilS))⟩] false)
 (.seq
 (.seq
 (.region [
 ⟨(some 30), none, .faddr 2 (.t 7)⟩,
 ⟨(some 31), none, .load false 1 (.t 30)⟩] false)
 (.block 2
 (.seq
 (.region [
 ⟨(some 33), none, .bin .eql (.t 31) (.c (.int .i64 0))⟩,
 ⟨(some 32), none, .mv (.t 33)⟩] false)
 (.cond (.t 32)
 (.region [
 ⟨(some 34), none, .mv (.t 1)⟩,
 ⟨(some 35), none, .faddr 1 (.t 7)⟩,
 ⟨(some 36), none, .load false 1 (.t 35)⟩,
 ⟨(some 37), none, .iaddr 5 (.t 34) (.t 36)⟩,
 ⟨(some 38), none, .load true 5 (.t 37)⟩,
 ⟨(some 39), none, .call 47 [(.t 38)]⟩,
 ⟨(some 8), none, .mv (.t 39)⟩] false)
 (.seq
 (.region [
 ⟨(some 41), none, .bin .eql (.t 31) (.c (.int .i64 1))⟩,
 ⟨(some 40), none, .mv (.t 41)⟩] false)
 (.cond (.t 40)
 (.region [
 ⟨(some 42), none, .bslice 3 1 1 [.int .i64 0] [(0, (.c (.int .i64 1)))]⟩,
 ⟨(some 9), none, .mv (.t 42)⟩] false)
 (.seq
 (.region [
 ⟨(some 44), none, .bin .eql (.t 31) (.c (.int .i64 2))⟩,
 ⟨(some 43), none, .mv (.t 44)⟩] false)
 (.cond (.t 43)
 (.region [
 ⟨(some 45), none, .mv (.t 1)⟩,
 ⟨(some 46), none, .faddr 1 (.t 7)⟩,
 ⟨(some 47), none, .load false 1 (.t 46)⟩,
 ⟨(some 48), none, .iaddr 5 (.t 45) (.t 47)⟩,
 ⟨(some 49), none, .load true 5 (.t 48)⟩,
 ⟨(some 50), none, .call 47 [(.t 49)]⟩,
 ⟨(some 9), none, .mv (.t 50)⟩] false)
 .skip))))))))
 (.seq
 (.region [
 ⟨(some 52), none, .load true 6 (.t 2)⟩,
 ⟨(some 53), none, .faddr 0 (.t 7)⟩,
 ⟨(some 54), none, .load false 1 (.t 53)⟩,
 ⟨(some 55), none, .mv (.t 8)⟩,
 ⟨(some 56), none, .mv (.t 9)⟩,
 ⟨(some 57), none, .call 17 [(.t 52), (.t 54), (.t 55), (.t 56)]⟩,
 ⟨(some 51), none, .mv (.t 57)⟩,
 ⟨(some 58), none, .extract 0 (.t 51)⟩,
 ⟨(some 59), none, .extract 1 (.t 51)⟩,
 ⟨(some 60), none, .extract 2 (.t 51)⟩,
 ⟨(some 10), none, .mv (.t 58)⟩,
 ⟨(some 11), none, .mv (.t 59)⟩,
 ⟨(some 12), none, .mv (.t 60)⟩] false)
 (.block 3
 (.seq
 (.region [
 ⟨(some 62), none, .mv (.t 12)⟩,
 ⟨(some 63), none, .bin .neq (.t 62) (.c (.int .i64 0))⟩,
 ⟨(some 61), none, .mv (.t 63)⟩] false)
 (.cond (.t 61)
 (.seq
 (.region [
 ⟨(some 64), none, .mv (.t 11)⟩,
 ⟨(some 65), none, .mv (.t 12)⟩,
 ⟨(some 4), none, .mv (.t 64)⟩,
 ⟨(some 5), none, .mv (.t 65)⟩] false)
 .ret)
 (.seq
 (.region [
 ⟨(some 67), none, .mv (.t 10)⟩,
 ⟨(some 68), none, .bin .gtr (.t 67) (.c (.int .i64 5000))⟩,
 ⟨(some 66), none, .mv (.t 68)⟩] false)
 (.cond (.t 66)
 (.seq
 (.region [
 ⟨(some 69), none, .faddr 0 (.t 7)⟩,
 ⟨(some 70), none, .load false 1 (.t 69)⟩,
 ⟨(some 4), none, .mv (.t 70)⟩,
 ⟨(some 5), none, .mv (.c (.int .i64 6))⟩] false)
 .ret)
 .skip)))))))))))
 (.region [
 ⟨(some 71), none, .bin .add (.t 19) (.c (.int .i64 1))⟩,
 ⟨(some 19), none, .mv (.t 71)⟩] false)))))))
 (.seq
 (.region [
 ⟨(some 4), none, .mv (.c (.int .i64 0))⟩,
 ⟨(some 5), none, .mv (.c (.int .i64 0))⟩] false)
 .ret))))
def r21 : List ERes := [.t 4, .t 5]
theorem c21 : chkF Try.prog Try.f21 2 e21 r21 = true := by kernel_rfl
def e23 : EC :=
 (.seq
 (.region [
 ⟨(some 2), none, .box 27 (.t 0)⟩,
 ⟨(some 4), none, .mv (.c (.nilS))⟩] false)
 (.seq
 (.region [
 ⟨(some 5), none, .mv (.c (.nilS))⟩] false)
 (.seq
 (.seq
 (.region [
 ⟨(some 6), none, .mv (.c (.int .i64 0))⟩] false)
 (.block 0
 (.loop
 (.seq
 (.seq
 (.region [
 ⟨(some 10), none, .mv (.t 6)⟩,
 ⟨(some 11), none, .faddr 3 (.t 2)⟩,
 ⟨(some 12), none, .load false 1 (.t 11)⟩,
 ⟨(some 13), none, .len (.t 12)⟩,
 ⟨(some 14), none, .bin .lss (.t 10) (.t 13)⟩] false)
 (.cond (.t 14)
 .skip
 (.exit 0)))
 (.seq
 (.block 1
 (.seq
 (.region [
 ⟨(some 17), none, .faddr 3 (.t 2)⟩,
 ⟨(some 18), none, .load false 1 (.t 17)⟩,
 ⟨(some 19), none, .mv (.t 6)⟩,
 ⟨(some 20), none, .iaddr 3 (.t 18) (.t 19)⟩,
 ⟨(some 21), none, .load true 3 (.t 20)⟩,
 ⟨(some 7), none, .alloc 129 [.int .i64 0, .int .i64 0, .int .i64 0]⟩,
 ⟨none, none, .store 3 (.t 7) (.t 21)⟩] false)
 (.region [
 ⟨(some 22), none, .mv (.t 5)⟩,
 ⟨(some 23), none, .faddr 2 (.t 7)⟩,
 ⟨(some 24), none, .load false 1 (.t 23)⟩,
 ⟨(some 25), none, .faddr 1 (.t 7)⟩,
 ⟨(some 26), none, .load false 1 (.t 25)⟩,
 ⟨(some 27), none, .mv (.t 1)⟩,
 ⟨(some 28), none, .faddr 1 (.t 7)⟩,
 ⟨(some 29), none, .load false 1 (.t 28)⟩,
 ⟨(some 30), none, .pcall 52 [(.t 27), (.t 29)]⟩,
 ⟨(some 31), none, .build [.int .i64 0, .int .i64 0, .nilS, .nilS] [(0, 1, (.t 24)), (1, 1, (.t 26)), (2, 1, (.t 30))]⟩,
 ⟨(some 32), none, .bslice 52 4 1 [.int .i64 0, .int .i64 0, .nilS, .nilS] [(0, (.t 31))]⟩,
 ⟨(some 33), none, .append 52 4 64 (.t 22) (.t 32)⟩,
 ⟨(some 5), none, .mv (.t 33)⟩] true)))
 (.region [
 ⟨(some 15), none, .mv (.t 6)⟩,
 ⟨(some 16), none, .bin .add (.t 15) (.c (.int .i64 1))⟩,
 ⟨(some 6), none, .mv (.t 16)⟩] false))))))
 (.seq
 (.seq
 (.region [
 ⟨(some 8), none, .mv (.c (.int .i64 0))⟩] false)
 (.block 2
 (.loop
 (.seq
 (.seq
 (.region [
 ⟨(some 34), none, .mv (.t 8)⟩,
 ⟨(some 35), none, .faddr 4 (.t 2)⟩,
 ⟨(some 36), none, .load false 1 (.t 35)⟩,
 ⟨(some 37), none, .len (.t 36)⟩,
 ⟨(some 38), none, .bin .lss (.t 34) (.t 37)⟩] false)
 (.cond (.t 38)
 .skip
 (.exit 2)))
 (.seq
 (.block 3
 (.seq
 (.region [
 ⟨(some 41), none, .faddr 4 (.t 2)⟩,
 ⟨(some 42), none, .load false 1 (.t 41)⟩,
 ⟨(some 43), none, .mv (.t 8)⟩,
 ⟨(some 44), none, .iaddr 4 (.t 42) (.t 43)⟩,
 ⟨(some 45), none, .load true 4 (.t 44)⟩,
 ⟨(some 9), none, .alloc 130 [.int .i64 0, .int .i64 0, .int .i64 0, .int .i64 0]⟩,
 ⟨none, none, .store 4 (.t 9) (.t 45)⟩] false)
 (.seq
 (.seq
 (.region [
 ⟨(some 46), none, .faddr 2 (.t 9)⟩,
 ⟨(some 47), none, .load false 1 (.t 46)⟩,
 ⟨(some 48), none, .bin .neq (.t 47) (.c (.int .i64 (-1)))⟩] false)
 (.cond (.t 48)
 (.region [
 ⟨(some 49), none, .mv (.t 5)⟩,
 ⟨(some 50), none, .faddr 2 (.t 9)⟩,
 ⟨(some 51), none, .load false 1 (.t 50)⟩,
 ⟨(some 52), none, .faddr 1 (.t 9)⟩,
 ⟨(some 53), none, .load false 1 (.t 52)⟩,
 ⟨(some 54), none, .bslice 3 1 1 [.int .i64 0] [(0, (.c (.int .i64 1)))]⟩,
 ⟨(some 55), none, .build [.int .i64 0, .int .i64 0, .nilS, .nilS] [(0, 1, (.t 51)), (1, 1, (.t 53)), (3, 1, (.t 54))]⟩,
 ⟨(some 56), none, .bslice 52 4 1 [.int .i64 0, .int .i64 0, .nilS, .nilS] [(0, (.t 55))]⟩,
 ⟨(some 57), none, .append 52 4 64 (.t 49) (.t 56)⟩,
 ⟨(some 5), none, .mv (.t 57)⟩] false)
 .skip))
 (.region [
 ⟨(some 58), none, .mv (.t 5)⟩,
 ⟨(some 59), none, .faddr 3 (.t 9)⟩,
 ⟨(some 60), none, .load false 1 (.t 59)⟩,
 ⟨(some 61), none, .faddr 1 (.t 9)⟩,
 ⟨(some 62), none, .load false 1 (.t 61)⟩,
 ⟨(some 63), none, .mv (.t 1)⟩,
 ⟨(some 64), none, .faddr 1 (.t 9)⟩,
 ⟨(some 65), none, .load false 1 (.t 64)⟩,
 ⟨(some 66), none, .pcall 52 [(.t 63), (.t 65)]⟩,
 ⟨(some 67), none, .build [.int .i64 0, .int .i64 0, .nilS, .nilS] [(0, 1, (.t 60)), (1, 1, (.t 62)), (3, 1, (.t 66))]⟩,
 ⟨(some 68), none, .bslice 52 4 1 [.int .i64 0, .int .i64 0, .nilS, .nilS] [(0, (.t 67))]⟩,
 ⟨(some 69), none, .append 52 4 64 (.t 58) (.t 68)⟩,
 ⟨(some 5), none, .mv (.t 69)⟩] true))))
 (.region [
 ⟨(some 39), none, .mv (.t 8)⟩,
 ⟨(some 40), none, .bin .add (.t 39) (.c (.int .i64 1))⟩,
 ⟨(some 8), none, .mv (.t 40)⟩] false))))))
 (.seq
 (.region [
 ⟨(some 70), none, .mv (.t 5)⟩,
 ⟨(some 4), none, .mv (.t 70)⟩] false)
 .ret)))))
def r23 : List ERes := [.t 4]
theorem c23 : chkF Try.prog Try.f23 2 e23 r23 = true := by kernel_rfl
def e44 : EC :=
 (.seq
 (.region [
 ⟨(some 4), none, .alloc 33 [.int .i64 0]⟩] false)
 (.seq
 (.dfr 8 73 [(.t 4)])
 (.seq
 (.region [
 ⟨(some 9), none, .mv (.t 0)⟩,
 ⟨(some 10), none, .nilck (.t 9)⟩,
 ⟨(some 11), none, .faddr 0 (.t 10)⟩,
 ⟨(some 12), none, .faddr 5 (.t 11)⟩,
 ⟨(some 13), none, .load false 1 (.t 12)⟩,
 ⟨(some 14), none, .mv (.t 1)⟩,
 ⟨(some 15), none, .iaddr 3 (.t 13) (.t 14)⟩,
 ⟨(some 16), none, .load true 3 (.t 15)⟩,
 ⟨(some 17), none, .mv (.t 0)⟩,
 ⟨(some 18), none, .nilck (.t 17)⟩,
 ⟨(some 19), none, .faddr 8 (.t 18)⟩,
 ⟨(some 20), none, .loadD 0 false 1 (.t 19)⟩,
 ⟨(some 21), none, .mv (.t 1)⟩,
 ⟨(some 22), none, .iaddrM 1 (.t 20) (.t 21)⟩,
 ⟨(some 23), none, .loadM false 1 (.t 22)⟩,
 ⟨(some 5), none, .alloc 88 [.int .i64 0, .int .i64 0, .str []]⟩,
 ⟨none, none, .storeD 5 [0] 3 (.t 5) (.t 16)⟩,
 ⟨(some 6), none, .mv (.t 23)⟩] true)
 (.seq
 (.region [
 ⟨(some 24), none, .mv (.t 6)⟩,
 ⟨(some 25), none, .nilck (.t 24)⟩,
 ⟨(some 26), none, .faddr 0 (.t 25)⟩,
 ⟨(some 27), none, .load false 1 (.t 26)⟩,
 ⟨(some 28), none, .pcallM 3 1 74 [(.t 27)]⟩,
 ⟨(some 29), none, .mv (.t 6)⟩,
 ⟨(some 30), none, .nilck (.t 29)⟩,
 ⟨(some 31), none, .faddr 1 (.t 30)⟩,
 ⟨(some 32), none, .load false 1 (.t 31)⟩,
 ⟨(some 33), none, .pcallM 3 1 74 [(.t 32)]⟩,
 ⟨(some 34), none, .build [.nilS, .nilS] [(0, 1, (.t 28)), (1, 1, (.t 33))]⟩,
 ⟨(some 35), none, .box 125 (.t 34)⟩,
 ⟨(some 7), none, .mv (.t 35)⟩] true)
 (.seq
 (.region [
 ⟨(some 36), none, .mv (.t 0)⟩,
 ⟨(some 37), none, .mv (.t 7)⟩,
 ⟨(some 38), none, .load true 3 (.t 5)⟩,
 ⟨(some 39), none, .call 75 [(.t 36), (.t 37), (.t 38)]⟩] false)
 (.seq
 (.region [
 ⟨(some 40), none, .mv (.t 0)⟩,
 ⟨(some 41), none, .mv (.t 7)⟩,
 ⟨(some 42), none, .mv (.t 1)⟩,
 ⟨(some 43), none, .load true 3 (.t 5)⟩,
 ⟨(some 44), none, .call 76 [(.t 40), (.t 41), (.t 42), (.t 43)]⟩] false)
 (.seq
 (.seq
 (.region [
 ⟨(some 45), none, .faddr 0 (.t 5)⟩,
 ⟨(some 46), none, .load false 1 (.t 45)⟩,
 ⟨(some 47), none, .bin .neq (.t 46) (.c (.int .i64 19))⟩,
 ⟨(some 48), none, .mv (.t 47)⟩,
 ⟨(some 49), (some (48, true)), .faddr 0 (.t 5)⟩,
 ⟨(some 50), (some (48, true)), .load false 1 (.t 49)⟩,
 ⟨(some 51), (some (48, true)), .bin .neq (.t 50) (.c (.int .i64 24))⟩,
 ⟨(some 52), none, .pick (.t 48) (.t 51) (.c (.bool false))⟩] false)
 (.cond (.t 52)
 (.region [
 ⟨(some 53), none, .mv (.t 0)⟩,
 ⟨(some 54), none, .mv (.t 1)⟩,
 ⟨(some 55), none, .bin .add (.t 54) (.c (.int .i64 1))⟩,
 ⟨(some 56), none, .mv (.t 7)⟩,
 ⟨(some 57), none, .call 77 [(.t 53), (.t 55), (.t 56)]⟩] false)
 .skip))
 (.seq
 (.seq
 (.region [
 ⟨(some 58), none, .faddr 0 (.t 5)⟩,
 ⟨(some 59), none, .load false 1 (.t 58)⟩,
 ⟨(some 60), none, .bin .eql (.t 59) (.c (.int .i64 19))⟩,
 ⟨(some 61), none, .mv (.t 60)⟩,
 ⟨(some 62), (some (61, false)), .faddr 0 (.t 5)⟩,
 ⟨(some 63), (some (61, false)), .load false 1 (.t 62)⟩,
 ⟨(some 64), (some (61, false)), .bin .eql (.t 63) (.c (.int .i64 20))⟩,
 ⟨(some 65), none, .pick (.t 61) (.c (.bool true)) (.t 64)⟩,
 ⟨(some 66), none, .mv (.t 65)⟩,
 ⟨(some 67), (some (66, false)), .faddr 0 (.t 5)⟩,
 ⟨(some 68), (some (66, false)), .load false 1 (.t 67)⟩,
 ⟨(some 69), (some (66, false)), .bin .eql (.t 68) (.c (.int .i64 22))⟩,
 ⟨(some 70), none, .pick (.t 66) (.c (.bool true)) (.t 69)⟩] false)
 (.cond (.t 70)
 (.region [
 ⟨(some 71), none, .mv (.t 0)⟩,
 ⟨(some 72), none, .faddr 1 (.t 5)⟩,
 ⟨(some 73), none, .load false 1 (.t 72)⟩,
 ⟨(some 74), none, .mv (.t 7)⟩,
 ⟨(some 75), none, .call 77 [(.t 71), (.t 73), (.t 74)]⟩] false)
 .skip))
 (.seq
 (.region [
 ⟨none, none, .store 1 (.t 4) (.c (.int .i64 0))⟩] false)
 .ret)))))))))
def r44 : List ERes := [.cell false 1 4]
theorem c44 : chkF Try.prog Try.f44 2 e44 r44 = true := by kernel_rfl
def e46 : EC :=
 (.seq
 (.region [
 ⟨(some 1), none, .box 41 (.t 0)⟩,
 ⟨(some 2), none, .mv (.c (.nilS))⟩] false)
 (.seq
 (.region [
 ⟨(some 3), none, .mv (.c (.nilS))⟩] false)
 (.seq
 (.seq
 (.region [
 ⟨(some 8), none, .faddr 3 (.t 1)⟩,
 ⟨(some 9), none, .load false 1 (.t 8)⟩,
 ⟨(some 10), none, .len (.t 9)⟩,
 ⟨(some 11), none, .mv (.c (.int .i64 0))⟩] false)
 (.block 0
 (.loop
 (.seq
 (.region [
 ⟨(some 12), none, .bin .lss (.t 11) (.t 10)⟩] false)
 (.seq
 (.cond (.t 12)
 .skip
 (.exit 0))
 (.seq
 (.block 1
 (.seq
 (.region [
 ⟨(some 13), none, .iaddr 3 (.t 9) (.t 11)⟩,
 ⟨(some 14), none, .load true 3 (.t 13)⟩,
 ⟨(some 5), none, .alloc 128 [.int .i64 0, .int .i64 0, .int .i64 0]⟩,
 ⟨none, none, .store 3 (.t 5) (.t 14)⟩] false)
 (.region [
 ⟨(some 15), none, .mv (.t 3)⟩,
 ⟨(some 16), none, .faddr 2 (.t 5)⟩,
 ⟨(some 17), none, .load false 1 (.t 16)⟩,
 ⟨(some 18), none, .faddr 1 (.t 5)⟩,
 ⟨(some 19), none, .load false 1 (.t 18)⟩,
 ⟨(some 20), none, .build [.int .i64 0, .int .i64 0, .int .i64 0] [(0, 1, (.t 17)), (1, 1, (.t 19)), (2, 1, (.c (.int .i64 0)))]⟩,
 ⟨(some 21), none, .bslice 138 3 1 [.int .i64 0, .int .i64 0, .int .i64 0] [(0, (.t 20))]⟩,
 ⟨(some 22), none, .append 138 3 24 (.t 15) (.t 21)⟩,
 ⟨(some 3), none, .mv (.t 22)⟩] false)))
 (.region [
 ⟨(some 23), none, .bin .add (.t 11) (.c (.int .i64 1))⟩,
 ⟨(some 11), none, .mv (.t 23)⟩] false)))))))
 (.seq
 (.seq
 (.region [
 ⟨(some 24), none, .faddr 4 (.t 1)⟩,
 ⟨(some 25), none, .load false 1 (.t 24)⟩,
 ⟨(some 26), none, .len (.t 25)⟩,
 ⟨(some 27), none, .mv (.c (.int .i64 0))⟩] false)
 (.block 2
 (.loop
 (.seq
 (.region [
 ⟨(some 28), none, .bin .lss (.t 27) (.t 26)⟩] false)
 (.seq
 (.cond (.t 28)
 .skip
 (.exit 2))
 (.seq
 (.block 3
 (.seq
 (.region [
 ⟨(some 29), none, .iaddr 4 (.t 25) (.t 27)⟩,
 ⟨(some 30), none, .load true 4 (.t 29)⟩,
 ⟨(some 7), none, .alloc 117 [.int .i64 0, .int .i64 0, .int .i64 0, .int .i64 0]⟩,
 ⟨none, none, .store 4 (.t 7) (.t 30)⟩] false)
 (.seq
 (.seq
 (.region [
 ⟨(some 31), none, .faddr 2 (.t 7)⟩,
 ⟨(some 32), none, .load false 1 (.t 31)⟩,
 ⟨(some 33), none, .bin .neq (.t 32) (.c (.int .i64 (-1)))⟩] false)
 (.cond (.t 33)
 (.region [
 ⟨(some 34), none, .mv (.t 3)⟩,
 ⟨(some 35), none, .faddr 2 (.t 7)⟩,
 ⟨(some 36), none, .load false 1 (.t 35)⟩,
 ⟨(some 37), none, .faddr 1 (.t 7)⟩,
 ⟨(some 38), none, .load false 1 (.t 37)⟩,
 ⟨(some 39), none, .build [.int .i64 0, .int .i64 0, .int .i64 0] [(0, 1, (.t 36)), (1, 1, (.t 38)), (2, 1, (.c (.int .i64 1)))]⟩,
 ⟨(some 40), none, .bslice 138 3 1 [.int .i64 0, .int .i64 0, .int .i64 0] [(0, (.t 39))]⟩,
 ⟨(some 41), none, .append 138 3 24 (.t 34) (.t 40)⟩,
 ⟨(some 3), none, .mv (.t 41)⟩] false)
 .skip))
 (.region [
 ⟨(some 42), none, .mv (.t 3)⟩,
 ⟨(some 43), none, .faddr 3 (.t 7)⟩,
 ⟨(some 44), none, .load false 1 (.t 43)⟩,
 ⟨(some 45), none, .faddr 1 (.t 7)⟩,
 ⟨(some 46), none, .load false 1 (.t 45)⟩,
 ⟨(some 47), none, .build [.int .i64 0, .int .i64 0, .int .i64 0] [(0, 1, (.t 44)), (1, 1, (.t 46)), (2, 1, (.c (.int .i64 2)))]⟩,
 ⟨(some 48), none, .bslice 138 3 1 [.int .i64 0, .int .i64 0, .int .i64 0] [(0, (.t 47))]⟩,
 ⟨(some 49), none, .append 138 3 24 (.t 42) (.t 48)⟩,
 ⟨(some 3), none, .mv (.t 49)⟩] false))))
 (.region [
 ⟨(some 50), none, .bin .add (.t 27) (.c (.int .i64 1))⟩,
 ⟨(some 27), none, .mv (.t 50)⟩] false)))))))
 (.seq
 (.region [
 ⟨(some 51), none, .mv (.t 3)⟩,
 ⟨(some 2), none, .mv (.t 51)⟩] false)
 .ret)))))
def r46 : List ERes := [.t 2]
theorem c46 : chkF Try.prog Try.f46 1 e46 r46 = true := by kernel_rfl
def e47 : EC :=
 (.seq
 (.region [
 ⟨(some 1), none, .box 103 (.t 0)⟩,
 ⟨(some 2), none, .mv (.c (.nilS))⟩] false)
 (.seq
 (.region [
 ⟨(some 3), none, .mv (.c (.nilS))⟩] false)
 (.seq
 (.seq
 (.region [
 ⟨(some 6), none, .faddr 1 (.t 1)⟩,
 ⟨(some 7), none, .load false 1 (.t 6)⟩,
 ⟨(some 8), none, .len (.t 7)⟩,
 ⟨(some 9), none, .mv (.c (.int .i64 0))⟩] false)
 (.block 0
 (.loop
 (.seq
 (.region [
 ⟨(some 10), none, .bin .lss (.t 9) (.t 8)⟩] false)
 (.seq
 (.cond (.t 10)
 .skip
 (.exit 0))
 (.seq
 (.block 1
 (.seq
 (.region [
 ⟨(some 11), none, .iaddr 4 (.t 7) (.t 9)⟩,
 ⟨(some 12), none, .load true 4 (.t 11)⟩,
 ⟨(some 5), none, .alloc 106 [.str [], .int .i64 0, .int .i64 0, .int .i64 0]⟩,
 ⟨none, none, .store 4 (.t 5) (.t 12)⟩] false)
 (.region [
 ⟨(some 13), none, .mv (.t 3)⟩,
 ⟨(some 14), none, .faddr 1 (.t 5)⟩,
 ⟨(some 15), none, .faddr 0 (.t 14)⟩,
 ⟨(some 16), none, .load false 1 (.t 15)⟩,
 ⟨(some 17), none, .bslice 3 1 1 [.int .i64 0] [(0, (.t 16))]⟩,
 ⟨(some 18), none, .append 3 1 8 (.t 13) (.t 17)⟩,
 ⟨(some 3), none, .mv (.t 18)⟩] false)))
 (.region [
 ⟨(some 19), none, .bin .add (.t 9) (.c (.int .i64 1))⟩,
 ⟨(some 9), none, .mv (.t 19)⟩] false)))))))
 (.seq
 (.region [
 ⟨(some 20), none, .mv (.t 3)⟩,
 ⟨(some 2), none, .mv (.t 20)⟩] false)
 .ret))))
def r47 : List ERes := [.t 2]
theorem c47 : chkF Try.prog Try.f47 1 e47 r47 = true := by kernel_rfl
def e52 : EC :=
 (.seq
 (.region [
 ⟨(some 4), none, .mv (.c (.nilS))⟩] false)
 (.seq
 (.region [
 ⟨(some 5), none, .mv (.c (.nilS))⟩] false)
 (.seq
 (.seq
 (.region [
 ⟨(some 6), none, .mv (.c (.int .i64 0))⟩] false)
 (.block 0
 (.loop
 (.seq
 (.seq
 (.region [
 ⟨(some 7), none, .mv (.t 1)⟩,
 ⟨(some 8), none, .mv (.t 0)⟩,
 ⟨(some 9), none, .len (.t 8)⟩,
 ⟨(some 10), none, .bin .lss (.t 7) (.t 9)⟩,
 ⟨(some 11), none, .mv (.t 10)⟩,
 ⟨(some 12), (some (11, true)), .mv (.t 6)⟩,
 ⟨(some 13), (some (11, true)), .mv (.t 0)⟩,
 ⟨(some 14), (some (11, true)), .mv (.t 1)⟩,
 ⟨(some 15), (some (11, true)), .iaddr 5 (.t 13) (.t 14)⟩,
 ⟨(some 16), (some (11, true)), .faddr 1 (.t 15)⟩,
 ⟨(some 17), (some (11, true)), .load false 1 (.t 16)⟩,
 ⟨(some 18), (some (11, true)), .len (.t 17)⟩,
 ⟨(some 19), (some (11, true)), .bin .lss (.t 12) (.t 18)⟩,
 ⟨(some 20), none, .pick (.t 11) (.t 19) (.c (.bool false))⟩] false)
 (.cond (.t 20)
 .skip
 (.exit 0)))
 (.seq
 (.block 1
 (.region [
 ⟨(some 23), none, .mv (.t 5)⟩,
 ⟨(some 24), none, .mv (.t 0)⟩,
 ⟨(some 25), none, .mv (.t 1)⟩,
 ⟨(some 26), none, .iaddr 5 (.t 24) (.t 25)⟩,
 ⟨(some 27), none, .faddr 1 (.t 26)⟩,
 ⟨(some 28), none, .load false 1 (.t 27)⟩,
 ⟨(some 29), none, .mv (.t 6)⟩,
 ⟨(some 30), none, .iaddr 4 (.t 28) (.t 29)⟩,
 ⟨(some 31), none, .faddr 1 (.t 30)⟩,
 ⟨(some 32), none, .faddr 0 (.t 31)⟩,
 ⟨(some 33), none, .load false 1 (.t 32)⟩,
 ⟨(some 34), none, .bslice 3 1 1 [.int .i64 0] [(0, (.t 33))]⟩,
 ⟨(some 35), none, .append 3 1 8 (.t 23) (.t 34)⟩,
 ⟨(some 5), none, .mv (.t 35)⟩] false))
 (.region [
 ⟨(some 21), none, .mv (.t 6)⟩,
 ⟨(some 22), none, .bin .add (.t 21) (.c (.int .i64 1))⟩,
 ⟨(some 6), none, .mv (.t 22)⟩] false))))))
 (.seq
 (.region [
 ⟨(some 36), none, .mv (.t 5)⟩,
 ⟨(some 4), none, .mv (.t 36)⟩] false)
 .ret))))
def r52 : List ERes := [.t 4]
theorem c52 : chkF Try.prog Try.f52 2 e52 r52 = true := by kernel_rfl
def e74 : EC :=
 (.seq
 (.region [
 ⟨(some 2), none, .mv (.c (.nilS))⟩] false)
 (.seq
 (.seq
 (.region [
 ⟨(some 3), none, .mv (.t 0)⟩,
 ⟨(some 4), none, .isnil false (.t 3)⟩] false)
 (.cond (.t 4)
 (.seq
 (.region [
 ⟨(some 2), none, .mv (.c (.nilS))⟩] false)
 .ret)
 .skip))
 (.seq
 (.region [
 ⟨(some 5), none, .bsliceM 3 1 0 [.int .i64 0] []⟩,
 ⟨(some 6), none, .mv (.t 0)⟩,
 ⟨(some 7), none, .appendM 3 1 8 (.t 5) (.t 6)⟩,
 ⟨(some 2), none, .mv (.t 7)⟩] false)
 .ret)))
def r74 : List ERes := [.t 2]
theorem c74 : chkF Try.prog Try.f74 1 e74 r74 = true := by kernel_rfl
def e75 : EC :=
 (.seq
 (.region [
 ⟨(some 5), none, .box 88 (.t 2)⟩] false)
 (.seq
 (.region [
 ⟨(some 7), none, .faddr 0 (.t 5)⟩,
 ⟨(some 8), none, .load false 1 (.t 7)⟩] false)
 (.block 0
 (.seq
 (.region [
 ⟨(some 10), none, .bin .eql (.t 8) (.c (.int .i64 1))⟩,
 ⟨(some 9), none, .mv (.t 10)⟩] false)
 (.cond (.t 9)
 (.region [
 ⟨(some 11), none, .mv (.t 1)⟩,
 ⟨(some 12), none, .call 114 [(.t 11), (.c (.int .i64 1))]⟩] false)
 (.seq
 (.region [
 ⟨(some 14), none, .bin .eql (.t 8) (.c (.int .i64 2))⟩,
 ⟨(some 13), none, .mv (.t 14)⟩] false)
 (.cond (.t 13)
 (.region [
 ⟨(some 15), none, .mv (.t 1)⟩,
 ⟨(some 16), none, .call 114 [(.t 15), (.c (.int .i64 2))]⟩] false)
 (.seq
 (.region [
 ⟨(some 18), none, .bin .eql (.t 8) (.c (.int .i64 3))⟩,
 ⟨(some 17), none, .mv (.t 18)⟩] false)
 (.cond (.t 17)
 (.region [
 ⟨(some 19), none, .mv (.t 1)⟩,
 ⟨(some 20), none, .mv (.t 0)⟩,
 ⟨(some 21), none, .nilck (.t 20)⟩,
 ⟨(some 22), none, .faddr 0 (.t 21)⟩,
 ⟨(some 23), none, .faddr 2 (.t 22)⟩,
 ⟨(some 24), none, .load false 1 (.t 23)⟩,
 ⟨(some 25), none, .faddr 1 (.t 5)⟩,
 ⟨(some 26), none, .load false 1 (.t 25)⟩,
 ⟨(some 27), none, .iaddr 7 (.t 24) (.t 26)⟩,
 ⟨(some 28), none, .faddr 1 (.t 27)⟩,
 ⟨(some 29), none, .faddr 0 (.t 28)⟩,
 ⟨(some 30), none, .load false 1 (.t 29)⟩,
 ⟨(some 31), none, .call 114 [(.t 19), (.t 30)]⟩] true)
 (.seq
 (.region [
 ⟨(some 33), none, .bin .eql (.t 8) (.c (.int .i64 4))⟩,
 ⟨(some 32), none, .mv (.t 33)⟩] false)
 (.cond (.t 32)
 (.seq
 (.region [
 ⟨(some 34), none, .faddr 1 (.t 5)⟩,
 ⟨(some 35), none, .load false 1 (.t 34)⟩,
 ⟨(some 36), none, .mv (.t 0)⟩,
 ⟨(some 37), none, .nilck (.t 36)⟩,
 ⟨(some 38), none, .faddr 6 (.t 37)⟩,
 ⟨(some 39), none, .load false 1 (.t 38)⟩,
 ⟨(some 40), none, .len (.t 39)⟩,
 ⟨(some 41), none, .bin .lss (.t 35) (.t 40)⟩,
 ⟨(some 42), none, .call 115 [(.t 41), (.c (.int .i64 11))]⟩] true)
 (.region [
 ⟨(some 43), none, .mv (.t 1)⟩,
 ⟨(some 44), none, .mv (.t 0)⟩,
 ⟨(some 45), none, .nilck (.t 44)⟩,
 ⟨(some 46), none, .faddr 6 (.t 45)⟩,
 ⟨(some 47), none, .load false 1 (.t 46)⟩,
 ⟨(some 48), none, .faddr 1 (.t 5)⟩,
 ⟨(some 49), none, .load false 1 (.t 48)⟩,
 ⟨(some 50), none, .iaddr 1 (.t 47) (.t 49)⟩,
 ⟨(some 51), none, .load false 1 (.t 50)⟩,
 ⟨(some 52), none, .call 114 [(.t 43), (.t 51)]⟩] true))
 (.seq
 (.region [
 ⟨(some 54), none, .bin .eql (.t 8) (.c (.int .i64 5))⟩,
 ⟨(some 53), none, .mv (.t 54)⟩] false)
 (.cond (.t 53)
 (.region [
 ⟨(some 55), none, .mv (.t 1)⟩,
 ⟨(some 56), none, .mv (.t 0)⟩,
 ⟨(some 57), none, .nilck (.t 56)⟩,
 ⟨(some 58), none, .faddr 0 (.t 57)⟩,
 ⟨(some 59), none, .faddr 2 (.t 58)⟩,
 ⟨(some 60), none, .load false 1 (.t 59)⟩,
 ⟨(some 61), none, .faddr 1 (.t 5)⟩,
 ⟨(some 62), none, .load false 1 (.t 61)⟩,
 ⟨(some 63), none, .iaddr 7 (.t 60) (.t 62)⟩,
 ⟨(some 64), none, .faddr 1 (.t 63)⟩,
 ⟨(some 65), none, .faddr 0 (.t 64)⟩,
 ⟨(some 66), none, .load false 1 (.t 65)⟩,
 ⟨(some 67), none, .bslice 3 1 1 [.int .i64 0] [(0, (.t 66))]⟩,
 ⟨(some 68), none, .call 116 [(.t 55), (.t 67)]⟩] true)
 (.seq
 (.seq
 (.region [
 ⟨(some 70), none, .bin .eql (.t 8) (.c (.int .i64 6))⟩,
 ⟨(some 69), none, .mv (.t 70)⟩] false)
 (.cond (.t 69)
 .skip
 (.seq
 (.region [
 ⟨(some 71), none, .bin .eql (.t 8) (.c (.int .i64 7))⟩,
 ⟨(some 69), none, .mv (.t 71)⟩] false)
 (.cond (.t 69)
 .skip
 (.seq
 (.region [
 ⟨(some 72), none, .bin .eql (.t 8) (.c (.int .i64 8))⟩,
 ⟨(some 69), none, .mv (.t 72)⟩] false)
 (.cond (.t 69)
 .skip
 (.seq
 (.region [
 ⟨(some 73), none, .bin .eql (.t 8) (.c (.int .i64 9))⟩,
 ⟨(some 69), none, .mv (.t 73)⟩] false)
 (.cond (.t 69)
 .skip
 (.seq
 (.region [
 ⟨(some 74), none, .bin .eql (.t 8) (.c (.int .i64 10))⟩,
 ⟨(some 69), none, .mv (.t 74)⟩] false)
 (.cond (.t 69)
 .skip
 (.seq
 (.region [
 ⟨(some 75), none, .bin .eql (.t 8) (.c (.int .i64 13))⟩,
 ⟨(some 69), none, .mv (.t 75)⟩] false)
 (.cond (.t 69)
 .skip
 (.seq
 (.region [
 ⟨(some 76), none, .bin .eql (.t 8) (.c (.int .i64 15))⟩,
 ⟨(some 69), none, .mv (.t 76)⟩] false)
 (.cond (.t 69)
 .skip
 (.region [
 ⟨(some 77), none, .bin .eql (.t 8) (.c (.int .i64 16))⟩,
 ⟨(some 69), none, .mv (.t 77)⟩] false)))))))))))))))
 (.cond (.t 69)
 (.seq
 (.region [
 ⟨(some 78), none, .mv (.t 1)⟩,
 ⟨(some 79), none, .bslice 3 1 2 [.int .i64 0] [(0, (.c (.int .i64 1))), (1, (.c (.int .i64 1)))]⟩,
 ⟨(some 80), none, .call 116 [(.t 78), (.t 79)]⟩] false)
 (.region [
 ⟨(some 81), none, .mv (.t 1)⟩,
 ⟨(some 82), none, .call 114 [(.t 81), (.c (.int .i64 1))]⟩] false))
 (.seq
 (.seq
 (.region [
 ⟨(some 84), none, .bin .eql (.t 8) (.c (.int .i64 11))⟩,
 ⟨(some 83), none, .mv (.t 84)⟩] false)
 (.cond (.t 83)
 .skip
 (.region [
 ⟨(some 85), none, .bin .eql (.t 8) (.c (.int .i64 14))⟩,
 ⟨(some 83), none, .mv (.t 85)⟩] false)))
 (.cond (.t 83)
 (.seq
 (.region [
 ⟨(some 86), none, .mv (.t 1)⟩,
 ⟨(some 87), none, .bslice 3 1 1 [.int .i64 0] [(0, (.c (.int .i64 1)))]⟩,
 ⟨(some 88), none, .call 116 [(.t 86), (.t 87)]⟩] false)
 (.region [
 ⟨(some 89), none, .mv (.t 1)⟩,
 ⟨(some 90), none, .call 114 [(.t 89), (.c (.int .i64 1))]⟩] false))
 (.seq
 (.region [
 ⟨(some 92), none, .bin .eql (.t 8) (.c (.int .i64 12))⟩,
 ⟨(some 91), none, .mv (.t 92)⟩] false)
 (.cond (.t 91)
 (.seq
 (.region [
 ⟨(some 93), none, .mv (.t 1)⟩,
 ⟨(some 94), none, .nilck (.t 93)⟩,
 ⟨(some 95), none, .faddr 0 (.t 94)⟩,
 ⟨(some 96), none, .load false 1 (.t 95)⟩,
 ⟨(some 97), none, .lenM (.t 96)⟩,
 ⟨(some 98), none, .bin .gtr (.t 97) (.c (.int .i64 0))⟩,
 ⟨(some 99), none, .call 115 [(.t 98), (.c (.int .i64 11))]⟩] false)
 (.seq
 (.region [
 ⟨(some 100), none, .mv (.t 1)⟩,
 ⟨(some 101), none, .nilck (.t 100)⟩,
 ⟨(some 102), none, .faddr 0 (.t 101)⟩,
 ⟨(some 103), none, .load false 1 (.t 102)⟩,
 ⟨(some 104), none, .mv (.t 1)⟩,
 ⟨(some 105), none, .nilck (.t 104)⟩,
 ⟨(some 106), none, .faddr 0 (.t 105)⟩,
 ⟨(some 107), none, .load false 1 (.t 106)⟩,
 ⟨(some 108), none, .lenM (.t 107)⟩,
 ⟨(some 109), none, .bin .sub (.t 108) (.c (.int .i64 1))⟩,
 ⟨(some 110), none, .iaddrM 1 (.t 103) (.t 109)⟩,
 ⟨(some 111), none, .loadM false 1 (.t 110)⟩,
 ⟨(some 6), none, .mv (.t 111)⟩] true)
 (.seq
 (.region [
 ⟨(some 112), none, .mv (.t 6)⟩,
 ⟨(some 113), none, .bin .eql (.t 112) (.c (.int .i64 1))⟩,
 ⟨(some 114), none, .mv (.t 113)⟩,
 ⟨(some 115), (some (114, false)), .mv (.t 6)⟩,
 ⟨(some 116), (some (114, false)), .bin .eql (.t 115) (.c (.int .i64 2))⟩,
 ⟨(some 117), none, .pick (.t 114) (.c (.bool true)) (.t 116)⟩,
 ⟨(some 118), none, .call 115 [(.t 117), (.c (.int .i64 11))]⟩] false)
 (.seq
 (.region [
 ⟨(some 119), none, .mv (.t 1)⟩,
 ⟨(some 120), none, .mv (.t 6)⟩,
 ⟨(some 121), none, .mv (.t 6)⟩,
 ⟨(some 122), none, .bslice 3 1 2 [.int .i64 0] [(0, (.t 120)), (1, (.t 121))]⟩,
 ⟨(some 123), none, .call 116 [(.t 119), (.t 122)]⟩] false)
 (.region [
 ⟨(some 124), none, .mv (.t 1)⟩,
 ⟨(some 125), none, .call 114 [(.t 124), (.c (.int .i64 1))]⟩] false)))))
 (.seq
 (.region [
 ⟨(some 127), none, .bin .eql (.t 8) (.c (.int .i64 17))⟩,
 ⟨(some 126), none, .mv (.t 127)⟩] false)
 (.cond (.t 126)
 (.seq
 (.region [
 ⟨(some 128), none, .mv (.t 1)⟩,
 ⟨(some 129), none, .bslice 3 1 2 [.int .i64 0] [(0, (.c (.int .i64 2))), (1, (.c (.int .i64 2)))]⟩,
 ⟨(some 130), none, .call 116 [(.t 128), (.t 129)]⟩] false)
 (.region [
 ⟨(some 131), none, .mv (.t 1)⟩,
 ⟨(some 132), none, .call 114 [(.t 131), (.c (.int .i64 2))]⟩] false))
 (.seq
 (.region [
 ⟨(some 134), none, .bin .eql (.t 8) (.c (.int .i64 18))⟩,
 ⟨(some 133), none, .mv (.t 134)⟩] false)
 (.cond (.t 133)
 (.seq
 (.region [
 ⟨(some 135), none, .mv (.t 1)⟩,
 ⟨(some 136), none, .bslice 3 1 1 [.int .i64 0] [(0, (.c (.int .i64 2)))]⟩,
 ⟨(some 137), none, .call 116 [(.t 135), (.t 136)]⟩] false)
 (.region [
 ⟨(some 138), none, .mv (.t 1)⟩,
 ⟨(some 139), none, .call 114 [(.t 138), (.c (.int .i64 1))]⟩] false))
 (.seq
 (.region [
 ⟨(some 141), none, .bin .eql (.t 8) (.c (.int .i64 20))⟩,
 ⟨(some 140), none, .mv (.t 141)⟩] false)
 (.cond (.t 140)
 (.region [
 ⟨(some 142), none, .mv (.t 1)⟩,
 ⟨(some 143), none, .bslice 3 1 1 [.int .i64 0] [(0, (.c (.int .i64 1)))]⟩,
 ⟨(some 144), none, .call 116 [(.t 142), (.t 143)]⟩] false)
 (.seq
 (.region [
 ⟨(some 146), none, .bin .eql (.t 8) (.c (.int .i64 24))⟩,
 ⟨(some 145), none, .mv (.t 146)⟩] false)
 (.cond (.t 145)
 (.region [
 ⟨(some 147), none, .mv (.t 1)⟩,
 ⟨(some 148), none, .nilck (.t 147)⟩,
 ⟨(some 149), none, .faddr 0 (.t 148)⟩,
 ⟨(some 150), none, .load false 1 (.t 149)⟩,
 ⟨(some 151), none, .mv (.t 0)⟩,
 ⟨(some 152), none, .nilck (.t 151)⟩,
 ⟨(some 153), none, .faddr 7 (.t 152)⟩,
 ⟨(some 154), none, .load false 1 (.t 153)⟩,
 ⟨(some 155), none, .call 117 [(.t 150), (.t 154)]⟩,
 ⟨(some 156), none, .call 115 [(.t 155), (.c (.int .i64 11))]⟩] true)
 .skip)))))))))))))))))))))))))))
def r75 : List ERes := []
theorem c75 : chkF Try.prog Try.f75 3 e75 r75 = true := by kernel_rfl
def e76 : EC :=
 (.seq
 (.region [
 ⟨(some 7), none, .box 88 (.t 3)⟩] false)
 (.seq
 (.region [
 ⟨(some 9), none, .mv (.t 1)⟩,
 ⟨(some 10), none, .nilck (.t 9)⟩,
 ⟨(some 11), none, .faddr 1 (.t 10)⟩,
 ⟨(some 12), none, .load false 1 (.t 11)⟩,
 ⟨(some 13), none, .lenM (.t 12)⟩,
 ⟨(some 14), none, .bin .sub (.t 13) (.c (.int .i64 1))⟩,
 ⟨(some 8), none, .mv (.t 14)⟩] false)
 (.seq
 (.seq
 (.region [
 ⟨(some 15), none, .faddr 0 (.t 7)⟩,
 ⟨(some 16), none, .load false 1 (.t 15)⟩] false)
 (.block 0
 (.seq
 (.region [
 ⟨(some 18), none, .bin .eql (.t 16) (.c (.int .i64 21))⟩,
 ⟨(some 17), none, .mv (.t 18)⟩] false)
 (.cond (.t 17)
 (.seq
 (.region [
 ⟨(some 19), none, .mv (.t 8)⟩,
 ⟨(some 20), none, .bin .add (.t 19) (.c (.int .i64 1))⟩,
 ⟨(some 21), none, .bin .lss (.t 20) (.c (.int .i64 4))⟩,
 ⟨(some 22), none, .call 115 [(.t 21), (.c (.int .i64 7))]⟩] false)
 (.region [
 ⟨(some 23), none, .mv (.t 1)⟩,
 ⟨(some 24), none, .mv (.t 1)⟩,
 ⟨(some 25), none, .nilck (.t 24)⟩,
 ⟨(some 26), none, .faddr 1 (.t 25)⟩,
 ⟨(some 27), none, .load false 1 (.t 26)⟩,
 ⟨(some 28), none, .mv (.t 2)⟩,
 ⟨(some 29), none, .bslice 3 1 1 [.int .i64 0] [(0, (.t 28))]⟩,
 ⟨(some 30), none, .appendM 3 1 8 (.t 27) (.t 29)⟩,
 ⟨(some 31), none, .nilck (.t 23)⟩,
 ⟨(some 32), none, .faddr 1 (.t 31)⟩,
 ⟨none, none, .store 1 (.t 32) (.t 30)⟩] false))
 (.seq
 (.region [
 ⟨(some 34), none, .bin .eql (.t 16) (.c (.int .i64 22))⟩,
 ⟨(some 33), none, .mv (.t 34)⟩] false)
 (.cond (.t 33)
 (.region [
 ⟨(some 35), none, .mv (.t 8)⟩,
 ⟨(some 36), none, .bin .geq (.t 35) (.c (.int .i64 0))⟩,
 ⟨(some 37), none, .mv (.t 36)⟩,
 ⟨(some 38), (some (37, true)), .faddr 1 (.t 7)⟩,
 ⟨(some 39), (some (37, true)), .load false 1 (.t 38)⟩,
 ⟨(some 40), (some (37, true)), .mv (.t 1)⟩,
 ⟨(some 41), (some (37, true)), .nilck (.t 40)⟩,
 ⟨(some 42), (some (37, true)), .faddr 1 (.t 41)⟩,
 ⟨(some 43), (some (37, true)), .load false 1 (.t 42)⟩,
 ⟨(some 44), (some (37, true)), .mv (.t 8)⟩,
 ⟨(some 45), (some (37, true)), .iaddrM 1 (.t 43) (.t 44)⟩,
 ⟨(some 46), (some (37, true)), .loadM false 1 (.t 45)⟩,
 ⟨(some 47), (some (37, true)), .bin .add (.t 46) (.c (.int .i64 1))⟩,
 ⟨(some 48), (some (37, true)), .bin .eql (.t 39) (.t 47)⟩,
 ⟨(some 49), none, .pick (.t 37) (.t 48) (.c (.bool false))⟩,
 ⟨(some 50), none, .call 115 [(.t 49), (.c (.int .i64 7))]⟩] true)
 (.seq
 (.region [
 ⟨(some 52), none, .bin .eql (.t 16) (.c (.int .i64 23))⟩,
 ⟨(some 51), none, .mv (.t 52)⟩] false)
 (.cond (.t 51)
 (.seq
 (.region [
 ⟨(some 53), none, .mv (.t 8)⟩,
 ⟨(some 54), none, .bin .geq (.t 53) (.c (.int .i64 0))⟩,
 ⟨(some 55), none, .call 115 [(.t 54), (.c (.int .i64 7))]⟩] false)
 (.region [
 ⟨(some 56), none, .mv (.t 1)⟩,
 ⟨(some 57), none, .mv (.t 1)⟩,
 ⟨(some 58), none, .nilck (.t 57)⟩,
 ⟨(some 59), none, .faddr 1 (.t 58)⟩,
 ⟨(some 60), none, .load false 1 (.t 59)⟩,
 ⟨(some 61), none, .mv (.t 8)⟩,
 ⟨(some 62), none, .slM 1 (.t 60) none (some (.t 61))⟩,
 ⟨(some 63), none, .nilck (.t 56)⟩,
 ⟨(some 64), none, .faddr 1 (.t 63)⟩,
 ⟨none, none, .store 1 (.t 64) (.t 62)⟩] false))
 (.seq
 (.region [
 ⟨(some 66), none, .bin .eql (.t 16) (.c (.int .i64 24))⟩,
 ⟨(some 65), none, .mv (.t 66)⟩] false)
 (.cond (.t 65)
 (.region [
 ⟨(some 67), none, .mv (.t 8)⟩,
 ⟨(some 68), none, .bin .lss (.t 67) (.c (.int .i64 0))⟩,
 ⟨(some 69), none, .call 115 [(.t 68), (.c (.int .i64 7))]⟩] false)
 (.seq
 (.seq
 (.region [
 ⟨(some 71), none, .bin .eql (.t 16) (.c (.int .i64 19))⟩,
 ⟨(some 70), none, .mv (.t 71)⟩] false)
 (.cond (.t 70)
 .skip
 (.region [
 ⟨(some 72), none, .bin .eql (.t 16) (.c (.int .i64 20))⟩,
 ⟨(some 70), none, .mv (.t 72)⟩] false)))
 (.cond (.t 70)
 (.region [
 ⟨(some 73), none, .faddr 1 (.t 7)⟩,
 ⟨(some 74), none, .load false 1 (.t 73)⟩,
 ⟨(some 75), none, .mv (.t 2)⟩,
 ⟨(some 76), none, .bin .gtr (.t 74) (.t 75)⟩,
 ⟨(some 77), none, .call 115 [(.t 76), (.c (.int .i64 7))]⟩] false)
 .skip))))))))))))
 (.region [
 ⟨(some 78), none, .faddr 0 (.t 7)⟩,
 ⟨(some 79), none, .load false 1 (.t 78)⟩,
 ⟨(some 80), none, .bin .eql (.t 79) (.c (.int .i64 19))⟩,
 ⟨(some 81), none, .mv (.t 80)⟩,
 ⟨(some 82), (some (81, false)), .faddr 0 (.t 7)⟩,
 ⟨(some 83), (some (81, false)), .load false 1 (.t 82)⟩,
 ⟨(some 84), (some (81, false)), .bin .eql (.t 83) (.c (.int .i64 24))⟩,
 ⟨(some 85), none, .pick (.t 81) (.c (.bool true)) (.t 84)⟩,
 ⟨(some 86), none, .mv (.t 85)⟩,
 ⟨(some 87), (some (86, false)), .mv (.t 2)⟩,
 ⟨(some 88), (some (86, false)), .bin .add (.t 87) (.c (.int .i64 1))⟩,
 ⟨(some 89), (some (86, false)), .mv (.t 0)⟩,
 ⟨(some 90), (some (86, false)), .nilck (.t 89)⟩,
 ⟨(some 91), (some (86, false)), .faddr 0 (.t 90)⟩,
 ⟨(some 92), (some (86, false)), .faddr 5 (.t 91)⟩,
 ⟨(some 93), (some (86, false)), .load false 1 (.t 92)⟩,
 ⟨(some 94), (some (86, false)), .len (.t 93)⟩,
 ⟨(some 95), (some (86, false)), .bin .lss (.t 88) (.t 94)⟩,
 ⟨(some 96), none, .pick (.t 86) (.c (.bool true)) (.t 95)⟩,
 ⟨(some 97), none, .call 115 [(.t 96), (.c (.int .i64 7))]⟩] false))))
def r76 : List ERes := []
theorem c76 : chkF Try.prog Try.f76 4 e76 r76 = true := by kernel_rfl
def e77 : EC :=
 (.seq
 (.region [
 ⟨(some 7), none, .mv (.t 0)⟩,
 ⟨(some 8), none, .nilck (.t 7)⟩,
 ⟨(some 9), none, .faddr 8 (.t 8)⟩,
 ⟨(some 10), none, .load false 1 (.t 9)⟩,
 ⟨(some 11), none, .mv (.t 1)⟩,
 ⟨(some 12), none, .iaddrM 1 (.t 10) (.t 11)⟩,
 ⟨(some 13), none, .loadM false 1 (.t 12)⟩,
 ⟨(some 6), none, .mv (.t 13)⟩] false)
 (.seq
 (.seq
 (.region [
 ⟨(some 14), none, .mv (.t 6)⟩,
 ⟨(some 15), none, .pnil false (.t 14)⟩] false)
 (.cond (.t 15)
 (.seq
 (.region [
 ⟨(some 16), none, .mv (.t 0)⟩,
 ⟨(some 17), none, .nilck (.t 16)⟩,
 ⟨(some 18), none, .faddr 8 (.t 17)⟩,
 ⟨(some 19), none, .load false 1 (.t 18)⟩,
 ⟨(some 20), none, .mv (.t 1)⟩,
 ⟨(some 21), none, .mv (.t 2)⟩,
 ⟨(some 22), none, .iaddrM 1 (.t 19) (.t 20)⟩,
 ⟨none, none, .store 1 (.t 22) (.t 21)⟩] false)
 .ret)
 .skip))
 (.seq
 (.region [
 ⟨(some 23), none, .mv (.t 6)⟩,
 ⟨(some 24), none, .nilck (.t 23)⟩,
 ⟨(some 25), none, .faddr 0 (.t 24)⟩,
 ⟨(some 26), none, .load false 1 (.t 25)⟩,
 ⟨(some 27), none, .mv (.t 2)⟩,
 ⟨(some 28), none, .nilck (.t 27)⟩,
 ⟨(some 29), none, .faddr 0 (.t 28)⟩,
 ⟨(some 30), none, .load false 1 (.t 29)⟩,
 ⟨(some 31), none, .pcall 117 [(.t 26), (.t 30)]⟩,
 ⟨(some 32), none, .call 115 [(.t 31), (.c (.int .i64 11))]⟩] true)
 (.region [
 ⟨(some 33), none, .mv (.t 6)⟩,
 ⟨(some 34), none, .nilck (.t 33)⟩,
 ⟨(some 35), none, .faddr 1 (.t 34)⟩,
 ⟨(some 36), none, .load false 1 (.t 35)⟩,
 ⟨(some 37), none, .mv (.t 2)⟩,
 ⟨(some 38), none, .nilck (.t 37)⟩,
 ⟨(some 39), none, .faddr 1 (.t 38)⟩,
 ⟨(some 40), none, .load false 1 (.t 39)⟩,
 ⟨(some 41), none, .pcall 117 [(.t 36), (.t 40)]⟩,
 ⟨(some 42), none, .call 115 [(.t 41), (.c (.int .i64 7))]⟩] true))))
def r77 : List ERes := []
theorem c77 : chkF Try.prog Try.f77 3 e77 r77 = true := by kernel_rfl
def e114 : EC :=
 (.seq
 (.region [
 ⟨(some 4), none, .mv (.t 0)⟩,
 ⟨(some 5), none, .nilck (.t 4)⟩,
 ⟨(some 6), none, .faddr 0 (.t 5)⟩,
 ⟨(some 7), none, .load false 1 (.t 6)⟩,
 ⟨(some 8), none, .lenM (.t 7)⟩,
 ⟨(some 9), none, .bin .lss (.t 8) (.c (.int .i64 16))⟩,
 ⟨(some 10), none, .call 115 [(.t 9), (.c (.int .i64 11))]⟩] false)
 (.region [
 ⟨(some 11), none, .mv (.t 0)⟩,
 ⟨(some 12), none, .mv (.t 0)⟩,
 ⟨(some 13), none, .nilck (.t 12)⟩,
 ⟨(some 14), none, .faddr 0 (.t 13)⟩,
 ⟨(some 15), none, .load false 1 (.t 14)⟩,
 ⟨(some 16), none, .mv (.t 1)⟩,
 ⟨(some 17), none, .bslice 3 1 1 [.int .i64 0] [(0, (.t 16))]⟩,
 ⟨(some 18), none, .appendM 3 1 8 (.t 15) (.t 17)⟩,
 ⟨(some 19), none, .nilck (.t 11)⟩,
 ⟨(some 20), none, .faddr 0 (.t 19)⟩,
 ⟨none, none, .store 1 (.t 20) (.t 18)⟩] false))
def r114 : List ERes := []
theorem c114 : chkF Try.prog Try.f114 2 e114 r114 = true := by kernel_rfl
def e115 : EC :=
 (.seq
 (.region [
 ⟨(some 4), none, .mv (.t 0)⟩,
 ⟨(some 5), none, .not (.t 4)⟩] false)
 (.cond (.t 5)
 (.region [
 ⟨(some 6), none, .mv (.t 1)⟩,
 ⟨(some 7), none, .build [.int .i64 0] [(0, 1, (.t 6))]⟩,
 ⟨(some 8), none, .mkif 162 (.t 7)⟩,
 ⟨none, none, .panic (.t 8)⟩] false)
 .skip))
def r115 : List ERes := []
theorem c115 : chkF Try.prog Try.f115 2 e115 r115 = true := by kernel_rfl
def e116 : EC :=
 (.seq
 (.region [
 ⟨(some 7), none, .mv (.t 1)⟩,
 ⟨(some 8), none, .len (.t 7)⟩,
 ⟨(some 9), none, .mv (.c (.int .i64 0))⟩] false)
 (.block 0
 (.loop
 (.seq
 (.region [
 ⟨(some 10), none, .bin .lss (.t 9) (.t 8)⟩] false)
 (.seq
 (.cond (.t 10)
 .skip
 (.exit 0))
 (.seq
 (.block 1
 (.seq
 (.region [
 ⟨(some 11), none, .iaddr 1 (.t 7) (.t 9)⟩,
 ⟨(some 12), none, .load false 1 (.t 11)⟩,
 ⟨(some 5), none, .mv (.t 12)⟩] false)
 (.seq
 (.region [
 ⟨(some 13), none, .mv (.t 0)⟩,
 ⟨(some 14), none, .nilck (.t 13)⟩,
 ⟨(some 15), none, .faddr 0 (.t 14)⟩,
 ⟨(some 16), none, .load false 1 (.t 15)⟩,
 ⟨(some 17), none, .lenM (.t 16)⟩,
 ⟨(some 6), none, .mv (.t 17)⟩] false)
 (.seq
 (.region [
 ⟨(some 18), none, .mv (.t 6)⟩,
 ⟨(some 19), none, .bin .gtr (.t 18) (.c (.int .i64 0))⟩,
 ⟨(some 20), none, .mv (.t 19)⟩,
 ⟨(some 21), (some (20, true)), .mv (.t 0)⟩,
 ⟨(some 22), (some (20, true)), .nilck (.t 21)⟩,
 ⟨(some 23), (some (20, true)), .faddr 0 (.t 22)⟩,
 ⟨(some 24), (some (20, true)), .load false 1 (.t 23)⟩,
 ⟨(some 25), (some (20, true)), .mv (.t 6)⟩,
 ⟨(some 26), (some (20, true)), .bin .sub (.t 25) (.c (.int .i64 1))⟩,
 ⟨(some 27), (some (20, true)), .iaddrM 1 (.t 24) (.t 26)⟩,
 ⟨(some 28), (some (20, true)), .loadM false 1 (.t 27)⟩,
 ⟨(some 29), (some (20, true)), .mv (.t 5)⟩,
 ⟨(some 30), (some (20, true)), .bin .eql (.t 28) (.t 29)⟩,
 ⟨(some 31), none, .pick (.t 20) (.t 30) (.c (.bool false))⟩,
 ⟨(some 32), none, .call 115 [(.t 31), (.c (.int .i64 11))]⟩] false)
 (.region [
 ⟨(some 33), none, .mv (.t 0)⟩,
 ⟨(some 34), none, .mv (.t 0)⟩,
 ⟨(some 35), none, .nilck (.t 34)⟩,
 ⟨(some 36), none, .faddr 0 (.t 35)⟩,
 ⟨(some 37), none, .load false 1 (.t 36)⟩,
 ⟨(some 38), none, .mv (.t 6)⟩,
 ⟨(some 39), none, .bin .sub (.t 38) (.c (.int .i64 1))⟩,
 ⟨(some 40), none, .slM 1 (.t 37) none (some (.t 39))⟩,
 ⟨(some 41), none, .nilck (.t 33)⟩,
 ⟨(some 42), none, .faddr 0 (.t 41)⟩,
 ⟨none, none, .store 1 (.t 42) (.t 40)⟩] false)))))
 (.region [
 ⟨(some 43), none, .bin .add (.t 9) (.c (.int .i64 1))⟩,
 ⟨(some 9), none, .mv (.t 43)⟩] false)))))))
def r116 : List ERes := []
theorem c116 : chkF Try.prog Try.f116 2 e116 r116 = true := by kernel_rfl
def e117 : EC :=
 (.seq
 (.region [
 ⟨(some 4), none, .mv (.c (.bool false))⟩] false)
 (.seq
 (.seq
 (.region [
 ⟨(some 6), none, .mv (.t 0)⟩,
 ⟨(some 7), none, .len (.t 6)⟩,
 ⟨(some 8), none, .mv (.t 1)⟩,
 ⟨(some 9), none, .len (.t 8)⟩,
 ⟨(some 10), none, .bin .neq (.t 7) (.t 9)⟩] false)
 (.cond (.t 10)
 (.seq
 (.region [
 ⟨(some 4), none, .mv (.c (.bool false))⟩] false)
 .ret)
 .skip))
 (.seq
 (.seq
 (.region [
 ⟨(some 11), none, .mv (.t 0)⟩,
 ⟨(some 12), none, .len (.t 11)⟩,
 ⟨(some 13), none, .mv (.c (.int .i64 0))⟩] false)
 (.block 0
 (.loop
 (.seq
 (.region [
 ⟨(some 14), none, .bin .lss (.t 13) (.t 12)⟩] false)
 (.seq
 (.cond (.t 14)
 .skip
 (.exit 0))
 (.seq
 (.block 1
 (.seq
 (.region [
 ⟨(some 15), none, .mv (.t 13)⟩,
 ⟨(some 5), none, .mv (.t 15)⟩] false)
 (.seq
 (.region [
 ⟨(some 16), none, .mv (.t 0)⟩,
 ⟨(some 17), none, .mv (.t 5)⟩,
 ⟨(some 18), none, .iaddr 1 (.t 16) (.t 17)⟩,
 ⟨(some 19), none, .load false 1 (.t 18)⟩,
 ⟨(some 20), none, .mv (.t 1)⟩,
 ⟨(some 21), none, .mv (.t 5)⟩,
 ⟨(some 22), none, .iaddr 1 (.t 20) (.t 21)⟩,
 ⟨(some 23), none, .load false 1 (.t 22)⟩,
 ⟨(some 24), none, .bin .neq (.t 19) (.t 23)⟩] true)
 (.cond (.t 24)
 (.seq
 (.region [
 ⟨(some 4), none, .mv (.c (.bool false))⟩] false)
 .ret)
 .skip))))
 (.region [
 ⟨(some 25), none, .bin .add (.t 13) (.c (.int .i64 1))⟩,
 ⟨(some 13), none, .mv (.t 25)⟩] false)))))))
 (.seq
 (.region [
 ⟨(some 4), none, .mv (.c (.bool true))⟩] false)
 .ret))))
def r117 : List ERes := [.t 4]
theorem c117 : chkF Try.prog Try.f117 2 e117 r117 = true := by kernel_rfl
def e4 : EC :=
 (.seq
 (.region [
 ⟨(some 3), none, .box 27 (.t 0)⟩,
 ⟨(some 6), none, .mv (.c (.bool false))⟩] false)
 (.seq
 (.seq
 (.region [
 ⟨(some 22), none, .call 15 []⟩,
 ⟨(some 23), none, .not (.t 22)⟩] false)
 (.cond (.t 23)
 (.seq
 (.region [
 ⟨(some 6), none, .mv (.c (.bool false))⟩] false)
 .ret)
 .skip))
 (.seq
 (.seq
 (.region [
 ⟨(some 24), none, .load true 6 (.t 3)⟩,
 ⟨(some 25), none, .call 16 [(.t 24)]⟩,
 ⟨(some 26), none, .not (.t 25)⟩,
 ⟨(some 27), none, .mv (.t 26)⟩,
 ⟨(some 28), (some (27, false)), .mv (.t 1)⟩,
 ⟨(some 29), (some (27, false)), .call 20 [(.t 28)]⟩,
 ⟨(some 30), (some (27, false)), .not (.t 29)⟩,
 ⟨(some 31), none, .pick (.t 27) (.c (.bool true)) (.t 30)⟩,
 ⟨(some 32), none, .mv (.t 31)⟩,
 ⟨(some 33), (some (32, false)), .mv (.t 2)⟩,
 ⟨(some 34), (some (32, false)), .len (.t 33)⟩,
 ⟨(some 35), (some (32, false)), .bin .gtr (.t 34) (.c (.int .i64 100))⟩,
 ⟨(some 36), none, .pick (.t 32) (.c (.bool true)) (.t 35)⟩] false)
 (.cond (.t 36)
 (.seq
 (.region [
 ⟨(some 6), none, .mv (.c (.bool true))⟩] false)
 .ret)
 .skip))
 (.seq
 (.region [
 ⟨(some 37), none, .load true 6 (.t 3)⟩,
 ⟨(some 7), none, .alloc 27 [.str [], .int .i64 0, .nilS, .nilS, .nilS, .nilS]⟩,
 ⟨none, none, .store 6 (.t 7) (.t 37)⟩] false)
 (.seq
 (.region [
 ⟨(some 38), none, .bsliceO 68 3 0 [.int .i64 0, .int .i64 0, .str []] []⟩,
 ⟨(some 39), none, .faddr 5 (.t 3)⟩,
 ⟨(some 40), none, .load false 1 (.t 39)⟩,
 ⟨(some 41), none, .append 68 3 32 (.t 38) (.t 40)⟩,
 ⟨(some 42), none, .mv (.t 2)⟩,
 ⟨(some 43), none, .append 68 3 32 (.t 41) (.t 42)⟩,
 ⟨(some 44), none, .faddr 5 (.t 7)⟩,
 ⟨none, none, .store 1 (.t 44) (.t 43)⟩] false)
 (.seq
 (.region [
 ⟨(some 45), none, .load true 6 (.t 3)⟩,
 ⟨(some 46), none, .pcall 18 [(.t 45)]⟩,
 ⟨(some 47), none, .load true 6 (.t 7)⟩,
 ⟨(some 48), none, .pcall 18 [(.t 47)]⟩,
 ⟨(some 8), none, .alloc 41 [.str [], .int .i64 0, .nilS, .nilS, .nilS, .nilS]⟩,
 ⟨(some 9), none, .alloc 41 [.str [], .int .i64 0, .nilS, .nilS, .nilS, .nilS]⟩,
 ⟨none, none, .store 6 (.t 8) (.t 46)⟩,
 ⟨none, none, .store 6 (.t 9) (.t 48)⟩] true)
 (.seq
 (.seq
 (.region [
 ⟨(some 50), none, .load true 6 (.t 8)⟩,
 ⟨(some 51), none, .mv (.t 1)⟩,
 ⟨(some 52), none, .call 21 [(.t 50), (.t 51)]⟩,
 ⟨(some 49), none, .mv (.t 52)⟩,
 ⟨(some 53), none, .extract 0 (.t 49)⟩,
 ⟨(some 54), none, .extract 1 (.t 49)⟩,
 ⟨(some 10), none, .mv (.t 53)⟩,
 ⟨(some 11), none, .mv (.t 54)⟩] false)
 (.seq
 (.region [
 ⟨(some 55), none, .mv (.t 11)⟩,
 ⟨(some 56), none, .bin .neq (.t 55) (.c (.int .i64 0))⟩,
 ⟨(some 57), none, .mv (.t 56)⟩,
 ⟨(some 58), (some (57, false)), .load true 6 (.t 7)⟩,
 ⟨(some 59), (some (57, false)), .call 16 [(.t 58)]⟩,
 ⟨(some 60), (some (57, false)), .not (.t 59)⟩,
 ⟨(some 61), none, .pick (.t 57) (.c (.bool true)) (.t 60)⟩,
 ⟨(some 62), none, .mv (.t 61)⟩,
 ⟨(some 63), (some (62, false)), .load true 6 (.t 7)⟩,
 ⟨(some 64), (some (62, false)), .call 22 [(.t 63)]⟩,
 ⟨(some 65), (some (62, false)), .not (.t 64)⟩,
 ⟨(some 66), none, .pick (.t 62) (.c (.bool true)) (.t 65)⟩] false)
 (.cond (.t 66)
 (.seq
 (.region [
 ⟨(some 6), none, .mv (.c (.bool true))⟩] false)
 .ret)
 .skip)))
 (.seq
 (.region [
 ⟨(some 68), none, .load true 6 (.t 9)⟩,
 ⟨(some 69), none, .mv (.t 1)⟩,
 ⟨(some 70), none, .call 21 [(.t 68), (.t 69)]⟩,
 ⟨(some 67), none, .mv (.t 70)⟩,
 ⟨(some 71), none, .extract 0 (.t 67)⟩,
 ⟨(some 72), none, .extract 1 (.t 67)⟩,
 ⟨(some 12), none, .mv (.t 71)⟩,
 ⟨(some 13), none, .mv (.t 72)⟩] false)
 (.seq
 (.region [
 ⟨(some 73), none, .load true 6 (.t 3)⟩,
 ⟨(some 74), none, .mv (.t 1)⟩,
 ⟨(some 75), none, .call 23 [(.t 73), (.t 74)]⟩,
 ⟨(some 14), none, .mv (.t 75)⟩] false)
 (.seq
 (.seq
 (.region [
 ⟨(some 15), none, .mv (.c (.int .i64 0))⟩] false)
 (.block 0
 (.loop
 (.seq
 (.seq
 (.region [
 ⟨(some 76), none, .mv (.t 15)⟩,
 ⟨(some 77), none, .mv (.t 14)⟩,
 ⟨(some 78), none, .len (.t 77)⟩,
 ⟨(some 79), none, .bin .lss (.t 76) (.t 78)⟩] false)
 (.cond (.t 79)
 .skip
 (.exit 0)))
 (.seq
 (.block 1
 (.seq
 (.region [
 ⟨(some 83), none, .load true 6 (.t 8)⟩,
 ⟨(some 84), none, .mv (.t 14)⟩,
 ⟨(some 85), none, .mv (.t 15)⟩,
 ⟨(some 86), none, .iaddr 4 (.t 84) (.t 85)⟩,
 ⟨(some 87), none, .faddr 0 (.t 86)⟩,
 ⟨(some 88), none, .load false 1 (.t 87)⟩,
 ⟨(some 89), none, .mv (.t 14)⟩,
 ⟨(some 90), none, .mv (.t 15)⟩,
 ⟨(some 91), none, .iaddr 4 (.t 89) (.t 90)⟩,
 ⟨(some 92), none, .faddr 2 (.t 91)⟩,
 ⟨(some 93), none, .load false 1 (.t 92)⟩,
 ⟨(some 94), none, .mv (.t 14)⟩,
 ⟨(some 95), none, .mv (.t 15)⟩,
 ⟨(some 96), none, .iaddr 4 (.t 94) (.t 95)⟩,
 ⟨(some 97), none, .faddr 3 (.t 96)⟩,
 ⟨(some 98), none, .load false 1 (.t 97)⟩,
 ⟨(some 99), none, .pcall 17 [(.t 83), (.t 88), (.t 93), (.t 98)]⟩,
 ⟨(some 82), none, .mv (.t 99)⟩,
 ⟨(some 100), none, .extract 0 (.t 82)⟩,
 ⟨(some 101), none, .extract 1 (.t 82)⟩,
 ⟨(some 102), none, .extract 2 (.t 82)⟩,
 ⟨(some 16), none, .mv (.t 100)⟩,
 ⟨(some 17), none, .mv (.t 101)⟩,
 ⟨(some 18), none, .mv (.t 102)⟩] true)
 (.seq
 (.region [
 ⟨(some 104), none, .load true 6 (.t 9)⟩,
 ⟨(some 105), none, .mv (.t 14)⟩,
 ⟨(some 106), none, .mv (.t 15)⟩,
 ⟨(some 107), none, .iaddr 4 (.t 105) (.t 106)⟩,
 ⟨(some 108), none, .faddr 0 (.t 107)⟩,
 ⟨(some 109), none, .load false 1 (.t 108)⟩,
 ⟨(some 110), none, .mv (.t 14)⟩,
 ⟨(some 111), none, .mv (.t 15)⟩,
 ⟨(some 112), none, .iaddr 4 (.t 110) (.t 111)⟩,
 ⟨(some 113), none, .faddr 2 (.t 112)⟩,
 ⟨(some 114), none, .load false 1 (.t 113)⟩,
 ⟨(some 115), none, .mv (.t 14)⟩,
 ⟨(some 116), none, .mv (.t 15)⟩,
 ⟨(some 117), none, .iaddr 4 (.t 115) (.t 116)⟩,
 ⟨(some 118), none, .faddr 3 (.t 117)⟩,
 ⟨(some 119), none, .load false 1 (.t 118)⟩,
 ⟨(some 120), none, .pcall 17 [(.t 104), (.t 109), (.t 114), (.t 119)]⟩,
 ⟨(some 103), none, .mv (.t 120)⟩,
 ⟨(some 121), none, .extract 0 (.t 103)⟩,
 ⟨(some 122), none, .extract 1 (.t 103)⟩,
 ⟨(some 123), none, .extract 2 (.t 103)⟩,
 ⟨(some 19), none, .mv (.t 121)⟩,
 ⟨(some 20), none, .mv (.t 122)⟩,
 ⟨(some 21), none, .mv (.t 123)⟩] true)
 (.seq
 (.region [
 ⟨(some 124), none, .mv (.t 18)⟩,
 ⟨(some 125), none, .mv (.t 21)⟩,
 ⟨(some 126), none, .bin .neq (.t 124) (.t 125)⟩,
 ⟨(some 127), none, .mv (.t 126)⟩,
 ⟨(some 128), (some (127, false)), .mv (.t 16)⟩,
 ⟨(some 129), (some (127, false)), .mv (.t 19)⟩,
 ⟨(some 130), (some (127, false)), .bin .neq (.t 128) (.t 129)⟩,
 ⟨(some 131), none, .pick (.t 127) (.c (.bool true)) (.t 130)⟩] false)
 (.cond (.t 131)
 (.seq
 (.region [
 ⟨(some 6), none, .mv (.c (.bool false))⟩] false)
 .ret)
 .skip)))))
 (.region [
 ⟨(some 80), none, .mv (.t 15)⟩,
 ⟨(some 81), none, .bin .add (.t 80) (.c (.int .i64 1))⟩,
 ⟨(some 15), none, .mv (.t 81)⟩] false))))))
 (.seq
 (.region [
 ⟨(some 132), none, .mv (.t 13)⟩,
 ⟨(some 133), none, .bin .eql (.t 132) (.c (.int .i64 0))⟩,
 ⟨(some 6), none, .mv (.t 133)⟩] false)
 .ret)))))))))))
def r4 : List ERes := [.t 6]
theorem c4 : chkF Try.prog Try.f4 3 e4 r4 = true := by kernel_rfl
end Go.Aw.T
namespace Go.Aw.T
open Go Go.Aw Go.Proofs Go.RowKit
set_option maxRecDepth 100000
attribute [local irreducible] Go.Aw.DM Go.Aw.AHeap.setB Go.Aw.AHeap.setT
attribute [local go_sem] peval EOpd.ev Env.get binInt binStr binBool buildParts AV.cells AV.okc setRange minmaxAV AV.one AV.ofCells eqCells eqCell bslRows cond_true cond_false beq_self_eq_true Bool.not_true Bool.not_false beq_true beq_false eq_self if_true Option.some.injEq List.length_cons List.length_nil List.take_succ_cons List.take_zero List.drop_succ_cons List.drop_zero List.set_cons_succ List.set_cons_zero List.nil_append List.cons_append List.append_nil and_self Option.map_some List.map_cons List.map_nil Bool.false_eq_true if_false Nat.zero_add Nat.add_zero true_and and_true Bool.and_true Bool.true_and List.getElem?_cons_zero List.getElem?_cons_succ Nat.zero_le Nat.le_refl
set_option linter.unusedSimpArgs false
set_option linter.unusedVariables false
theorem mo : Try.prog.follows .mixedOrders = true := by kernel_rfl
structure Val where
  k : Int
  n : Int
  s : List UInt8
abbrev Val.row (v : Val) : List AV := [.int .i64 v.k, .int .i64 v.n, .str v.s]
abbrev Val.av (v : Val) : AV := .agg [.int .i64 v.k, .int .i64 v.n, .str v.s]
theorem p29 (n : Int) : Pure Try.prog 29 [.int .i64 n] (.agg [.int .i64 1, .int .i64 n, .str []]) := by
  refine pure_intro mo Try.func29 c29 fun H => ?_
  unfold e29 r29
  simp only [initEnv, initFrom]
  repeat' first|(apply Sp.go;·constructor<;>first|exact ss|(change _=_;first|(simp only[go_sem,Nat.reduceBEq,Nat.reduceAdd,Nat.reduceLeDiff,reduceIte]<;>rfl)|rfl)|exact Nat.le_of_ble_eq_true rfl|decide|(repeat' first|(apply Lk.go;constructor)|assumption|exact nb ‹_› ‹_›|exact nt ‹_› ‹_›))|(intro b hb;repeat first|(refine fe hb ?_;intro _ _ hb)|(refine fT hb ?_;intro hb))|refine rt ?_|refine gA rfl ?_|refine gB rfl ?_|apply cT rfl|apply cF rfl|(apply DM.gbT;rfl)|(apply DM.gbF;rfl)|intro h
  (apply Sr.go;·constructor<;>first|(apply Lk.go;constructor<;>first|exact ss|(change _=_;first|(simp only[go_sem,Nat.reduceBEq,Nat.reduceAdd,Nat.reduceLeDiff,reduceIte]<;>rfl)|rfl)|exact Nat.le_of_ble_eq_true rfl|decide|(repeat' first|(apply Lk.go;constructor)|assumption|exact nb ‹_› ‹_›|exact nt ‹_› ‹_›))|assumption)
  exact AVLe.refl _
def digit (c : UInt8) : Bool := decide (48 ≤ c.toNat) && decide (c.toNat ≤ 57)
def letter (c : UInt8) : Bool := (decide (97 ≤ c.toNat) && decide (c.toNat ≤ 122)) || (decide (65 ≤ c.toNat) && decide (c.toNat ≤ 90))
def inner (c : UInt8) : Bool := letter c || digit c || decide (c.toNat = 95)
def isName (s : List UInt8) : Bool := match s with | [] => false | c :: _ => letter c && s.all inner && decide (s.length ≤ 16)
theorem p125 (c : UInt8) : Pure Try.prog 125 [.int .u8 c.toNat] (.bool (digit c)) := by
  refine pure_intro mo Try.func125 c125 fun H => ?_
  unfold e125 r125
  simp only [initEnv, initFrom]
  repeat' first|(apply Sp.go;·constructor<;>first|exact ss|(change _=_;first|(simp only[go_sem,Nat.reduceBEq,Nat.reduceAdd,Nat.reduceLeDiff,reduceIte]<;>rfl)|rfl)|exact Nat.le_of_ble_eq_true rfl|decide|(repeat' first|(apply Lk.go;constructor)|assumption|exact nb ‹_› ‹_›|exact nt ‹_› ‹_›))|(intro b hb;repeat first|(refine fe hb ?_;intro _ _ hb)|(refine fT hb ?_;intro hb))|refine rt ?_|refine gA rfl ?_|refine gB rfl ?_|apply cT rfl|apply cF rfl|(apply DM.gbT;rfl)|(apply DM.gbF;rfl)|intro h
  all_goals ((apply Sr.go;·constructor<;>first|(apply Lk.go;constructor<;>first|exact ss|(change _=_;first|(simp only[go_sem,Nat.reduceBEq,Nat.reduceAdd,Nat.reduceLeDiff,reduceIte]<;>rfl)|rfl)|exact Nat.le_of_ble_eq_true rfl|decide|(repeat' first|(apply Lk.go;constructor)|assumption|exact nb ‹_› ‹_›|exact nt ‹_› ‹_›))|assumption))
  all_goals (refine avle_eq ?_; rw [AV.bool.injEq, Bool.eq_iff_iff]; simp [digit] at *; try omega)
theorem p106 (c : UInt8) : Pure Try.prog 106 [.int .u8 c.toNat] (.bool (letter c)) := by
  refine pure_intro mo Try.func106 c106 fun H => ?_
  unfold e106 r106
  simp only [initEnv, initFrom]
  repeat' first|(apply Sp.go;·constructor<;>first|exact ss|(change _=_;first|(simp only[go_sem,Nat.reduceBEq,Nat.reduceAdd,Nat.reduceLeDiff,reduceIte]<;>rfl)|rfl)|exact Nat.le_of_ble_eq_true rfl|decide|(repeat' first|(apply Lk.go;constructor)|assumption|exact nb ‹_› ‹_›|exact nt ‹_› ‹_›))|(intro b hb;repeat first|(refine fe hb ?_;intro _ _ hb)|(refine fT hb ?_;intro hb))|refine rt ?_|refine gA rfl ?_|refine gB rfl ?_|apply cT rfl|apply cF rfl|(apply DM.gbT;rfl)|(apply DM.gbF;rfl)|intro h
  all_goals ((apply Sr.go;·constructor<;>first|(apply Lk.go;constructor<;>first|exact ss|(change _=_;first|(simp only[go_sem,Nat.reduceBEq,Nat.reduceAdd,Nat.reduceLeDiff,reduceIte]<;>rfl)|rfl)|exact Nat.le_of_ble_eq_true rfl|decide|(repeat' first|(apply Lk.go;constructor)|assumption|exact nb ‹_› ‹_›|exact nt ‹_› ‹_›))|assumption))
  all_goals (refine avle_eq ?_; rw [AV.bool.injEq, Bool.eq_iff_iff]; simp [letter] at *; try omega)
theorem p107 (c : UInt8) : Pure Try.prog 107 [.int .u8 c.toNat] (.bool (inner c)) := by
  refine pure_intro mo Try.func107 c107 fun H => ?_
  unfold e107 r107
  simp only [initEnv, initFrom]
  repeat' first|(apply Sp.go;·constructor<;>first|exact ss|(change _=_;first|(simp only[go_sem,Nat.reduceBEq,Nat.reduceAdd,Nat.reduceLeDiff,reduceIte]<;>rfl)|rfl)|exact Nat.le_of_ble_eq_true rfl|decide|(repeat' first|(apply Lk.go;constructor)|assumption|exact nb ‹_› ‹_›|exact nt ‹_› ‹_›))|(intro b hb;repeat first|(refine fe hb ?_;intro _ _ hb)|(refine fT hb ?_;intro hb))|refine rt ?_|refine gA rfl ?_|refine gB rfl ?_|apply cT rfl|apply cF rfl|(apply DM.gbT;rfl)|(apply DM.gbF;rfl)|intro h
  (apply DM.pcs (p106 _); (· simp only [go_sem, Nat.reduceBEq, Nat.reduceAdd] <;> rfl); (· exact AVLes.refl _))
  repeat' first|(apply Sp.go;·constructor<;>first|exact ss|(change _=_;first|(simp only[go_sem,Nat.reduceBEq,Nat.reduceAdd,Nat.reduceLeDiff,reduceIte]<;>rfl)|rfl)|exact Nat.le_of_ble_eq_true rfl|decide|(repeat' first|(apply Lk.go;constructor)|assumption|exact nb ‹_› ‹_›|exact nt ‹_› ‹_›))|(intro b hb;repeat first|(refine fe hb ?_;intro _ _ hb)|(refine fT hb ?_;intro hb))|refine rt ?_|refine gA rfl ?_|refine gB rfl ?_|apply cT rfl|apply cF rfl|(apply DM.gbT;rfl)|(apply DM.gbF;rfl)|intro h
  (apply DM.pcs (p125 _); (· simp only [go_sem, Nat.reduceBEq, Nat.reduceAdd] <;> rfl); (· exact AVLes.refl _))
  repeat' first|(apply Sp.go;·constructor<;>first|exact ss|(change _=_;first|(simp only[go_sem,Nat.reduceBEq,Nat.reduceAdd,Nat.reduceLeDiff,reduceIte]<;>rfl)|rfl)|exact Nat.le_of_ble_eq_true rfl|decide|(repeat' first|(apply Lk.go;constructor)|assumption|exact nb ‹_› ‹_›|exact nt ‹_› ‹_›))|(intro b hb;repeat first|(refine fe hb ?_;intro _ _ hb)|(refine fT hb ?_;intro hb))|refine rt ?_|refine gA rfl ?_|refine gB rfl ?_|apply cT rfl|apply cF rfl|(apply DM.gbT;rfl)|(apply DM.gbF;rfl)|intro h
  all_goals ((apply Sr.go;·constructor<;>first|(apply Lk.go;constructor<;>first|exact ss|(change _=_;first|(simp only[go_sem,Nat.reduceBEq,Nat.reduceAdd,Nat.reduceLeDiff,reduceIte]<;>rfl)|rfl)|exact Nat.le_of_ble_eq_true rfl|decide|(repeat' first|(apply Lk.go;constructor)|assumption|exact nb ‹_› ‹_›|exact nt ‹_› ‹_›))|assumption))
  all_goals (refine avle_eq ?_; rw [AV.bool.injEq, Bool.eq_iff_iff]; simp [inner] at *; first | omega | (simp [*]; done) | (simp [*]; omega))
theorem isName_of {s : List UInt8} {c : UInt8} (h : s[0]? = some c) : isName s = (letter c && s.all inner && decide (s.length ≤ 16)) := by
  cases s with
  | nil => simp at h
  | cons d l => simp at h; subst h; rfl
theorem p67 (s : List UInt8) (hs : s.length ≤ maxLen) : Pure Try.prog 67 [.str s] (.bool (isName s)) := by
  refine pure_intro mo Try.func67 c67 fun H => ?_
  unfold e67 r67
  simp only [initEnv, initFrom]
  repeat' first|(apply Sp.go;·constructor<;>first|exact ss|(change _=_;first|(simp only[go_sem,Nat.reduceBEq,Nat.reduceAdd,Nat.reduceLeDiff,reduceIte]<;>rfl)|rfl)|exact Nat.le_of_ble_eq_true rfl|decide|(repeat' first|(apply Lk.go;constructor)|assumption|exact nb ‹_› ‹_›|exact nt ‹_› ‹_›))|(intro b hb;repeat first|(refine fe hb ?_;intro _ _ hb)|(refine fT hb ?_;intro hb))|refine rt ?_|refine gA rfl ?_|refine gB rfl ?_|apply cT rfl|apply cF rfl|(apply DM.gbT;rfl)|(apply DM.gbF;rfl)|intro h
  · obtain ⟨c, hc⟩ : ∃ c, s[0]? = some c := by cases s with | nil => simp at * | cons c l => exact ⟨c, rfl⟩
    have hn := isName_of hc
    (apply DM.idxSs s .i64 0 c (by decide) hc; (· rfl); (· rfl))
    repeat' first|(apply Sp.go;·constructor<;>first|exact ss|(change _=_;first|(simp only[go_sem,Nat.reduceBEq,Nat.reduceAdd,Nat.reduceLeDiff,reduceIte]<;>rfl)|rfl)|exact Nat.le_of_ble_eq_true rfl|decide|(repeat' first|(apply Lk.go;constructor)|assumption|exact nb ‹_› ‹_›|exact nt ‹_› ‹_›))|(intro b hb;repeat first|(refine fe hb ?_;intro _ _ hb)|(refine fT hb ?_;intro hb))|refine rt ?_|refine gA rfl ?_|refine gB rfl ?_|apply cT rfl|apply cF rfl|(apply DM.gbT;rfl)|(apply DM.gbF;rfl)|intro h
    (apply DM.pcs (p106 _); (· simp only [go_sem, Nat.reduceBEq, Nat.reduceAdd] <;> rfl); (· exact AVLes.refl _))
    repeat' first|(apply Sp.go;·constructor<;>first|exact ss|(change _=_;first|(simp only[go_sem,Nat.reduceBEq,Nat.reduceAdd,Nat.reduceLeDiff,reduceIte]<;>rfl)|rfl)|exact Nat.le_of_ble_eq_true rfl|decide|(repeat' first|(apply Lk.go;constructor)|assumption|exact nb ‹_› ‹_›|exact nt ‹_› ‹_›))|(intro b hb;repeat first|(refine fe hb ?_;intro _ _ hb)|(refine fT hb ?_;intro hb))|refine rt ?_|refine gA rfl ?_|refine gB rfl ?_|apply cT rfl|apply cF rfl|(apply DM.gbT;rfl)|(apply DM.gbF;rfl)|intro h
    · (apply AM.cond; (· rfl))
      · intro h
        repeat' first|(apply Sp.go;·constructor<;>first|exact ss|(change _=_;first|(simp only[go_sem,Nat.reduceBEq,Nat.reduceAdd,Nat.reduceLeDiff,reduceIte]<;>rfl)|rfl)|exact Nat.le_of_ble_eq_true rfl|decide|(repeat' first|(apply Lk.go;constructor)|assumption|exact nb ‹_› ‹_›|exact nt ‹_› ‹_›))|(intro b hb;repeat first|(refine fe hb ?_;intro _ _ hb)|(refine fT hb ?_;intro hb))|refine rt ?_|refine gA rfl ?_|refine gB rfl ?_|apply cT rfl|apply cF rfl|(apply DM.gbT;rfl)|(apply DM.gbF;rfl)|intro h
        (apply Sr.go;·constructor<;>first|(apply Lk.go;constructor<;>first|exact ss|(change _=_;first|(simp only[go_sem,Nat.reduceBEq,Nat.reduceAdd,Nat.reduceLeDiff,reduceIte]<;>rfl)|rfl)|exact Nat.le_of_ble_eq_true rfl|decide|(repeat' first|(apply Lk.go;constructor)|assumption|exact nb ‹_› ‹_›|exact nt ‹_› ‹_›))|assumption)
        refine avle_eq ?_
        rw [hn]; simp at h; simp [h]
      · intro h
        repeat' first|(apply Sp.go;·constructor<;>first|exact ss|(change _=_;first|(simp only[go_sem,Nat.reduceBEq,Nat.reduceAdd,Nat.reduceLeDiff,reduceIte]<;>rfl)|rfl)|exact Nat.le_of_ble_eq_true rfl|decide|(repeat' first|(apply Lk.go;constructor)|assumption|exact nb ‹_› ‹_›|exact nt ‹_› ‹_›))|(intro b hb;repeat first|(refine fe hb ?_;intro _ _ hb)|(refine fT hb ?_;intro hb))|refine rt ?_|refine gA rfl ?_|refine gB rfl ?_|apply cT rfl|apply cF rfl|(apply DM.gbT;rfl)|(apply DM.gbF;rfl)|intro h
        refine AM.loopX (X := Nat) 0 (fun i => [(0, .str s), (18, .int .i64 s.length), (19, .int .i64 i)]) (fun i H' => H' = H ∧ i ≤ s.length ∧ isName s = (s.drop i).all inner) (fun i => s.length - i) ⟨rfl, by omega, ?_⟩ ?_ ?_
        · rename_i h2
          simp at h h2
          rw [hn, h]; simp; intro _; omega
        · (repeat first | exact envle_nil _ | (refine envle_cons ?_ ?_; · (simp only [go_sem, Nat.reduceBEq, Nat.reduceAdd]; exact AVLe.refl _)))
        · intro i H' ⟨e, hi, he⟩
          subst e
          repeat' first|(apply Sp.go;·constructor<;>first|exact ss|(change _=_;first|(simp only[go_sem,Nat.reduceBEq,Nat.reduceAdd,Nat.reduceLeDiff,reduceIte]<;>rfl)|rfl)|exact Nat.le_of_ble_eq_true rfl|decide|(repeat' first|(apply Lk.go;constructor)|assumption|exact nb ‹_› ‹_›|exact nt ‹_› ‹_›))|(intro b hb;repeat first|(refine fe hb ?_;intro _ _ hb)|(refine fT hb ?_;intro hb))|refine rt ?_|refine gA rfl ?_|refine gB rfl ?_|apply cT rfl|apply cF rfl|(apply DM.gbT;rfl)|(apply DM.gbF;rfl)|intro h
          (apply AM.cond; (· rfl))
          · intro h3
            simp at h3
            obtain ⟨c, hc⟩ : ∃ c, s[i]? = some c := ⟨_, List.getElem?_eq_getElem h3⟩
            have hd : s.drop i = c :: s.drop (i + 1) := by rw [List.drop_eq_getElem_cons h3]; congr 1; rw [List.getElem?_eq_getElem h3] at hc; simpa using hc
            repeat' first|(apply Sp.go;·constructor<;>first|exact ss|(change _=_;first|(simp only[go_sem,Nat.reduceBEq,Nat.reduceAdd,Nat.reduceLeDiff,reduceIte]<;>rfl)|rfl)|exact Nat.le_of_ble_eq_true rfl|decide|(repeat' first|(apply Lk.go;constructor)|assumption|exact nb ‹_› ‹_›|exact nt ‹_› ‹_›))|(intro b hb;repeat first|(refine fe hb ?_;intro _ _ hb)|(refine fT hb ?_;intro hb))|refine rt ?_|refine gA rfl ?_|refine gB rfl ?_|apply cT rfl|apply cF rfl|(apply DM.gbT;rfl)|(apply DM.gbF;rfl)|intro h
            (apply DM.idxSs s .i64 i c (by omega) (by simpa using hc); (· rfl); (· rfl))
            repeat' first|(apply Sp.go;·constructor<;>first|exact ss|(change _=_;first|(simp only[go_sem,Nat.reduceBEq,Nat.reduceAdd,Nat.reduceLeDiff,reduceIte]<;>rfl)|rfl)|exact Nat.le_of_ble_eq_true rfl|decide|(repeat' first|(apply Lk.go;constructor)|assumption|exact nb ‹_› ‹_›|exact nt ‹_› ‹_›))|(intro b hb;repeat first|(refine fe hb ?_;intro _ _ hb)|(refine fT hb ?_;intro hb))|refine rt ?_|refine gA rfl ?_|refine gB rfl ?_|apply cT rfl|apply cF rfl|(apply DM.gbT;rfl)|(apply DM.gbF;rfl)|intro h
            (apply DM.pcs (p107 _); (· simp only [go_sem, Nat.reduceBEq, Nat.reduceAdd] <;> rfl); (· exact AVLes.refl _))
            repeat' first|(apply Sp.go;·constructor<;>first|exact ss|(change _=_;first|(simp only[go_sem,Nat.reduceBEq,Nat.reduceAdd,Nat.reduceLeDiff,reduceIte]<;>rfl)|rfl)|exact Nat.le_of_ble_eq_true rfl|decide|(repeat' first|(apply Lk.go;constructor)|assumption|exact nb ‹_› ‹_›|exact nt ‹_› ‹_›))|(intro b hb;repeat first|(refine fe hb ?_;intro _ _ hb)|(refine fT hb ?_;intro hb))|refine rt ?_|refine gA rfl ?_|refine gB rfl ?_|apply cT rfl|apply cF rfl|(apply DM.gbT;rfl)|(apply DM.gbF;rfl)|intro h
            (apply AM.cond; (· rfl))
            · intro h4
              repeat' first|(apply Sp.go;·constructor<;>first|exact ss|(change _=_;first|(simp only[go_sem,Nat.reduceBEq,Nat.reduceAdd,Nat.reduceLeDiff,reduceIte]<;>rfl)|rfl)|exact Nat.le_of_ble_eq_true rfl|decide|(repeat' first|(apply Lk.go;constructor)|assumption|exact nb ‹_› ‹_›|exact nt ‹_› ‹_›))|(intro b hb;repeat first|(refine fe hb ?_;intro _ _ hb)|(refine fT hb ?_;intro hb))|refine rt ?_|refine gA rfl ?_|refine gB rfl ?_|apply cT rfl|apply cF rfl|(apply DM.gbT;rfl)|(apply DM.gbF;rfl)|intro h
              (apply Sr.go;·constructor<;>first|(apply Lk.go;constructor<;>first|exact ss|(change _=_;first|(simp only[go_sem,Nat.reduceBEq,Nat.reduceAdd,Nat.reduceLeDiff,reduceIte]<;>rfl)|rfl)|exact Nat.le_of_ble_eq_true rfl|decide|(repeat' first|(apply Lk.go;constructor)|assumption|exact nb ‹_› ‹_›|exact nt ‹_› ‹_›))|assumption)
              refine avle_eq ?_
              simp at h4
              rw [he, hd]; simp [h4]
            · intro h4
              repeat' first|(apply Sp.go;·constructor<;>first|exact ss|(change _=_;first|(simp only[go_sem,Nat.reduceBEq,Nat.reduceAdd,Nat.reduceLeDiff,reduceIte]<;>rfl)|rfl)|exact Nat.le_of_ble_eq_true rfl|decide|(repeat' first|(apply Lk.go;constructor)|assumption|exact nb ‹_› ‹_›|exact nt ‹_› ‹_›))|(intro b hb;repeat first|(refine fe hb ?_;intro _ _ hb)|(refine fT hb ?_;intro hb))|refine rt ?_|refine gA rfl ?_|refine gB rfl ?_|apply cT rfl|apply cF rfl|(apply DM.gbT;rfl)|(apply DM.gbF;rfl)|intro h
              refine AM.roundX (i + 1) ⟨rfl, by omega, ?_⟩ ?_ ?_
              · simp at h4
                rw [he, hd]; simp [h4]
              · (repeat first | exact envle_nil _ | (refine envle_cons ?_ ?_; · (simp only [go_sem, Nat.reduceBEq, Nat.reduceAdd]; exact AVLe.refl _)))
                refine envle_cons ?_ (envle_nil _)
                simp only [Env.get, Nat.reduceBEq, cond_true, cond_false, beq_self_eq_true]
                refine avle_int ?_
                rw [wrap64 (by omega) (by unfold maxLen at hs; omega)]; omega
              · show s.length - (i + 1) < s.length - i
                omega
          · intro h3
            repeat' first|(apply Sp.go;·constructor<;>first|exact ss|(change _=_;first|(simp only[go_sem,Nat.reduceBEq,Nat.reduceAdd,Nat.reduceLeDiff,reduceIte]<;>rfl)|rfl)|exact Nat.le_of_ble_eq_true rfl|decide|(repeat' first|(apply Lk.go;constructor)|assumption|exact nb ‹_› ‹_›|exact nt ‹_› ‹_›))|(intro b hb;repeat first|(refine fe hb ?_;intro _ _ hb)|(refine fT hb ?_;intro hb))|refine rt ?_|refine gA rfl ?_|refine gB rfl ?_|apply cT rfl|apply cF rfl|(apply DM.gbT;rfl)|(apply DM.gbF;rfl)|intro h
            (apply Sr.go;·constructor<;>first|(apply Lk.go;constructor<;>first|exact ss|(change _=_;first|(simp only[go_sem,Nat.reduceBEq,Nat.reduceAdd,Nat.reduceLeDiff,reduceIte]<;>rfl)|rfl)|exact Nat.le_of_ble_eq_true rfl|decide|(repeat' first|(apply Lk.go;constructor)|assumption|exact nb ‹_› ‹_›|exact nt ‹_› ‹_›))|assumption)
            refine avle_eq ?_
            simp at h3
            rw [he, List.drop_eq_nil_of_le (by omega)]; rfl
  · (apply Sr.go;·constructor<;>first|(apply Lk.go;constructor<;>first|exact ss|(change _=_;first|(simp only[go_sem,Nat.reduceBEq,Nat.reduceAdd,Nat.reduceLeDiff,reduceIte]<;>rfl)|rfl)|exact Nat.le_of_ble_eq_true rfl|decide|(repeat' first|(apply Lk.go;constructor)|assumption|exact nb ‹_› ‹_›|exact nt ‹_› ‹_›))|assumption)
    refine avle_eq ?_
    simp at h
    cases s with
    | nil => rfl
    | cons c l =>
      simp only [isName]
      have : decide ((c :: l).length ≤ 16) = false := by simp at h ⊢; omega
      rw [this]; simp
  · (apply Sr.go;·constructor<;>first|(apply Lk.go;constructor<;>first|exact ss|(change _=_;first|(simp only[go_sem,Nat.reduceBEq,Nat.reduceAdd,Nat.reduceLeDiff,reduceIte]<;>rfl)|rfl)|exact Nat.le_of_ble_eq_true rfl|decide|(repeat' first|(apply Lk.go;constructor)|assumption|exact nb ‹_› ‹_›|exact nt ‹_› ‹_›))|assumption)
    refine avle_eq ?_
    simp at h
    subst h; rfl
/-- A pure function, called in any world. -/
theorem calls_plain {P : Program} {f : FuncId} {args : List AV} {r : AV} (h : Pure P f args r) (w : World) (vs : List Value) (ha : ∀ m, RvL m args vs) :
    Calls P f ⟨vs⟩ w fun e w' => (∃ v, e = .returned v ∧ ∃ m : Mem, Rv m r v) ∧ Below w.heap.size w w' := by
  have := h AHeap.none ⟨w, AHeap.none, fun _ => .nilFunc, 0⟩ vs rfl ⟨fun b T cs hb => by simp [AHeap.none] at hb, fun t i hi => by simp [AHeap.none] at hi⟩ (ha _)
  refine this.mono fun e w' ⟨o, H', L', T', g1, g2, g3, g4, g5⟩ => ?_
  subst g4
  simp only [RvOut] at g3
  obtain ⟨v, e1, e2⟩ := g3
  exact ⟨⟨v, e1, _, e2⟩, ⟨g2.os, g2.tape, g2.output, g2.size, fun b hb => (g2.block b hb rfl (fun t i hi => by simp [AHeap.none] at hi)).1⟩⟩
/-- A function that is pure by its calls in any world. -/
theorem pure_of_plain {P : Program} {f : FuncId} {args : List AV} {r : AV} (h : ∀ (m : Mem) (vs : List Value), RvL m args vs → Calls P f ⟨vs⟩ m.w fun e w' => ∃ v, e = .returned v ∧ (∀ m', Rv m' r v) ∧ Below m.w.heap.size m.w w') : Pure P f args r := by
  intro H m vs hH rh hv
  subst hH
  refine (h m vs hv).mono fun e w' ⟨v, e1, e2, hb⟩ => ?_
  exact ⟨.ret r, m.H, m.L, m.T, RH.hid rh hb.os hb.tape hb.output hb.size hb.block, Ev.hid hb.os hb.tape hb.output hb.size hb.block, ⟨v, e1, e2 _⟩, rfl, rfl⟩
def bad (n : Nat) : Bool := decide ((n : Int) < 32) || decide ((126 : Int) < n)
theorem p122 (n : Nat) : Pure Try.prog 122 [.int .i32 (n : Int)] (.bool (bad n)) := by
  refine pure_intro mo Try.func122 c122 fun H => ?_
  unfold e122 r122
  simp only [initEnv, initFrom]
  repeat' first|(apply Sp.go;·constructor<;>first|exact ss|(change _=_;first|(simp only[go_sem,Nat.reduceBEq,Nat.reduceAdd,Nat.reduceLeDiff,reduceIte]<;>rfl)|rfl)|exact Nat.le_of_ble_eq_true rfl|decide|(repeat' first|(apply Lk.go;constructor)|assumption|exact nb ‹_› ‹_›|exact nt ‹_› ‹_›))|(intro b hb;repeat first|(refine fe hb ?_;intro _ _ hb)|(refine fT hb ?_;intro hb))|refine rt ?_|refine gA rfl ?_|refine gB rfl ?_|apply cT rfl|apply cF rfl|(apply DM.gbT;rfl)|(apply DM.gbF;rfl)|intro h
  all_goals ((apply Sr.go;·constructor<;>first|(apply Lk.go;constructor<;>first|exact ss|(change _=_;first|(simp only[go_sem,Nat.reduceBEq,Nat.reduceAdd,Nat.reduceLeDiff,reduceIte]<;>rfl)|rfl)|exact Nat.le_of_ble_eq_true rfl|decide|(repeat' first|(apply Lk.go;constructor)|assumption|exact nb ‹_› ‹_›|exact nt ‹_› ‹_›))|assumption))
  all_goals (refine avle_eq ?_; rw [AV.bool.injEq, Bool.eq_iff_iff]; simp [bad] at *; try omega)
def idxFrom (s : ByteArray) : Nat → Nat → Int
  | 0, _ => -1
  | f + 1, pos => if pos < s.size then (if bad (Utf8.decode s pos).1 then (pos : Int) else idxFrom s f (pos + (Utf8.decode s pos).2)) else -1
theorem idxFrom_end (s : ByteArray) (f pos : Nat) (h : ¬ pos < s.size) : idxFrom s f pos = -1 := by cases f <;> simp [idxFrom, h]
theorem width_pos' (s : ByteArray) (pos : Nat) (h : pos < s.size) : 1 ≤ (Utf8.decode s pos).2 := by
  by_cases ha : (s[pos]'h).toNat < 128
  · rw [decode_ascii s pos h ha]; exact Nat.le_refl _
  · exact (decode_high s pos h (by omega)).2
open Go.Lib in
set_option maxHeartbeats 2000000 in
theorem w128 (s : ByteArray) (w : World) : Calls Try.prog 128 #[.string s, .func (.func 122) #[] #[], .bool true] w fun e w' => e = .returned (.int .i64 (idxFrom s s.size 0)) ∧ Below w.heap.size w w' := by
  have hp : ∀ (W : World) (r : Nat), Calls Try.prog 122 #[.int .i32 (r : Int)] W fun e w' => e = .returned (.bool (bad r)) ∧ Below W.heap.size W w' := by
    intro W r
    refine (calls_plain (p122 r) W [.int .i32 (r : Int)] (fun m => by simp only [RvL, Rv]; exact ⟨_, _, rfl, rfl, rfl⟩)).mono ?_
    rintro e w' ⟨⟨v, rfl, m, hv⟩, hb⟩
    simp only [Rv] at hv
    subst hv
    exact ⟨rfl, hb⟩
  go_enter Try.func128, Try.ntmps128
  go_wp2
  go_loopg [] s.size (fun gf wx => ∃ pos : Nat, wx.heap[w.heap.size]? = some (.stringIter s pos) ∧ Below w.heap.size w wx ∧ idxFrom s gf pos = idxFrom s s.size 0 ∧ s.size ≤ pos + gf)
  case atStart => exact ⟨0, World.iter_heap w s 0, (Below.refl _ w).alloc (Nat.le_refl _) _, rfl, by omega⟩
  case round =>
    obtain ⟨pos, hit, hbw, hleft, hfu⟩ := hrel
    by_cases hps : pos < s.size
    · obtain ⟨g', rfl⟩ : ∃ g', gk = g' + 1 := ⟨gk - 1, by omega⟩
      have hnx : ∀ ty, (Instr.next (.pointer (some ⟨w.heap.size, 0, none⟩)) true ty).run Try.prog wr = _ := fun ty => Lib.run_next_any_at wr w.heap.size s pos ty hit hps
      have hwd := width_pos' s pos hps
      obtain ⟨R, hR⟩ : ∃ R, (Utf8.decode s pos).1 = R := ⟨_, rfl⟩
      obtain ⟨K, hK⟩ : ∃ K, (Utf8.decode s pos).2 = K := ⟨_, rfl⟩
      simp only [idxFrom, hps, if_true, hR, hK] at hleft
      rw [hR, hK] at hnx
      rw [hK] at hwd
      have hit2 := Lib.iterAt_heap wr w.heap.size s pos (pos + K) hit
      have hbw2 := Lib.below_iterAt hbw (k := w.heap.size) (Nat.le_refl _) s (pos + K)
      obtain ⟨W, hWd⟩ : ∃ W, wr.iterAt w.heap.size s (pos + K) = W := ⟨_, rfl⟩
      rw [hWd] at hnx hit2 hbw2
      have cS := hp W R
      clear hp
      have hlt : w.heap.size < W.heap.size := (Array.getElem?_eq_some_iff.1 hit2).1
      cases hsp : bad R <;> rw [hsp] at cS <;> simp only [hsp, if_true, Bool.false_eq_true, if_false] at hleft
      · go_wp2_with (refine cS.mono ?_; rintro e W' ⟨rfl, q⟩)
        go_roundg g'
        case measure => omega
        case rel => exact ⟨pos + K, (q.block _ hlt).trans hit2, hbw2.trans (q.mono (by omega)), hleft, by omega⟩
      · go_wp2_with (refine cS.mono ?_; rintro e W' ⟨rfl, q⟩)
        go_ret
        exact ⟨by rw [← hleft] <;> rfl, hbw2.trans (q.mono (by omega))⟩
    · have hnx : ∀ ty, (Instr.next (.pointer (some ⟨w.heap.size, 0, none⟩)) true ty).run Try.prog wr = _ := fun ty => Lib.run_next_end_at wr w.heap.size s pos ty hit hps
      rw [idxFrom_end s gk pos hps] at hleft
      go_wp2
      go_ret
      exact ⟨by rw [← hleft] <;> rfl, hbw⟩
def okc (b : UInt8) : Bool := decide (32 ≤ b.toNat) && decide (b.toNat ≤ 126)
theorem idx_ok (bs : ByteArray) : ∀ (f pos : Nat), bs.size ≤ pos + f → decide (0 ≤ idxFrom bs f pos) = !((bs.data.toList.drop pos).all okc)
  | 0, pos, h => by
    have : bs.data.toList.drop pos = [] := List.drop_eq_nil_of_le (by rw [Array.length_toList]; exact (by omega : bs.size ≤ pos))
    simp [idxFrom, this]
  | f + 1, pos, h => by
    by_cases hp : pos < bs.size
    · have hd : bs.data.toList.drop pos = bs[pos] :: bs.data.toList.drop (pos + 1) := by
        rw [List.drop_eq_getElem_cons (by rw [Array.length_toList]; exact hp)]
        rfl
      simp only [idxFrom, hp, if_true, hd, List.all_cons]
      by_cases ha : (bs[pos]'hp).toNat < 128
      · rw [decode_ascii bs pos hp ha]
        have ih := idx_ok bs f (pos + 1) (by omega)
        by_cases hb : okc bs[pos] = true
        · have : bad (bs[pos]).toNat = false := by simp [okc] at hb; simp [bad]; omega
          simp only [this, hb, Bool.true_and, Bool.false_eq_true, if_false]
          exact ih
        · have : bad (bs[pos]).toNat = true := by simp [okc] at hb; simp [bad]; omega
          have hb' : okc bs[pos] = false := by simpa using hb
          simp [this, hb']
      · have hh := (decode_high bs pos hp (by omega)).1
        have : bad (Utf8.decode bs pos).1 = true := by simp [bad]; omega
        have hb' : okc bs[pos] = false := by simp [okc]; omega
        simp [this, hb']
    · have : bs.data.toList.drop pos = [] := List.drop_eq_nil_of_le (by rw [Array.length_toList]; exact (by omega : bs.size ≤ pos))
      simp [idxFrom, hp, this]
def idxBad (s : List UInt8) : Int := idxFrom ⟨⟨s⟩⟩ s.length 0
theorem idxBad_ok (s : List UInt8) : decide (0 ≤ idxBad s) = !(s.all okc) := by
  have := idx_ok ⟨⟨s⟩⟩ s.length 0 (by show s.length ≤ 0 + s.length; omega)
  exact this
theorem p128 (s : List UInt8) : Pure Try.prog 128 [.str s, .fn 122 [], .bool true] (.int .i64 (idxBad s)) := by
  refine pure_of_plain fun m vs hv => ?_
  simp only [RvL, Rv] at hv
  obtain ⟨_, _, rfl, ⟨rfl, _⟩, _, _, rfl, ⟨l, rfl, rfl⟩, _, _, rfl, rfl, rfl⟩ := hv
  refine (w128 ⟨⟨s⟩⟩ m.w).mono ?_
  rintro e w' ⟨rfl, hb⟩
  exact ⟨_, rfl, fun m' => by simp only [Rv]; rfl, hb⟩
theorem p126 (s : List UInt8) : Pure Try.prog 126 [.str s, .fn 122 []] (.int .i64 (idxBad s)) := by
  refine pure_intro mo Try.func126 c126 fun H => ?_
  unfold e126 r126
  simp only [initEnv, initFrom]
  repeat' first|(apply Sp.go;·constructor<;>first|exact ss|(change _=_;first|(simp only[go_sem,Nat.reduceBEq,Nat.reduceAdd,Nat.reduceLeDiff,reduceIte]<;>rfl)|rfl)|exact Nat.le_of_ble_eq_true rfl|decide|(repeat' first|(apply Lk.go;constructor)|assumption|exact nb ‹_› ‹_›|exact nt ‹_› ‹_›))|(intro b hb;repeat first|(refine fe hb ?_;intro _ _ hb)|(refine fT hb ?_;intro hb))|refine rt ?_|refine gA rfl ?_|refine gB rfl ?_|apply cT rfl|apply cF rfl|(apply DM.gbT;rfl)|(apply DM.gbF;rfl)|intro h
  (apply DM.pcs (p128 _); (· simp only [go_sem, Nat.reduceBEq, Nat.reduceAdd] <;> rfl); (· exact AVLes.refl _))
  repeat' first|(apply Sp.go;·constructor<;>first|exact ss|(change _=_;first|(simp only[go_sem,Nat.reduceBEq,Nat.reduceAdd,Nat.reduceLeDiff,reduceIte]<;>rfl)|rfl)|exact Nat.le_of_ble_eq_true rfl|decide|(repeat' first|(apply Lk.go;constructor)|assumption|exact nb ‹_› ‹_›|exact nt ‹_› ‹_›))|(intro b hb;repeat first|(refine fe hb ?_;intro _ _ hb)|(refine fT hb ?_;intro hb))|refine rt ?_|refine gA rfl ?_|refine gB rfl ?_|apply cT rfl|apply cF rfl|(apply DM.gbT;rfl)|(apply DM.gbF;rfl)|intro h
  (apply Sr.go;·constructor<;>first|(apply Lk.go;constructor<;>first|exact ss|(change _=_;first|(simp only[go_sem,Nat.reduceBEq,Nat.reduceAdd,Nat.reduceLeDiff,reduceIte]<;>rfl)|rfl)|exact Nat.le_of_ble_eq_true rfl|decide|(repeat' first|(apply Lk.go;constructor)|assumption|exact nb ‹_› ‹_›|exact nt ‹_› ‹_›))|assumption)
  exact AVLe.refl _
theorem p121 (s : List UInt8) : Pure Try.prog 121 [.str s, .fn 122 []] (.bool (!(s.all okc))) := by
  refine pure_intro mo Try.func121 c121 fun H => ?_
  unfold e121 r121
  simp only [initEnv, initFrom]
  repeat' first|(apply Sp.go;·constructor<;>first|exact ss|(change _=_;first|(simp only[go_sem,Nat.reduceBEq,Nat.reduceAdd,Nat.reduceLeDiff,reduceIte]<;>rfl)|rfl)|exact Nat.le_of_ble_eq_true rfl|decide|(repeat' first|(apply Lk.go;constructor)|assumption|exact nb ‹_› ‹_›|exact nt ‹_› ‹_›))|(intro b hb;repeat first|(refine fe hb ?_;intro _ _ hb)|(refine fT hb ?_;intro hb))|refine rt ?_|refine gA rfl ?_|refine gB rfl ?_|apply cT rfl|apply cF rfl|(apply DM.gbT;rfl)|(apply DM.gbF;rfl)|intro h
  (apply DM.pcs (p126 _); (· simp only [go_sem, Nat.reduceBEq, Nat.reduceAdd] <;> rfl); (· exact AVLes.refl _))
  repeat' first|(apply Sp.go;·constructor<;>first|exact ss|(change _=_;first|(simp only[go_sem,Nat.reduceBEq,Nat.reduceAdd,Nat.reduceLeDiff,reduceIte]<;>rfl)|rfl)|exact Nat.le_of_ble_eq_true rfl|decide|(repeat' first|(apply Lk.go;constructor)|assumption|exact nb ‹_› ‹_›|exact nt ‹_› ‹_›))|(intro b hb;repeat first|(refine fe hb ?_;intro _ _ hb)|(refine fT hb ?_;intro hb))|refine rt ?_|refine gA rfl ?_|refine gB rfl ?_|apply cT rfl|apply cF rfl|(apply DM.gbT;rfl)|(apply DM.gbF;rfl)|intro h
  (apply Sr.go;·constructor<;>first|(apply Lk.go;constructor<;>first|exact ss|(change _=_;first|(simp only[go_sem,Nat.reduceBEq,Nat.reduceAdd,Nat.reduceLeDiff,reduceIte]<;>rfl)|rfl)|exact Nat.le_of_ble_eq_true rfl|decide|(repeat' first|(apply Lk.go;constructor)|assumption|exact nb ‹_› ‹_›|exact nt ‹_› ‹_›))|assumption)
  rw [idxBad_ok]
  exact AVLe.refl _
def printable (s : List UInt8) : Bool := s.all okc
theorem p85 (s : List UInt8) : Pure Try.prog 85 [.str s] (.bool (printable s)) := by
  refine pure_intro mo Try.func85 c85 fun H => ?_
  unfold e85 r85
  simp only [initEnv, initFrom]
  repeat' first|(apply Sp.go;·constructor<;>first|exact ss|(change _=_;first|(simp only[go_sem,Nat.reduceBEq,Nat.reduceAdd,Nat.reduceLeDiff,reduceIte]<;>rfl)|rfl)|exact Nat.le_of_ble_eq_true rfl|decide|(repeat' first|(apply Lk.go;constructor)|assumption|exact nb ‹_› ‹_›|exact nt ‹_› ‹_›))|(intro b hb;repeat first|(refine fe hb ?_;intro _ _ hb)|(refine fT hb ?_;intro hb))|refine rt ?_|refine gA rfl ?_|refine gB rfl ?_|apply cT rfl|apply cF rfl|(apply DM.gbT;rfl)|(apply DM.gbF;rfl)|intro h
  (apply DM.pcs (p121 _); (· simp only [go_sem, Nat.reduceBEq, Nat.reduceAdd] <;> rfl); (· exact AVLes.refl _))
  repeat' first|(apply Sp.go;·constructor<;>first|exact ss|(change _=_;first|(simp only[go_sem,Nat.reduceBEq,Nat.reduceAdd,Nat.reduceLeDiff,reduceIte]<;>rfl)|rfl)|exact Nat.le_of_ble_eq_true rfl|decide|(repeat' first|(apply Lk.go;constructor)|assumption|exact nb ‹_› ‹_›|exact nt ‹_› ‹_›))|(intro b hb;repeat first|(refine fe hb ?_;intro _ _ hb)|(refine fT hb ?_;intro hb))|refine rt ?_|refine gA rfl ?_|refine gB rfl ?_|apply cT rfl|apply cF rfl|(apply DM.gbT;rfl)|(apply DM.gbF;rfl)|intro h
  (apply Sr.go;·constructor<;>first|(apply Lk.go;constructor<;>first|exact ss|(change _=_;first|(simp only[go_sem,Nat.reduceBEq,Nat.reduceAdd,Nat.reduceLeDiff,reduceIte]<;>rfl)|rfl)|exact Nat.le_of_ble_eq_true rfl|decide|(repeat' first|(apply Lk.go;constructor)|assumption|exact nb ‹_› ‹_›|exact nt ‹_› ‹_›))|assumption)
  rw [Bool.not_not]
  exact AVLe.refl _
def validV (v : Val) : Bool := (decide (v.k = 1) && decide (-1000 ≤ v.n) && decide (v.n ≤ 1000) && decide (v.s = [])) || (decide (v.k = 2) && decide (v.n = 0) && decide (v.s.length ≤ 40) && printable v.s)
theorem p55 (v : Val) : Pure Try.prog 55 [v.av] (.bool (validV v)) := by
  refine pure_intro mo Try.func55 c55 fun H => ?_
  unfold e55 r55
  simp only [initEnv, initFrom]
  repeat' first|(apply Sp.go;·constructor<;>first|exact ss|(change _=_;first|(simp only[go_sem,Nat.reduceBEq,Nat.reduceAdd,Nat.reduceLeDiff,reduceIte]<;>rfl)|rfl)|exact Nat.le_of_ble_eq_true rfl|decide|(repeat' first|(apply Lk.go;constructor)|assumption|exact nb ‹_› ‹_›|exact nt ‹_› ‹_›))|(intro b hb;repeat first|(refine fe hb ?_;intro _ _ hb)|(refine fT hb ?_;intro hb))|refine rt ?_|refine gA rfl ?_|refine gB rfl ?_|apply cT rfl|apply cF rfl|(apply DM.gbT;rfl)|(apply DM.gbF;rfl)|intro h
  (apply AM.cond; (· rfl))
  · intro h1
    repeat' first|(apply Sp.go;·constructor<;>first|exact ss|(change _=_;first|(simp only[go_sem,Nat.reduceBEq,Nat.reduceAdd,Nat.reduceLeDiff,reduceIte]<;>rfl)|rfl)|exact Nat.le_of_ble_eq_true rfl|decide|(repeat' first|(apply Lk.go;constructor)|assumption|exact nb ‹_› ‹_›|exact nt ‹_› ‹_›))|(intro b hb;repeat first|(refine fe hb ?_;intro _ _ hb)|(refine fT hb ?_;intro hb))|refine rt ?_|refine gA rfl ?_|refine gB rfl ?_|apply cT rfl|apply cF rfl|(apply DM.gbT;rfl)|(apply DM.gbF;rfl)|intro h
    all_goals ((apply Sr.go;·constructor<;>first|(apply Lk.go;constructor<;>first|exact ss|(change _=_;first|(simp only[go_sem,Nat.reduceBEq,Nat.reduceAdd,Nat.reduceLeDiff,reduceIte]<;>rfl)|rfl)|exact Nat.le_of_ble_eq_true rfl|decide|(repeat' first|(apply Lk.go;constructor)|assumption|exact nb ‹_› ‹_›|exact nt ‹_› ‹_›))|assumption))
    all_goals (refine avle_eq ?_; rw [AV.bool.injEq]; simp [validV] at *; try (simp [*]; done))
    all_goals (simp [*]; try omega)
  · intro h1
    repeat' first|(apply Sp.go;·constructor<;>first|exact ss|(change _=_;first|(simp only[go_sem,Nat.reduceBEq,Nat.reduceAdd,Nat.reduceLeDiff,reduceIte]<;>rfl)|rfl)|exact Nat.le_of_ble_eq_true rfl|decide|(repeat' first|(apply Lk.go;constructor)|assumption|exact nb ‹_› ‹_›|exact nt ‹_› ‹_›))|(intro b hb;repeat first|(refine fe hb ?_;intro _ _ hb)|(refine fT hb ?_;intro hb))|refine rt ?_|refine gA rfl ?_|refine gB rfl ?_|apply cT rfl|apply cF rfl|(apply DM.gbT;rfl)|(apply DM.gbF;rfl)|intro h
    (apply AM.cond; (· rfl))
    · intro h2
      repeat' first|(apply Sp.go;·constructor<;>first|exact ss|(change _=_;first|(simp only[go_sem,Nat.reduceBEq,Nat.reduceAdd,Nat.reduceLeDiff,reduceIte]<;>rfl)|rfl)|exact Nat.le_of_ble_eq_true rfl|decide|(repeat' first|(apply Lk.go;constructor)|assumption|exact nb ‹_› ‹_›|exact nt ‹_› ‹_›))|(intro b hb;repeat first|(refine fe hb ?_;intro _ _ hb)|(refine fT hb ?_;intro hb))|refine rt ?_|refine gA rfl ?_|refine gB rfl ?_|apply cT rfl|apply cF rfl|(apply DM.gbT;rfl)|(apply DM.gbF;rfl)|intro h
      · (apply DM.pcs (p85 _); (· simp only [go_sem, Nat.reduceBEq, Nat.reduceAdd] <;> rfl); (· exact AVLes.refl _))
        repeat' first|(apply Sp.go;·constructor<;>first|exact ss|(change _=_;first|(simp only[go_sem,Nat.reduceBEq,Nat.reduceAdd,Nat.reduceLeDiff,reduceIte]<;>rfl)|rfl)|exact Nat.le_of_ble_eq_true rfl|decide|(repeat' first|(apply Lk.go;constructor)|assumption|exact nb ‹_› ‹_›|exact nt ‹_› ‹_›))|(intro b hb;repeat first|(refine fe hb ?_;intro _ _ hb)|(refine fT hb ?_;intro hb))|refine rt ?_|refine gA rfl ?_|refine gB rfl ?_|apply cT rfl|apply cF rfl|(apply DM.gbT;rfl)|(apply DM.gbF;rfl)|intro h
        (apply Sr.go;·constructor<;>first|(apply Lk.go;constructor<;>first|exact ss|(change _=_;first|(simp only[go_sem,Nat.reduceBEq,Nat.reduceAdd,Nat.reduceLeDiff,reduceIte]<;>rfl)|rfl)|exact Nat.le_of_ble_eq_true rfl|decide|(repeat' first|(apply Lk.go;constructor)|assumption|exact nb ‹_› ‹_›|exact nt ‹_› ‹_›))|assumption)
        refine avle_eq ?_; rw [AV.bool.injEq]; simp [validV] at *; simp [*]
        omega
      all_goals ((apply Sr.go;·constructor<;>first|(apply Lk.go;constructor<;>first|exact ss|(change _=_;first|(simp only[go_sem,Nat.reduceBEq,Nat.reduceAdd,Nat.reduceLeDiff,reduceIte]<;>rfl)|rfl)|exact Nat.le_of_ble_eq_true rfl|decide|(repeat' first|(apply Lk.go;constructor)|assumption|exact nb ‹_› ‹_›|exact nt ‹_› ‹_›))|assumption))
      all_goals (refine avle_eq ?_; rw [AV.bool.injEq]; simp [validV] at *; try (simp [*]; done))
      all_goals (simp [*]; try omega)
    · intro h2
      repeat' first|(apply Sp.go;·constructor<;>first|exact ss|(change _=_;first|(simp only[go_sem,Nat.reduceBEq,Nat.reduceAdd,Nat.reduceLeDiff,reduceIte]<;>rfl)|rfl)|exact Nat.le_of_ble_eq_true rfl|decide|(repeat' first|(apply Lk.go;constructor)|assumption|exact nb ‹_› ‹_›|exact nt ‹_› ‹_›))|(intro b hb;repeat first|(refine fe hb ?_;intro _ _ hb)|(refine fT hb ?_;intro hb))|refine rt ?_|refine gA rfl ?_|refine gB rfl ?_|apply cT rfl|apply cF rfl|(apply DM.gbT;rfl)|(apply DM.gbF;rfl)|intro h
      (apply Sr.go;·constructor<;>first|(apply Lk.go;constructor<;>first|exact ss|(change _=_;first|(simp only[go_sem,Nat.reduceBEq,Nat.reduceAdd,Nat.reduceLeDiff,reduceIte]<;>rfl)|rfl)|exact Nat.le_of_ble_eq_true rfl|decide|(repeat' first|(apply Lk.go;constructor)|assumption|exact nb ‹_› ‹_›|exact nt ‹_› ‹_›))|assumption)
      refine avle_eq ?_; rw [AV.bool.injEq]; simp [validV] at *; simp [*]
def numberV (v : Val) : Int := if v.k = 1 then v.n else if v.k = 2 then v.s.length else 0
theorem p96 (v : Val) : Pure Try.prog 96 [v.av] (.int .i64 (numberV v)) := by
  refine pure_intro mo Try.func96 c96 fun H => ?_
  unfold e96 r96
  simp only [initEnv, initFrom]
  repeat' first|(apply Sp.go;·constructor<;>first|exact ss|(change _=_;first|(simp only[go_sem,Nat.reduceBEq,Nat.reduceAdd,Nat.reduceLeDiff,reduceIte]<;>rfl)|rfl)|exact Nat.le_of_ble_eq_true rfl|decide|(repeat' first|(apply Lk.go;constructor)|assumption|exact nb ‹_› ‹_›|exact nt ‹_› ‹_›))|(intro b hb;repeat first|(refine fe hb ?_;intro _ _ hb)|(refine fT hb ?_;intro hb))|refine rt ?_|refine gA rfl ?_|refine gB rfl ?_|apply cT rfl|apply cF rfl|(apply DM.gbT;rfl)|(apply DM.gbF;rfl)|intro h
  (apply AM.cond; (· rfl))
  · intro h1
    repeat' first|(apply Sp.go;·constructor<;>first|exact ss|(change _=_;first|(simp only[go_sem,Nat.reduceBEq,Nat.reduceAdd,Nat.reduceLeDiff,reduceIte]<;>rfl)|rfl)|exact Nat.le_of_ble_eq_true rfl|decide|(repeat' first|(apply Lk.go;constructor)|assumption|exact nb ‹_› ‹_›|exact nt ‹_› ‹_›))|(intro b hb;repeat first|(refine fe hb ?_;intro _ _ hb)|(refine fT hb ?_;intro hb))|refine rt ?_|refine gA rfl ?_|refine gB rfl ?_|apply cT rfl|apply cF rfl|(apply DM.gbT;rfl)|(apply DM.gbF;rfl)|intro h
    (apply Sr.go;·constructor<;>first|(apply Lk.go;constructor<;>first|exact ss|(change _=_;first|(simp only[go_sem,Nat.reduceBEq,Nat.reduceAdd,Nat.reduceLeDiff,reduceIte]<;>rfl)|rfl)|exact Nat.le_of_ble_eq_true rfl|decide|(repeat' first|(apply Lk.go;constructor)|assumption|exact nb ‹_› ‹_›|exact nt ‹_› ‹_›))|assumption)
    refine avle_int ?_; simp [numberV] at *; simp [*]
  · intro h1
    repeat' first|(apply Sp.go;·constructor<;>first|exact ss|(change _=_;first|(simp only[go_sem,Nat.reduceBEq,Nat.reduceAdd,Nat.reduceLeDiff,reduceIte]<;>rfl)|rfl)|exact Nat.le_of_ble_eq_true rfl|decide|(repeat' first|(apply Lk.go;constructor)|assumption|exact nb ‹_› ‹_›|exact nt ‹_› ‹_›))|(intro b hb;repeat first|(refine fe hb ?_;intro _ _ hb)|(refine fT hb ?_;intro hb))|refine rt ?_|refine gA rfl ?_|refine gB rfl ?_|apply cT rfl|apply cF rfl|(apply DM.gbT;rfl)|(apply DM.gbF;rfl)|intro h
    (apply AM.cond; (· rfl))
    · intro h2
      repeat' first|(apply Sp.go;·constructor<;>first|exact ss|(change _=_;first|(simp only[go_sem,Nat.reduceBEq,Nat.reduceAdd,Nat.reduceLeDiff,reduceIte]<;>rfl)|rfl)|exact Nat.le_of_ble_eq_true rfl|decide|(repeat' first|(apply Lk.go;constructor)|assumption|exact nb ‹_› ‹_›|exact nt ‹_› ‹_›))|(intro b hb;repeat first|(refine fe hb ?_;intro _ _ hb)|(refine fT hb ?_;intro hb))|refine rt ?_|refine gA rfl ?_|refine gB rfl ?_|apply cT rfl|apply cF rfl|(apply DM.gbT;rfl)|(apply DM.gbF;rfl)|intro h
      (apply Sr.go;·constructor<;>first|(apply Lk.go;constructor<;>first|exact ss|(change _=_;first|(simp only[go_sem,Nat.reduceBEq,Nat.reduceAdd,Nat.reduceLeDiff,reduceIte]<;>rfl)|rfl)|exact Nat.le_of_ble_eq_true rfl|decide|(repeat' first|(apply Lk.go;constructor)|assumption|exact nb ‹_› ‹_›|exact nt ‹_› ‹_›))|assumption)
      refine avle_int ?_; simp [numberV] at *; simp [*]
    · intro h2
      repeat' first|(apply Sp.go;·constructor<;>first|exact ss|(change _=_;first|(simp only[go_sem,Nat.reduceBEq,Nat.reduceAdd,Nat.reduceLeDiff,reduceIte]<;>rfl)|rfl)|exact Nat.le_of_ble_eq_true rfl|decide|(repeat' first|(apply Lk.go;constructor)|assumption|exact nb ‹_› ‹_›|exact nt ‹_› ‹_›))|(intro b hb;repeat first|(refine fe hb ?_;intro _ _ hb)|(refine fT hb ?_;intro hb))|refine rt ?_|refine gA rfl ?_|refine gB rfl ?_|apply cT rfl|apply cF rfl|(apply DM.gbT;rfl)|(apply DM.gbF;rfl)|intro h
      (apply Sr.go;·constructor<;>first|(apply Lk.go;constructor<;>first|exact ss|(change _=_;first|(simp only[go_sem,Nat.reduceBEq,Nat.reduceAdd,Nat.reduceLeDiff,reduceIte]<;>rfl)|rfl)|exact Nat.le_of_ble_eq_true rfl|decide|(repeat' first|(apply Lk.go;constructor)|assumption|exact nb ‹_› ‹_›|exact nt ‹_› ‹_›))|assumption)
      refine avle_int ?_; simp [numberV] at *; simp [*]
structure Sort_ where
  k : Int
  lo : Int
  hi : Int
abbrev Sort_.row (v : Sort_) : List AV := [.int .i64 v.k, .int .i64 v.lo, .int .i64 v.hi]
abbrev Sort_.av (v : Sort_) : AV := .agg [.int .i64 v.k, .int .i64 v.lo, .int .i64 v.hi]
def validS (s : Sort_) : Bool := (decide (s.k = 1) && decide (-1000 ≤ s.lo) && decide (s.lo ≤ s.hi) && decide (s.hi ≤ 1000)) || (decide (s.k = 2) && decide (0 ≤ s.lo) && decide (s.lo ≤ s.hi) && decide (s.hi ≤ 40))
theorem p97 (s : Sort_) : Pure Try.prog 97 [s.av] (.bool (validS s)) := by
  refine pure_intro mo Try.func97 c97 fun H => ?_
  unfold e97 r97
  simp only [initEnv, initFrom]
  repeat' first|(apply Sp.go;·constructor<;>first|exact ss|(change _=_;first|(simp only[go_sem,Nat.reduceBEq,Nat.reduceAdd,Nat.reduceLeDiff,reduceIte]<;>rfl)|rfl)|exact Nat.le_of_ble_eq_true rfl|decide|(repeat' first|(apply Lk.go;constructor)|assumption|exact nb ‹_› ‹_›|exact nt ‹_› ‹_›))|(intro b hb;repeat first|(refine fe hb ?_;intro _ _ hb)|(refine fT hb ?_;intro hb))|refine rt ?_|refine gA rfl ?_|refine gB rfl ?_|apply cT rfl|apply cF rfl|(apply DM.gbT;rfl)|(apply DM.gbF;rfl)|intro h
  (apply AM.cond; (· rfl))
  · intro h1
    repeat' first|(apply Sp.go;·constructor<;>first|exact ss|(change _=_;first|(simp only[go_sem,Nat.reduceBEq,Nat.reduceAdd,Nat.reduceLeDiff,reduceIte]<;>rfl)|rfl)|exact Nat.le_of_ble_eq_true rfl|decide|(repeat' first|(apply Lk.go;constructor)|assumption|exact nb ‹_› ‹_›|exact nt ‹_› ‹_›))|(intro b hb;repeat first|(refine fe hb ?_;intro _ _ hb)|(refine fT hb ?_;intro hb))|refine rt ?_|refine gA rfl ?_|refine gB rfl ?_|apply cT rfl|apply cF rfl|(apply DM.gbT;rfl)|(apply DM.gbF;rfl)|intro h
    all_goals ((apply Sr.go;·constructor<;>first|(apply Lk.go;constructor<;>first|exact ss|(change _=_;first|(simp only[go_sem,Nat.reduceBEq,Nat.reduceAdd,Nat.reduceLeDiff,reduceIte]<;>rfl)|rfl)|exact Nat.le_of_ble_eq_true rfl|decide|(repeat' first|(apply Lk.go;constructor)|assumption|exact nb ‹_› ‹_›|exact nt ‹_› ‹_›))|assumption))
    all_goals (refine avle_eq ?_; rw [AV.bool.injEq]; simp [validS] at *; try (simp [*]; done))
    all_goals (simp [*]; try omega)
  · intro h1
    repeat' first|(apply Sp.go;·constructor<;>first|exact ss|(change _=_;first|(simp only[go_sem,Nat.reduceBEq,Nat.reduceAdd,Nat.reduceLeDiff,reduceIte]<;>rfl)|rfl)|exact Nat.le_of_ble_eq_true rfl|decide|(repeat' first|(apply Lk.go;constructor)|assumption|exact nb ‹_› ‹_›|exact nt ‹_› ‹_›))|(intro b hb;repeat first|(refine fe hb ?_;intro _ _ hb)|(refine fT hb ?_;intro hb))|refine rt ?_|refine gA rfl ?_|refine gB rfl ?_|apply cT rfl|apply cF rfl|(apply DM.gbT;rfl)|(apply DM.gbF;rfl)|intro h
    (apply AM.cond; (· rfl))
    · intro h2
      repeat' first|(apply Sp.go;·constructor<;>first|exact ss|(change _=_;first|(simp only[go_sem,Nat.reduceBEq,Nat.reduceAdd,Nat.reduceLeDiff,reduceIte]<;>rfl)|rfl)|exact Nat.le_of_ble_eq_true rfl|decide|(repeat' first|(apply Lk.go;constructor)|assumption|exact nb ‹_› ‹_›|exact nt ‹_› ‹_›))|(intro b hb;repeat first|(refine fe hb ?_;intro _ _ hb)|(refine fT hb ?_;intro hb))|refine rt ?_|refine gA rfl ?_|refine gB rfl ?_|apply cT rfl|apply cF rfl|(apply DM.gbT;rfl)|(apply DM.gbF;rfl)|intro h
      all_goals ((apply Sr.go;·constructor<;>first|(apply Lk.go;constructor<;>first|exact ss|(change _=_;first|(simp only[go_sem,Nat.reduceBEq,Nat.reduceAdd,Nat.reduceLeDiff,reduceIte]<;>rfl)|rfl)|exact Nat.le_of_ble_eq_true rfl|decide|(repeat' first|(apply Lk.go;constructor)|assumption|exact nb ‹_› ‹_›|exact nt ‹_› ‹_›))|assumption))
      all_goals (refine avle_eq ?_; rw [AV.bool.injEq]; simp [validS] at *; try (simp [*]; done))
      all_goals (simp [*]; try omega)
    · intro h2
      repeat' first|(apply Sp.go;·constructor<;>first|exact ss|(change _=_;first|(simp only[go_sem,Nat.reduceBEq,Nat.reduceAdd,Nat.reduceLeDiff,reduceIte]<;>rfl)|rfl)|exact Nat.le_of_ble_eq_true rfl|decide|(repeat' first|(apply Lk.go;constructor)|assumption|exact nb ‹_› ‹_›|exact nt ‹_› ‹_›))|(intro b hb;repeat first|(refine fe hb ?_;intro _ _ hb)|(refine fT hb ?_;intro hb))|refine rt ?_|refine gA rfl ?_|refine gB rfl ?_|apply cT rfl|apply cF rfl|(apply DM.gbT;rfl)|(apply DM.gbF;rfl)|intro h
      (apply Sr.go;·constructor<;>first|(apply Lk.go;constructor<;>first|exact ss|(change _=_;first|(simp only[go_sem,Nat.reduceBEq,Nat.reduceAdd,Nat.reduceLeDiff,reduceIte]<;>rfl)|rfl)|exact Nat.le_of_ble_eq_true rfl|decide|(repeat' first|(apply Lk.go;constructor)|assumption|exact nb ‹_› ‹_›|exact nt ‹_› ‹_›))|assumption)
      refine avle_eq ?_; rw [AV.bool.injEq]; simp [validS] at *; simp [*]
def fitsV (s : Sort_) (v : Val) : Bool := validS s && validV v && decide (s.k = v.k) && decide (s.lo ≤ numberV v) && decide (numberV v ≤ s.hi)
theorem p61 (s : Sort_) (v : Val) : Pure Try.prog 61 [s.av, v.av] (.bool (fitsV s v)) := by
  refine pure_intro mo Try.func61 c61 fun H => ?_
  unfold e61 r61
  simp only [initEnv, initFrom]
  repeat' first|(apply Sp.go;·constructor<;>first|exact ss|(change _=_;first|(simp only[go_sem,Nat.reduceBEq,Nat.reduceAdd,Nat.reduceLeDiff,reduceIte]<;>rfl)|rfl)|exact Nat.le_of_ble_eq_true rfl|decide|(repeat' first|(apply Lk.go;constructor)|assumption|exact nb ‹_› ‹_›|exact nt ‹_› ‹_›))|(intro b hb;repeat first|(refine fe hb ?_;intro _ _ hb)|(refine fT hb ?_;intro hb))|refine rt ?_|refine gA rfl ?_|refine gB rfl ?_|apply cT rfl|apply cF rfl|(apply DM.gbT;rfl)|(apply DM.gbF;rfl)|intro h
  (apply DM.pcs (p96 v); (· simp only [go_sem, Nat.reduceBEq, Nat.reduceAdd] <;> rfl); (· exact AVLes.refl _))
  repeat' first|(apply Sp.go;·constructor<;>first|exact ss|(change _=_;first|(simp only[go_sem,Nat.reduceBEq,Nat.reduceAdd,Nat.reduceLeDiff,reduceIte]<;>rfl)|rfl)|exact Nat.le_of_ble_eq_true rfl|decide|(repeat' first|(apply Lk.go;constructor)|assumption|exact nb ‹_› ‹_›|exact nt ‹_› ‹_›))|(intro b hb;repeat first|(refine fe hb ?_;intro _ _ hb)|(refine fT hb ?_;intro hb))|refine rt ?_|refine gA rfl ?_|refine gB rfl ?_|apply cT rfl|apply cF rfl|(apply DM.gbT;rfl)|(apply DM.gbF;rfl)|intro h
  (apply DM.pcs (p97 s); (· simp only [go_sem, Nat.reduceBEq, Nat.reduceAdd] <;> rfl); (· exact AVLes.refl _))
  repeat' first|(apply Sp.go;·constructor<;>first|exact ss|(change _=_;first|(simp only[go_sem,Nat.reduceBEq,Nat.reduceAdd,Nat.reduceLeDiff,reduceIte]<;>rfl)|rfl)|exact Nat.le_of_ble_eq_true rfl|decide|(repeat' first|(apply Lk.go;constructor)|assumption|exact nb ‹_› ‹_›|exact nt ‹_› ‹_›))|(intro b hb;repeat first|(refine fe hb ?_;intro _ _ hb)|(refine fT hb ?_;intro hb))|refine rt ?_|refine gA rfl ?_|refine gB rfl ?_|apply cT rfl|apply cF rfl|(apply DM.gbT;rfl)|(apply DM.gbF;rfl)|intro h
  · (apply DM.pcs (p55 v); (· simp only [go_sem, Nat.reduceBEq, Nat.reduceAdd] <;> rfl); (· exact AVLes.refl _))
    repeat' first|(apply Sp.go;·constructor<;>first|exact ss|(change _=_;first|(simp only[go_sem,Nat.reduceBEq,Nat.reduceAdd,Nat.reduceLeDiff,reduceIte]<;>rfl)|rfl)|exact Nat.le_of_ble_eq_true rfl|decide|(repeat' first|(apply Lk.go;constructor)|assumption|exact nb ‹_› ‹_›|exact nt ‹_› ‹_›))|(intro b hb;repeat first|(refine fe hb ?_;intro _ _ hb)|(refine fT hb ?_;intro hb))|refine rt ?_|refine gA rfl ?_|refine gB rfl ?_|apply cT rfl|apply cF rfl|(apply DM.gbT;rfl)|(apply DM.gbF;rfl)|intro h
    all_goals ((apply Sr.go;·constructor<;>first|(apply Lk.go;constructor<;>first|exact ss|(change _=_;first|(simp only[go_sem,Nat.reduceBEq,Nat.reduceAdd,Nat.reduceLeDiff,reduceIte]<;>rfl)|rfl)|exact Nat.le_of_ble_eq_true rfl|decide|(repeat' first|(apply Lk.go;constructor)|assumption|exact nb ‹_› ‹_›|exact nt ‹_› ‹_›))|assumption))
    all_goals (refine avle_eq ?_; rw [AV.bool.injEq]; simp [fitsV] at *; simp [*]; try omega)
  · (apply Sr.go;·constructor<;>first|(apply Lk.go;constructor<;>first|exact ss|(change _=_;first|(simp only[go_sem,Nat.reduceBEq,Nat.reduceAdd,Nat.reduceLeDiff,reduceIte]<;>rfl)|rfl)|exact Nat.le_of_ble_eq_true rfl|decide|(repeat' first|(apply Lk.go;constructor)|assumption|exact nb ‹_› ‹_›|exact nt ‹_› ‹_›))|assumption)
    refine avle_eq ?_; rw [AV.bool.injEq]; simp [fitsV] at *; simp [*]
theorem p67' (s : List UInt8) : Pure Try.prog 67 [.str s] (.bool (isName s)) :=
  pure_assume (G := s.length ≤ maxLen) (fun m vs h => by simp only [RvL, Rv] at h; obtain ⟨_, _, _, ⟨_, h⟩, _⟩ := h; exact h) (p67 s)
def inB (n lo hi : Int) : Bool := decide (lo ≤ n) && decide (n ≤ hi)
theorem p68 (n lo hi : Int) : Pure Try.prog 68 [.int .i64 n, .int .i64 lo, .int .i64 hi] (.bool (inB n lo hi)) := by
  refine pure_intro mo Try.func68 c68 fun H => ?_
  unfold e68 r68
  simp only [initEnv, initFrom]
  repeat' first|(apply Sp.go;·constructor<;>first|exact ss|(change _=_;first|(simp only[go_sem,Nat.reduceBEq,Nat.reduceAdd,Nat.reduceLeDiff,reduceIte]<;>rfl)|rfl)|exact Nat.le_of_ble_eq_true rfl|decide|(repeat' first|(apply Lk.go;constructor)|assumption|exact nb ‹_› ‹_›|exact nt ‹_› ‹_›))|(intro b hb;repeat first|(refine fe hb ?_;intro _ _ hb)|(refine fT hb ?_;intro hb))|refine rt ?_|refine gA rfl ?_|refine gB rfl ?_|apply cT rfl|apply cF rfl|(apply DM.gbT;rfl)|(apply DM.gbF;rfl)|intro h
  all_goals ((apply Sr.go;·constructor<;>first|(apply Lk.go;constructor<;>first|exact ss|(change _=_;first|(simp only[go_sem,Nat.reduceBEq,Nat.reduceAdd,Nat.reduceLeDiff,reduceIte]<;>rfl)|rfl)|exact Nat.le_of_ble_eq_true rfl|decide|(repeat' first|(apply Lk.go;constructor)|assumption|exact nb ‹_› ‹_›|exact nt ‹_› ‹_›))|assumption))
  all_goals (refine avle_eq ?_; rw [AV.bool.injEq, Bool.eq_iff_iff]; simp [inB] at *; try omega)
def numd (op : Int) : Int × Int × Bool :=
  if op = 1 then (-1000, 1000, true) else if op = 3 ∨ op = 5 then (0, 11, true) else if op = 4 then (0, 3, true) else if op = 19 ∨ op = 20 ∨ op = 22 then (0, 999, true) else if op = 21 then (1, 50, true) else (0, 0, false)
theorem p113 (op : Int) : Pure Try.prog 113 [.int .i64 op] (.tup [.int .i64 (numd op).1, .int .i64 (numd op).2.1, .bool (numd op).2.2]) := by
  have key : ∀ {a b : Int} {c : Bool}, numd op = (a, b, c) → AVLe (.tup [.int .i64 a, .int .i64 b, .bool c]) (.tup [.int .i64 (numd op).1, .int .i64 (numd op).2.1, .bool (numd op).2.2]) := by
    intro a b c h
    rw [h]
    exact AVLe.refl _
  refine pure_intro mo Try.func113 c113 fun H => ?_
  unfold e113 r113
  simp only [initEnv, initFrom]
  repeat' first|(apply Sp.go;·constructor<;>first|exact ss|(change _=_;first|(simp only[go_sem,Nat.reduceBEq,Nat.reduceAdd,Nat.reduceLeDiff,reduceIte]<;>rfl)|rfl)|exact Nat.le_of_ble_eq_true rfl|decide|(repeat' first|(apply Lk.go;constructor)|assumption|exact nb ‹_› ‹_›|exact nt ‹_› ‹_›))|(intro b hb;repeat first|(refine fe hb ?_;intro _ _ hb)|(refine fT hb ?_;intro hb))|refine rt ?_|refine gA rfl ?_|refine gB rfl ?_|apply cT rfl|apply cF rfl|(apply DM.gbT;rfl)|(apply DM.gbF;rfl)|(apply AM.condS;rfl)|intro h
  all_goals ((apply Sr.go;·constructor<;>first|(apply Lk.go;constructor<;>first|exact ss|(change _=_;first|(simp only[go_sem,Nat.reduceBEq,Nat.reduceAdd,Nat.reduceLeDiff,reduceIte]<;>rfl)|rfl)|exact Nat.le_of_ble_eq_true rfl|decide|(repeat' first|(apply Lk.go;constructor)|assumption|exact nb ‹_› ‹_›|exact nt ‹_› ‹_›))|assumption))
  all_goals (refine key ?_; clear key; simp at *; simp [numd, *])
structure Ins_ where
  op : Int
  n : Int
  s : List UInt8
abbrev Ins_.row (v : Ins_) : List AV := [.int .i64 v.op, .int .i64 v.n, .str v.s]
abbrev Ins_.av (v : Ins_) : AV := .agg [.int .i64 v.op, .int .i64 v.n, .str v.s]
def formed (x : Ins_) : Bool :=
  if x.op = 2 then decide (x.n = 0) && validV ⟨2, 0, x.s⟩
  else if (numd x.op).2.2 then inB x.n (numd x.op).1 (numd x.op).2.1 && decide (x.s = []) else inB x.op 1 24 && decide (x.n = 0) && decide (x.s = [])
theorem p71 (x : Ins_) : Pure Try.prog 71 [x.av] (.bool (formed x)) := by
  refine pure_intro mo Try.func71 c71 fun H => ?_
  unfold e71 r71
  simp only [initEnv, initFrom]
  repeat' first|(apply Sp.go;·constructor<;>first|exact ss|(change _=_;first|(simp only[go_sem,Nat.reduceBEq,Nat.reduceAdd,Nat.reduceLeDiff,reduceIte]<;>rfl)|rfl)|exact Nat.le_of_ble_eq_true rfl|decide|(repeat' first|(apply Lk.go;constructor)|assumption|exact nb ‹_› ‹_›|exact nt ‹_› ‹_›))|(intro b hb;repeat first|(refine fe hb ?_;intro _ _ hb)|(refine fT hb ?_;intro hb))|refine rt ?_|refine gA rfl ?_|refine gB rfl ?_|apply cT rfl|apply cF rfl|(apply DM.gbT;rfl)|(apply DM.gbF;rfl)|(apply AM.condS;rfl)|intro h
  · (apply DM.pcs (p55 ⟨2, 0, x.s⟩); (· simp only [go_sem, Nat.reduceBEq, Nat.reduceAdd] <;> rfl); (· exact AVLes.refl _))
    repeat' first|(apply Sp.go;·constructor<;>first|exact ss|(change _=_;first|(simp only[go_sem,Nat.reduceBEq,Nat.reduceAdd,Nat.reduceLeDiff,reduceIte]<;>rfl)|rfl)|exact Nat.le_of_ble_eq_true rfl|decide|(repeat' first|(apply Lk.go;constructor)|assumption|exact nb ‹_› ‹_›|exact nt ‹_› ‹_›))|(intro b hb;repeat first|(refine fe hb ?_;intro _ _ hb)|(refine fT hb ?_;intro hb))|refine rt ?_|refine gA rfl ?_|refine gB rfl ?_|apply cT rfl|apply cF rfl|(apply DM.gbT;rfl)|(apply DM.gbF;rfl)|(apply AM.condS;rfl)|intro h
    (apply Sr.go;·constructor<;>first|(apply Lk.go;constructor<;>first|exact ss|(change _=_;first|(simp only[go_sem,Nat.reduceBEq,Nat.reduceAdd,Nat.reduceLeDiff,reduceIte]<;>rfl)|rfl)|exact Nat.le_of_ble_eq_true rfl|decide|(repeat' first|(apply Lk.go;constructor)|assumption|exact nb ‹_› ‹_›|exact nt ‹_› ‹_›))|assumption)
    refine avle_eq ?_; rw [AV.bool.injEq]; simp at *; simp [formed, *]
  · (apply Sr.go;·constructor<;>first|(apply Lk.go;constructor<;>first|exact ss|(change _=_;first|(simp only[go_sem,Nat.reduceBEq,Nat.reduceAdd,Nat.reduceLeDiff,reduceIte]<;>rfl)|rfl)|exact Nat.le_of_ble_eq_true rfl|decide|(repeat' first|(apply Lk.go;constructor)|assumption|exact nb ‹_› ‹_›|exact nt ‹_› ‹_›))|assumption)
    refine avle_eq ?_; rw [AV.bool.injEq]; simp at *; simp [formed, *]
  · (apply DM.pcs (p113 _); (· simp only [go_sem, Nat.reduceBEq, Nat.reduceAdd] <;> rfl); (· exact AVLes.refl _))
    repeat' first|(apply Sp.go;·constructor<;>first|exact ss|(change _=_;first|(simp only[go_sem,Nat.reduceBEq,Nat.reduceAdd,Nat.reduceLeDiff,reduceIte]<;>rfl)|rfl)|exact Nat.le_of_ble_eq_true rfl|decide|(repeat' first|(apply Lk.go;constructor)|assumption|exact nb ‹_› ‹_›|exact nt ‹_› ‹_›))|(intro b hb;repeat first|(refine fe hb ?_;intro _ _ hb)|(refine fT hb ?_;intro hb))|refine rt ?_|refine gA rfl ?_|refine gB rfl ?_|apply cT rfl|apply cF rfl|(apply DM.gbT;rfl)|(apply DM.gbF;rfl)|(apply AM.condS;rfl)|intro h
    · (apply DM.pcs (p68 _ _ _); (· simp only [go_sem, Nat.reduceBEq, Nat.reduceAdd] <;> rfl); (· exact AVLes.refl _))
      repeat' first|(apply Sp.go;·constructor<;>first|exact ss|(change _=_;first|(simp only[go_sem,Nat.reduceBEq,Nat.reduceAdd,Nat.reduceLeDiff,reduceIte]<;>rfl)|rfl)|exact Nat.le_of_ble_eq_true rfl|decide|(repeat' first|(apply Lk.go;constructor)|assumption|exact nb ‹_› ‹_›|exact nt ‹_› ‹_›))|(intro b hb;repeat first|(refine fe hb ?_;intro _ _ hb)|(refine fT hb ?_;intro hb))|refine rt ?_|refine gA rfl ?_|refine gB rfl ?_|apply cT rfl|apply cF rfl|(apply DM.gbT;rfl)|(apply DM.gbF;rfl)|(apply AM.condS;rfl)|intro h
      all_goals ((apply Sr.go;·constructor<;>first|(apply Lk.go;constructor<;>first|exact ss|(change _=_;first|(simp only[go_sem,Nat.reduceBEq,Nat.reduceAdd,Nat.reduceLeDiff,reduceIte]<;>rfl)|rfl)|exact Nat.le_of_ble_eq_true rfl|decide|(repeat' first|(apply Lk.go;constructor)|assumption|exact nb ‹_› ‹_›|exact nt ‹_› ‹_›))|assumption))
      all_goals (refine avle_eq ?_; rw [AV.bool.injEq]; simp at *; simp [formed, *])
    · (apply DM.pcs (p68 _ _ _); (· simp only [go_sem, Nat.reduceBEq, Nat.reduceAdd] <;> rfl); (· exact AVLes.refl _))
      repeat' first|(apply Sp.go;·constructor<;>first|exact ss|(change _=_;first|(simp only[go_sem,Nat.reduceBEq,Nat.reduceAdd,Nat.reduceLeDiff,reduceIte]<;>rfl)|rfl)|exact Nat.le_of_ble_eq_true rfl|decide|(repeat' first|(apply Lk.go;constructor)|assumption|exact nb ‹_› ‹_›|exact nt ‹_› ‹_›))|(intro b hb;repeat first|(refine fe hb ?_;intro _ _ hb)|(refine fT hb ?_;intro hb))|refine rt ?_|refine gA rfl ?_|refine gB rfl ?_|apply cT rfl|apply cF rfl|(apply DM.gbT;rfl)|(apply DM.gbF;rfl)|(apply AM.condS;rfl)|intro h
      all_goals ((apply Sr.go;·constructor<;>first|(apply Lk.go;constructor<;>first|exact ss|(change _=_;first|(simp only[go_sem,Nat.reduceBEq,Nat.reduceAdd,Nat.reduceLeDiff,reduceIte]<;>rfl)|rfl)|exact Nat.le_of_ble_eq_true rfl|decide|(repeat' first|(apply Lk.go;constructor)|assumption|exact nb ‹_› ‹_›|exact nt ‹_› ‹_›))|assumption))
      all_goals (refine avle_eq ?_; rw [AV.bool.injEq]; simp at *; simp [formed, *])
structure Var_ where
  name : List UInt8
  sort : Sort_
  init : Val
abbrev Var_.row (v : Var_) : List AV := [.str v.name, .int .i64 v.sort.k, .int .i64 v.sort.lo, .int .i64 v.sort.hi, .int .i64 v.init.k, .int .i64 v.init.n, .str v.init.s]
abbrev Var_.av (v : Var_) : AV := .agg [.str v.name, .int .i64 v.sort.k, .int .i64 v.sort.lo, .int .i64 v.sort.hi, .int .i64 v.init.k, .int .i64 v.init.n, .str v.init.s]
structure Hd where
  peer : Int
  label : Int
  entry : Int
abbrev Hd.row (v : Hd) : List AV := [.int .i64 v.peer, .int .i64 v.label, .int .i64 v.entry]
abbrev Hd.av (v : Hd) : AV := .agg [.int .i64 v.peer, .int .i64 v.label, .int .i64 v.entry]
structure Of_ where
  peer : Int
  label : Int
  cond : Int
  args : Int
abbrev Of_.row (v : Of_) : List AV := [.int .i64 v.peer, .int .i64 v.label, .int .i64 v.cond, .int .i64 v.args]
structure Prog where
  name : List UInt8
  role : Int
  vars : List Var_
  hs : List Hd
  os : List Of_
  code : List Ins_
abbrev Prog.cells (p : Prog) : List AV := [.str p.name, .int .i64 p.role, .vs 7 (p.vars.map Var_.row), .vs 3 (p.hs.map Hd.row), .vs 4 (p.os.map Of_.row), .vs 3 (p.code.map Ins_.row)]
abbrev Prog.av (p : Prog) : AV := .agg [.str p.name, .int .i64 p.role, .vs 7 (p.vars.map Var_.row), .vs 3 (p.hs.map Hd.row), .vs 4 (p.os.map Of_.row), .vs 3 (p.code.map Ins_.row)]
structure Prog.Ok (p : Prog) : Prop where
  vars : p.vars.length ≤ maxLen
  hs : p.hs.length ≤ maxLen
  os : p.os.length ≤ maxLen
  code : p.code.length ≤ maxLen
theorem vs_len {m : Mem} {size : Nat} {rows : List (List AV)} {v : Value} (h : Rv m (.vs size rows) v) : rows.length ≤ maxLen := by
  simp only [Rv] at h
  obtain ⟨_, _, _, _, rfl, ⟨h1, h2⟩, _⟩ := h
  omega
theorem Prog.ok {m : Mem} {p : Prog} {v : Value} (h : Rv m p.av v) : p.Ok := by
  simp only [Rv] at h
  obtain ⟨l, _, h⟩ := h
  simp only [RvL] at h
  obtain ⟨_, _, _, _, _, _, _, _, _, _, _, h1, _, _, _, h2, _, _, _, h3, _, _, _, h4, _⟩ := h
  have := vs_len h1; have := vs_len h2; have := vs_len h3; have := vs_len h4
  simp only [List.length_map] at *
  constructor <;> assumption
theorem ok_args {f : FuncId} {p : Prog} {rest : List AV} {r : AV} (h : p.Ok → Pure Try.prog f (p.av :: rest) r) : Pure Try.prog f (p.av :: rest) r :=
  pure_assume (G := p.Ok) (fun m vs h => by simp only [RvL] at h; obtain ⟨_, _, _, h, _⟩ := h; exact Prog.ok h) h
def Prog.target (p : Prog) (n : Int) : Bool := inB n 0 (p.code.length - 1)
def Prog.party (p : Prog) (peer label : Int) : Bool := inB peer 0 5 && decide (peer ≠ p.role) && inB label 0 39
theorem p72 (p : Prog) (n : Int) : Pure Try.prog 72 [p.av, .int .i64 n] (.bool (p.target n)) := by
  refine ok_args fun ok => ?_
  refine pure_intro mo Try.func72 c72 fun H => ?_
  unfold e72 r72
  simp only [initEnv, initFrom]
  repeat' first|(apply Sp.go;·constructor<;>first|exact ss|(change _=_;first|(simp only[go_sem,Nat.reduceBEq,Nat.reduceAdd,Nat.reduceLeDiff,reduceIte]<;>rfl)|rfl)|exact Nat.le_of_ble_eq_true rfl|decide|(repeat' first|(apply Lk.go;constructor)|assumption|exact nb ‹_› ‹_›|exact nt ‹_› ‹_›))|(intro b hb;repeat first|(refine fe hb ?_;intro _ _ hb)|(refine fT hb ?_;intro hb))|refine rt ?_|refine gA rfl ?_|refine gB rfl ?_|apply cT rfl|apply cF rfl|(apply DM.gbT;rfl)|(apply DM.gbF;rfl)|intro h
  (apply DM.pcs (p68 _ _ _); (· simp only [go_sem, Nat.reduceBEq, Nat.reduceAdd] <;> rfl); (· exact AVLes.refl _))
  repeat' first|(apply Sp.go;·constructor<;>first|exact ss|(change _=_;first|(simp only[go_sem,Nat.reduceBEq,Nat.reduceAdd,Nat.reduceLeDiff,reduceIte]<;>rfl)|rfl)|exact Nat.le_of_ble_eq_true rfl|decide|(repeat' first|(apply Lk.go;constructor)|assumption|exact nb ‹_› ‹_›|exact nt ‹_› ‹_›))|(intro b hb;repeat first|(refine fe hb ?_;intro _ _ hb)|(refine fT hb ?_;intro hb))|refine rt ?_|refine gA rfl ?_|refine gB rfl ?_|apply cT rfl|apply cF rfl|(apply DM.gbT;rfl)|(apply DM.gbF;rfl)|intro h
  (apply Sr.go;·constructor<;>first|(apply Lk.go;constructor<;>first|exact ss|(change _=_;first|(simp only[go_sem,Nat.reduceBEq,Nat.reduceAdd,Nat.reduceLeDiff,reduceIte]<;>rfl)|rfl)|exact Nat.le_of_ble_eq_true rfl|decide|(repeat' first|(apply Lk.go;constructor)|assumption|exact nb ‹_› ‹_›|exact nt ‹_› ‹_›))|assumption)
  refine avle_eq ?_
  have := ok.code
  rw [Prog.target, List.length_map, wrap64 (by omega) (by unfold maxLen at this; omega)]
theorem p111 (p : Prog) (peer label : Int) : Pure Try.prog 111 [p.av, .int .i64 peer, .int .i64 label] (.bool (p.party peer label)) := by
  refine pure_intro mo Try.func111 c111 fun H => ?_
  unfold e111 r111
  simp only [initEnv, initFrom]
  repeat' first|(apply Sp.go;·constructor<;>first|exact ss|(change _=_;first|(simp only[go_sem,Nat.reduceBEq,Nat.reduceAdd,Nat.reduceLeDiff,reduceIte]<;>rfl)|rfl)|exact Nat.le_of_ble_eq_true rfl|decide|(repeat' first|(apply Lk.go;constructor)|assumption|exact nb ‹_› ‹_›|exact nt ‹_› ‹_›))|(intro b hb;repeat first|(refine fe hb ?_;intro _ _ hb)|(refine fT hb ?_;intro hb))|refine rt ?_|refine gA rfl ?_|refine gB rfl ?_|apply cT rfl|apply cF rfl|(apply DM.gbT;rfl)|(apply DM.gbF;rfl)|intro h
  (apply DM.pcs (p68 _ _ _); (· simp only [go_sem, Nat.reduceBEq, Nat.reduceAdd] <;> rfl); (· exact AVLes.refl _))
  repeat' first|(apply Sp.go;·constructor<;>first|exact ss|(change _=_;first|(simp only[go_sem,Nat.reduceBEq,Nat.reduceAdd,Nat.reduceLeDiff,reduceIte]<;>rfl)|rfl)|exact Nat.le_of_ble_eq_true rfl|decide|(repeat' first|(apply Lk.go;constructor)|assumption|exact nb ‹_› ‹_›|exact nt ‹_› ‹_›))|(intro b hb;repeat first|(refine fe hb ?_;intro _ _ hb)|(refine fT hb ?_;intro hb))|refine rt ?_|refine gA rfl ?_|refine gB rfl ?_|apply cT rfl|apply cF rfl|(apply DM.gbT;rfl)|(apply DM.gbF;rfl)|intro h
  · (apply DM.pcs (p68 _ _ _); (· simp only [go_sem, Nat.reduceBEq, Nat.reduceAdd] <;> rfl); (· exact AVLes.refl _))
    repeat' first|(apply Sp.go;·constructor<;>first|exact ss|(change _=_;first|(simp only[go_sem,Nat.reduceBEq,Nat.reduceAdd,Nat.reduceLeDiff,reduceIte]<;>rfl)|rfl)|exact Nat.le_of_ble_eq_true rfl|decide|(repeat' first|(apply Lk.go;constructor)|assumption|exact nb ‹_› ‹_›|exact nt ‹_› ‹_›))|(intro b hb;repeat first|(refine fe hb ?_;intro _ _ hb)|(refine fT hb ?_;intro hb))|refine rt ?_|refine gA rfl ?_|refine gB rfl ?_|apply cT rfl|apply cF rfl|(apply DM.gbT;rfl)|(apply DM.gbF;rfl)|intro h
    all_goals ((apply Sr.go;·constructor<;>first|(apply Lk.go;constructor<;>first|exact ss|(change _=_;first|(simp only[go_sem,Nat.reduceBEq,Nat.reduceAdd,Nat.reduceLeDiff,reduceIte]<;>rfl)|rfl)|exact Nat.le_of_ble_eq_true rfl|decide|(repeat' first|(apply Lk.go;constructor)|assumption|exact nb ‹_› ‹_›|exact nt ‹_› ‹_›))|assumption))
    all_goals (refine avle_eq ?_; rw [AV.bool.injEq]; simp at *; simp [Prog.party, *])
  all_goals ((apply Sr.go;·constructor<;>first|(apply Lk.go;constructor<;>first|exact ss|(change _=_;first|(simp only[go_sem,Nat.reduceBEq,Nat.reduceAdd,Nat.reduceLeDiff,reduceIte]<;>rfl)|rfl)|exact Nat.le_of_ble_eq_true rfl|decide|(repeat' first|(apply Lk.go;constructor)|assumption|exact nb ‹_› ‹_›|exact nt ‹_› ‹_›))|assumption))
  all_goals (refine avle_eq ?_; rw [AV.bool.injEq]; simp at *; simp [Prog.party, *])
theorem row_get {α β : Type} (f : α → β) {l : List α} {i : Nat} {v : α} (h : l[i]? = some v) : (l.map f)[((i : Int)).toNat]? = some (f v) := by simp [h]
def idxP {α : Type} (q : α → Bool) : List α → Int → Int
  | [], _ => -1
  | a :: l, i => if q a then i else idxP q l (i + 1)
theorem p109 (H : AHeap) (f : FuncId) (cap : List AV) (vals : List Var_) (q : Var_ → Bool) (hf : callable Try.prog f = true) (hq : ∀ v ∈ vals, PureAt Try.prog f (v.av :: cap) H (.bool (q v))) : PureAt Try.prog 109 [.vs 7 (vals.map Var_.row), .fn f cap] H (.int .i64 (idxP q vals 0)) := by
  refine pureAt_assume (G := vals.length ≤ maxLen) (fun m vs h => by simp only [RvL] at h; obtain ⟨_, _, _, h, _⟩ := h; simpa using vs_len h) fun hlen => ?_
  refine pureAt_intro mo Try.func109 c109 ?_
  unfold e109 r109
  simp only [initEnv, initFrom]
  repeat' first|(apply Sp.go;·constructor<;>first|exact ss|(change _=_;first|(simp only[go_sem,Nat.reduceBEq,Nat.reduceAdd,Nat.reduceLeDiff,reduceIte]<;>rfl)|rfl)|exact Nat.le_of_ble_eq_true rfl|decide|(repeat' first|(apply Lk.go;constructor)|assumption|exact nb ‹_› ‹_›|exact nt ‹_› ‹_›))|(intro b hb;repeat first|(refine fe hb ?_;intro _ _ hb)|(refine fT hb ?_;intro hb))|refine rt ?_|refine gA rfl ?_|refine gB rfl ?_|apply cT rfl|apply cF rfl|(apply DM.gbT;rfl)|(apply DM.gbF;rfl)|intro h
  refine AM.loopX (X := Nat) 0 (fun i => [(0, .vs 7 (vals.map Var_.row)), (1, .fn f cap), (7, .int .i64 vals.length), (8, .int .i64 i)]) (fun i H' => H' = H ∧ i ≤ vals.length ∧ idxP q vals 0 = idxP q (vals.drop i) i) (fun i => vals.length - i) ⟨rfl, by omega, by simp⟩ ?_ ?_
  · (repeat first | exact envle_nil _ | (refine envle_cons ?_ ?_; · (simp only [go_sem, Nat.reduceBEq, Nat.reduceAdd]; exact AVLe.refl _)))
    refine envle_cons ?_ (envle_cons ?_ (envle_nil _))
    · simp only [Env.get, Nat.reduceBEq, cond_true, cond_false, beq_self_eq_true]
      exact avle_int (by simp)
    · simp only [Env.get, Nat.reduceBEq, cond_true, cond_false, beq_self_eq_true]
      exact AVLe.refl _
  · intro i H' ⟨e, hi, he⟩
    subst e
    repeat' first|(apply Sp.go;·constructor<;>first|exact ss|(change _=_;first|(simp only[go_sem,Nat.reduceBEq,Nat.reduceAdd,Nat.reduceLeDiff,reduceIte]<;>rfl)|rfl)|exact Nat.le_of_ble_eq_true rfl|decide|(repeat' first|(apply Lk.go;constructor)|assumption|exact nb ‹_› ‹_›|exact nt ‹_› ‹_›))|(intro b hb;repeat first|(refine fe hb ?_;intro _ _ hb)|(refine fT hb ?_;intro hb))|refine rt ?_|refine gA rfl ?_|refine gB rfl ?_|apply cT rfl|apply cF rfl|(apply DM.gbT;rfl)|(apply DM.gbF;rfl)|intro h
    (apply AM.cond; (· rfl))
    · intro h3
      simp at h3
      obtain ⟨v, hv⟩ : ∃ v, vals[i]? = some v := ⟨_, List.getElem?_eq_getElem h3⟩
      have hd : vals.drop i = v :: vals.drop (i + 1) := by rw [List.drop_eq_getElem_cons h3]; congr 1; rw [List.getElem?_eq_getElem h3] at hv; simpa using hv
      rw [hd] at he
      simp only [idxP] at he
      repeat' first|(apply Sp.go;·constructor<;>first|exact ss|(change _=_;first|(simp only[go_sem,Nat.reduceBEq,Nat.reduceAdd,Nat.reduceLeDiff,reduceIte]<;>rfl)|rfl)|exact Nat.le_of_ble_eq_true rfl|decide|(repeat' first|(apply Lk.go;constructor)|assumption|exact nb ‹_› ‹_›|exact nt ‹_› ‹_›))|(intro b hb;repeat first|(refine fe hb ?_;intro _ _ hb)|(refine fT hb ?_;intro hb))|refine rt ?_|refine gA rfl ?_|refine gB rfl ?_|apply cT rfl|apply cF rfl|(apply DM.gbT;rfl)|(apply DM.gbF;rfl)|intro h
      (apply DM.ixV (row := v.row) (z := (i : Int)) (by omega) (row_get Var_.row hv); (· rfl); (· rfl))
      repeat' first|(apply Sp.go;·constructor<;>first|exact ss|(change _=_;first|(simp only[go_sem,Nat.reduceBEq,Nat.reduceAdd,Nat.reduceLeDiff,reduceIte]<;>rfl)|rfl)|exact Nat.le_of_ble_eq_true rfl|decide|(repeat' first|(apply Lk.go;constructor)|assumption|exact nb ‹_› ‹_›|exact nt ‹_› ‹_›))|(intro b hb;repeat first|(refine fe hb ?_;intro _ _ hb)|(refine fT hb ?_;intro hb))|refine rt ?_|refine gA rfl ?_|refine gB rfl ?_|apply cT rfl|apply cF rfl|(apply DM.gbT;rfl)|(apply DM.gbF;rfl)|intro h
      (apply DM.pvat (hq v (List.mem_of_getElem? hv)) (hf); (· rfl); (· simp only [go_sem, Nat.reduceBEq, Nat.reduceAdd] <;> rfl); (· exact AVLes.refl _))
      repeat' first|(apply Sp.go;·constructor<;>first|exact ss|(change _=_;first|(simp only[go_sem,Nat.reduceBEq,Nat.reduceAdd,Nat.reduceLeDiff,reduceIte]<;>rfl)|rfl)|exact Nat.le_of_ble_eq_true rfl|decide|(repeat' first|(apply Lk.go;constructor)|assumption|exact nb ‹_› ‹_›|exact nt ‹_› ‹_›))|(intro b hb;repeat first|(refine fe hb ?_;intro _ _ hb)|(refine fT hb ?_;intro hb))|refine rt ?_|refine gA rfl ?_|refine gB rfl ?_|apply cT rfl|apply cF rfl|(apply DM.gbT;rfl)|(apply DM.gbF;rfl)|intro h
      (apply AM.cond; (· rfl))
      · intro h4
        repeat' first|(apply Sp.go;·constructor<;>first|exact ss|(change _=_;first|(simp only[go_sem,Nat.reduceBEq,Nat.reduceAdd,Nat.reduceLeDiff,reduceIte]<;>rfl)|rfl)|exact Nat.le_of_ble_eq_true rfl|decide|(repeat' first|(apply Lk.go;constructor)|assumption|exact nb ‹_› ‹_›|exact nt ‹_› ‹_›))|(intro b hb;repeat first|(refine fe hb ?_;intro _ _ hb)|(refine fT hb ?_;intro hb))|refine rt ?_|refine gA rfl ?_|refine gB rfl ?_|apply cT rfl|apply cF rfl|(apply DM.gbT;rfl)|(apply DM.gbF;rfl)|intro h
        (apply Sr.go;·constructor<;>first|(apply Lk.go;constructor<;>first|exact ss|(change _=_;first|(simp only[go_sem,Nat.reduceBEq,Nat.reduceAdd,Nat.reduceLeDiff,reduceIte]<;>rfl)|rfl)|exact Nat.le_of_ble_eq_true rfl|decide|(repeat' first|(apply Lk.go;constructor)|assumption|exact nb ‹_› ‹_›|exact nt ‹_› ‹_›))|assumption)
        rw [h4] at he
        refine avle_int ?_
        rw [he]; simp
      · intro h4
        repeat' first|(apply Sp.go;·constructor<;>first|exact ss|(change _=_;first|(simp only[go_sem,Nat.reduceBEq,Nat.reduceAdd,Nat.reduceLeDiff,reduceIte]<;>rfl)|rfl)|exact Nat.le_of_ble_eq_true rfl|decide|(repeat' first|(apply Lk.go;constructor)|assumption|exact nb ‹_› ‹_›|exact nt ‹_› ‹_›))|(intro b hb;repeat first|(refine fe hb ?_;intro _ _ hb)|(refine fT hb ?_;intro hb))|refine rt ?_|refine gA rfl ?_|refine gB rfl ?_|apply cT rfl|apply cF rfl|(apply DM.gbT;rfl)|(apply DM.gbF;rfl)|intro h
        rw [h4] at he
        refine AM.roundX (i + 1) ⟨rfl, by omega, ?_⟩ ?_ ?_
        · rw [he]; simp
        · (repeat first | exact envle_nil _ | (refine envle_cons ?_ ?_; · (simp only [go_sem, Nat.reduceBEq, Nat.reduceAdd]; exact AVLe.refl _)))
          refine envle_cons ?_ ?_
          · simp only [go_sem, Nat.reduceBEq, Nat.reduceAdd]
            refine avle_int ?_
            rw [inc64 h3 hlen]
          exact envle_nil _
        · show vals.length - (i + 1) < vals.length - i
          omega
    · intro h3
      repeat' first|(apply Sp.go;·constructor<;>first|exact ss|(change _=_;first|(simp only[go_sem,Nat.reduceBEq,Nat.reduceAdd,Nat.reduceLeDiff,reduceIte]<;>rfl)|rfl)|exact Nat.le_of_ble_eq_true rfl|decide|(repeat' first|(apply Lk.go;constructor)|assumption|exact nb ‹_› ‹_›|exact nt ‹_› ‹_›))|(intro b hb;repeat first|(refine fe hb ?_;intro _ _ hb)|(refine fT hb ?_;intro hb))|refine rt ?_|refine gA rfl ?_|refine gB rfl ?_|apply cT rfl|apply cF rfl|(apply DM.gbT;rfl)|(apply DM.gbF;rfl)|intro h
      (apply Sr.go;·constructor<;>first|(apply Lk.go;constructor<;>first|exact ss|(change _=_;first|(simp only[go_sem,Nat.reduceBEq,Nat.reduceAdd,Nat.reduceLeDiff,reduceIte]<;>rfl)|rfl)|exact Nat.le_of_ble_eq_true rfl|decide|(repeat' first|(apply Lk.go;constructor)|assumption|exact nb ‹_› ‹_›|exact nt ‹_› ‹_›))|assumption)
      simp at h3
      refine avle_int ?_
      rw [he, List.drop_eq_nil_of_le (by omega)]; rfl
theorem p112 (H : AHeap) (f : FuncId) (cap : List AV) (vals : List Hd) (q : Hd → Bool) (hf : callable Try.prog f = true) (hq : ∀ v ∈ vals, PureAt Try.prog f (v.av :: cap) H (.bool (q v))) : PureAt Try.prog 112 [.vs 3 (vals.map Hd.row), .fn f cap] H (.int .i64 (idxP q vals 0)) := by
  refine pureAt_assume (G := vals.length ≤ maxLen) (fun m vs h => by simp only [RvL] at h; obtain ⟨_, _, _, h, _⟩ := h; simpa using vs_len h) fun hlen => ?_
  refine pureAt_intro mo Try.func112 c112 ?_
  unfold e112 r112
  simp only [initEnv, initFrom]
  repeat' first|(apply Sp.go;·constructor<;>first|exact ss|(change _=_;first|(simp only[go_sem,Nat.reduceBEq,Nat.reduceAdd,Nat.reduceLeDiff,reduceIte]<;>rfl)|rfl)|exact Nat.le_of_ble_eq_true rfl|decide|(repeat' first|(apply Lk.go;constructor)|assumption|exact nb ‹_› ‹_›|exact nt ‹_› ‹_›))|(intro b hb;repeat first|(refine fe hb ?_;intro _ _ hb)|(refine fT hb ?_;intro hb))|refine rt ?_|refine gA rfl ?_|refine gB rfl ?_|apply cT rfl|apply cF rfl|(apply DM.gbT;rfl)|(apply DM.gbF;rfl)|intro h
  refine AM.loopX (X := Nat) 0 (fun i => [(0, .vs 3 (vals.map Hd.row)), (1, .fn f cap), (7, .int .i64 vals.length), (8, .int .i64 i)]) (fun i H' => H' = H ∧ i ≤ vals.length ∧ idxP q vals 0 = idxP q (vals.drop i) i) (fun i => vals.length - i) ⟨rfl, by omega, by simp⟩ ?_ ?_
  · (repeat first | exact envle_nil _ | (refine envle_cons ?_ ?_; · (simp only [go_sem, Nat.reduceBEq, Nat.reduceAdd]; exact AVLe.refl _)))
    refine envle_cons ?_ (envle_cons ?_ (envle_nil _))
    · simp only [Env.get, Nat.reduceBEq, cond_true, cond_false, beq_self_eq_true]
      exact avle_int (by simp)
    · simp only [Env.get, Nat.reduceBEq, cond_true, cond_false, beq_self_eq_true]
      exact AVLe.refl _
  · intro i H' ⟨e, hi, he⟩
    subst e
    repeat' first|(apply Sp.go;·constructor<;>first|exact ss|(change _=_;first|(simp only[go_sem,Nat.reduceBEq,Nat.reduceAdd,Nat.reduceLeDiff,reduceIte]<;>rfl)|rfl)|exact Nat.le_of_ble_eq_true rfl|decide|(repeat' first|(apply Lk.go;constructor)|assumption|exact nb ‹_› ‹_›|exact nt ‹_› ‹_›))|(intro b hb;repeat first|(refine fe hb ?_;intro _ _ hb)|(refine fT hb ?_;intro hb))|refine rt ?_|refine gA rfl ?_|refine gB rfl ?_|apply cT rfl|apply cF rfl|(apply DM.gbT;rfl)|(apply DM.gbF;rfl)|intro h
    (apply AM.cond; (· rfl))
    · intro h3
      simp at h3
      obtain ⟨v, hv⟩ : ∃ v, vals[i]? = some v := ⟨_, List.getElem?_eq_getElem h3⟩
      have hd : vals.drop i = v :: vals.drop (i + 1) := by rw [List.drop_eq_getElem_cons h3]; congr 1; rw [List.getElem?_eq_getElem h3] at hv; simpa using hv
      rw [hd] at he
      simp only [idxP] at he
      repeat' first|(apply Sp.go;·constructor<;>first|exact ss|(change _=_;first|(simp only[go_sem,Nat.reduceBEq,Nat.reduceAdd,Nat.reduceLeDiff,reduceIte]<;>rfl)|rfl)|exact Nat.le_of_ble_eq_true rfl|decide|(repeat' first|(apply Lk.go;constructor)|assumption|exact nb ‹_› ‹_›|exact nt ‹_› ‹_›))|(intro b hb;repeat first|(refine fe hb ?_;intro _ _ hb)|(refine fT hb ?_;intro hb))|refine rt ?_|refine gA rfl ?_|refine gB rfl ?_|apply cT rfl|apply cF rfl|(apply DM.gbT;rfl)|(apply DM.gbF;rfl)|intro h
      (apply DM.ixV (row := v.row) (z := (i : Int)) (by omega) (row_get Hd.row hv); (· rfl); (· rfl))
      repeat' first|(apply Sp.go;·constructor<;>first|exact ss|(change _=_;first|(simp only[go_sem,Nat.reduceBEq,Nat.reduceAdd,Nat.reduceLeDiff,reduceIte]<;>rfl)|rfl)|exact Nat.le_of_ble_eq_true rfl|decide|(repeat' first|(apply Lk.go;constructor)|assumption|exact nb ‹_› ‹_›|exact nt ‹_› ‹_›))|(intro b hb;repeat first|(refine fe hb ?_;intro _ _ hb)|(refine fT hb ?_;intro hb))|refine rt ?_|refine gA rfl ?_|refine gB rfl ?_|apply cT rfl|apply cF rfl|(apply DM.gbT;rfl)|(apply DM.gbF;rfl)|intro h
      (apply DM.pvat (hq v (List.mem_of_getElem? hv)) (hf); (· rfl); (· simp only [go_sem, Nat.reduceBEq, Nat.reduceAdd] <;> rfl); (· exact AVLes.refl _))
      repeat' first|(apply Sp.go;·constructor<;>first|exact ss|(change _=_;first|(simp only[go_sem,Nat.reduceBEq,Nat.reduceAdd,Nat.reduceLeDiff,reduceIte]<;>rfl)|rfl)|exact Nat.le_of_ble_eq_true rfl|decide|(repeat' first|(apply Lk.go;constructor)|assumption|exact nb ‹_› ‹_›|exact nt ‹_› ‹_›))|(intro b hb;repeat first|(refine fe hb ?_;intro _ _ hb)|(refine fT hb ?_;intro hb))|refine rt ?_|refine gA rfl ?_|refine gB rfl ?_|apply cT rfl|apply cF rfl|(apply DM.gbT;rfl)|(apply DM.gbF;rfl)|intro h
      (apply AM.cond; (· rfl))
      · intro h4
        repeat' first|(apply Sp.go;·constructor<;>first|exact ss|(change _=_;first|(simp only[go_sem,Nat.reduceBEq,Nat.reduceAdd,Nat.reduceLeDiff,reduceIte]<;>rfl)|rfl)|exact Nat.le_of_ble_eq_true rfl|decide|(repeat' first|(apply Lk.go;constructor)|assumption|exact nb ‹_› ‹_›|exact nt ‹_› ‹_›))|(intro b hb;repeat first|(refine fe hb ?_;intro _ _ hb)|(refine fT hb ?_;intro hb))|refine rt ?_|refine gA rfl ?_|refine gB rfl ?_|apply cT rfl|apply cF rfl|(apply DM.gbT;rfl)|(apply DM.gbF;rfl)|intro h
        (apply Sr.go;·constructor<;>first|(apply Lk.go;constructor<;>first|exact ss|(change _=_;first|(simp only[go_sem,Nat.reduceBEq,Nat.reduceAdd,Nat.reduceLeDiff,reduceIte]<;>rfl)|rfl)|exact Nat.le_of_ble_eq_true rfl|decide|(repeat' first|(apply Lk.go;constructor)|assumption|exact nb ‹_› ‹_›|exact nt ‹_› ‹_›))|assumption)
        rw [h4] at he
        refine avle_int ?_
        rw [he]; simp
      · intro h4
        repeat' first|(apply Sp.go;·constructor<;>first|exact ss|(change _=_;first|(simp only[go_sem,Nat.reduceBEq,Nat.reduceAdd,Nat.reduceLeDiff,reduceIte]<;>rfl)|rfl)|exact Nat.le_of_ble_eq_true rfl|decide|(repeat' first|(apply Lk.go;constructor)|assumption|exact nb ‹_› ‹_›|exact nt ‹_› ‹_›))|(intro b hb;repeat first|(refine fe hb ?_;intro _ _ hb)|(refine fT hb ?_;intro hb))|refine rt ?_|refine gA rfl ?_|refine gB rfl ?_|apply cT rfl|apply cF rfl|(apply DM.gbT;rfl)|(apply DM.gbF;rfl)|intro h
        rw [h4] at he
        refine AM.roundX (i + 1) ⟨rfl, by omega, ?_⟩ ?_ ?_
        · rw [he]; simp
        · (repeat first | exact envle_nil _ | (refine envle_cons ?_ ?_; · (simp only [go_sem, Nat.reduceBEq, Nat.reduceAdd]; exact AVLe.refl _)))
          refine envle_cons ?_ ?_
          · simp only [go_sem, Nat.reduceBEq, Nat.reduceAdd]
            refine avle_int ?_
            rw [inc64 h3 hlen]
          exact envle_nil _
        · show vals.length - (i + 1) < vals.length - i
          omega
    · intro h3
      repeat' first|(apply Sp.go;·constructor<;>first|exact ss|(change _=_;first|(simp only[go_sem,Nat.reduceBEq,Nat.reduceAdd,Nat.reduceLeDiff,reduceIte]<;>rfl)|rfl)|exact Nat.le_of_ble_eq_true rfl|decide|(repeat' first|(apply Lk.go;constructor)|assumption|exact nb ‹_› ‹_›|exact nt ‹_› ‹_›))|(intro b hb;repeat first|(refine fe hb ?_;intro _ _ hb)|(refine fT hb ?_;intro hb))|refine rt ?_|refine gA rfl ?_|refine gB rfl ?_|apply cT rfl|apply cF rfl|(apply DM.gbT;rfl)|(apply DM.gbF;rfl)|intro h
      (apply Sr.go;·constructor<;>first|(apply Lk.go;constructor<;>first|exact ss|(change _=_;first|(simp only[go_sem,Nat.reduceBEq,Nat.reduceAdd,Nat.reduceLeDiff,reduceIte]<;>rfl)|rfl)|exact Nat.le_of_ble_eq_true rfl|decide|(repeat' first|(apply Lk.go;constructor)|assumption|exact nb ‹_› ‹_›|exact nt ‹_› ‹_›))|assumption)
      simp at h3
      refine avle_int ?_
      rw [he, List.drop_eq_nil_of_le (by omega)]; rfl
theorem call108 : callable Try.prog 108 = true := by kernel_rfl
theorem call110 : callable Try.prog 110 = true := by kernel_rfl
theorem p108 (w v : Var_) (H : AHeap) (b : Nat) (hv : H.blk b = some (87, v.row)) : PureAt Try.prog 108 [w.av, .ptr b 0] H (.bool (decide (w.name = v.name))) := by
  refine pureAt_intro mo Try.func108 c108 ?_
  unfold e108 r108
  simp only [initEnv, initFrom]
  repeat' first|(apply Sp.go;·constructor<;>first|exact ss|(change _=_;first|(simp only[go_sem,Nat.reduceBEq,Nat.reduceAdd,Nat.reduceLeDiff,reduceIte]<;>rfl)|rfl)|exact Nat.le_of_ble_eq_true rfl|decide|(repeat' first|(apply Lk.go;constructor)|assumption|exact nb ‹_› ‹_›|exact nt ‹_› ‹_›))|(intro b hb;repeat first|(refine fe hb ?_;intro _ _ hb)|(refine fT hb ?_;intro hb))|refine rt ?_|refine gA rfl ?_|refine gB rfl ?_|apply cT rfl|apply cF rfl|(apply DM.gbT;rfl)|(apply DM.gbF;rfl)|intro h
  (apply Sr.go;·constructor<;>first|(apply Lk.go;constructor<;>first|exact ss|(change _=_;first|(simp only[go_sem,Nat.reduceBEq,Nat.reduceAdd,Nat.reduceLeDiff,reduceIte]<;>rfl)|rfl)|exact Nat.le_of_ble_eq_true rfl|decide|(repeat' first|(apply Lk.go;constructor)|assumption|exact nb ‹_› ‹_›|exact nt ‹_› ‹_›))|assumption)
  exact AVLe.refl _
theorem p110 (w v : Hd) (H : AHeap) (b : Nat) (hv : H.blk b = some (128, v.row)) : PureAt Try.prog 110 [w.av, .ptr b 0] H (.bool (decide (w.peer = v.peer) && decide (w.label = v.label))) := by
  refine pureAt_intro mo Try.func110 c110 ?_
  unfold e110 r110
  simp only [initEnv, initFrom]
  repeat' first|(apply Sp.go;·constructor<;>first|exact ss|(change _=_;first|(simp only[go_sem,Nat.reduceBEq,Nat.reduceAdd,Nat.reduceLeDiff,reduceIte]<;>rfl)|rfl)|exact Nat.le_of_ble_eq_true rfl|decide|(repeat' first|(apply Lk.go;constructor)|assumption|exact nb ‹_› ‹_›|exact nt ‹_› ‹_›))|(intro b hb;repeat first|(refine fe hb ?_;intro _ _ hb)|(refine fT hb ?_;intro hb))|refine rt ?_|refine gA rfl ?_|refine gB rfl ?_|apply cT rfl|apply cF rfl|(apply DM.gbT;rfl)|(apply DM.gbF;rfl)|intro h
  all_goals ((apply Sr.go;·constructor<;>first|(apply Lk.go;constructor<;>first|exact ss|(change _=_;first|(simp only[go_sem,Nat.reduceBEq,Nat.reduceAdd,Nat.reduceLeDiff,reduceIte]<;>rfl)|rfl)|exact Nat.le_of_ble_eq_true rfl|decide|(repeat' first|(apply Lk.go;constructor)|assumption|exact nb ‹_› ‹_›|exact nt ‹_› ‹_›))|assumption))
  all_goals (refine avle_eq ?_; rw [AV.bool.injEq]; simp at *; simp [*])
def okVar (vs : List Var_) (i : Nat) : Bool := match vs[i]? with
  | none => false
  | some v => isName v.name && decide (idxP (fun w : Var_ => decide (w.name = v.name)) vs 0 = (i : Int)) && fitsV v.sort v.init
def allI (n : Nat) (q : Nat → Bool) : Bool := (List.range n).all q
theorem allI_true {n : Nat} {q : Nat → Bool} (h : ∀ j, j < n → q j = true) : allI n q = true := by
  simp only [allI, List.all_eq_true, List.mem_range]; exact h
theorem allI_false {n i : Nat} {q : Nat → Bool} (hi : i < n) (h : q i = false) : allI n q = false := by
  simp only [allI, List.all_eq_false, List.mem_range]
  exact ⟨i, hi, by simp [h]⟩
def varsOk (vs : List Var_) : Bool := allI vs.length (okVar vs) && decide (vs.length ≤ 12)
theorem p69 (p : Prog) : Pure Try.prog 69 [p.av] (.bool (varsOk p.vars)) := by
  refine ok_args fun ok => ?_
  refine pure_intro mo Try.func69 c69 fun H => ?_
  unfold e69 r69
  simp only [initEnv, initFrom]
  repeat' first|(apply Sp.go;·constructor<;>first|exact ss|(change _=_;first|(simp only[go_sem,Nat.reduceBEq,Nat.reduceAdd,Nat.reduceLeDiff,reduceIte]<;>rfl)|rfl)|exact Nat.le_of_ble_eq_true rfl|decide|(repeat' first|(apply Lk.go;constructor)|assumption|exact nb ‹_› ‹_›|exact nt ‹_› ‹_›))|(intro b hb;repeat first|(refine fe hb ?_;intro _ _ hb)|(refine fT hb ?_;intro hb))|refine rt ?_|refine gA rfl ?_|refine gB rfl ?_|apply cT rfl|apply cF rfl|(apply DM.gbT;rfl)|(apply DM.gbF;rfl)|intro h
  rename Nat => b1
  refine AM.loopX (X := Nat) 0 (fun i => [(1, .ptr b1 0), (7, .vs 7 (p.vars.map Var_.row)), (8, .int .i64 p.vars.length), (9, .int .i64 i)]) (fun i H' => H' = H.setB b1 41 p.cells ∧ i ≤ p.vars.length ∧ ∀ j, j < i → okVar p.vars j = true) (fun i => p.vars.length - i) ⟨rfl, by omega, fun j hj => by omega⟩ ?_ ?_
  · (repeat first | exact envle_nil _ | (refine envle_cons ?_ ?_; · (simp only [go_sem, Nat.reduceBEq, Nat.reduceAdd]; exact AVLe.refl _)))
    refine envle_cons ?_ (envle_cons ?_ (envle_nil _))
    · simp only [Env.get, Nat.reduceBEq, cond_true, cond_false, beq_self_eq_true]
      exact avle_int (by simp)
    · simp only [Env.get, Nat.reduceBEq, cond_true, cond_false, beq_self_eq_true]
      exact AVLe.refl _
  · intro i H' ⟨e, hi, he⟩
    subst e
    repeat' first|(apply Sp.go;·constructor<;>first|exact ss|(change _=_;first|(simp only[go_sem,Nat.reduceBEq,Nat.reduceAdd,Nat.reduceLeDiff,reduceIte]<;>rfl)|rfl)|exact Nat.le_of_ble_eq_true rfl|decide|(repeat' first|(apply Lk.go;constructor)|assumption|exact nb ‹_› ‹_›|exact nt ‹_› ‹_›))|(intro b hb;repeat first|(refine fe hb ?_;intro _ _ hb)|(refine fT hb ?_;intro hb))|refine rt ?_|refine gA rfl ?_|refine gB rfl ?_|apply cT rfl|apply cF rfl|(apply DM.gbT;rfl)|(apply DM.gbF;rfl)|intro h
    (apply AM.cond; (· rfl))
    · intro h3
      simp at h3
      obtain ⟨v, hv⟩ : ∃ v, p.vars[i]? = some v := ⟨_, List.getElem?_eq_getElem h3⟩
      have hok : okVar p.vars i = (isName v.name && decide (idxP (fun w : Var_ => decide (w.name = v.name)) p.vars 0 = (i : Int)) && fitsV v.sort v.init) := by simp [okVar, hv]
      repeat' first|(apply Sp.go;·constructor<;>first|exact ss|(change _=_;first|(simp only[go_sem,Nat.reduceBEq,Nat.reduceAdd,Nat.reduceLeDiff,reduceIte]<;>rfl)|rfl)|exact Nat.le_of_ble_eq_true rfl|decide|(repeat' first|(apply Lk.go;constructor)|assumption|exact nb ‹_› ‹_›|exact nt ‹_› ‹_›))|(intro b hb;repeat first|(refine fe hb ?_;intro _ _ hb)|(refine fT hb ?_;intro hb))|refine rt ?_|refine gA rfl ?_|refine gB rfl ?_|apply cT rfl|apply cF rfl|(apply DM.gbT;rfl)|(apply DM.gbF;rfl)|intro h
      (apply DM.ixV (row := v.row) (z := (i : Int)) (by omega) (row_get Var_.row hv); (· rfl); (· rfl))
      repeat' first|(apply Sp.go;·constructor<;>first|exact ss|(change _=_;first|(simp only[go_sem,Nat.reduceBEq,Nat.reduceAdd,Nat.reduceLeDiff,reduceIte]<;>rfl)|rfl)|exact Nat.le_of_ble_eq_true rfl|decide|(repeat' first|(apply Lk.go;constructor)|assumption|exact nb ‹_› ‹_›|exact nt ‹_› ‹_›))|(intro b hb;repeat first|(refine fe hb ?_;intro _ _ hb)|(refine fT hb ?_;intro hb))|refine rt ?_|refine gA rfl ?_|refine gB rfl ?_|apply cT rfl|apply cF rfl|(apply DM.gbT;rfl)|(apply DM.gbF;rfl)|intro h
      (apply DM.pcs (p67' _); (· simp only [go_sem, Nat.reduceBEq, Nat.reduceAdd] <;> rfl); (· exact AVLes.refl _))
      repeat' first|(apply Sp.go;·constructor<;>first|exact ss|(change _=_;first|(simp only[go_sem,Nat.reduceBEq,Nat.reduceAdd,Nat.reduceLeDiff,reduceIte]<;>rfl)|rfl)|exact Nat.le_of_ble_eq_true rfl|decide|(repeat' first|(apply Lk.go;constructor)|assumption|exact nb ‹_› ‹_›|exact nt ‹_› ‹_›))|(intro b hb;repeat first|(refine fe hb ?_;intro _ _ hb)|(refine fT hb ?_;intro hb))|refine rt ?_|refine gA rfl ?_|refine gB rfl ?_|apply cT rfl|apply cF rfl|(apply DM.gbT;rfl)|(apply DM.gbF;rfl)|intro h
      · (apply DM.pcat (p109 _ 108 _ p.vars (fun w => decide (w.name = v.name)) call108 (fun w _ => p108 w v _ _ g_same)); (· simp only [go_sem, Nat.reduceBEq, Nat.reduceAdd] <;> rfl); (· exact AVLes.refl _))
        repeat' first|(apply Sp.go;·constructor<;>first|exact ss|(change _=_;first|(simp only[go_sem,Nat.reduceBEq,Nat.reduceAdd,Nat.reduceLeDiff,reduceIte]<;>rfl)|rfl)|exact Nat.le_of_ble_eq_true rfl|decide|(repeat' first|(apply Lk.go;constructor)|assumption|exact nb ‹_› ‹_›|exact nt ‹_› ‹_›))|(intro b hb;repeat first|(refine fe hb ?_;intro _ _ hb)|(refine fT hb ?_;intro hb))|refine rt ?_|refine gA rfl ?_|refine gB rfl ?_|apply cT rfl|apply cF rfl|(apply DM.gbT;rfl)|(apply DM.gbF;rfl)|intro h
        · (apply DM.pcs (p61 v.sort v.init); (· simp only [go_sem, Nat.reduceBEq, Nat.reduceAdd] <;> rfl); (· exact AVLes.refl _))
          repeat' first|(apply Sp.go;·constructor<;>first|exact ss|(change _=_;first|(simp only[go_sem,Nat.reduceBEq,Nat.reduceAdd,Nat.reduceLeDiff,reduceIte]<;>rfl)|rfl)|exact Nat.le_of_ble_eq_true rfl|decide|(repeat' first|(apply Lk.go;constructor)|assumption|exact nb ‹_› ‹_›|exact nt ‹_› ‹_›))|(intro b hb;repeat first|(refine fe hb ?_;intro _ _ hb)|(refine fT hb ?_;intro hb))|refine rt ?_|refine gA rfl ?_|refine gB rfl ?_|apply cT rfl|apply cF rfl|(apply DM.gbT;rfl)|(apply DM.gbF;rfl)|intro h
          (apply AM.cond; (· rfl))
          · intro h4
            repeat' first|(apply Sp.go;·constructor<;>first|exact ss|(change _=_;first|(simp only[go_sem,Nat.reduceBEq,Nat.reduceAdd,Nat.reduceLeDiff,reduceIte]<;>rfl)|rfl)|exact Nat.le_of_ble_eq_true rfl|decide|(repeat' first|(apply Lk.go;constructor)|assumption|exact nb ‹_› ‹_›|exact nt ‹_› ‹_›))|(intro b hb;repeat first|(refine fe hb ?_;intro _ _ hb)|(refine fT hb ?_;intro hb))|refine rt ?_|refine gA rfl ?_|refine gB rfl ?_|apply cT rfl|apply cF rfl|(apply DM.gbT;rfl)|(apply DM.gbF;rfl)|intro h
            (apply Sr.go;·constructor<;>first|(apply Lk.go;constructor<;>first|exact ss|(change _=_;first|(simp only[go_sem,Nat.reduceBEq,Nat.reduceAdd,Nat.reduceLeDiff,reduceIte]<;>rfl)|rfl)|exact Nat.le_of_ble_eq_true rfl|decide|(repeat' first|(apply Lk.go;constructor)|assumption|exact nb ‹_› ‹_›|exact nt ‹_› ‹_›))|assumption)
            refine avle_eq ?_; rw [AV.bool.injEq]
            refine (Bool.and_eq_false_iff.2 (.inl (allI_false h3 ?_))).symm
            rw [hok]; simp at *; simp [*]
          · intro h4
            repeat' first|(apply Sp.go;·constructor<;>first|exact ss|(change _=_;first|(simp only[go_sem,Nat.reduceBEq,Nat.reduceAdd,Nat.reduceLeDiff,reduceIte]<;>rfl)|rfl)|exact Nat.le_of_ble_eq_true rfl|decide|(repeat' first|(apply Lk.go;constructor)|assumption|exact nb ‹_› ‹_›|exact nt ‹_› ‹_›))|(intro b hb;repeat first|(refine fe hb ?_;intro _ _ hb)|(refine fT hb ?_;intro hb))|refine rt ?_|refine gA rfl ?_|refine gB rfl ?_|apply cT rfl|apply cF rfl|(apply DM.gbT;rfl)|(apply DM.gbF;rfl)|intro h
            refine AM.forget (H.setB b1 41 p.cells) ?_ ?_
            · (repeat' first|assumption|(apply Lk.go;constructor))
            refine AM.roundX (i + 1) ⟨rfl, by omega, fun j hj => ?_⟩ ?_ ?_
            · by_cases e : j = i
              · subst e; rw [hok]; simp at *; simp [*]
              · exact he j (by omega)
            · (repeat first | exact envle_nil _ | (refine envle_cons ?_ ?_; · (simp only [go_sem, Nat.reduceBEq, Nat.reduceAdd]; exact AVLe.refl _)))
              refine envle_cons ?_ ?_
              · simp only [go_sem, Nat.reduceBEq, Nat.reduceAdd]
                refine avle_int ?_
                rw [inc64 h3 ok.vars]
              exact envle_nil _
            · show p.vars.length - (i + 1) < p.vars.length - i
              omega
        · (apply Sr.go;·constructor<;>first|(apply Lk.go;constructor<;>first|exact ss|(change _=_;first|(simp only[go_sem,Nat.reduceBEq,Nat.reduceAdd,Nat.reduceLeDiff,reduceIte]<;>rfl)|rfl)|exact Nat.le_of_ble_eq_true rfl|decide|(repeat' first|(apply Lk.go;constructor)|assumption|exact nb ‹_› ‹_›|exact nt ‹_› ‹_›))|assumption)
          refine avle_eq ?_; rw [AV.bool.injEq]
          refine (Bool.and_eq_false_iff.2 (.inl (allI_false h3 ?_))).symm
          rw [hok]; simp at *; simp [*]
      · (apply Sr.go;·constructor<;>first|(apply Lk.go;constructor<;>first|exact ss|(change _=_;first|(simp only[go_sem,Nat.reduceBEq,Nat.reduceAdd,Nat.reduceLeDiff,reduceIte]<;>rfl)|rfl)|exact Nat.le_of_ble_eq_true rfl|decide|(repeat' first|(apply Lk.go;constructor)|assumption|exact nb ‹_› ‹_›|exact nt ‹_› ‹_›))|assumption)
        refine avle_eq ?_; rw [AV.bool.injEq]
        refine (Bool.and_eq_false_iff.2 (.inl (allI_false h3 ?_))).symm
        rw [hok]; simp at *; simp [*]
    · intro h3
      repeat' first|(apply Sp.go;·constructor<;>first|exact ss|(change _=_;first|(simp only[go_sem,Nat.reduceBEq,Nat.reduceAdd,Nat.reduceLeDiff,reduceIte]<;>rfl)|rfl)|exact Nat.le_of_ble_eq_true rfl|decide|(repeat' first|(apply Lk.go;constructor)|assumption|exact nb ‹_› ‹_›|exact nt ‹_› ‹_›))|(intro b hb;repeat first|(refine fe hb ?_;intro _ _ hb)|(refine fT hb ?_;intro hb))|refine rt ?_|refine gA rfl ?_|refine gB rfl ?_|apply cT rfl|apply cF rfl|(apply DM.gbT;rfl)|(apply DM.gbF;rfl)|intro h
      (apply Sr.go;·constructor<;>first|(apply Lk.go;constructor<;>first|exact ss|(change _=_;first|(simp only[go_sem,Nat.reduceBEq,Nat.reduceAdd,Nat.reduceLeDiff,reduceIte]<;>rfl)|rfl)|exact Nat.le_of_ble_eq_true rfl|decide|(repeat' first|(apply Lk.go;constructor)|assumption|exact nb ‹_› ‹_›|exact nt ‹_› ‹_›))|assumption)
      refine avle_eq ?_; rw [AV.bool.injEq]
      simp at h3
      rw [varsOk, allI_true fun j hj => he j (by omega), Bool.true_and, Bool.eq_iff_iff]
      simp
      omega
end Go.Aw.T
