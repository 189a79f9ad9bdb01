/- Part of a proof; own work. -/
import Derived.Test.YtmmkhpmmhpaifaaDoorC6
import Derived.Test.YtmmkhpmmhpaifaaDoorProg
/- Resolved code of functions, and that it is theirs (written by ecode.py, own tool). -/
namespace Go.Aw.T
open Go Go.Aw Go.Proofs
set_option maxRecDepth 1000000

def e13 : EC :=
 (.seq
 (.region [
 ⟨(some 2), none, .box 23 (.t 0)⟩,
 ⟨(some 3), none, .box 23 (.t 1)⟩,
 ⟨(some 4), none, .mv (.c (.int .i64 0))⟩] false)
 (.seq
 (.region [
 ⟨(some 5), none, .faddr 0 (.t 2)⟩,
 ⟨(some 6), none, .load false 1 (.t 5)⟩,
 ⟨(some 7), none, .faddr 0 (.t 3)⟩,
 ⟨(some 8), none, .load false 1 (.t 7)⟩,
 ⟨(some 9), none, .pcall 45 [(.t 6), (.t 8)]⟩,
 ⟨(some 10), none, .faddr 1 (.t 2)⟩,
 ⟨(some 11), none, .load false 1 (.t 10)⟩,
 ⟨(some 12), none, .faddr 1 (.t 3)⟩,
 ⟨(some 13), none, .load false 1 (.t 12)⟩,
 ⟨(some 14), none, .pcall 45 [(.t 11), (.t 13)]⟩,
 ⟨(some 15), none, .faddr 2 (.t 2)⟩,
 ⟨(some 16), none, .load false 1 (.t 15)⟩,
 ⟨(some 17), none, .lenS (.t 16)⟩,
 ⟨(some 18), none, .faddr 2 (.t 3)⟩,
 ⟨(some 19), none, .load false 1 (.t 18)⟩,
 ⟨(some 20), none, .lenS (.t 19)⟩,
 ⟨(some 21), none, .pcall 45 [(.t 17), (.t 20)]⟩,
 ⟨(some 22), none, .faddr 2 (.t 2)⟩,
 ⟨(some 23), none, .load false 1 (.t 22)⟩,
 ⟨(some 24), none, .faddr 2 (.t 3)⟩,
 ⟨(some 25), none, .load false 1 (.t 24)⟩,
 ⟨(some 26), none, .pcall 46 [(.t 23), (.t 25)]⟩,
 ⟨(some 27), none, .bslice 3 1 4 [.int .i64 0] [(0, (.t 9)), (1, (.t 14)), (2, (.t 21)), (3, (.t 26))]⟩,
 ⟨(some 28), none, .pcall 44 [(.t 27)]⟩,
 ⟨(some 4), none, .mv (.t 28)⟩] true)
 .ret))
def r13 : List ERes := [.t 4]

theorem c13 : chkF Tryd.prog Tryd.f13 2 e13 r13 = true := by kernel_rfl

def e14 : EC :=
 (.seq
 (.region [
 ⟨(some 2), none, .box 23 (.t 0)⟩,
 ⟨(some 3), none, .box 23 (.t 1)⟩,
 ⟨(some 4), none, .mv (.c (.int .i64 0))⟩] false)
 (.seq
 (.region [
 ⟨(some 10), none, .faddr 0 (.t 2)⟩,
 ⟨(some 11), none, .load false 1 (.t 10)⟩,
 ⟨(some 12), none, .faddr 0 (.t 3)⟩,
 ⟨(some 13), none, .load false 1 (.t 12)⟩,
 ⟨(some 14), none, .faddr 1 (.t 2)⟩,
 ⟨(some 15), none, .load false 1 (.t 14)⟩,
 ⟨(some 16), none, .faddr 1 (.t 3)⟩,
 ⟨(some 17), none, .load false 1 (.t 16)⟩,
 ⟨(some 18), none, .faddr 2 (.t 2)⟩,
 ⟨(some 19), none, .load false 1 (.t 18)⟩,
 ⟨(some 20), none, .lenS (.t 19)⟩,
 ⟨(some 21), none, .faddr 2 (.t 3)⟩,
 ⟨(some 22), none, .load false 1 (.t 21)⟩,
 ⟨(some 23), none, .lenS (.t 22)⟩,
 ⟨(some 24), none, .build [.int .i64 0, .int .i64 0, .int .i64 0, .int .i64 0, .int .i64 0, .int .i64 0] [(0, 1, (.t 11)), (1, 1, (.t 13)), (2, 1, (.t 15)), (3, 1, (.t 17)), (4, 1, (.t 20)), (5, 1, (.t 23))]⟩,
 ⟨(some 5), none, .alloc 57 [.int .i64 0, .int .i64 0, .int .i64 0, .int .i64 0, .int .i64 0, .int .i64 0]⟩,
 ⟨none, none, .store 6 (.t 5) (.t 24)⟩] false)
 (.seq
 (.seq
 (.region [
 ⟨(some 6), none, .mv (.c (.int .i64 0))⟩] false)
 (.block 0
 (.loop
 (.seq
 (.seq
 (.region [
 ⟨(some 25), none, .mv (.t 6)⟩,
 ⟨(some 26), none, .bin .lss (.t 25) (.c (.int .i64 6))⟩] false)
 (.cond (.t 26)
 .skip
 (.exit 0)))
 (.seq
 (.block 1
 (.seq
 (.region [
 ⟨(some 29), none, .mv (.t 6)⟩,
 ⟨(some 30), none, .iaddrA 6 1 (.t 5) (.t 29)⟩,
 ⟨(some 31), none, .load false 1 (.t 30)⟩,
 ⟨(some 32), none, .mv (.t 6)⟩,
 ⟨(some 33), none, .bin .add (.t 32) (.c (.int .i64 1))⟩,
 ⟨(some 34), none, .iaddrA 6 1 (.t 5) (.t 33)⟩,
 ⟨(some 35), none, .load false 1 (.t 34)⟩,
 ⟨(some 36), none, .pcall 47 [(.t 31), (.t 35)]⟩,
 ⟨(some 7), none, .mv (.t 36)⟩] true)
 (.seq
 (.region [
 ⟨(some 37), none, .mv (.t 7)⟩,
 ⟨(some 38), none, .bin .neq (.t 37) (.c (.int .i64 0))⟩] false)
 (.cond (.t 38)
 (.seq
 (.region [
 ⟨(some 39), none, .mv (.t 7)⟩,
 ⟨(some 4), none, .mv (.t 39)⟩] false)
 .ret)
 .skip))))
 (.region [
 ⟨(some 27), none, .mv (.t 6)⟩,
 ⟨(some 28), none, .bin .add (.t 27) (.c (.int .i64 2))⟩,
 ⟨(some 6), none, .mv (.t 28)⟩] false))))))
 (.seq
 (.seq
 (.region [
 ⟨(some 8), none, .mv (.c (.int .i64 0))⟩] false)
 (.block 2
 (.loop
 (.seq
 (.seq
 (.region [
 ⟨(some 40), none, .mv (.t 8)⟩,
 ⟨(some 41), none, .faddr 2 (.t 2)⟩,
 ⟨(some 42), none, .load false 1 (.t 41)⟩,
 ⟨(some 43), none, .lenS (.t 42)⟩,
 ⟨(some 44), none, .bin .lss (.t 40) (.t 43)⟩] false)
 (.cond (.t 44)
 .skip
 (.exit 2)))
 (.seq
 (.block 3
 (.seq
 (.region [
 ⟨(some 47), none, .faddr 2 (.t 2)⟩,
 ⟨(some 48), none, .load false 1 (.t 47)⟩,
 ⟨(some 49), none, .mv (.t 8)⟩,
 ⟨(some 50), none, .idxS (.t 48) (.t 49)⟩,
 ⟨(some 51), none, .conv .i64 (.t 50)⟩,
 ⟨(some 52), none, .faddr 2 (.t 3)⟩,
 ⟨(some 53), none, .load false 1 (.t 52)⟩,
 ⟨(some 54), none, .mv (.t 8)⟩,
 ⟨(some 55), none, .idxS (.t 53) (.t 54)⟩,
 ⟨(some 56), none, .conv .i64 (.t 55)⟩,
 ⟨(some 57), none, .pcall 47 [(.t 51), (.t 56)]⟩,
 ⟨(some 9), none, .mv (.t 57)⟩] true)
 (.seq
 (.region [
 ⟨(some 58), none, .mv (.t 9)⟩,
 ⟨(some 59), none, .bin .neq (.t 58) (.c (.int .i64 0))⟩] false)
 (.cond (.t 59)
 (.seq
 (.region [
 ⟨(some 60), none, .mv (.t 9)⟩,
 ⟨(some 4), none, .mv (.t 60)⟩] false)
 .ret)
 .skip))))
 (.region [
 ⟨(some 45), none, .mv (.t 8)⟩,
 ⟨(some 46), none, .bin .add (.t 45) (.c (.int .i64 1))⟩,
 ⟨(some 8), none, .mv (.t 46)⟩] false))))))
 (.seq
 (.region [
 ⟨(some 4), none, .mv (.c (.int .i64 0))⟩] false)
 .ret)))))
def r14 : List ERes := [.t 4]

theorem c14 : chkF Tryd.prog Tryd.f14 2 e14 r14 = true := by kernel_rfl

def e15 : EC :=
 (.seq
 (.region [
 ⟨(some 2), none, .box 28 (.t 0)⟩,
 ⟨(some 3), none, .box 23 (.t 1)⟩,
 ⟨(some 4), none, .alloc 23 [.int .i64 0, .int .i64 0, .str []]⟩,
 ⟨(some 5), none, .mv (.c (.int .i64 0))⟩] false)
 (.seq
 (.block 0
 (.seq
 (.region [
 ⟨(some 7), none, .load true 3 (.t 2)⟩,
 ⟨(some 8), none, .call 23 [(.t 7)]⟩,
 ⟨(some 9), none, .not (.t 8)⟩,
 ⟨(some 10), none, .mv (.t 9)⟩,
 ⟨(some 11), (some (10, false)), .load true 3 (.t 3)⟩,
 ⟨(some 12), (some (10, false)), .call 22 [(.t 11)]⟩,
 ⟨(some 13), (some (10, false)), .not (.t 12)⟩,
 ⟨(some 14), none, .pick (.t 10) (.c (.bool true)) (.t 13)⟩,
 ⟨(some 6), none, .mv (.t 14)⟩] false)
 (.cond (.t 6)
 (.seq
 (.region [
 ⟨(some 15), none, .build [.int .i64 0, .int .i64 0, .str []] []⟩,
 ⟨none, none, .store 3 (.t 4) (.t 15)⟩,
 ⟨(some 5), none, .mv (.c (.int .i64 1))⟩] false)
 .ret)
 (.seq
 (.region [
 ⟨(some 17), none, .faddr 0 (.t 2)⟩,
 ⟨(some 18), none, .load false 1 (.t 17)⟩,
 ⟨(some 19), none, .faddr 0 (.t 3)⟩,
 ⟨(some 20), none, .load false 1 (.t 19)⟩,
 ⟨(some 21), none, .bin .neq (.t 18) (.t 20)⟩,
 ⟨(some 16), none, .mv (.t 21)⟩] false)
 (.cond (.t 16)
 (.seq
 (.region [
 ⟨(some 22), none, .build [.int .i64 0, .int .i64 0, .str []] []⟩,
 ⟨none, none, .store 3 (.t 4) (.t 22)⟩,
 ⟨(some 5), none, .mv (.c (.int .i64 11))⟩] false)
 .ret)
 (.seq
 (.region [
 ⟨(some 24), none, .faddr 0 (.t 3)⟩,
 ⟨(some 25), none, .load false 1 (.t 24)⟩,
 ⟨(some 26), none, .bin .eql (.t 25) (.c (.int .i64 1))⟩,
 ⟨(some 23), none, .mv (.t 26)⟩] false)
 (.cond (.t 23)
 (.seq
 (.region [
 ⟨(some 27), none, .faddr 1 (.t 2)⟩,
 ⟨(some 28), none, .load false 1 (.t 27)⟩,
 ⟨(some 29), none, .faddr 2 (.t 2)⟩,
 ⟨(some 30), none, .load false 1 (.t 29)⟩,
 ⟨(some 31), none, .faddr 1 (.t 3)⟩,
 ⟨(some 32), none, .load false 1 (.t 31)⟩,
 ⟨(some 33), none, .minmax false [(.t 30), (.t 32)]⟩,
 ⟨(some 34), none, .minmax true [(.t 28), (.t 33)]⟩,
 ⟨(some 35), none, .faddr 1 (.t 3)⟩,
 ⟨none, none, .store 1 (.t 35) (.t 34)⟩] false)
 (.seq
 (.region [
 ⟨(some 36), none, .load true 3 (.t 3)⟩,
 ⟨none, none, .store 3 (.t 4) (.t 36)⟩,
 ⟨(some 5), none, .mv (.c (.int .i64 0))⟩] false)
 .ret))
 .skip)))))))
 (.seq
 (.region [
 ⟨(some 37), none, .faddr 2 (.t 3)⟩,
 ⟨(some 38), none, .load false 1 (.t 37)⟩,
 ⟨(some 39), none, .faddr 2 (.t 3)⟩,
 ⟨(some 40), none, .load false 1 (.t 39)⟩,
 ⟨(some 41), none, .lenS (.t 40)⟩,
 ⟨(some 42), none, .faddr 2 (.t 2)⟩,
 ⟨(some 43), none, .load false 1 (.t 42)⟩,
 ⟨(some 44), none, .minmax false [(.t 41), (.t 43)]⟩,
 ⟨(some 45), none, .slS (.t 38) none (some (.t 44))⟩,
 ⟨(some 46), none, .faddr 2 (.t 3)⟩,
 ⟨none, none, .store 1 (.t 46) (.t 45)⟩] false)
 (.seq
 (.region [
 ⟨(some 47), none, .faddr 2 (.t 3)⟩,
 ⟨(some 48), none, .load false 1 (.t 47)⟩,
 ⟨(some 49), none, .faddr 1 (.t 2)⟩,
 ⟨(some 50), none, .load false 1 (.t 49)⟩,
 ⟨(some 51), none, .faddr 2 (.t 3)⟩,
 ⟨(some 52), none, .load false 1 (.t 51)⟩,
 ⟨(some 53), none, .lenS (.t 52)⟩,
 ⟨(some 54), none, .bin .sub (.t 50) (.t 53)⟩,
 ⟨(some 55), none, .minmax true [(.c (.int .i64 0)), (.t 54)]⟩,
 ⟨(some 56), none, .pcall 48 [(.c (.str [97])), (.t 55)]⟩,
 ⟨(some 57), none, .bin .add (.t 48) (.t 56)⟩,
 ⟨(some 58), none, .faddr 2 (.t 3)⟩,
 ⟨none, none, .store 1 (.t 58) (.t 57)⟩] true)
 (.seq
 (.region [
 ⟨(some 59), none, .load true 3 (.t 3)⟩,
 ⟨none, none, .store 3 (.t 4) (.t 59)⟩,
 ⟨(some 5), none, .mv (.c (.int .i64 0))⟩] false)
 .ret)))))
def r15 : List ERes := [.cell true 3 4, .t 5]

theorem c15 : chkF Tryd.prog Tryd.f15 2 e15 r15 = true := by kernel_rfl

def e16 : EC :=
 (.seq
 (.region [
 ⟨(some 2), none, .alloc 23 [.int .i64 0, .int .i64 0, .str []]⟩] false)
 (.seq
 (.region [
 ⟨(some 3), none, .mv (.t 0)⟩,
 ⟨(some 4), none, .build [.int .i64 0, .int .i64 0, .str []] [(0, 1, (.c (.int .i64 1))), (1, 1, (.t 3))]⟩,
 ⟨none, none, .store 3 (.t 2) (.t 4)⟩] false)
 .ret))
def r16 : List ERes := [.cell true 3 2]

theorem c16 : chkF Tryd.prog Tryd.f16 1 e16 r16 = true := by kernel_rfl

def e20 : EC :=
 (.seq
 (.region [
 ⟨(some 1), none, .box 23 (.t 0)⟩,
 ⟨(some 2), none, .mv (.c (.bool false))⟩] false)
 (.seq
 (.seq
 (.region [
 ⟨(some 3), none, .faddr 0 (.t 1)⟩,
 ⟨(some 4), none, .load false 1 (.t 3)⟩] false)
 (.block 0
 (.seq
 (.region [
 ⟨(some 6), none, .bin .eql (.t 4) (.c (.int .i64 1))⟩,
 ⟨(some 5), none, .mv (.t 6)⟩] false)
 (.cond (.t 5)
 (.seq
 (.region [
 ⟨(some 7), none, .faddr 1 (.t 1)⟩,
 ⟨(some 8), none, .load false 1 (.t 7)⟩,
 ⟨(some 9), none, .bin .geq (.t 8) (.c (.int .i64 (-1000)))⟩,
 ⟨(some 10), none, .mv (.t 9)⟩,
 ⟨(some 11), (some (10, true)), .faddr 1 (.t 1)⟩,
 ⟨(some 12), (some (10, true)), .load false 1 (.t 11)⟩,
 ⟨(some 13), (some (10, true)), .bin .leq (.t 12) (.c (.int .i64 1000))⟩,
 ⟨(some 14), none, .pick (.t 10) (.t 13) (.c (.bool false))⟩,
 ⟨(some 15), none, .mv (.t 14)⟩,
 ⟨(some 16), (some (15, true)), .faddr 2 (.t 1)⟩,
 ⟨(some 17), (some (15, true)), .load false 1 (.t 16)⟩,
 ⟨(some 18), (some (15, true)), .bin .eql (.t 17) (.c (.str []))⟩,
 ⟨(some 19), none, .pick (.t 15) (.t 18) (.c (.bool false))⟩,
 ⟨(some 2), none, .mv (.t 19)⟩] false)
 .ret)
 (.seq
 (.region [
 ⟨(some 21), none, .bin .eql (.t 4) (.c (.int .i64 2))⟩,
 ⟨(some 20), none, .mv (.t 21)⟩] false)
 (.cond (.t 20)
 (.seq
 (.region [
 ⟨(some 22), none, .faddr 1 (.t 1)⟩,
 ⟨(some 23), none, .load false 1 (.t 22)⟩,
 ⟨(some 24), none, .bin .eql (.t 23) (.c (.int .i64 0))⟩,
 ⟨(some 25), none, .mv (.t 24)⟩,
 ⟨(some 26), (some (25, true)), .faddr 2 (.t 1)⟩,
 ⟨(some 27), (some (25, true)), .load false 1 (.t 26)⟩,
 ⟨(some 28), (some (25, true)), .lenS (.t 27)⟩,
 ⟨(some 29), (some (25, true)), .bin .leq (.t 28) (.c (.int .i64 40))⟩,
 ⟨(some 30), none, .pick (.t 25) (.t 29) (.c (.bool false))⟩,
 ⟨(some 31), none, .mv (.t 30)⟩,
 ⟨(some 32), (some (31, true)), .faddr 2 (.t 1)⟩,
 ⟨(some 33), (some (31, true)), .load false 1 (.t 32)⟩,
 ⟨(some 34), (some (31, true)), .call 54 [(.t 33)]⟩,
 ⟨(some 35), none, .pick (.t 31) (.t 34) (.c (.bool false))⟩,
 ⟨(some 2), none, .mv (.t 35)⟩] false)
 .ret)
 .skip))))))
 (.seq
 (.region [
 ⟨(some 2), none, .mv (.c (.bool false))⟩] false)
 .ret)))
def r20 : List ERes := [.t 2]

theorem c20 : chkF Tryd.prog Tryd.f20 1 e20 r20 = true := by kernel_rfl

def e22 : EC :=
 (.seq
 (.region [
 ⟨(some 1), none, .box 23 (.t 0)⟩,
 ⟨(some 2), none, .mv (.c (.bool false))⟩] false)
 (.seq
 (.seq
 (.region [
 ⟨(some 3), none, .faddr 0 (.t 1)⟩,
 ⟨(some 4), none, .load false 1 (.t 3)⟩] false)
 (.block 0
 (.seq
 (.region [
 ⟨(some 6), none, .bin .eql (.t 4) (.c (.int .i64 1))⟩,
 ⟨(some 5), none, .mv (.t 6)⟩] false)
 (.cond (.t 5)
 (.seq
 (.region [
 ⟨(some 7), none, .faddr 1 (.t 1)⟩,
 ⟨(some 8), none, .load false 1 (.t 7)⟩,
 ⟨(some 9), none, .bin .geq (.t 8) (.c (.int .i64 (-1000)))⟩,
 ⟨(some 10), none, .mv (.t 9)⟩,
 ⟨(some 11), (some (10, true)), .faddr 1 (.t 1)⟩,
 ⟨(some 12), (some (10, true)), .load false 1 (.t 11)⟩,
 ⟨(some 13), (some (10, true)), .bin .leq (.t 12) (.c (.int .i64 1000))⟩,
 ⟨(some 14), none, .pick (.t 10) (.t 13) (.c (.bool false))⟩,
 ⟨(some 15), none, .mv (.t 14)⟩,
 ⟨(some 16), (some (15, true)), .faddr 2 (.t 1)⟩,
 ⟨(some 17), (some (15, true)), .load false 1 (.t 16)⟩,
 ⟨(some 18), (some (15, true)), .bin .eql (.t 17) (.c (.str []))⟩,
 ⟨(some 19), none, .pick (.t 15) (.t 18) (.c (.bool false))⟩,
 ⟨(some 2), none, .mv (.t 19)⟩] false)
 .ret)
 (.seq
 (.region [
 ⟨(some 21), none, .bin .eql (.t 4) (.c (.int .i64 2))⟩,
 ⟨(some 20), none, .mv (.t 21)⟩] false)
 (.cond (.t 20)
 (.seq
 (.region [
 ⟨(some 22), none, .faddr 1 (.t 1)⟩,
 ⟨(some 23), none, .load false 1 (.t 22)⟩,
 ⟨(some 24), none, .bin .eql (.t 23) (.c (.int .i64 0))⟩,
 ⟨(some 25), none, .mv (.t 24)⟩,
 ⟨(some 26), (some (25, true)), .faddr 2 (.t 1)⟩,
 ⟨(some 27), (some (25, true)), .load false 1 (.t 26)⟩,
 ⟨(some 28), (some (25, true)), .lenS (.t 27)⟩,
 ⟨(some 29), (some (25, true)), .bin .leq (.t 28) (.c (.int .i64 40))⟩,
 ⟨(some 30), none, .pick (.t 25) (.t 29) (.c (.bool false))⟩,
 ⟨(some 31), none, .mv (.t 30)⟩,
 ⟨(some 32), (some (31, true)), .faddr 2 (.t 1)⟩,
 ⟨(some 33), (some (31, true)), .load false 1 (.t 32)⟩,
 ⟨(some 34), (some (31, true)), .call 56 [(.t 33)]⟩,
 ⟨(some 35), none, .pick (.t 31) (.t 34) (.c (.bool false))⟩,
 ⟨(some 2), none, .mv (.t 35)⟩] false)
 .ret)
 .skip))))))
 (.seq
 (.region [
 ⟨(some 2), none, .mv (.c (.bool false))⟩] false)
 .ret)))
def r22 : List ERes := [.t 2]

theorem c22 : chkF Tryd.prog Tryd.f22 1 e22 r22 = true := by kernel_rfl

def e23 : EC :=
 (.seq
 (.region [
 ⟨(some 1), none, .box 28 (.t 0)⟩,
 ⟨(some 2), none, .mv (.c (.bool false))⟩] false)
 (.seq
 (.region [
 ⟨(some 3), none, .mv (.c (.int .i64 0))⟩,
 ⟨(some 4), none, .mv (.c (.int .i64 0))⟩] false)
 (.seq
 (.seq
 (.region [
 ⟨(some 5), none, .faddr 0 (.t 1)⟩,
 ⟨(some 6), none, .load false 1 (.t 5)⟩] false)
 (.block 0
 (.seq
 (.region [
 ⟨(some 8), none, .bin .eql (.t 6) (.c (.int .i64 1))⟩,
 ⟨(some 7), none, .mv (.t 8)⟩] false)
 (.cond (.t 7)
 (.region [
 ⟨(some 3), none, .mv (.c (.int .i64 (-1000)))⟩,
 ⟨(some 4), none, .mv (.c (.int .i64 1000))⟩] false)
 (.seq
 (.region [
 ⟨(some 10), none, .bin .eql (.t 6) (.c (.int .i64 2))⟩,
 ⟨(some 9), none, .mv (.t 10)⟩] false)
 (.cond (.t 9)
 (.region [
 ⟨(some 3), none, .mv (.c (.int .i64 0))⟩,
 ⟨(some 4), none, .mv (.c (.int .i64 40))⟩] false)
 (.seq
 (.region [
 ⟨(some 2), none, .mv (.c (.bool false))⟩] false)
 .ret)))))))
 (.seq
 (.region [
 ⟨(some 11), none, .mv (.t 3)⟩,
 ⟨(some 12), none, .faddr 1 (.t 1)⟩,
 ⟨(some 13), none, .load false 1 (.t 12)⟩,
 ⟨(some 14), none, .bin .leq (.t 11) (.t 13)⟩,
 ⟨(some 15), none, .mv (.t 14)⟩,
 ⟨(some 16), (some (15, true)), .faddr 1 (.t 1)⟩,
 ⟨(some 17), (some (15, true)), .load false 1 (.t 16)⟩,
 ⟨(some 18), (some (15, true)), .faddr 2 (.t 1)⟩,
 ⟨(some 19), (some (15, true)), .load false 1 (.t 18)⟩,
 ⟨(some 20), (some (15, true)), .bin .leq (.t 17) (.t 19)⟩,
 ⟨(some 21), none, .pick (.t 15) (.t 20) (.c (.bool false))⟩,
 ⟨(some 22), none, .mv (.t 21)⟩,
 ⟨(some 23), (some (22, true)), .faddr 2 (.t 1)⟩,
 ⟨(some 24), (some (22, true)), .load false 1 (.t 23)⟩,
 ⟨(some 25), (some (22, true)), .mv (.t 4)⟩,
 ⟨(some 26), (some (22, true)), .bin .leq (.t 24) (.t 25)⟩,
 ⟨(some 27), none, .pick (.t 22) (.t 26) (.c (.bool false))⟩,
 ⟨(some 2), none, .mv (.t 27)⟩] false)
 .ret))))
def r23 : List ERes := [.t 2]

theorem c23 : chkF Tryd.prog Tryd.f23 1 e23 r23 = true := by kernel_rfl

def e24 : EC :=
 (.seq
 (.region [
 ⟨(some 1), none, .box 28 (.t 0)⟩,
 ⟨(some 2), none, .mv (.c (.bool false))⟩] false)
 (.seq
 (.seq
 (.region [
 ⟨(some 3), none, .faddr 0 (.t 1)⟩,
 ⟨(some 4), none, .load false 1 (.t 3)⟩] false)
 (.block 0
 (.seq
 (.region [
 ⟨(some 6), none, .bin .eql (.t 4) (.c (.int .i64 1))⟩,
 ⟨(some 5), none, .mv (.t 6)⟩] false)
 (.cond (.t 5)
 (.seq
 (.region [
 ⟨(some 7), none, .faddr 1 (.t 1)⟩,
 ⟨(some 8), none, .load false 1 (.t 7)⟩,
 ⟨(some 9), none, .bin .leq (.c (.int .i64 (-1000))) (.t 8)⟩,
 ⟨(some 10), none, .mv (.t 9)⟩,
 ⟨(some 11), (some (10, true)), .faddr 1 (.t 1)⟩,
 ⟨(some 12), (some (10, true)), .load false 1 (.t 11)⟩,
 ⟨(some 13), (some (10, true)), .faddr 2 (.t 1)⟩,
 ⟨(some 14), (some (10, true)), .load false 1 (.t 13)⟩,
 ⟨(some 15), (some (10, true)), .bin .leq (.t 12) (.t 14)⟩,
 ⟨(some 16), none, .pick (.t 10) (.t 15) (.c (.bool false))⟩,
 ⟨(some 17), none, .mv (.t 16)⟩,
 ⟨(some 18), (some (17, true)), .faddr 2 (.t 1)⟩,
 ⟨(some 19), (some (17, true)), .load false 1 (.t 18)⟩,
 ⟨(some 20), (some (17, true)), .bin .leq (.t 19) (.c (.int .i64 1000))⟩,
 ⟨(some 21), none, .pick (.t 17) (.t 20) (.c (.bool false))⟩,
 ⟨(some 2), none, .mv (.t 21)⟩] false)
 .ret)
 (.seq
 (.region [
 ⟨(some 23), none, .bin .eql (.t 4) (.c (.int .i64 2))⟩,
 ⟨(some 22), none, .mv (.t 23)⟩] false)
 (.cond (.t 22)
 (.seq
 (.region [
 ⟨(some 24), none, .faddr 1 (.t 1)⟩,
 ⟨(some 25), none, .load false 1 (.t 24)⟩,
 ⟨(some 26), none, .bin .leq (.c (.int .i64 0)) (.t 25)⟩,
 ⟨(some 27), none, .mv (.t 26)⟩,
 ⟨(some 28), (some (27, true)), .faddr 1 (.t 1)⟩,
 ⟨(some 29), (some (27, true)), .load false 1 (.t 28)⟩,
 ⟨(some 30), (some (27, true)), .faddr 2 (.t 1)⟩,
 ⟨(some 31), (some (27, true)), .load false 1 (.t 30)⟩,
 ⟨(some 32), (some (27, true)), .bin .leq (.t 29) (.t 31)⟩,
 ⟨(some 33), none, .pick (.t 27) (.t 32) (.c (.bool false))⟩,
 ⟨(some 34), none, .mv (.t 33)⟩,
 ⟨(some 35), (some (34, true)), .faddr 2 (.t 1)⟩,
 ⟨(some 36), (some (34, true)), .load false 1 (.t 35)⟩,
 ⟨(some 37), (some (34, true)), .bin .leq (.t 36) (.c (.int .i64 40))⟩,
 ⟨(some 38), none, .pick (.t 34) (.t 37) (.c (.bool false))⟩,
 ⟨(some 2), none, .mv (.t 38)⟩] false)
 .ret)
 .skip))))))
 (.seq
 (.region [
 ⟨(some 2), none, .mv (.c (.bool false))⟩] false)
 .ret)))
def r24 : List ERes := [.t 2]

theorem c24 : chkF Tryd.prog Tryd.f24 1 e24 r24 = true := by kernel_rfl

def e25 : EC :=
 (.seq
 (.region [
 ⟨(some 1), none, .box 23 (.t 0)⟩,
 ⟨(some 2), none, .mv (.c (.int .i64 0))⟩] false)
 (.seq
 (.seq
 (.region [
 ⟨(some 3), none, .faddr 0 (.t 1)⟩,
 ⟨(some 4), none, .load false 1 (.t 3)⟩] false)
 (.block 0
 (.seq
 (.region [
 ⟨(some 6), none, .bin .eql (.t 4) (.c (.int .i64 1))⟩,
 ⟨(some 5), none, .mv (.t 6)⟩] false)
 (.cond (.t 5)
 (.seq
 (.region [
 ⟨(some 7), none, .faddr 1 (.t 1)⟩,
 ⟨(some 8), none, .load false 1 (.t 7)⟩,
 ⟨(some 2), none, .mv (.t 8)⟩] false)
 .ret)
 (.seq
 (.region [
 ⟨(some 10), none, .bin .eql (.t 4) (.c (.int .i64 2))⟩,
 ⟨(some 9), none, .mv (.t 10)⟩] false)
 (.cond (.t 9)
 (.seq
 (.region [
 ⟨(some 11), none, .faddr 2 (.t 1)⟩,
 ⟨(some 12), none, .load false 1 (.t 11)⟩,
 ⟨(some 13), none, .lenS (.t 12)⟩,
 ⟨(some 2), none, .mv (.t 13)⟩] false)
 .ret)
 .skip))))))
 (.seq
 (.region [
 ⟨(some 2), none, .mv (.c (.int .i64 0))⟩] false)
 .ret)))
def r25 : List ERes := [.t 2]

theorem c25 : chkF Tryd.prog Tryd.f25 1 e25 r25 = true := by kernel_rfl

def e26 : EC :=
 (.seq
 (.region [
 ⟨(some 1), none, .box 23 (.t 0)⟩,
 ⟨(some 2), none, .mv (.c (.int .i64 0))⟩] false)
 (.seq
 (.seq
 (.region [
 ⟨(some 3), none, .faddr 0 (.t 1)⟩,
 ⟨(some 4), none, .load false 1 (.t 3)⟩] false)
 (.block 0
 (.seq
 (.region [
 ⟨(some 6), none, .bin .eql (.t 4) (.c (.int .i64 1))⟩,
 ⟨(some 5), none, .mv (.t 6)⟩] false)
 (.cond (.t 5)
 (.seq
 (.region [
 ⟨(some 7), none, .faddr 1 (.t 1)⟩,
 ⟨(some 8), none, .load false 1 (.t 7)⟩,
 ⟨(some 2), none, .mv (.t 8)⟩] false)
 .ret)
 (.seq
 (.region [
 ⟨(some 10), none, .bin .eql (.t 4) (.c (.int .i64 2))⟩,
 ⟨(some 9), none, .mv (.t 10)⟩] false)
 (.cond (.t 9)
 (.seq
 (.region [
 ⟨(some 11), none, .faddr 2 (.t 1)⟩,
 ⟨(some 12), none, .load false 1 (.t 11)⟩,
 ⟨(some 13), none, .lenS (.t 12)⟩,
 ⟨(some 2), none, .mv (.t 13)⟩] false)
 .ret)
 .skip))))))
 (.seq
 (.region [
 ⟨(some 2), none, .mv (.c (.int .i64 0))⟩] false)
 .ret)))
def r26 : List ERes := [.t 2]

theorem c26 : chkF Tryd.prog Tryd.f26 1 e26 r26 = true := by kernel_rfl

def e27 : EC :=
 (.seq
 (.region [
 ⟨(some 2), none, .box 28 (.t 0)⟩,
 ⟨(some 3), none, .box 23 (.t 1)⟩,
 ⟨(some 4), none, .mv (.c (.bool false))⟩] false)
 (.seq
 (.region [
 ⟨(some 6), none, .load true 3 (.t 3)⟩,
 ⟨(some 7), none, .call 25 [(.t 6)]⟩,
 ⟨(some 5), none, .mv (.t 7)⟩] false)
 (.seq
 (.region [
 ⟨(some 8), none, .load true 3 (.t 2)⟩,
 ⟨(some 9), none, .call 23 [(.t 8)]⟩,
 ⟨(some 10), none, .mv (.t 9)⟩,
 ⟨(some 11), (some (10, true)), .load true 3 (.t 3)⟩,
 ⟨(some 12), (some (10, true)), .call 22 [(.t 11)]⟩,
 ⟨(some 13), none, .pick (.t 10) (.t 12) (.c (.bool false))⟩,
 ⟨(some 14), none, .mv (.t 13)⟩,
 ⟨(some 15), (some (14, true)), .faddr 0 (.t 2)⟩,
 ⟨(some 16), (some (14, true)), .load false 1 (.t 15)⟩,
 ⟨(some 17), (some (14, true)), .faddr 0 (.t 3)⟩,
 ⟨(some 18), (some (14, true)), .load false 1 (.t 17)⟩,
 ⟨(some 19), (some (14, true)), .bin .eql (.t 16) (.t 18)⟩,
 ⟨(some 20), none, .pick (.t 14) (.t 19) (.c (.bool false))⟩,
 ⟨(some 21), none, .mv (.t 20)⟩,
 ⟨(some 22), (some (21, true)), .mv (.t 5)⟩,
 ⟨(some 23), (some (21, true)), .faddr 1 (.t 2)⟩,
 ⟨(some 24), (some (21, true)), .load false 1 (.t 23)⟩,
 ⟨(some 25), (some (21, true)), .bin .geq (.t 22) (.t 24)⟩,
 ⟨(some 26), none, .pick (.t 21) (.t 25) (.c (.bool false))⟩,
 ⟨(some 27), none, .mv (.t 26)⟩,
 ⟨(some 28), (some (27, true)), .mv (.t 5)⟩,
 ⟨(some 29), (some (27, true)), .faddr 2 (.t 2)⟩,
 ⟨(some 30), (some (27, true)), .load false 1 (.t 29)⟩,
 ⟨(some 31), (some (27, true)), .bin .leq (.t 28) (.t 30)⟩,
 ⟨(some 32), none, .pick (.t 27) (.t 31) (.c (.bool false))⟩,
 ⟨(some 4), none, .mv (.t 32)⟩] false)
 .ret)))
def r27 : List ERes := [.t 4]

theorem c27 : chkF Tryd.prog Tryd.f27 2 e27 r27 = true := by kernel_rfl

def e28 : EC :=
 (.seq
 (.region [
 ⟨(some 2), none, .box 28 (.t 0)⟩,
 ⟨(some 3), none, .box 23 (.t 1)⟩,
 ⟨(some 4), none, .mv (.c (.bool false))⟩] false)
 (.seq
 (.region [
 ⟨(some 5), none, .load true 3 (.t 2)⟩,
 ⟨(some 6), none, .pcall 24 [(.t 5)]⟩,
 ⟨(some 7), none, .mv (.t 6)⟩,
 ⟨(some 8), (some (7, true)), .load true 3 (.t 3)⟩,
 ⟨(some 9), (some (7, true)), .pcall 20 [(.t 8)]⟩,
 ⟨(some 10), none, .pick (.t 7) (.t 9) (.c (.bool false))⟩,
 ⟨(some 11), none, .mv (.t 10)⟩,
 ⟨(some 12), (some (11, true)), .faddr 0 (.t 2)⟩,
 ⟨(some 13), (some (11, true)), .load false 1 (.t 12)⟩,
 ⟨(some 14), (some (11, true)), .faddr 0 (.t 3)⟩,
 ⟨(some 15), (some (11, true)), .load false 1 (.t 14)⟩,
 ⟨(some 16), (some (11, true)), .bin .eql (.t 13) (.t 15)⟩,
 ⟨(some 17), none, .pick (.t 11) (.t 16) (.c (.bool false))⟩,
 ⟨(some 18), none, .mv (.t 17)⟩,
 ⟨(some 19), (some (18, true)), .load true 3 (.t 3)⟩,
 ⟨(some 20), (some (18, true)), .pcall 26 [(.t 19)]⟩,
 ⟨(some 21), (some (18, true)), .faddr 1 (.t 2)⟩,
 ⟨(some 22), (some (18, true)), .load false 1 (.t 21)⟩,
 ⟨(some 23), (some (18, true)), .bin .geq (.t 20) (.t 22)⟩,
 ⟨(some 24), none, .pick (.t 18) (.t 23) (.c (.bool false))⟩,
 ⟨(some 25), none, .mv (.t 24)⟩,
 ⟨(some 26), (some (25, true)), .load true 3 (.t 3)⟩,
 ⟨(some 27), (some (25, true)), .pcall 26 [(.t 26)]⟩,
 ⟨(some 28), (some (25, true)), .faddr 2 (.t 2)⟩,
 ⟨(some 29), (some (25, true)), .load false 1 (.t 28)⟩,
 ⟨(some 30), (some (25, true)), .bin .leq (.t 27) (.t 29)⟩,
 ⟨(some 31), none, .pick (.t 25) (.t 30) (.c (.bool false))⟩,
 ⟨(some 4), none, .mv (.t 31)⟩] true)
 .ret))
def r28 : List ERes := [.t 4]

theorem c28 : chkF Tryd.prog Tryd.f28 2 e28 r28 = true := by kernel_rfl

def e29 : EC :=
 (.seq
 (.region [
 ⟨(some 1), none, .box 28 (.t 0)⟩,
 ⟨(some 2), none, .alloc 23 [.int .i64 0, .int .i64 0, .str []]⟩,
 ⟨(some 3), none, .mv (.c (.int .i64 0))⟩] false)
 (.seq
 (.seq
 (.region [
 ⟨(some 4), none, .load true 3 (.t 1)⟩,
 ⟨(some 5), none, .call 23 [(.t 4)]⟩,
 ⟨(some 6), none, .not (.t 5)⟩] false)
 (.cond (.t 6)
 (.seq
 (.region [
 ⟨(some 7), none, .build [.int .i64 0, .int .i64 0, .str []] []⟩,
 ⟨none, none, .store 3 (.t 2) (.t 7)⟩,
 ⟨(some 3), none, .mv (.c (.int .i64 1))⟩] false)
 .ret)
 .skip))
 (.seq
 (.seq
 (.region [
 ⟨(some 8), none, .faddr 0 (.t 1)⟩,
 ⟨(some 9), none, .load false 1 (.t 8)⟩,
 ⟨(some 10), none, .bin .eql (.t 9) (.c (.int .i64 1))⟩] false)
 (.cond (.t 10)
 (.seq
 (.region [
 ⟨(some 11), none, .faddr 1 (.t 1)⟩,
 ⟨(some 12), none, .load false 1 (.t 11)⟩,
 ⟨(some 13), none, .build [.int .i64 0, .int .i64 0, .str []] [(0, 1, (.c (.int .i64 1))), (1, 1, (.t 12))]⟩,
 ⟨none, none, .store 3 (.t 2) (.t 13)⟩,
 ⟨(some 3), none, .mv (.c (.int .i64 0))⟩] false)
 .ret)
 .skip))
 (.seq
 (.region [
 ⟨(some 14), none, .faddr 1 (.t 1)⟩,
 ⟨(some 15), none, .load false 1 (.t 14)⟩,
 ⟨(some 16), none, .call 48 [(.c (.str [97])), (.t 15)]⟩,
 ⟨(some 17), none, .build [.int .i64 0, .int .i64 0, .str []] [(0, 1, (.c (.int .i64 2))), (2, 1, (.t 16))]⟩,
 ⟨none, none, .store 3 (.t 2) (.t 17)⟩,
 ⟨(some 3), none, .mv (.c (.int .i64 0))⟩] false)
 .ret))))
def r29 : List ERes := [.cell true 3 2, .t 3]

theorem c29 : chkF Tryd.prog Tryd.f29 1 e29 r29 = true := by kernel_rfl

def e30 : EC :=
 (.seq
 (.region [
 ⟨(some 1), none, .box 28 (.t 0)⟩,
 ⟨(some 2), none, .alloc 23 [.int .i64 0, .int .i64 0, .str []]⟩,
 ⟨(some 3), none, .mv (.c (.int .i64 0))⟩] false)
 (.seq
 (.seq
 (.region [
 ⟨(some 4), none, .load true 3 (.t 1)⟩,
 ⟨(some 5), none, .call 24 [(.t 4)]⟩,
 ⟨(some 6), none, .not (.t 5)⟩] false)
 (.cond (.t 6)
 (.seq
 (.region [
 ⟨(some 7), none, .build [.int .i64 0, .int .i64 0, .str []] []⟩,
 ⟨none, none, .store 3 (.t 2) (.t 7)⟩,
 ⟨(some 3), none, .mv (.c (.int .i64 1))⟩] false)
 .ret)
 .skip))
 (.seq
 (.seq
 (.region [
 ⟨(some 8), none, .faddr 0 (.t 1)⟩,
 ⟨(some 9), none, .load false 1 (.t 8)⟩,
 ⟨(some 10), none, .bin .eql (.t 9) (.c (.int .i64 1))⟩] false)
 (.cond (.t 10)
 (.seq
 (.region [
 ⟨(some 11), none, .faddr 1 (.t 1)⟩,
 ⟨(some 12), none, .load false 1 (.t 11)⟩,
 ⟨(some 13), none, .call 16 [(.t 12)]⟩,
 ⟨none, none, .store 3 (.t 2) (.t 13)⟩,
 ⟨(some 3), none, .mv (.c (.int .i64 0))⟩] false)
 .ret)
 .skip))
 (.seq
 (.region [
 ⟨(some 14), none, .faddr 1 (.t 1)⟩,
 ⟨(some 15), none, .load false 1 (.t 14)⟩,
 ⟨(some 16), none, .call 57 [(.t 15)]⟩,
 ⟨(some 17), none, .call 43 [(.t 16)]⟩,
 ⟨none, none, .store 3 (.t 2) (.t 17)⟩,
 ⟨(some 3), none, .mv (.c (.int .i64 0))⟩] false)
 .ret))))
def r30 : List ERes := [.cell true 3 2, .t 3]

theorem c30 : chkF Tryd.prog Tryd.f30 1 e30 r30 = true := by kernel_rfl

def e31 : EC :=
 (.seq
 (.region [
 ⟨(some 2), none, .box 28 (.t 0)⟩,
 ⟨(some 3), none, .box 23 (.t 1)⟩,
 ⟨(some 4), none, .alloc 23 [.int .i64 0, .int .i64 0, .str []]⟩,
 ⟨(some 5), none, .mv (.c (.int .i64 0))⟩] false)
 (.seq
 (.block 0
 (.seq
 (.region [
 ⟨(some 7), none, .load true 3 (.t 2)⟩,
 ⟨(some 8), none, .call 24 [(.t 7)]⟩,
 ⟨(some 9), none, .not (.t 8)⟩,
 ⟨(some 10), none, .mv (.t 9)⟩,
 ⟨(some 11), (some (10, false)), .load true 3 (.t 3)⟩,
 ⟨(some 12), (some (10, false)), .call 20 [(.t 11)]⟩,
 ⟨(some 13), (some (10, false)), .not (.t 12)⟩,
 ⟨(some 14), none, .pick (.t 10) (.c (.bool true)) (.t 13)⟩,
 ⟨(some 6), none, .mv (.t 14)⟩] false)
 (.cond (.t 6)
 (.seq
 (.region [
 ⟨(some 15), none, .build [.int .i64 0, .int .i64 0, .str []] []⟩,
 ⟨none, none, .store 3 (.t 4) (.t 15)⟩,
 ⟨(some 5), none, .mv (.c (.int .i64 1))⟩] false)
 .ret)
 (.seq
 (.region [
 ⟨(some 17), none, .faddr 0 (.t 2)⟩,
 ⟨(some 18), none, .load false 1 (.t 17)⟩,
 ⟨(some 19), none, .faddr 0 (.t 3)⟩,
 ⟨(some 20), none, .load false 1 (.t 19)⟩,
 ⟨(some 21), none, .bin .neq (.t 18) (.t 20)⟩,
 ⟨(some 16), none, .mv (.t 21)⟩] false)
 (.cond (.t 16)
 (.seq
 (.region [
 ⟨(some 22), none, .build [.int .i64 0, .int .i64 0, .str []] []⟩,
 ⟨none, none, .store 3 (.t 4) (.t 22)⟩,
 ⟨(some 5), none, .mv (.c (.int .i64 11))⟩] false)
 .ret)
 (.seq
 (.region [
 ⟨(some 24), none, .faddr 0 (.t 3)⟩,
 ⟨(some 25), none, .load false 1 (.t 24)⟩,
 ⟨(some 26), none, .bin .eql (.t 25) (.c (.int .i64 1))⟩,
 ⟨(some 23), none, .mv (.t 26)⟩] false)
 (.cond (.t 23)
 (.seq
 (.region [
 ⟨(some 27), none, .faddr 1 (.t 3)⟩,
 ⟨(some 28), none, .load false 1 (.t 27)⟩,
 ⟨(some 29), none, .faddr 1 (.t 2)⟩,
 ⟨(some 30), none, .load false 1 (.t 29)⟩,
 ⟨(some 31), none, .minmax true [(.t 28), (.t 30)]⟩,
 ⟨(some 32), none, .faddr 2 (.t 2)⟩,
 ⟨(some 33), none, .load false 1 (.t 32)⟩,
 ⟨(some 34), none, .minmax false [(.t 31), (.t 33)]⟩,
 ⟨(some 35), none, .call 16 [(.t 34)]⟩,
 ⟨none, none, .store 3 (.t 4) (.t 35)⟩,
 ⟨(some 5), none, .mv (.c (.int .i64 0))⟩] false)
 .ret)
 (.seq
 (.region [
 ⟨(some 37), none, .faddr 2 (.t 3)⟩,
 ⟨(some 38), none, .load false 1 (.t 37)⟩,
 ⟨(some 39), none, .lenS (.t 38)⟩,
 ⟨(some 40), none, .faddr 2 (.t 2)⟩,
 ⟨(some 41), none, .load false 1 (.t 40)⟩,
 ⟨(some 42), none, .bin .gtr (.t 39) (.t 41)⟩,
 ⟨(some 36), none, .mv (.t 42)⟩] false)
 (.cond (.t 36)
 (.seq
 (.region [
 ⟨(some 43), none, .faddr 2 (.t 3)⟩,
 ⟨(some 44), none, .load false 1 (.t 43)⟩,
 ⟨(some 45), none, .faddr 2 (.t 2)⟩,
 ⟨(some 46), none, .load false 1 (.t 45)⟩,
 ⟨(some 47), none, .slS (.t 44) none (some (.t 46))⟩,
 ⟨(some 48), none, .call 43 [(.t 47)]⟩,
 ⟨none, none, .store 3 (.t 4) (.t 48)⟩,
 ⟨(some 5), none, .mv (.c (.int .i64 0))⟩] false)
 .ret)
 .skip)))))))))
 (.seq
 (.region [
 ⟨(some 49), none, .faddr 2 (.t 3)⟩,
 ⟨(some 50), none, .load false 1 (.t 49)⟩,
 ⟨(some 51), none, .faddr 1 (.t 2)⟩,
 ⟨(some 52), none, .load false 1 (.t 51)⟩,
 ⟨(some 53), none, .faddr 2 (.t 3)⟩,
 ⟨(some 54), none, .load false 1 (.t 53)⟩,
 ⟨(some 55), none, .lenS (.t 54)⟩,
 ⟨(some 56), none, .bin .sub (.t 52) (.t 55)⟩,
 ⟨(some 57), none, .pcall 57 [(.t 56)]⟩,
 ⟨(some 58), none, .bin .add (.t 50) (.t 57)⟩,
 ⟨(some 59), none, .pcall 43 [(.t 58)]⟩,
 ⟨none, none, .store 3 (.t 4) (.t 59)⟩,
 ⟨(some 5), none, .mv (.c (.int .i64 0))⟩] true)
 .ret)))
def r31 : List ERes := [.cell true 3 4, .t 5]

theorem c31 : chkF Tryd.prog Tryd.f31 2 e31 r31 = true := by kernel_rfl

def e32 : EC :=
 (.seq
 (.region [
 ⟨(some 2), none, .mv (.c (.bool false))⟩] false)
 (.seq
 (.seq
 (.region [
 ⟨(some 3), none, .mv (.c (.int .i64 0))⟩] false)
 (.block 0
 (.loop
 (.seq
 (.seq
 (.region [
 ⟨(some 4), none, .mv (.t 3)⟩,
 ⟨(some 5), none, .mv (.t 0)⟩,
 ⟨(some 6), none, .len (.t 5)⟩,
 ⟨(some 7), none, .bin .lss (.t 4) (.t 6)⟩] false)
 (.cond (.t 7)
 .skip
 (.exit 0)))
 (.seq
 (.block 1
 (.seq
 (.region [
 ⟨(some 10), none, .mv (.t 0)⟩,
 ⟨(some 11), none, .mv (.t 3)⟩,
 ⟨(some 12), none, .iaddr 3 (.t 10) (.t 11)⟩,
 ⟨(some 13), none, .faddr 2 (.t 12)⟩,
 ⟨(some 14), none, .load false 1 (.t 13)⟩,
 ⟨(some 15), none, .lenS (.t 14)⟩,
 ⟨(some 16), none, .bin .gtr (.t 15) (.c (.int .i64 100))⟩] false)
 (.cond (.t 16)
 (.seq
 (.region [
 ⟨(some 2), none, .mv (.c (.bool false))⟩] false)
 .ret)
 .skip)))
 (.region [
 ⟨(some 8), none, .mv (.t 3)⟩,
 ⟨(some 9), none, .bin .add (.t 8) (.c (.int .i64 1))⟩,
 ⟨(some 3), none, .mv (.t 9)⟩] false))))))
 (.seq
 (.region [
 ⟨(some 17), none, .mv (.t 0)⟩,
 ⟨(some 18), none, .len (.t 17)⟩,
 ⟨(some 19), none, .bin .leq (.t 18) (.c (.int .i64 40))⟩,
 ⟨(some 2), none, .mv (.t 19)⟩] false)
 .ret)))
def r32 : List ERes := [.t 2]

theorem c32 : chkF Tryd.prog Tryd.f32 1 e32 r32 = true := by kernel_rfl

def e43 : EC :=
 (.seq
 (.region [
 ⟨(some 2), none, .alloc 23 [.int .i64 0, .int .i64 0, .str []]⟩] false)
 (.seq
 (.region [
 ⟨(some 3), none, .mv (.t 0)⟩,
 ⟨(some 4), none, .build [.int .i64 0, .int .i64 0, .str []] [(0, 1, (.c (.int .i64 2))), (2, 1, (.t 3))]⟩,
 ⟨none, none, .store 3 (.t 2) (.t 4)⟩] false)
 .ret))
def r43 : List ERes := [.cell true 3 2]

theorem c43 : chkF Tryd.prog Tryd.f43 1 e43 r43 = true := by kernel_rfl

def e44 : EC :=
 (.seq
 (.region [
 ⟨(some 2), none, .mv (.c (.int .i64 0))⟩] false)
 (.seq
 (.region [
 ⟨(some 3), none, .mv (.c (.int .i64 0))⟩] false)
 (.seq
 (.seq
 (.region [
 ⟨(some 6), none, .mv (.t 0)⟩,
 ⟨(some 7), none, .len (.t 6)⟩,
 ⟨(some 8), none, .mv (.c (.int .i64 0))⟩] false)
 (.block 0
 (.loop
 (.seq
 (.region [
 ⟨(some 9), none, .bin .lss (.t 8) (.t 7)⟩] false)
 (.seq
 (.cond (.t 9)
 .skip
 (.exit 0))
 (.seq
 (.block 1
 (.seq
 (.region [
 ⟨(some 10), none, .iaddr 1 (.t 6) (.t 8)⟩,
 ⟨(some 11), none, .load false 1 (.t 10)⟩,
 ⟨(some 5), none, .mv (.t 11)⟩] false)
 (.seq
 (.region [
 ⟨(some 12), none, .mv (.t 5)⟩,
 ⟨(some 13), none, .mv (.t 3)⟩,
 ⟨(some 14), none, .bin .neq (.t 12) (.t 13)⟩] false)
 (.cond (.t 14)
 (.seq
 (.region [
 ⟨(some 15), none, .mv (.t 5)⟩,
 ⟨(some 2), none, .mv (.t 15)⟩] false)
 .ret)
 .skip))))
 (.region [
 ⟨(some 16), none, .bin .add (.t 8) (.c (.int .i64 1))⟩,
 ⟨(some 8), none, .mv (.t 16)⟩] false)))))))
 (.seq
 (.region [
 ⟨(some 17), none, .mv (.t 3)⟩,
 ⟨(some 2), none, .mv (.t 17)⟩] false)
 .ret))))
def r44 : List ERes := [.t 2]

theorem c44 : chkF Tryd.prog Tryd.f44 1 e44 r44 = true := by kernel_rfl

def e45 : EC :=
 (.seq
 (.region [
 ⟨(some 4), none, .mv (.c (.int .i64 0))⟩] false)
 (.seq
 (.region [
 ⟨(some 7), none, .mv (.t 0)⟩,
 ⟨(some 8), none, .call 64 [(.t 7)]⟩,
 ⟨(some 5), none, .mv (.t 8)⟩] false)
 (.seq
 (.region [
 ⟨(some 9), none, .mv (.t 1)⟩,
 ⟨(some 10), none, .call 64 [(.t 9)]⟩,
 ⟨(some 6), none, .mv (.t 10)⟩] false)
 (.seq
 (.seq
 (.region [
 ⟨(some 11), none, .mv (.t 5)⟩] false)
 (.cond (.t 11)
 (.seq
 (.seq
 (.region [
 ⟨(some 12), none, .mv (.t 6)⟩] false)
 (.cond (.t 12)
 (.seq
 (.region [
 ⟨(some 4), none, .mv (.c (.int .i64 0))⟩] false)
 .ret)
 .skip))
 (.seq
 (.region [
 ⟨(some 4), none, .mv (.c (.int .i64 (-1)))⟩] false)
 .ret))
 .skip))
 (.seq
 (.seq
 (.region [
 ⟨(some 13), none, .mv (.t 6)⟩] false)
 (.cond (.t 13)
 (.seq
 (.region [
 ⟨(some 4), none, .mv (.c (.int .i64 1))⟩] false)
 .ret)
 .skip))
 (.seq
 (.seq
 (.region [
 ⟨(some 14), none, .mv (.t 0)⟩,
 ⟨(some 15), none, .mv (.t 1)⟩,
 ⟨(some 16), none, .bin .lss (.t 14) (.t 15)⟩] false)
 (.cond (.t 16)
 (.seq
 (.region [
 ⟨(some 4), none, .mv (.c (.int .i64 (-1)))⟩] false)
 .ret)
 .skip))
 (.seq
 (.seq
 (.region [
 ⟨(some 17), none, .mv (.t 0)⟩,
 ⟨(some 18), none, .mv (.t 1)⟩,
 ⟨(some 19), none, .bin .gtr (.t 17) (.t 18)⟩] false)
 (.cond (.t 19)
 (.seq
 (.region [
 ⟨(some 4), none, .mv (.c (.int .i64 1))⟩] false)
 .ret)
 .skip))
 (.seq
 (.region [
 ⟨(some 4), none, .mv (.c (.int .i64 0))⟩] false)
 .ret))))))))
def r45 : List ERes := [.t 4]

theorem c45 : chkF Tryd.prog Tryd.f45 2 e45 r45 = true := by kernel_rfl

def e46 : EC :=
 (.seq
 (.region [
 ⟨(some 4), none, .mv (.c (.int .i64 0))⟩] false)
 (.seq
 (.region [
 ⟨(some 7), none, .mv (.t 0)⟩,
 ⟨(some 8), none, .call 65 [(.t 7)]⟩,
 ⟨(some 5), none, .mv (.t 8)⟩] false)
 (.seq
 (.region [
 ⟨(some 9), none, .mv (.t 1)⟩,
 ⟨(some 10), none, .call 65 [(.t 9)]⟩,
 ⟨(some 6), none, .mv (.t 10)⟩] false)
 (.seq
 (.seq
 (.region [
 ⟨(some 11), none, .mv (.t 5)⟩] false)
 (.cond (.t 11)
 (.seq
 (.seq
 (.region [
 ⟨(some 12), none, .mv (.t 6)⟩] false)
 (.cond (.t 12)
 (.seq
 (.region [
 ⟨(some 4), none, .mv (.c (.int .i64 0))⟩] false)
 .ret)
 .skip))
 (.seq
 (.region [
 ⟨(some 4), none, .mv (.c (.int .i64 (-1)))⟩] false)
 .ret))
 .skip))
 (.seq
 (.seq
 (.region [
 ⟨(some 13), none, .mv (.t 6)⟩] false)
 (.cond (.t 13)
 (.seq
 (.region [
 ⟨(some 4), none, .mv (.c (.int .i64 1))⟩] false)
 .ret)
 .skip))
 (.seq
 (.seq
 (.region [
 ⟨(some 14), none, .mv (.t 0)⟩,
 ⟨(some 15), none, .mv (.t 1)⟩,
 ⟨(some 16), none, .bin .lss (.t 14) (.t 15)⟩] false)
 (.cond (.t 16)
 (.seq
 (.region [
 ⟨(some 4), none, .mv (.c (.int .i64 (-1)))⟩] false)
 .ret)
 .skip))
 (.seq
 (.seq
 (.region [
 ⟨(some 17), none, .mv (.t 0)⟩,
 ⟨(some 18), none, .mv (.t 1)⟩,
 ⟨(some 19), none, .bin .gtr (.t 17) (.t 18)⟩] false)
 (.cond (.t 19)
 (.seq
 (.region [
 ⟨(some 4), none, .mv (.c (.int .i64 1))⟩] false)
 .ret)
 .skip))
 (.seq
 (.region [
 ⟨(some 4), none, .mv (.c (.int .i64 0))⟩] false)
 .ret))))))))
def r46 : List ERes := [.t 4]

theorem c46 : chkF Tryd.prog Tryd.f46 2 e46 r46 = true := by kernel_rfl

def e47 : EC :=
 (.seq
 (.region [
 ⟨(some 4), none, .mv (.c (.int .i64 0))⟩] false)
 (.seq
 (.block 0
 (.seq
 (.region [
 ⟨(some 6), none, .mv (.t 0)⟩,
 ⟨(some 7), none, .mv (.t 1)⟩,
 ⟨(some 8), none, .bin .lss (.t 6) (.t 7)⟩,
 ⟨(some 5), none, .mv (.t 8)⟩] false)
 (.cond (.t 5)
 (.seq
 (.region [
 ⟨(some 4), none, .mv (.c (.int .i64 (-1)))⟩] false)
 .ret)
 (.seq
 (.region [
 ⟨(some 10), none, .mv (.t 0)⟩,
 ⟨(some 11), none, .mv (.t 1)⟩,
 ⟨(some 12), none, .bin .gtr (.t 10) (.t 11)⟩,
 ⟨(some 9), none, .mv (.t 12)⟩] false)
 (.cond (.t 9)
 (.seq
 (.region [
 ⟨(some 4), none, .mv (.c (.int .i64 1))⟩] false)
 .ret)
 .skip)))))
 (.seq
 (.region [
 ⟨(some 4), none, .mv (.c (.int .i64 0))⟩] false)
 .ret)))
def r47 : List ERes := [.t 4]

theorem c47 : chkF Tryd.prog Tryd.f47 2 e47 r47 = true := by kernel_rfl

def e48 : EC :=
 (.seq
 (.region [
 ⟨(some 4), none, .mv (.c (.str []))⟩] false)
 (.seq
 (.seq
 (.region [
 ⟨(some 11), none, .mv (.t 1)⟩] false)
 (.block 0
 (.seq
 (.region [
 ⟨(some 13), none, .bin .eql (.t 11) (.c (.int .i64 0))⟩,
 ⟨(some 12), none, .mv (.t 13)⟩] false)
 (.cond (.t 12)
 (.seq
 (.region [
 ⟨(some 4), none, .mv (.c (.str []))⟩] false)
 .ret)
 (.seq
 (.region [
 ⟨(some 15), none, .bin .eql (.t 11) (.c (.int .i64 1))⟩,
 ⟨(some 14), none, .mv (.t 15)⟩] false)
 (.cond (.t 14)
 (.seq
 (.region [
 ⟨(some 16), none, .mv (.t 0)⟩,
 ⟨(some 4), none, .mv (.t 16)⟩] false)
 .ret)
 .skip))))))
 (.seq
 (.seq
 (.region [
 ⟨(some 17), none, .mv (.t 1)⟩,
 ⟨(some 18), none, .bin .lss (.t 17) (.c (.int .i64 0))⟩] false)
 (.cond (.t 18)
 (.region [
 ⟨(some 19), none, .mkif 9 (.c (.str [115, 116, 114, 105, 110, 103, 115, 58, 32, 110, 101, 103, 97, 116, 105, 118, 101, 32, 82, 101, 112, 101, 97, 116, 32, 99, 111, 117, 110, 116]))⟩,
 ⟨none, none, .panic (.t 19)⟩] false)
 .skip))
 (.seq
 (.region [
 ⟨(some 21), none, .mv (.t 0)⟩,
 ⟨(some 22), none, .lenS (.t 21)⟩,
 ⟨(some 23), none, .conv .u64 (.t 22)⟩,
 ⟨(some 24), none, .mv (.t 1)⟩,
 ⟨(some 25), none, .conv .u64 (.t 24)⟩,
 ⟨(some 26), none, .call 66 [(.t 23), (.t 25)]⟩,
 ⟨(some 20), none, .mv (.t 26)⟩,
 ⟨(some 27), none, .extract 0 (.t 20)⟩,
 ⟨(some 28), none, .extract 1 (.t 20)⟩,
 ⟨(some 5), none, .mv (.t 27)⟩,
 ⟨(some 6), none, .mv (.t 28)⟩] false)
 (.seq
 (.seq
 (.region [
 ⟨(some 29), none, .mv (.t 5)⟩,
 ⟨(some 30), none, .bin .gtr (.t 29) (.c (.int .u64 0))⟩,
 ⟨(some 31), none, .mv (.t 30)⟩,
 ⟨(some 32), (some (31, false)), .mv (.t 6)⟩,
 ⟨(some 33), (some (31, false)), .bin .gtr (.t 32) (.c (.int .u64 9223372036854775807))⟩,
 ⟨(some 34), none, .pick (.t 31) (.c (.bool true)) (.t 33)⟩] false)
 (.cond (.t 34)
 (.region [
 ⟨(some 35), none, .mkif 9 (.c (.str [115, 116, 114, 105, 110, 103, 115, 58, 32, 82, 101, 112, 101, 97, 116, 32, 111, 117, 116, 112, 117, 116, 32, 108, 101, 110, 103, 116, 104, 32, 111, 118, 101, 114, 102, 108, 111, 119]))⟩,
 ⟨none, none, .panic (.t 35)⟩] false)
 .skip))
 (.seq
 (.region [
 ⟨(some 36), none, .mv (.t 6)⟩,
 ⟨(some 37), none, .conv .i64 (.t 36)⟩,
 ⟨(some 7), none, .mv (.t 37)⟩] false)
 (.seq
 (.seq
 (.region [
 ⟨(some 38), none, .mv (.t 0)⟩,
 ⟨(some 39), none, .lenS (.t 38)⟩,
 ⟨(some 40), none, .bin .eql (.t 39) (.c (.int .i64 0))⟩] false)
 (.cond (.t 40)
 (.seq
 (.region [
 ⟨(some 4), none, .mv (.c (.str []))⟩] false)
 .ret)
 .skip))
 (.seq
 (.seq
 (.region [
 ⟨(some 41), none, .mv (.t 0)⟩,
 ⟨(some 42), none, .idxS (.t 41) (.c (.int .i64 0))⟩] false)
 (.block 1
 (.seq
 (.seq
 (.region [
 ⟨(some 44), none, .bin .eql (.t 42) (.c (.int .u8 32))⟩,
 ⟨(some 43), none, .mv (.t 44)⟩] false)
 (.cond (.t 43)
 .skip
 (.seq
 (.region [
 ⟨(some 45), none, .bin .eql (.t 42) (.c (.int .u8 45))⟩,
 ⟨(some 43), none, .mv (.t 45)⟩] false)
 (.cond (.t 43)
 .skip
 (.seq
 (.region [
 ⟨(some 46), none, .bin .eql (.t 42) (.c (.int .u8 48))⟩,
 ⟨(some 43), none, .mv (.t 46)⟩] false)
 (.cond (.t 43)
 .skip
 (.seq
 (.region [
 ⟨(some 47), none, .bin .eql (.t 42) (.c (.int .u8 61))⟩,
 ⟨(some 43), none, .mv (.t 47)⟩] false)
 (.cond (.t 43)
 .skip
 (.region [
 ⟨(some 48), none, .bin .eql (.t 42) (.c (.int .u8 9))⟩,
 ⟨(some 43), none, .mv (.t 48)⟩] false)))))))))
 (.cond (.t 43)
 (.block 2
 (.seq
 (.region [
 ⟨(some 50), none, .mv (.t 7)⟩,
 ⟨(some 51), none, .bin .leq (.t 50) (.c (.int .i64 128))⟩,
 ⟨(some 52), none, .mv (.t 51)⟩,
 ⟨(some 53), (some (52, true)), .mv (.t 0)⟩,
 ⟨(some 54), (some (52, true)), .call 67 [(.c (.str [32, 32, 32, 32, 32, 32, 32, 32, 32, 32, 32, 32, 32, 32, 32, 32, 32, 32, 32, 32, 32, 32, 32, 32, 32, 32, 32, 32, 32, 32, 32, 32, 32, 32, 32, 32, 32, 32, 32, 32, 32, 32, 32, 32, 32, 32, 32, 32, 32, 32, 32, 32, 32, 32, 32, 32, 32, 32, 32, 32, 32, 32, 32, 32, 32, 32, 32, 32, 32, 32, 32, 32, 32, 32, 32, 32, 32, 32, 32, 32, 32, 32, 32, 32, 32, 32, 32, 32, 32, 32, 32, 32, 32, 32, 32, 32, 32, 32, 32, 32, 32, 32, 32, 32, 32, 32, 32, 32, 32, 32, 32, 32, 32, 32, 32, 32, 32, 32, 32, 32, 32, 32, 32, 32, 32, 32, 32, 32])), (.t 53)]⟩,
 ⟨(some 55), none, .pick (.t 52) (.t 54) (.c (.bool false))⟩,
 ⟨(some 49), none, .mv (.t 55)⟩] false)
 (.cond (.t 49)
 (.seq
 (.region [
 ⟨(some 56), none, .mv (.t 7)⟩,
 ⟨(some 57), none, .slS (.c (.str [32, 32, 32, 32, 32, 32, 32, 32, 32, 32, 32, 32, 32, 32, 32, 32, 32, 32, 32, 32, 32, 32, 32, 32, 32, 32, 32, 32, 32, 32, 32, 32, 32, 32, 32, 32, 32, 32, 32, 32, 32, 32, 32, 32, 32, 32, 32, 32, 32, 32, 32, 32, 32, 32, 32, 32, 32, 32, 32, 32, 32, 32, 32, 32, 32, 32, 32, 32, 32, 32, 32, 32, 32, 32, 32, 32, 32, 32, 32, 32, 32, 32, 32, 32, 32, 32, 32, 32, 32, 32, 32, 32, 32, 32, 32, 32, 32, 32, 32, 32, 32, 32, 32, 32, 32, 32, 32, 32, 32, 32, 32, 32, 32, 32, 32, 32, 32, 32, 32, 32, 32, 32, 32, 32, 32, 32, 32, 32])) none (some (.t 56))⟩,
 ⟨(some 4), none, .mv (.t 57)⟩] false)
 .ret)
 (.seq
 (.region [
 ⟨(some 59), none, .mv (.t 7)⟩,
 ⟨(some 60), none, .bin .leq (.t 59) (.c (.int .i64 128))⟩,
 ⟨(some 61), none, .mv (.t 60)⟩,
 ⟨(some 62), (some (61, true)), .mv (.t 0)⟩,
 ⟨(some 63), (some (61, true)), .call 67 [(.c (.str [45, 45, 45, 45, 45, 45, 45, 45, 45, 45, 45, 45, 45, 45, 45, 45, 45, 45, 45, 45, 45, 45, 45, 45, 45, 45, 45, 45, 45, 45, 45, 45, 45, 45, 45, 45, 45, 45, 45, 45, 45, 45, 45, 45, 45, 45, 45, 45, 45, 45, 45, 45, 45, 45, 45, 45, 45, 45, 45, 45, 45, 45, 45, 45, 45, 45, 45, 45, 45, 45, 45, 45, 45, 45, 45, 45, 45, 45, 45, 45, 45, 45, 45, 45, 45, 45, 45, 45, 45, 45, 45, 45, 45, 45, 45, 45, 45, 45, 45, 45, 45, 45, 45, 45, 45, 45, 45, 45, 45, 45, 45, 45, 45, 45, 45, 45, 45, 45, 45, 45, 45, 45, 45, 45, 45, 45, 45, 45])), (.t 62)]⟩,
 ⟨(some 64), none, .pick (.t 61) (.t 63) (.c (.bool false))⟩,
 ⟨(some 58), none, .mv (.t 64)⟩] false)
 (.cond (.t 58)
 (.seq
 (.region [
 ⟨(some 65), none, .mv (.t 7)⟩,
 ⟨(some 66), none, .slS (.c (.str [45, 45, 45, 45, 45, 45, 45, 45, 45, 45, 45, 45, 45, 45, 45, 45, 45, 45, 45, 45, 45, 45, 45, 45, 45, 45, 45, 45, 45, 45, 45, 45, 45, 45, 45, 45, 45, 45, 45, 45, 45, 45, 45, 45, 45, 45, 45, 45, 45, 45, 45, 45, 45, 45, 45, 45, 45, 45, 45, 45, 45, 45, 45, 45, 45, 45, 45, 45, 45, 45, 45, 45, 45, 45, 45, 45, 45, 45, 45, 45, 45, 45, 45, 45, 45, 45, 45, 45, 45, 45, 45, 45, 45, 45, 45, 45, 45, 45, 45, 45, 45, 45, 45, 45, 45, 45, 45, 45, 45, 45, 45, 45, 45, 45, 45, 45, 45, 45, 45, 45, 45, 45, 45, 45, 45, 45, 45, 45])) none (some (.t 65))⟩,
 ⟨(some 4), none, .mv (.t 66)⟩] false)
 .ret)
 (.seq
 (.region [
 ⟨(some 68), none, .mv (.t 7)⟩,
 ⟨(some 69), none, .bin .leq (.t 68) (.c (.int .i64 64))⟩,
 ⟨(some 70), none, .mv (.t 69)⟩,
 ⟨(some 71), (some (70, true)), .mv (.t 0)⟩,
 ⟨(some 72), (some (70, true)), .call 67 [(.c (.str [48, 48, 48, 48, 48, 48, 48, 48, 48, 48, 48, 48, 48, 48, 48, 48, 48, 48, 48, 48, 48, 48, 48, 48, 48, 48, 48, 48, 48, 48, 48, 48, 48, 48, 48, 48, 48, 48, 48, 48, 48, 48, 48, 48, 48, 48, 48, 48, 48, 48, 48, 48, 48, 48, 48, 48, 48, 48, 48, 48, 48, 48, 48, 48])), (.t 71)]⟩,
 ⟨(some 73), none, .pick (.t 70) (.t 72) (.c (.bool false))⟩,
 ⟨(some 67), none, .mv (.t 73)⟩] false)
 (.cond (.t 67)
 (.seq
 (.region [
 ⟨(some 74), none, .mv (.t 7)⟩,
 ⟨(some 75), none, .slS (.c (.str [48, 48, 48, 48, 48, 48, 48, 48, 48, 48, 48, 48, 48, 48, 48, 48, 48, 48, 48, 48, 48, 48, 48, 48, 48, 48, 48, 48, 48, 48, 48, 48, 48, 48, 48, 48, 48, 48, 48, 48, 48, 48, 48, 48, 48, 48, 48, 48, 48, 48, 48, 48, 48, 48, 48, 48, 48, 48, 48, 48, 48, 48, 48, 48])) none (some (.t 74))⟩,
 ⟨(some 4), none, .mv (.t 75)⟩] false)
 .ret)
 (.seq
 (.region [
 ⟨(some 77), none, .mv (.t 7)⟩,
 ⟨(some 78), none, .bin .leq (.t 77) (.c (.int .i64 128))⟩,
 ⟨(some 79), none, .mv (.t 78)⟩,
 ⟨(some 80), (some (79, true)), .mv (.t 0)⟩,
 ⟨(some 81), (some (79, true)), .call 67 [(.c (.str [61, 61, 61, 61, 61, 61, 61, 61, 61, 61, 61, 61, 61, 61, 61, 61, 61, 61, 61, 61, 61, 61, 61, 61, 61, 61, 61, 61, 61, 61, 61, 61, 61, 61, 61, 61, 61, 61, 61, 61, 61, 61, 61, 61, 61, 61, 61, 61, 61, 61, 61, 61, 61, 61, 61, 61, 61, 61, 61, 61, 61, 61, 61, 61, 61, 61, 61, 61, 61, 61, 61, 61, 61, 61, 61, 61, 61, 61, 61, 61, 61, 61, 61, 61, 61, 61, 61, 61, 61, 61, 61, 61, 61, 61, 61, 61, 61, 61, 61, 61, 61, 61, 61, 61, 61, 61, 61, 61, 61, 61, 61, 61, 61, 61, 61, 61, 61, 61, 61, 61, 61, 61, 61, 61, 61, 61, 61, 61])), (.t 80)]⟩,
 ⟨(some 82), none, .pick (.t 79) (.t 81) (.c (.bool false))⟩,
 ⟨(some 76), none, .mv (.t 82)⟩] false)
 (.cond (.t 76)
 (.seq
 (.region [
 ⟨(some 83), none, .mv (.t 7)⟩,
 ⟨(some 84), none, .slS (.c (.str [61, 61, 61, 61, 61, 61, 61, 61, 61, 61, 61, 61, 61, 61, 61, 61, 61, 61, 61, 61, 61, 61, 61, 61, 61, 61, 61, 61, 61, 61, 61, 61, 61, 61, 61, 61, 61, 61, 61, 61, 61, 61, 61, 61, 61, 61, 61, 61, 61, 61, 61, 61, 61, 61, 61, 61, 61, 61, 61, 61, 61, 61, 61, 61, 61, 61, 61, 61, 61, 61, 61, 61, 61, 61, 61, 61, 61, 61, 61, 61, 61, 61, 61, 61, 61, 61, 61, 61, 61, 61, 61, 61, 61, 61, 61, 61, 61, 61, 61, 61, 61, 61, 61, 61, 61, 61, 61, 61, 61, 61, 61, 61, 61, 61, 61, 61, 61, 61, 61, 61, 61, 61, 61, 61, 61, 61, 61, 61])) none (some (.t 83))⟩,
 ⟨(some 4), none, .mv (.t 84)⟩] false)
 .ret)
 (.seq
 (.region [
 ⟨(some 86), none, .mv (.t 7)⟩,
 ⟨(some 87), none, .bin .leq (.t 86) (.c (.int .i64 64))⟩,
 ⟨(some 88), none, .mv (.t 87)⟩,
 ⟨(some 89), (some (88, true)), .mv (.t 0)⟩,
 ⟨(some 90), (some (88, true)), .call 67 [(.c (.str [9, 9, 9, 9, 9, 9, 9, 9, 9, 9, 9, 9, 9, 9, 9, 9, 9, 9, 9, 9, 9, 9, 9, 9, 9, 9, 9, 9, 9, 9, 9, 9, 9, 9, 9, 9, 9, 9, 9, 9, 9, 9, 9, 9, 9, 9, 9, 9, 9, 9, 9, 9, 9, 9, 9, 9, 9, 9, 9, 9, 9, 9, 9, 9])), (.t 89)]⟩,
 ⟨(some 91), none, .pick (.t 88) (.t 90) (.c (.bool false))⟩,
 ⟨(some 85), none, .mv (.t 91)⟩] false)
 (.cond (.t 85)
 (.seq
 (.region [
 ⟨(some 92), none, .mv (.t 7)⟩,
 ⟨(some 93), none, .slS (.c (.str [9, 9, 9, 9, 9, 9, 9, 9, 9, 9, 9, 9, 9, 9, 9, 9, 9, 9, 9, 9, 9, 9, 9, 9, 9, 9, 9, 9, 9, 9, 9, 9, 9, 9, 9, 9, 9, 9, 9, 9, 9, 9, 9, 9, 9, 9, 9, 9, 9, 9, 9, 9, 9, 9, 9, 9, 9, 9, 9, 9, 9, 9, 9, 9])) none (some (.t 92))⟩,
 ⟨(some 4), none, .mv (.t 93)⟩] false)
 .ret)
 .skip)))))))))))
 .skip))))
 (.seq
 (.region [
 ⟨(some 94), none, .mv (.t 7)⟩,
 ⟨(some 8), none, .mv (.t 94)⟩] false)
 (.seq
 (.seq
 (.region [
 ⟨(some 95), none, .mv (.t 7)⟩,
 ⟨(some 96), none, .bin .gtr (.t 95) (.c (.int .i64 8192))⟩] false)
 (.cond (.t 96)
 (.seq
 (.region [
 ⟨(some 97), none, .mv (.t 0)⟩,
 ⟨(some 98), none, .lenS (.t 97)⟩,
 ⟨(some 99), none, .bin .quo (.c (.int .i64 8192)) (.t 98)⟩,
 ⟨(some 100), none, .mv (.t 0)⟩,
 ⟨(some 101), none, .lenS (.t 100)⟩,
 ⟨(some 102), none, .bin .mul (.t 99) (.t 101)⟩,
 ⟨(some 8), none, .mv (.t 102)⟩] false)
 (.seq
 (.region [
 ⟨(some 103), none, .mv (.t 8)⟩,
 ⟨(some 104), none, .bin .eql (.t 103) (.c (.int .i64 0))⟩] false)
 (.cond (.t 104)
 (.region [
 ⟨(some 105), none, .mv (.t 0)⟩,
 ⟨(some 106), none, .lenS (.t 105)⟩,
 ⟨(some 8), none, .mv (.t 106)⟩] false)
 .skip)))
 .skip))
 (.seq
 (.region [
 ⟨(some 9), none, .alloc 63 [.raw (.pointer none), .nilS]⟩] false)
 (.seq
 (.region [
 ⟨(some 107), none, .mv (.t 7)⟩,
 ⟨(some 108), none, .call 68 [(.t 9), (.t 107)]⟩] false)
 (.seq
 (.region [
 ⟨(some 109), none, .mv (.t 0)⟩,
 ⟨(some 110), none, .call 69 [(.t 9), (.t 109)]⟩] false)
 (.seq
 (.block 3
 (.loop
 (.seq
 (.seq
 (.region [
 ⟨(some 111), none, .call 70 [(.t 9)]⟩,
 ⟨(some 112), none, .mv (.t 7)⟩,
 ⟨(some 113), none, .bin .lss (.t 111) (.t 112)⟩] false)
 (.cond (.t 113)
 .skip
 (.exit 3)))
 (.block 4
 (.seq
 (.region [
 ⟨(some 114), none, .mv (.t 7)⟩,
 ⟨(some 115), none, .call 70 [(.t 9)]⟩,
 ⟨(some 116), none, .bin .sub (.t 114) (.t 115)⟩,
 ⟨(some 117), none, .call 70 [(.t 9)]⟩,
 ⟨(some 118), none, .mv (.t 8)⟩,
 ⟨(some 119), none, .minmax false [(.t 116), (.t 117), (.t 118)]⟩,
 ⟨(some 10), none, .mv (.t 119)⟩] false)
 (.region [
 ⟨(some 120), none, .call 51 [(.t 9)]⟩,
 ⟨(some 121), none, .mv (.t 10)⟩,
 ⟨(some 122), none, .slS (.t 120) none (some (.t 121))⟩,
 ⟨(some 123), none, .call 69 [(.t 9), (.t 122)]⟩] false))))))
 (.seq
 (.region [
 ⟨(some 124), none, .call 51 [(.t 9)]⟩,
 ⟨(some 4), none, .mv (.t 124)⟩] false)
 .ret)))))))))))))))
def r48 : List ERes := [.t 4]

theorem c48 : chkF Tryd.prog Tryd.f48 2 e48 r48 = true := by kernel_rfl

def e54 : EC :=
 (.seq
 (.region [
 ⟨(some 2), none, .mv (.c (.bool false))⟩] false)
 (.seq
 (.seq
 (.region [
 ⟨(some 3), none, .mv (.c (.int .i64 0))⟩] false)
 (.block 0
 (.loop
 (.seq
 (.seq
 (.region [
 ⟨(some 4), none, .mv (.t 3)⟩,
 ⟨(some 5), none, .mv (.t 0)⟩,
 ⟨(some 6), none, .lenS (.t 5)⟩,
 ⟨(some 7), none, .bin .lss (.t 4) (.t 6)⟩] false)
 (.cond (.t 7)
 .skip
 (.exit 0)))
 (.seq
 (.block 1
 (.seq
 (.region [
 ⟨(some 10), none, .mv (.t 0)⟩,
 ⟨(some 11), none, .mv (.t 3)⟩,
 ⟨(some 12), none, .idxS (.t 10) (.t 11)⟩,
 ⟨(some 13), none, .bin .lss (.t 12) (.c (.int .u8 32))⟩,
 ⟨(some 14), none, .mv (.t 13)⟩,
 ⟨(some 15), (some (14, false)), .mv (.t 0)⟩,
 ⟨(some 16), (some (14, false)), .mv (.t 3)⟩,
 ⟨(some 17), (some (14, false)), .idxS (.t 15) (.t 16)⟩,
 ⟨(some 18), (some (14, false)), .bin .gtr (.t 17) (.c (.int .u8 126))⟩,
 ⟨(some 19), none, .pick (.t 14) (.c (.bool true)) (.t 18)⟩] false)
 (.cond (.t 19)
 (.seq
 (.region [
 ⟨(some 2), none, .mv (.c (.bool false))⟩] false)
 .ret)
 .skip)))
 (.region [
 ⟨(some 8), none, .mv (.t 3)⟩,
 ⟨(some 9), none, .bin .add (.t 8) (.c (.int .i64 1))⟩,
 ⟨(some 3), none, .mv (.t 9)⟩] false))))))
 (.seq
 (.region [
 ⟨(some 2), none, .mv (.c (.bool true))⟩] false)
 .ret)))
def r54 : List ERes := [.t 2]

theorem c54 : chkF Tryd.prog Tryd.f54 1 e54 r54 = true := by kernel_rfl

def e56 : EC :=
 (.seq
 (.region [
 ⟨(some 2), none, .mv (.c (.bool false))⟩] false)
 (.seq
 (.region [
 ⟨(some 3), none, .mv (.t 0)⟩,
 ⟨(some 4), none, .call 78 [(.t 3), (.c (.fn 79 []))]⟩,
 ⟨(some 5), none, .not (.t 4)⟩,
 ⟨(some 2), none, .mv (.t 5)⟩] false)
 .ret))
def r56 : List ERes := [.t 2]

theorem c56 : chkF Tryd.prog Tryd.f56 1 e56 r56 = true := by kernel_rfl

def e57 : EC :=
 (.seq
 (.region [
 ⟨(some 2), none, .mv (.c (.str []))⟩] false)
 (.seq
 (.region [
 ⟨(some 3), none, .mv (.c (.str []))⟩] false)
 (.seq
 (.seq
 (.region [
 ⟨(some 4), none, .mv (.c (.int .i64 0))⟩] false)
 (.block 0
 (.loop
 (.seq
 (.seq
 (.region [
 ⟨(some 5), none, .mv (.t 4)⟩,
 ⟨(some 6), none, .mv (.t 0)⟩,
 ⟨(some 7), none, .bin .lss (.t 5) (.t 6)⟩] false)
 (.cond (.t 7)
 .skip
 (.exit 0)))
 (.seq
 (.block 1
 (.region [
 ⟨(some 10), none, .mv (.t 3)⟩,
 ⟨(some 11), none, .bin .add (.t 10) (.c (.str [97]))⟩,
 ⟨(some 3), none, .mv (.t 11)⟩] false))
 (.region [
 ⟨(some 8), none, .mv (.t 4)⟩,
 ⟨(some 9), none, .bin .add (.t 8) (.c (.int .i64 1))⟩,
 ⟨(some 4), none, .mv (.t 9)⟩] false))))))
 (.seq
 (.region [
 ⟨(some 12), none, .mv (.t 3)⟩,
 ⟨(some 2), none, .mv (.t 12)⟩] false)
 .ret))))
def r57 : List ERes := [.t 2]

theorem c57 : chkF Tryd.prog Tryd.f57 1 e57 r57 = true := by kernel_rfl

def e64 : EC :=
 (.seq
 (.region [
 ⟨(some 2), none, .mv (.c (.bool false))⟩] false)
 (.seq
 (.region [
 ⟨(some 3), none, .mv (.t 0)⟩,
 ⟨(some 4), none, .mv (.t 0)⟩,
 ⟨(some 5), none, .bin .neq (.t 3) (.t 4)⟩,
 ⟨(some 2), none, .mv (.t 5)⟩] false)
 .ret))
def r64 : List ERes := [.t 2]

theorem c64 : chkF Tryd.prog Tryd.f64 1 e64 r64 = true := by kernel_rfl

def e65 : EC :=
 (.seq
 (.region [
 ⟨(some 2), none, .mv (.c (.bool false))⟩] false)
 (.seq
 (.region [
 ⟨(some 3), none, .mv (.t 0)⟩,
 ⟨(some 4), none, .mv (.t 0)⟩,
 ⟨(some 5), none, .bin .neq (.t 3) (.t 4)⟩,
 ⟨(some 2), none, .mv (.t 5)⟩] false)
 .ret))
def r65 : List ERes := [.t 2]

theorem c65 : chkF Tryd.prog Tryd.f65 1 e65 r65 = true := by kernel_rfl

end Go.Aw.T

/- Resolved code of functions, and that it is theirs (written by ecode.py, own tool). -/
namespace Go.Aw.T
open Go Go.Aw Go.Proofs
set_option maxRecDepth 1000000

def e3 : EC :=
 (.seq
 (.region [
 ⟨(some 3), none, .box 23 (.t 0)⟩,
 ⟨(some 4), none, .box 23 (.t 1)⟩,
 ⟨(some 5), none, .box 23 (.t 2)⟩,
 ⟨(some 6), none, .mv (.c (.bool false))⟩] false)
 (.seq
 (.seq
 (.region [
 ⟨(some 10), none, .call 12 []⟩,
 ⟨(some 11), none, .not (.t 10)⟩] false)
 (.cond (.t 11)
 (.seq
 (.region [
 ⟨(some 6), none, .mv (.c (.bool false))⟩] false)
 .ret)
 .skip))
 (.seq
 (.region [
 ⟨(some 12), none, .load true 3 (.t 3)⟩,
 ⟨(some 13), none, .load true 3 (.t 4)⟩,
 ⟨(some 14), none, .pcall 13 [(.t 12), (.t 13)]⟩,
 ⟨(some 15), none, .load true 3 (.t 4)⟩,
 ⟨(some 16), none, .load true 3 (.t 5)⟩,
 ⟨(some 17), none, .pcall 13 [(.t 15), (.t 16)]⟩,
 ⟨(some 18), none, .load true 3 (.t 3)⟩,
 ⟨(some 19), none, .load true 3 (.t 5)⟩,
 ⟨(some 20), none, .pcall 13 [(.t 18), (.t 19)]⟩,
 ⟨(some 7), none, .mv (.t 14)⟩,
 ⟨(some 8), none, .mv (.t 17)⟩,
 ⟨(some 9), none, .mv (.t 20)⟩] true)
 (.seq
 (.seq
 (.region [
 ⟨(some 21), none, .mv (.t 7)⟩,
 ⟨(some 22), none, .load true 3 (.t 3)⟩,
 ⟨(some 23), none, .load true 3 (.t 4)⟩,
 ⟨(some 24), none, .call 14 [(.t 22), (.t 23)]⟩,
 ⟨(some 25), none, .bin .neq (.t 21) (.t 24)⟩,
 ⟨(some 26), none, .mv (.t 25)⟩,
 ⟨(some 27), (some (26, false)), .load true 3 (.t 4)⟩,
 ⟨(some 28), (some (26, false)), .load true 3 (.t 3)⟩,
 ⟨(some 29), (some (26, false)), .call 13 [(.t 27), (.t 28)]⟩,
 ⟨(some 30), (some (26, false)), .mv (.t 7)⟩,
 ⟨(some 31), (some (26, false)), .neg (.t 30)⟩,
 ⟨(some 32), (some (26, false)), .bin .neq (.t 29) (.t 31)⟩,
 ⟨(some 33), none, .pick (.t 26) (.c (.bool true)) (.t 32)⟩,
 ⟨(some 34), none, .mv (.t 33)⟩,
 ⟨(some 35), (some (34, false)), .mv (.t 7)⟩,
 ⟨(some 36), (some (34, false)), .bin .eql (.t 35) (.c (.int .i64 0))⟩,
 ⟨(some 37), (some (34, false)), .load true 3 (.t 3)⟩,
 ⟨(some 38), (some (34, false)), .load true 3 (.t 4)⟩,
 ⟨(some 39), (some (34, false)), .eqA false 23 [.i .i64, .i .i64, .s] (.t 37) (.t 38)⟩,
 ⟨(some 40), (some (34, false)), .binB .neq (.t 36) (.t 39)⟩,
 ⟨(some 41), none, .pick (.t 34) (.c (.bool true)) (.t 40)⟩] false)
 (.cond (.t 41)
 (.seq
 (.region [
 ⟨(some 6), none, .mv (.c (.bool false))⟩] false)
 .ret)
 .skip))
 (.seq
 (.region [
 ⟨(some 42), none, .mv (.t 7)⟩,
 ⟨(some 43), none, .bin .gtr (.t 42) (.c (.int .i64 0))⟩,
 ⟨(some 44), none, .mv (.t 43)⟩,
 ⟨(some 45), (some (44, false)), .mv (.t 8)⟩,
 ⟨(some 46), (some (44, false)), .bin .gtr (.t 45) (.c (.int .i64 0))⟩,
 ⟨(some 47), none, .pick (.t 44) (.c (.bool true)) (.t 46)⟩,
 ⟨(some 48), none, .mv (.t 47)⟩,
 ⟨(some 49), (some (48, false)), .mv (.t 9)⟩,
 ⟨(some 50), (some (48, false)), .mv (.t 7)⟩,
 ⟨(some 51), (some (48, false)), .mv (.t 8)⟩,
 ⟨(some 52), (some (48, false)), .minmax false [(.t 50), (.t 51)]⟩,
 ⟨(some 53), (some (48, false)), .bin .eql (.t 49) (.t 52)⟩,
 ⟨(some 54), none, .pick (.t 48) (.c (.bool true)) (.t 53)⟩,
 ⟨(some 6), none, .mv (.t 54)⟩] false)
 .ret)))))
def r3 : List ERes := [.t 6]

theorem c3 : chkF Tryd.prog Tryd.f3 3 e3 r3 = true := by kernel_rfl

def e4 : EC :=
 (.seq
 (.region [
 ⟨(some 3), none, .box 28 (.t 0)⟩,
 ⟨(some 6), none, .mv (.c (.bool false))⟩] false)
 (.seq
 (.seq
 (.region [
 ⟨(some 11), none, .call 12 []⟩,
 ⟨(some 12), none, .not (.t 11)⟩] false)
 (.cond (.t 12)
 (.seq
 (.region [
 ⟨(some 6), none, .mv (.c (.bool false))⟩] false)
 .ret)
 .skip))
 (.seq
 (.region [
 ⟨(some 13), none, .faddr 0 (.t 3)⟩,
 ⟨none, none, .store 1 (.t 13) (.c (.int .i64 1))⟩] false)
 (.seq
 (.region [
 ⟨(some 15), none, .load true 3 (.t 3)⟩,
 ⟨(some 16), none, .mv (.t 1)⟩,
 ⟨(some 17), none, .pcall 16 [(.t 16)]⟩,
 ⟨(some 18), none, .pcall 15 [(.t 15), (.t 17)]⟩,
 ⟨(some 14), none, .mv (.t 18)⟩,
 ⟨(some 19), none, .extract 0 (.t 14)⟩,
 ⟨(some 20), none, .extract 1 (.t 14)⟩,
 ⟨(some 7), none, .alloc 23 [.int .i64 0, .int .i64 0, .str []]⟩,
 ⟨none, none, .store 3 (.t 7) (.t 19)⟩,
 ⟨(some 8), none, .mv (.t 20)⟩] true)
 (.seq
 (.region [
 ⟨(some 22), none, .load true 3 (.t 3)⟩,
 ⟨(some 23), none, .mv (.t 2)⟩,
 ⟨(some 24), none, .pcall 16 [(.t 23)]⟩,
 ⟨(some 25), none, .pcall 15 [(.t 22), (.t 24)]⟩,
 ⟨(some 21), none, .mv (.t 25)⟩,
 ⟨(some 26), none, .extract 0 (.t 21)⟩,
 ⟨(some 27), none, .extract 1 (.t 21)⟩,
 ⟨(some 9), none, .alloc 23 [.int .i64 0, .int .i64 0, .str []]⟩,
 ⟨none, none, .store 3 (.t 9) (.t 26)⟩,
 ⟨(some 10), none, .mv (.t 27)⟩] true)
 (.seq
 (.seq
 (.region [
 ⟨(some 28), none, .mv (.t 8)⟩,
 ⟨(some 29), none, .bin .neq (.t 28) (.c (.int .i64 0))⟩,
 ⟨(some 30), none, .mv (.t 29)⟩,
 ⟨(some 31), (some (30, false)), .mv (.t 10)⟩,
 ⟨(some 32), (some (30, false)), .bin .neq (.t 31) (.c (.int .i64 0))⟩,
 ⟨(some 33), none, .pick (.t 30) (.c (.bool true)) (.t 32)⟩] false)
 (.cond (.t 33)
 (.seq
 (.region [
 ⟨(some 6), none, .mv (.c (.bool true))⟩] false)
 .ret)
 .skip))
 (.seq
 (.region [
 ⟨(some 34), none, .mv (.t 1)⟩,
 ⟨(some 35), none, .mv (.t 2)⟩,
 ⟨(some 36), none, .bin .gtr (.t 34) (.t 35)⟩,
 ⟨(some 37), none, .mv (.t 36)⟩,
 ⟨(some 38), (some (37, false)), .faddr 1 (.t 7)⟩,
 ⟨(some 39), (some (37, false)), .load false 1 (.t 38)⟩,
 ⟨(some 40), (some (37, false)), .faddr 1 (.t 9)⟩,
 ⟨(some 41), (some (37, false)), .load false 1 (.t 40)⟩,
 ⟨(some 42), (some (37, false)), .bin .leq (.t 39) (.t 41)⟩,
 ⟨(some 43), none, .pick (.t 37) (.c (.bool true)) (.t 42)⟩,
 ⟨(some 44), none, .mv (.t 43)⟩,
 ⟨(some 45), (some (44, true)), .mv (.t 2)⟩,
 ⟨(some 46), (some (44, true)), .faddr 1 (.t 3)⟩,
 ⟨(some 47), (some (44, true)), .load false 1 (.t 46)⟩,
 ⟨(some 48), (some (44, true)), .bin .lss (.t 45) (.t 47)⟩,
 ⟨(some 49), (some (44, true)), .mv (.t 48)⟩,
 ⟨(some 50), (some (49, false)), .mv (.t 2)⟩,
 ⟨(some 51), (some (49, false)), .faddr 2 (.t 3)⟩,
 ⟨(some 52), (some (49, false)), .load false 1 (.t 51)⟩,
 ⟨(some 53), (some (49, false)), .bin .gtr (.t 50) (.t 52)⟩,
 ⟨(some 54), (some (44, true)), .pick (.t 49) (.c (.bool true)) (.t 53)⟩,
 ⟨(some 55), (some (44, true)), .mv (.t 54)⟩,
 ⟨(some 56), (some (55, false)), .faddr 1 (.t 7)⟩,
 ⟨(some 57), (some (55, false)), .load false 1 (.t 56)⟩,
 ⟨(some 58), (some (55, false)), .mv (.t 2)⟩,
 ⟨(some 59), (some (55, false)), .bin .leq (.t 57) (.t 58)⟩,
 ⟨(some 60), (some (55, false)), .mv (.t 59)⟩,
 ⟨(some 61), (some (60, false)), .mv (.t 1)⟩,
 ⟨(some 62), (some (60, false)), .mv (.t 2)⟩,
 ⟨(some 63), (some (60, false)), .bin .gtr (.t 61) (.t 62)⟩,
 ⟨(some 64), (some (55, false)), .pick (.t 60) (.c (.bool true)) (.t 63)⟩,
 ⟨(some 65), (some (55, false)), .mv (.t 64)⟩,
 ⟨(some 66), (some (65, true)), .faddr 1 (.t 7)⟩,
 ⟨(some 67), (some (65, true)), .load false 1 (.t 66)⟩,
 ⟨(some 68), (some (65, true)), .mv (.t 2)⟩,
 ⟨(some 69), (some (65, true)), .bin .geq (.t 67) (.t 68)⟩,
 ⟨(some 70), (some (65, true)), .mv (.t 69)⟩,
 ⟨(some 71), (some (70, false)), .mv (.t 1)⟩,
 ⟨(some 72), (some (70, false)), .mv (.t 2)⟩,
 ⟨(some 73), (some (70, false)), .bin .lss (.t 71) (.t 72)⟩,
 ⟨(some 74), (some (65, true)), .pick (.t 70) (.c (.bool true)) (.t 73)⟩,
 ⟨(some 75), (some (55, false)), .pick (.t 65) (.t 74) (.c (.bool false))⟩,
 ⟨(some 76), (some (44, true)), .pick (.t 55) (.c (.bool true)) (.t 75)⟩,
 ⟨(some 77), none, .pick (.t 44) (.t 76) (.c (.bool false))⟩,
 ⟨(some 6), none, .mv (.t 77)⟩] false)
 .ret)))))))
def r4 : List ERes := [.t 6]

theorem c4 : chkF Tryd.prog Tryd.f4 3 e4 r4 = true := by kernel_rfl

def e7 : EC :=
 (.seq
 (.region [
 ⟨(some 2), none, .box 28 (.t 0)⟩,
 ⟨(some 3), none, .box 23 (.t 1)⟩,
 ⟨(some 4), none, .mv (.c (.bool false))⟩] false)
 (.seq
 (.seq
 (.region [
 ⟨(some 5), none, .call 12 []⟩,
 ⟨(some 6), none, .not (.t 5)⟩] false)
 (.cond (.t 6)
 (.seq
 (.region [
 ⟨(some 4), none, .mv (.c (.bool false))⟩] false)
 .ret)
 .skip))
 (.seq
 (.region [
 ⟨(some 7), none, .load true 3 (.t 3)⟩,
 ⟨(some 8), none, .pcall 22 [(.t 7)]⟩,
 ⟨(some 9), none, .load true 3 (.t 3)⟩,
 ⟨(some 10), none, .pcall 20 [(.t 9)]⟩,
 ⟨(some 11), none, .binB .eql (.t 8) (.t 10)⟩,
 ⟨(some 12), none, .mv (.t 11)⟩,
 ⟨(some 13), (some (12, true)), .load true 3 (.t 2)⟩,
 ⟨(some 14), (some (12, true)), .pcall 23 [(.t 13)]⟩,
 ⟨(some 15), (some (12, true)), .load true 3 (.t 2)⟩,
 ⟨(some 16), (some (12, true)), .pcall 24 [(.t 15)]⟩,
 ⟨(some 17), (some (12, true)), .binB .eql (.t 14) (.t 16)⟩,
 ⟨(some 18), none, .pick (.t 12) (.t 17) (.c (.bool false))⟩,
 ⟨(some 19), none, .mv (.t 18)⟩,
 ⟨(some 20), (some (19, true)), .load true 3 (.t 3)⟩,
 ⟨(some 21), (some (19, true)), .pcall 25 [(.t 20)]⟩,
 ⟨(some 22), (some (19, true)), .load true 3 (.t 3)⟩,
 ⟨(some 23), (some (19, true)), .pcall 26 [(.t 22)]⟩,
 ⟨(some 24), (some (19, true)), .bin .eql (.t 21) (.t 23)⟩,
 ⟨(some 25), none, .pick (.t 19) (.t 24) (.c (.bool false))⟩,
 ⟨(some 26), none, .mv (.t 25)⟩,
 ⟨(some 27), (some (26, true)), .load true 3 (.t 2)⟩,
 ⟨(some 28), (some (26, true)), .load true 3 (.t 3)⟩,
 ⟨(some 29), (some (26, true)), .pcall 27 [(.t 27), (.t 28)]⟩,
 ⟨(some 30), (some (26, true)), .load true 3 (.t 2)⟩,
 ⟨(some 31), (some (26, true)), .load true 3 (.t 3)⟩,
 ⟨(some 32), (some (26, true)), .pcall 28 [(.t 30), (.t 31)]⟩,
 ⟨(some 33), (some (26, true)), .binB .eql (.t 29) (.t 32)⟩,
 ⟨(some 34), none, .pick (.t 26) (.t 33) (.c (.bool false))⟩,
 ⟨(some 4), none, .mv (.t 34)⟩] true)
 .ret)))
def r7 : List ERes := [.t 4]

theorem c7 : chkF Tryd.prog Tryd.f7 2 e7 r7 = true := by kernel_rfl

def e8 : EC :=
 (.seq
 (.region [
 ⟨(some 2), none, .box 28 (.t 0)⟩,
 ⟨(some 3), none, .box 23 (.t 1)⟩,
 ⟨(some 4), none, .mv (.c (.bool false))⟩] false)
 (.seq
 (.seq
 (.region [
 ⟨(some 9), none, .call 12 []⟩,
 ⟨(some 10), none, .not (.t 9)⟩] false)
 (.cond (.t 10)
 (.seq
 (.region [
 ⟨(some 4), none, .mv (.c (.bool false))⟩] false)
 .ret)
 .skip))
 (.seq
 (.region [
 ⟨(some 12), none, .load true 3 (.t 2)⟩,
 ⟨(some 13), none, .call 29 [(.t 12)]⟩,
 ⟨(some 11), none, .mv (.t 13)⟩,
 ⟨(some 14), none, .extract 0 (.t 11)⟩,
 ⟨(some 15), none, .extract 1 (.t 11)⟩,
 ⟨(some 5), none, .alloc 23 [.int .i64 0, .int .i64 0, .str []]⟩,
 ⟨none, none, .store 3 (.t 5) (.t 14)⟩,
 ⟨(some 6), none, .mv (.t 15)⟩] false)
 (.seq
 (.region [
 ⟨(some 17), none, .load true 3 (.t 2)⟩,
 ⟨(some 18), none, .call 30 [(.t 17)]⟩,
 ⟨(some 16), none, .mv (.t 18)⟩,
 ⟨(some 19), none, .extract 0 (.t 16)⟩,
 ⟨(some 20), none, .extract 1 (.t 16)⟩,
 ⟨(some 7), none, .alloc 23 [.int .i64 0, .int .i64 0, .str []]⟩,
 ⟨none, none, .store 3 (.t 7) (.t 19)⟩,
 ⟨(some 8), none, .mv (.t 20)⟩] false)
 (.seq
 (.seq
 (.region [
 ⟨(some 21), none, .load true 3 (.t 5)⟩,
 ⟨(some 22), none, .load true 3 (.t 7)⟩,
 ⟨(some 23), none, .eqA true 23 [.i .i64, .i .i64, .s] (.t 21) (.t 22)⟩,
 ⟨(some 24), none, .mv (.t 23)⟩,
 ⟨(some 25), (some (24, false)), .mv (.t 6)⟩,
 ⟨(some 26), (some (24, false)), .mv (.t 8)⟩,
 ⟨(some 27), (some (24, false)), .bin .neq (.t 25) (.t 26)⟩,
 ⟨(some 28), none, .pick (.t 24) (.c (.bool true)) (.t 27)⟩] false)
 (.cond (.t 28)
 (.seq
 (.region [
 ⟨(some 4), none, .mv (.c (.bool false))⟩] false)
 .ret)
 .skip))
 (.seq
 (.region [
 ⟨(some 29), none, .mv (.t 6)⟩,
 ⟨(some 30), none, .bin .neq (.t 29) (.c (.int .i64 0))⟩,
 ⟨(some 31), none, .mv (.t 30)⟩,
 ⟨(some 32), (some (31, false)), .load true 3 (.t 2)⟩,
 ⟨(some 33), (some (31, false)), .load true 3 (.t 5)⟩,
 ⟨(some 34), (some (31, false)), .pcall 27 [(.t 32), (.t 33)]⟩,
 ⟨(some 35), (some (31, false)), .mv (.t 34)⟩,
 ⟨(some 36), (some (35, true)), .load true 3 (.t 2)⟩,
 ⟨(some 37), (some (35, true)), .load true 3 (.t 3)⟩,
 ⟨(some 38), (some (35, true)), .pcall 27 [(.t 36), (.t 37)]⟩,
 ⟨(some 39), (some (35, true)), .not (.t 38)⟩,
 ⟨(some 40), (some (35, true)), .mv (.t 39)⟩,
 ⟨(some 41), (some (40, false)), .load true 3 (.t 3)⟩,
 ⟨(some 42), (some (40, false)), .pcall 25 [(.t 41)]⟩,
 ⟨(some 43), (some (40, false)), .load true 3 (.t 5)⟩,
 ⟨(some 44), (some (40, false)), .pcall 25 [(.t 43)]⟩,
 ⟨(some 45), (some (40, false)), .bin .geq (.t 42) (.t 44)⟩,
 ⟨(some 46), (some (35, true)), .pick (.t 40) (.c (.bool true)) (.t 45)⟩,
 ⟨(some 47), (some (31, false)), .pick (.t 35) (.t 46) (.c (.bool false))⟩,
 ⟨(some 48), none, .pick (.t 31) (.c (.bool true)) (.t 47)⟩,
 ⟨(some 4), none, .mv (.t 48)⟩] true)
 .ret))))))
def r8 : List ERes := [.t 4]

theorem c8 : chkF Tryd.prog Tryd.f8 2 e8 r8 = true := by kernel_rfl

def e9 : EC :=
 (.seq
 (.region [
 ⟨(some 2), none, .box 28 (.t 0)⟩,
 ⟨(some 3), none, .box 23 (.t 1)⟩,
 ⟨(some 4), none, .mv (.c (.bool false))⟩] false)
 (.seq
 (.seq
 (.region [
 ⟨(some 11), none, .call 12 []⟩,
 ⟨(some 12), none, .not (.t 11)⟩] false)
 (.cond (.t 12)
 (.seq
 (.region [
 ⟨(some 4), none, .mv (.c (.bool false))⟩] false)
 .ret)
 .skip))
 (.seq
 (.region [
 ⟨(some 14), none, .load true 3 (.t 2)⟩,
 ⟨(some 15), none, .load true 3 (.t 3)⟩,
 ⟨(some 16), none, .call 15 [(.t 14), (.t 15)]⟩,
 ⟨(some 13), none, .mv (.t 16)⟩,
 ⟨(some 17), none, .extract 0 (.t 13)⟩,
 ⟨(some 18), none, .extract 1 (.t 13)⟩,
 ⟨(some 5), none, .alloc 23 [.int .i64 0, .int .i64 0, .str []]⟩,
 ⟨none, none, .store 3 (.t 5) (.t 17)⟩,
 ⟨(some 6), none, .mv (.t 18)⟩] false)
 (.seq
 (.region [
 ⟨(some 20), none, .load true 3 (.t 2)⟩,
 ⟨(some 21), none, .load true 3 (.t 3)⟩,
 ⟨(some 22), none, .call 31 [(.t 20), (.t 21)]⟩,
 ⟨(some 19), none, .mv (.t 22)⟩,
 ⟨(some 23), none, .extract 0 (.t 19)⟩,
 ⟨(some 24), none, .extract 1 (.t 19)⟩,
 ⟨(some 7), none, .alloc 23 [.int .i64 0, .int .i64 0, .str []]⟩,
 ⟨none, none, .store 3 (.t 7) (.t 23)⟩,
 ⟨(some 8), none, .mv (.t 24)⟩] false)
 (.seq
 (.seq
 (.region [
 ⟨(some 25), none, .load true 3 (.t 5)⟩,
 ⟨(some 26), none, .load true 3 (.t 7)⟩,
 ⟨(some 27), none, .eqA true 23 [.i .i64, .i .i64, .s] (.t 25) (.t 26)⟩,
 ⟨(some 28), none, .mv (.t 27)⟩,
 ⟨(some 29), (some (28, false)), .mv (.t 6)⟩,
 ⟨(some 30), (some (28, false)), .mv (.t 8)⟩,
 ⟨(some 31), (some (28, false)), .bin .neq (.t 29) (.t 30)⟩,
 ⟨(some 32), none, .pick (.t 28) (.c (.bool true)) (.t 31)⟩] false)
 (.cond (.t 32)
 (.seq
 (.region [
 ⟨(some 4), none, .mv (.c (.bool false))⟩] false)
 .ret)
 .skip))
 (.seq
 (.seq
 (.region [
 ⟨(some 33), none, .mv (.t 6)⟩,
 ⟨(some 34), none, .bin .neq (.t 33) (.c (.int .i64 0))⟩] false)
 (.cond (.t 34)
 (.seq
 (.region [
 ⟨(some 35), none, .load true 3 (.t 5)⟩,
 ⟨(some 36), none, .build [.int .i64 0, .int .i64 0, .str []] []⟩,
 ⟨(some 37), none, .eqA false 23 [.i .i64, .i .i64, .s] (.t 35) (.t 36)⟩,
 ⟨(some 4), none, .mv (.t 37)⟩] false)
 .ret)
 .skip))
 (.seq
 (.region [
 ⟨(some 39), none, .load true 3 (.t 2)⟩,
 ⟨(some 40), none, .load true 3 (.t 5)⟩,
 ⟨(some 41), none, .call 15 [(.t 39), (.t 40)]⟩,
 ⟨(some 38), none, .mv (.t 41)⟩,
 ⟨(some 42), none, .extract 0 (.t 38)⟩,
 ⟨(some 43), none, .extract 1 (.t 38)⟩,
 ⟨(some 9), none, .alloc 23 [.int .i64 0, .int .i64 0, .str []]⟩,
 ⟨none, none, .store 3 (.t 9) (.t 42)⟩,
 ⟨(some 10), none, .mv (.t 43)⟩] false)
 (.seq
 (.region [
 ⟨(some 44), none, .load true 3 (.t 2)⟩,
 ⟨(some 45), none, .load true 3 (.t 5)⟩,
 ⟨(some 46), none, .pcall 27 [(.t 44), (.t 45)]⟩,
 ⟨(some 47), none, .mv (.t 46)⟩,
 ⟨(some 48), (some (47, true)), .mv (.t 10)⟩,
 ⟨(some 49), (some (47, true)), .bin .eql (.t 48) (.c (.int .i64 0))⟩,
 ⟨(some 50), none, .pick (.t 47) (.t 49) (.c (.bool false))⟩,
 ⟨(some 51), none, .mv (.t 50)⟩,
 ⟨(some 52), (some (51, true)), .load true 3 (.t 9)⟩,
 ⟨(some 53), (some (51, true)), .load true 3 (.t 5)⟩,
 ⟨(some 54), (some (51, true)), .eqA false 23 [.i .i64, .i .i64, .s] (.t 52) (.t 53)⟩,
 ⟨(some 55), none, .pick (.t 51) (.t 54) (.c (.bool false))⟩,
 ⟨(some 56), none, .mv (.t 55)⟩,
 ⟨(some 57), (some (56, true)), .load true 3 (.t 2)⟩,
 ⟨(some 58), (some (56, true)), .load true 3 (.t 3)⟩,
 ⟨(some 59), (some (56, true)), .pcall 27 [(.t 57), (.t 58)]⟩,
 ⟨(some 60), (some (56, true)), .load true 3 (.t 5)⟩,
 ⟨(some 61), (some (56, true)), .load true 3 (.t 3)⟩,
 ⟨(some 62), (some (56, true)), .eqA false 23 [.i .i64, .i .i64, .s] (.t 60) (.t 61)⟩,
 ⟨(some 63), (some (56, true)), .binB .eql (.t 59) (.t 62)⟩,
 ⟨(some 64), none, .pick (.t 56) (.t 63) (.c (.bool false))⟩,
 ⟨(some 4), none, .mv (.t 64)⟩] true)
 .ret))))))))
def r9 : List ERes := [.t 4]

theorem c9 : chkF Tryd.prog Tryd.f9 2 e9 r9 = true := by kernel_rfl

def e10 : EC :=
 (.seq
 (.region [
 ⟨(some 6), none, .mv (.c (.bool false))⟩] false)
 (.seq
 (.seq
 (.region [
 ⟨(some 11), none, .call 12 []⟩,
 ⟨(some 12), none, .not (.t 11)⟩] false)
 (.cond (.t 12)
 (.seq
 (.region [
 ⟨(some 6), none, .mv (.c (.bool false))⟩] false)
 .ret)
 .skip))
 (.seq
 (.seq
 (.region [
 ⟨(some 13), none, .mv (.t 0)⟩,
 ⟨(some 14), none, .len (.t 13)⟩,
 ⟨(some 15), none, .bin .gtr (.t 14) (.c (.int .i64 40))⟩,
 ⟨(some 16), none, .mv (.t 15)⟩,
 ⟨(some 17), (some (16, false)), .mv (.t 1)⟩,
 ⟨(some 18), (some (16, false)), .call 32 [(.t 17)]⟩,
 ⟨(some 19), (some (16, false)), .not (.t 18)⟩,
 ⟨(some 20), none, .pick (.t 16) (.c (.bool true)) (.t 19)⟩,
 ⟨(some 21), none, .mv (.t 20)⟩,
 ⟨(some 22), (some (21, false)), .mv (.t 2)⟩,
 ⟨(some 23), (some (21, false)), .call 32 [(.t 22)]⟩,
 ⟨(some 24), (some (21, false)), .not (.t 23)⟩,
 ⟨(some 25), none, .pick (.t 21) (.c (.bool true)) (.t 24)⟩] false)
 (.cond (.t 25)
 (.seq
 (.region [
 ⟨(some 6), none, .mv (.c (.bool true))⟩] false)
 .ret)
 .skip))
 (.seq
 (.region [
 ⟨(some 27), none, .mv (.t 0)⟩,
 ⟨(some 28), none, .call 33 [(.t 27)]⟩,
 ⟨(some 26), none, .mv (.t 28)⟩,
 ⟨(some 29), none, .extract 0 (.t 26)⟩,
 ⟨(some 30), none, .extract 1 (.t 26)⟩,
 ⟨(some 7), none, .mv (.t 29)⟩,
 ⟨(some 8), none, .mv (.t 30)⟩] false)
 (.seq
 (.region [
 ⟨(some 32), none, .mv (.t 0)⟩,
 ⟨(some 33), none, .call 34 [(.t 32)]⟩,
 ⟨(some 31), none, .mv (.t 33)⟩,
 ⟨(some 34), none, .extract 0 (.t 31)⟩,
 ⟨(some 35), none, .extract 1 (.t 31)⟩,
 ⟨(some 9), none, .mv (.t 34)⟩,
 ⟨(some 10), none, .mv (.t 35)⟩] false)
 (.seq
 (.seq
 (.region [
 ⟨(some 36), none, .mv (.t 7)⟩,
 ⟨(some 37), none, .mv (.t 9)⟩,
 ⟨(some 38), none, .call 35 [(.t 36), (.t 37)]⟩,
 ⟨(some 39), none, .not (.t 38)⟩,
 ⟨(some 40), none, .mv (.t 39)⟩,
 ⟨(some 41), (some (40, false)), .mv (.t 8)⟩,
 ⟨(some 42), (some (40, false)), .mv (.t 10)⟩,
 ⟨(some 43), (some (40, false)), .bin .neq (.t 41) (.t 42)⟩,
 ⟨(some 44), none, .pick (.t 40) (.c (.bool true)) (.t 43)⟩,
 ⟨(some 45), none, .mv (.t 44)⟩,
 ⟨(some 46), (some (45, false)), .mv (.t 8)⟩,
 ⟨(some 47), (some (45, false)), .bin .eql (.t 46) (.c (.int .i64 0))⟩,
 ⟨(some 48), (some (45, false)), .mv (.t 47)⟩,
 ⟨(some 49), (some (48, true)), .mv (.t 0)⟩,
 ⟨(some 50), (some (48, true)), .mv (.t 7)⟩,
 ⟨(some 51), (some (48, true)), .call 36 [(.t 49), (.t 50)]⟩,
 ⟨(some 52), (some (48, true)), .not (.t 51)⟩,
 ⟨(some 53), (some (45, false)), .pick (.t 48) (.t 52) (.c (.bool false))⟩,
 ⟨(some 54), none, .pick (.t 45) (.c (.bool true)) (.t 53)⟩] false)
 (.cond (.t 54)
 (.seq
 (.region [
 ⟨(some 6), none, .mv (.c (.bool false))⟩] false)
 .ret)
 .skip))
 (.seq
 (.region [
 ⟨(some 55), none, .mv (.t 1)⟩,
 ⟨(some 56), none, .mv (.t 2)⟩,
 ⟨(some 57), none, .call 37 [(.t 55), (.t 56)]⟩,
 ⟨(some 58), none, .mv (.t 1)⟩,
 ⟨(some 59), none, .mv (.t 2)⟩,
 ⟨(some 60), none, .call 35 [(.t 58), (.t 59)]⟩,
 ⟨(some 61), none, .binB .eql (.t 57) (.t 60)⟩,
 ⟨(some 62), none, .mv (.t 61)⟩,
 ⟨(some 63), (some (62, true)), .mv (.t 0)⟩,
 ⟨(some 64), (some (62, true)), .mv (.t 1)⟩,
 ⟨(some 65), (some (62, true)), .call 36 [(.t 63), (.t 64)]⟩,
 ⟨(some 66), (some (62, true)), .mv (.t 0)⟩,
 ⟨(some 67), (some (62, true)), .mv (.t 1)⟩,
 ⟨(some 68), (some (62, true)), .call 38 [(.t 66), (.t 67)]⟩,
 ⟨(some 69), (some (62, true)), .binB .eql (.t 65) (.t 68)⟩,
 ⟨(some 70), none, .pick (.t 62) (.t 69) (.c (.bool false))⟩,
 ⟨(some 6), none, .mv (.t 70)⟩] false)
 .ret)))))))
def r10 : List ERes := [.t 6]

theorem c10 : chkF Tryd.prog Tryd.f10 3 e10 r10 = true := by kernel_rfl

def e12 : EC :=
 (.seq
 (.region [
 ⟨(some 0), none, .mv (.c (.bool false))⟩] false)
 (.seq
 (.region [
 ⟨(some 8), none, .build [.int .i64 0, .int .i64 0, .int .i64 0] [(0, 1, (.c (.int .i64 1))), (1, 1, (.c (.int .i64 (-3)))), (2, 1, (.c (.int .i64 9)))]⟩,
 ⟨(some 1), none, .alloc 28 [.int .i64 0, .int .i64 0, .int .i64 0]⟩,
 ⟨none, none, .store 3 (.t 1) (.t 8)⟩] false)
 (.seq
 (.region [
 ⟨(some 10), none, .load true 3 (.t 1)⟩,
 ⟨(some 11), none, .call 29 [(.t 10)]⟩,
 ⟨(some 9), none, .mv (.t 11)⟩,
 ⟨(some 12), none, .extract 0 (.t 9)⟩,
 ⟨(some 13), none, .extract 1 (.t 9)⟩,
 ⟨(some 2), none, .alloc 23 [.int .i64 0, .int .i64 0, .str []]⟩,
 ⟨none, none, .store 3 (.t 2) (.t 12)⟩,
 ⟨(some 3), none, .mv (.t 13)⟩] false)
 (.seq
 (.region [
 ⟨(some 15), none, .load true 3 (.t 1)⟩,
 ⟨(some 16), none, .pcall 16 [(.c (.int .i64 12))]⟩,
 ⟨(some 17), none, .pcall 15 [(.t 15), (.t 16)]⟩,
 ⟨(some 14), none, .mv (.t 17)⟩,
 ⟨(some 18), none, .extract 0 (.t 14)⟩,
 ⟨(some 19), none, .extract 1 (.t 14)⟩,
 ⟨(some 4), none, .alloc 23 [.int .i64 0, .int .i64 0, .str []]⟩,
 ⟨none, none, .store 3 (.t 4) (.t 18)⟩,
 ⟨(some 5), none, .mv (.t 19)⟩] true)
 (.seq
 (.region [
 ⟨(some 21), none, .call 18 [(.c (.str [34, 97, 92, 34, 98, 34]))]⟩,
 ⟨(some 20), none, .mv (.t 21)⟩,
 ⟨(some 22), none, .extract 0 (.t 20)⟩,
 ⟨(some 23), none, .extract 1 (.t 20)⟩,
 ⟨(some 6), none, .alloc 23 [.int .i64 0, .int .i64 0, .str []]⟩,
 ⟨none, none, .store 3 (.t 6) (.t 22)⟩,
 ⟨(some 7), none, .mv (.t 23)⟩] false)
 (.seq
 (.region [
 ⟨(some 24), none, .mv (.t 3)⟩,
 ⟨(some 25), none, .bin .eql (.t 24) (.c (.int .i64 0))⟩,
 ⟨(some 26), none, .mv (.t 25)⟩,
 ⟨(some 27), (some (26, true)), .mv (.t 5)⟩,
 ⟨(some 28), (some (26, true)), .bin .eql (.t 27) (.c (.int .i64 0))⟩,
 ⟨(some 29), none, .pick (.t 26) (.t 28) (.c (.bool false))⟩,
 ⟨(some 30), none, .mv (.t 29)⟩,
 ⟨(some 31), (some (30, true)), .mv (.t 7)⟩,
 ⟨(some 32), (some (30, true)), .bin .eql (.t 31) (.c (.int .i64 0))⟩,
 ⟨(some 33), none, .pick (.t 30) (.t 32) (.c (.bool false))⟩,
 ⟨(some 34), none, .mv (.t 33)⟩,
 ⟨(some 35), (some (34, true)), .load true 3 (.t 2)⟩,
 ⟨(some 36), (some (34, true)), .pcall 16 [(.c (.int .i64 (-3)))]⟩,
 ⟨(some 37), (some (34, true)), .eqA false 23 [.i .i64, .i .i64, .s] (.t 35) (.t 36)⟩,
 ⟨(some 38), none, .pick (.t 34) (.t 37) (.c (.bool false))⟩,
 ⟨(some 39), none, .mv (.t 38)⟩,
 ⟨(some 40), (some (39, true)), .load true 3 (.t 4)⟩,
 ⟨(some 41), (some (39, true)), .pcall 16 [(.c (.int .i64 9))]⟩,
 ⟨(some 42), (some (39, true)), .eqA false 23 [.i .i64, .i .i64, .s] (.t 40) (.t 41)⟩,
 ⟨(some 43), none, .pick (.t 39) (.t 42) (.c (.bool false))⟩,
 ⟨(some 44), none, .mv (.t 43)⟩,
 ⟨(some 45), (some (44, true)), .load true 3 (.t 6)⟩,
 ⟨(some 46), (some (44, true)), .pcall 43 [(.c (.str [97, 34, 98]))]⟩,
 ⟨(some 47), (some (44, true)), .eqA false 23 [.i .i64, .i .i64, .s] (.t 45) (.t 46)⟩,
 ⟨(some 48), none, .pick (.t 44) (.t 47) (.c (.bool false))⟩,
 ⟨(some 49), none, .mv (.t 48)⟩,
 ⟨(some 50), (some (49, true)), .load true 3 (.t 6)⟩,
 ⟨(some 51), (some (49, true)), .pcall 17 [(.t 50)]⟩,
 ⟨(some 52), (some (49, true)), .bin .eql (.t 51) (.c (.str [34, 97, 92, 34, 98, 34]))⟩,
 ⟨(some 53), none, .pick (.t 49) (.t 52) (.c (.bool false))⟩,
 ⟨(some 54), none, .mv (.t 53)⟩,
 ⟨(some 55), (some (54, true)), .load true 3 (.t 2)⟩,
 ⟨(some 56), (some (54, true)), .bslice 23 3 1 [.int .i64 0, .int .i64 0, .str []] [(0, (.t 55))]⟩,
 ⟨(some 57), (some (54, true)), .load true 3 (.t 2)⟩,
 ⟨(some 58), (some (54, true)), .bslice 23 3 1 [.int .i64 0, .int .i64 0, .str []] [(0, (.t 57))]⟩,
 ⟨(some 59), (some (54, true)), .pcall 37 [(.t 56), (.t 58)]⟩,
 ⟨(some 60), none, .pick (.t 54) (.t 59) (.c (.bool false))⟩,
 ⟨(some 0), none, .mv (.t 60)⟩] true)
 .ret))))))
def r12 : List ERes := [.t 0]

theorem c12 : chkF Tryd.prog Tryd.f12 0 e12 r12 = true := by kernel_rfl

def e18 : EC :=
 (.seq
 (.region [
 ⟨(some 2), none, .alloc 23 [.int .i64 0, .int .i64 0, .str []]⟩,
 ⟨(some 3), none, .mv (.c (.int .i64 0))⟩] false)
 (.seq
 (.region [
 ⟨(some 8), none, .mv (.t 0)⟩,
 ⟨(some 9), none, .call 52 [(.t 8)]⟩,
 ⟨(some 7), none, .mv (.t 9)⟩,
 ⟨(some 10), none, .extract 0 (.t 7)⟩,
 ⟨(some 11), none, .extract 1 (.t 7)⟩,
 ⟨(some 12), none, .extract 2 (.t 7)⟩,
 ⟨(some 4), none, .alloc 23 [.int .i64 0, .int .i64 0, .str []]⟩,
 ⟨none, none, .store 3 (.t 4) (.t 10)⟩,
 ⟨(some 5), none, .mv (.t 11)⟩,
 ⟨(some 6), none, .mv (.t 12)⟩] false)
 (.seq
 (.seq
 (.region [
 ⟨(some 13), none, .mv (.t 5)⟩,
 ⟨(some 14), none, .bin .eql (.t 13) (.c (.int .i64 0))⟩,
 ⟨(some 15), none, .mv (.t 14)⟩,
 ⟨(some 16), (some (15, false)), .mv (.t 5)⟩,
 ⟨(some 17), (some (15, false)), .mv (.t 0)⟩,
 ⟨(some 18), (some (15, false)), .lenS (.t 17)⟩,
 ⟨(some 19), (some (15, false)), .bin .neq (.t 16) (.t 18)⟩,
 ⟨(some 20), none, .pick (.t 15) (.c (.bool true)) (.t 19)⟩] false)
 (.cond (.t 20)
 (.seq
 (.region [
 ⟨(some 21), none, .build [.int .i64 0, .int .i64 0, .str []] []⟩,
 ⟨none, none, .store 3 (.t 2) (.t 21)⟩,
 ⟨(some 3), none, .mv (.c (.int .i64 3))⟩] false)
 .ret)
 .skip))
 (.seq
 (.region [
 ⟨(some 22), none, .load true 3 (.t 4)⟩,
 ⟨(some 23), none, .mv (.t 6)⟩,
 ⟨none, none, .store 3 (.t 2) (.t 22)⟩,
 ⟨(some 3), none, .mv (.t 23)⟩] false)
 .ret))))
def r18 : List ERes := [.cell true 3 2, .t 3]

theorem c18 : chkF Tryd.prog Tryd.f18 1 e18 r18 = true := by kernel_rfl

def e33 : EC :=
 (.seq
 (.region [
 ⟨(some 2), none, .mv (.c (.nilS))⟩,
 ⟨(some 3), none, .mv (.c (.int .i64 0))⟩] false)
 (.seq
 (.region [
 ⟨(some 4), none, .mv (.c (.nilS))⟩] false)
 (.seq
 (.seq
 (.region [
 ⟨(some 9), none, .mv (.t 0)⟩,
 ⟨(some 10), none, .len (.t 9)⟩,
 ⟨(some 11), none, .mv (.c (.int .i64 0))⟩] false)
 (.block 0
 (.loop
 (.seq
 (.region [
 ⟨(some 12), none, .bin .lss (.t 11) (.t 10)⟩] false)
 (.seq
 (.cond (.t 12)
 .skip
 (.exit 0))
 (.seq
 (.block 1
 (.seq
 (.region [
 ⟨(some 13), none, .iaddr 4 (.t 9) (.t 11)⟩,
 ⟨(some 14), none, .load true 4 (.t 13)⟩,
 ⟨(some 6), none, .alloc 73 [.str [], .int .i64 0, .int .i64 0, .int .i64 0]⟩,
 ⟨none, none, .store 4 (.t 6) (.t 14)⟩] false)
 (.seq
 (.region [
 ⟨(some 16), none, .faddr 1 (.t 6)⟩,
 ⟨(some 17), none, .load true 3 (.t 16)⟩,
 ⟨(some 18), none, .call 29 [(.t 17)]⟩,
 ⟨(some 15), none, .mv (.t 18)⟩,
 ⟨(some 19), none, .extract 0 (.t 15)⟩,
 ⟨(some 20), none, .extract 1 (.t 15)⟩,
 ⟨(some 7), none, .alloc 23 [.int .i64 0, .int .i64 0, .str []]⟩,
 ⟨none, none, .store 3 (.t 7) (.t 19)⟩,
 ⟨(some 8), none, .mv (.t 20)⟩] false)
 (.seq
 (.seq
 (.region [
 ⟨(some 21), none, .mv (.t 8)⟩,
 ⟨(some 22), none, .bin .neq (.t 21) (.c (.int .i64 0))⟩] false)
 (.cond (.t 22)
 (.seq
 (.region [
 ⟨(some 23), none, .mv (.t 8)⟩,
 ⟨(some 2), none, .mv (.c (.nilS))⟩,
 ⟨(some 3), none, .mv (.t 23)⟩] false)
 .ret)
 .skip))
 (.region [
 ⟨(some 24), none, .mv (.t 4)⟩,
 ⟨(some 25), none, .load true 3 (.t 7)⟩,
 ⟨(some 26), none, .bslice 23 3 1 [.int .i64 0, .int .i64 0, .str []] [(0, (.t 25))]⟩,
 ⟨(some 27), none, .appendM 23 3 32 (.t 24) (.t 26)⟩,
 ⟨(some 4), none, .mv (.t 27)⟩] false)))))
 (.region [
 ⟨(some 28), none, .bin .add (.t 11) (.c (.int .i64 1))⟩,
 ⟨(some 11), none, .mv (.t 28)⟩] false)))))))
 (.seq
 (.region [
 ⟨(some 29), none, .mv (.t 4)⟩,
 ⟨(some 2), none, .mv (.t 29)⟩,
 ⟨(some 3), none, .mv (.c (.int .i64 0))⟩] false)
 .ret))))
def r33 : List ERes := [.t 2, .t 3]

theorem c33 : chkF Tryd.prog Tryd.f33 1 e33 r33 = true := by kernel_rfl

def e34 : EC :=
 (.seq
 (.region [
 ⟨(some 2), none, .mv (.c (.nilS))⟩,
 ⟨(some 3), none, .mv (.c (.int .i64 0))⟩] false)
 (.seq
 (.region [
 ⟨(some 4), none, .mv (.c (.nilS))⟩] false)
 (.seq
 (.seq
 (.region [
 ⟨(some 5), none, .mv (.c (.int .i64 0))⟩] false)
 (.block 0
 (.loop
 (.seq
 (.seq
 (.region [
 ⟨(some 8), none, .mv (.t 5)⟩,
 ⟨(some 9), none, .mv (.t 0)⟩,
 ⟨(some 10), none, .len (.t 9)⟩,
 ⟨(some 11), none, .bin .lss (.t 8) (.t 10)⟩] false)
 (.cond (.t 11)
 .skip
 (.exit 0)))
 (.seq
 (.block 1
 (.seq
 (.region [
 ⟨(some 15), none, .mv (.t 0)⟩,
 ⟨(some 16), none, .mv (.t 5)⟩,
 ⟨(some 17), none, .iaddr 4 (.t 15) (.t 16)⟩,
 ⟨(some 18), none, .faddr 1 (.t 17)⟩,
 ⟨(some 19), none, .load true 3 (.t 18)⟩,
 ⟨(some 20), none, .call 30 [(.t 19)]⟩,
 ⟨(some 14), none, .mv (.t 20)⟩,
 ⟨(some 21), none, .extract 0 (.t 14)⟩,
 ⟨(some 22), none, .extract 1 (.t 14)⟩,
 ⟨(some 6), none, .alloc 23 [.int .i64 0, .int .i64 0, .str []]⟩,
 ⟨none, none, .store 3 (.t 6) (.t 21)⟩,
 ⟨(some 7), none, .mv (.t 22)⟩] false)
 (.seq
 (.seq
 (.region [
 ⟨(some 23), none, .mv (.t 7)⟩,
 ⟨(some 24), none, .bin .neq (.t 23) (.c (.int .i64 0))⟩] false)
 (.cond (.t 24)
 (.seq
 (.region [
 ⟨(some 25), none, .mv (.t 7)⟩,
 ⟨(some 2), none, .mv (.c (.nilS))⟩,
 ⟨(some 3), none, .mv (.t 25)⟩] false)
 .ret)
 .skip))
 (.region [
 ⟨(some 26), none, .mv (.t 4)⟩,
 ⟨(some 27), none, .load true 3 (.t 6)⟩,
 ⟨(some 28), none, .bslice 23 3 1 [.int .i64 0, .int .i64 0, .str []] [(0, (.t 27))]⟩,
 ⟨(some 29), none, .appendM 23 3 32 (.t 26) (.t 28)⟩,
 ⟨(some 4), none, .mv (.t 29)⟩] false))))
 (.region [
 ⟨(some 12), none, .mv (.t 5)⟩,
 ⟨(some 13), none, .bin .add (.t 12) (.c (.int .i64 1))⟩,
 ⟨(some 5), none, .mv (.t 13)⟩] false))))))
 (.seq
 (.region [
 ⟨(some 30), none, .mv (.t 4)⟩,
 ⟨(some 2), none, .mv (.t 30)⟩,
 ⟨(some 3), none, .mv (.c (.int .i64 0))⟩] false)
 .ret))))
def r34 : List ERes := [.t 2, .t 3]

theorem c34 : chkF Tryd.prog Tryd.f34 1 e34 r34 = true := by kernel_rfl

def e35 : EC :=
 (.seq
 (.region [
 ⟨(some 4), none, .mv (.c (.bool false))⟩] false)
 (.seq
 (.seq
 (.region [
 ⟨(some 6), none, .mv (.t 0)⟩,
 ⟨(some 7), none, .len (.t 6)⟩,
 ⟨(some 8), none, .mv (.t 1)⟩,
 ⟨(some 9), none, .len (.t 8)⟩,
 ⟨(some 10), none, .bin .neq (.t 7) (.t 9)⟩] false)
 (.cond (.t 10)
 (.seq
 (.region [
 ⟨(some 4), none, .mv (.c (.bool false))⟩] false)
 .ret)
 .skip))
 (.seq
 (.seq
 (.region [
 ⟨(some 5), none, .mv (.c (.int .i64 0))⟩] false)
 (.block 0
 (.loop
 (.seq
 (.seq
 (.region [
 ⟨(some 11), none, .mv (.t 5)⟩,
 ⟨(some 12), none, .mv (.t 0)⟩,
 ⟨(some 13), none, .len (.t 12)⟩,
 ⟨(some 14), none, .bin .lss (.t 11) (.t 13)⟩] false)
 (.cond (.t 14)
 .skip
 (.exit 0)))
 (.seq
 (.block 1
 (.seq
 (.region [
 ⟨(some 17), none, .mv (.t 0)⟩,
 ⟨(some 18), none, .mv (.t 5)⟩,
 ⟨(some 19), none, .iaddr 3 (.t 17) (.t 18)⟩,
 ⟨(some 20), none, .load true 3 (.t 19)⟩,
 ⟨(some 21), none, .mv (.t 1)⟩,
 ⟨(some 22), none, .mv (.t 5)⟩,
 ⟨(some 23), none, .iaddr 3 (.t 21) (.t 22)⟩,
 ⟨(some 24), none, .load true 3 (.t 23)⟩,
 ⟨(some 25), none, .eqA true 23 [.i .i64, .i .i64, .s] (.t 20) (.t 24)⟩] true)
 (.cond (.t 25)
 (.seq
 (.region [
 ⟨(some 4), none, .mv (.c (.bool false))⟩] false)
 .ret)
 .skip)))
 (.region [
 ⟨(some 15), none, .mv (.t 5)⟩,
 ⟨(some 16), none, .bin .add (.t 15) (.c (.int .i64 1))⟩,
 ⟨(some 5), none, .mv (.t 16)⟩] false))))))
 (.seq
 (.region [
 ⟨(some 4), none, .mv (.c (.bool true))⟩] false)
 .ret))))
def r35 : List ERes := [.t 4]

theorem c35 : chkF Tryd.prog Tryd.f35 2 e35 r35 = true := by kernel_rfl

def e36 : EC :=
 (.seq
 (.region [
 ⟨(some 4), none, .mv (.c (.bool false))⟩] false)
 (.seq
 (.region [
 ⟨(some 5), none, .mv (.t 0)⟩,
 ⟨(some 6), none, .mv (.t 1)⟩,
 ⟨(some 7), none, .call 58 [(.t 5), (.t 6), (.c (.fn 59 []))]⟩,
 ⟨(some 4), none, .mv (.t 7)⟩] false)
 .ret))
def r36 : List ERes := [.t 4]

theorem c36 : chkF Tryd.prog Tryd.f36 2 e36 r36 = true := by kernel_rfl

def e37 : EC :=
 (.seq
 (.region [
 ⟨(some 4), none, .mv (.c (.bool false))⟩] false)
 (.seq
 (.region [
 ⟨(some 5), none, .mv (.t 0)⟩,
 ⟨(some 6), none, .mv (.t 1)⟩,
 ⟨(some 7), none, .call 60 [(.t 5), (.t 6), (.c (.fn 61 []))]⟩,
 ⟨(some 4), none, .mv (.t 7)⟩] false)
 .ret))
def r37 : List ERes := [.t 4]

theorem c37 : chkF Tryd.prog Tryd.f37 2 e37 r37 = true := by kernel_rfl

def e38 : EC :=
 (.seq
 (.region [
 ⟨(some 4), none, .mv (.c (.bool false))⟩] false)
 (.seq
 (.seq
 (.region [
 ⟨(some 6), none, .mv (.t 0)⟩,
 ⟨(some 7), none, .len (.t 6)⟩,
 ⟨(some 8), none, .mv (.t 1)⟩,
 ⟨(some 9), none, .len (.t 8)⟩,
 ⟨(some 10), none, .bin .neq (.t 7) (.t 9)⟩] false)
 (.cond (.t 10)
 (.seq
 (.region [
 ⟨(some 4), none, .mv (.c (.bool false))⟩] false)
 .ret)
 .skip))
 (.seq
 (.seq
 (.region [
 ⟨(some 5), none, .mv (.c (.int .i64 0))⟩] false)
 (.block 0
 (.loop
 (.seq
 (.seq
 (.region [
 ⟨(some 11), none, .mv (.t 5)⟩,
 ⟨(some 12), none, .mv (.t 0)⟩,
 ⟨(some 13), none, .len (.t 12)⟩,
 ⟨(some 14), none, .bin .lss (.t 11) (.t 13)⟩] false)
 (.cond (.t 14)
 .skip
 (.exit 0)))
 (.seq
 (.block 1
 (.seq
 (.region [
 ⟨(some 17), none, .mv (.t 0)⟩,
 ⟨(some 18), none, .mv (.t 5)⟩,
 ⟨(some 19), none, .iaddr 4 (.t 17) (.t 18)⟩,
 ⟨(some 20), none, .faddr 1 (.t 19)⟩,
 ⟨(some 21), none, .load true 3 (.t 20)⟩,
 ⟨(some 22), none, .mv (.t 1)⟩,
 ⟨(some 23), none, .mv (.t 5)⟩,
 ⟨(some 24), none, .iaddr 3 (.t 22) (.t 23)⟩,
 ⟨(some 25), none, .load true 3 (.t 24)⟩,
 ⟨(some 26), none, .pcall 28 [(.t 21), (.t 25)]⟩,
 ⟨(some 27), none, .not (.t 26)⟩] true)
 (.cond (.t 27)
 (.seq
 (.region [
 ⟨(some 4), none, .mv (.c (.bool false))⟩] false)
 .ret)
 .skip)))
 (.region [
 ⟨(some 15), none, .mv (.t 5)⟩,
 ⟨(some 16), none, .bin .add (.t 15) (.c (.int .i64 1))⟩,
 ⟨(some 5), none, .mv (.t 16)⟩] false))))))
 (.seq
 (.region [
 ⟨(some 4), none, .mv (.c (.bool true))⟩] false)
 .ret))))
def r38 : List ERes := [.t 4]

theorem c38 : chkF Tryd.prog Tryd.f38 2 e38 r38 = true := by kernel_rfl

def e52 : EC :=
 (.seq
 (.region [
 ⟨(some 2), none, .alloc 23 [.int .i64 0, .int .i64 0, .str []]⟩,
 ⟨(some 3), none, .mv (.c (.int .i64 0))⟩,
 ⟨(some 4), none, .mv (.c (.int .i64 0))⟩] false)
 (.seq
 (.seq
 (.region [
 ⟨(some 10), none, .mv (.t 0)⟩,
 ⟨(some 11), none, .call 73 [(.t 10)]⟩,
 ⟨(some 5), none, .mv (.t 11)⟩] false)
 (.seq
 (.region [
 ⟨(some 12), none, .mv (.t 5)⟩,
 ⟨(some 13), none, .bin .gtr (.t 12) (.c (.int .i64 0))⟩] false)
 (.cond (.t 13)
 (.seq
 (.region [
 ⟨(some 15), none, .mv (.t 0)⟩,
 ⟨(some 16), none, .mv (.t 5)⟩,
 ⟨(some 17), none, .slS (.t 15) none (some (.t 16))⟩,
 ⟨(some 18), none, .call 74 [(.t 17)]⟩,
 ⟨(some 14), none, .mv (.t 18)⟩,
 ⟨(some 19), none, .extract 0 (.t 14)⟩,
 ⟨(some 20), none, .extract 1 (.t 14)⟩,
 ⟨(some 6), none, .mv (.t 19)⟩,
 ⟨(some 7), none, .mv (.t 20)⟩] false)
 (.seq
 (.seq
 (.region [
 ⟨(some 21), none, .mv (.t 7)⟩,
 ⟨(some 22), none, .bin .neq (.t 21) (.c (.raw .nilIface))⟩,
 ⟨(some 23), none, .mv (.t 22)⟩,
 ⟨(some 24), (some (23, false)), .mv (.t 6)⟩,
 ⟨(some 25), (some (23, false)), .bin .lss (.t 24) (.c (.int .i64 (-1000)))⟩,
 ⟨(some 26), none, .pick (.t 23) (.c (.bool true)) (.t 25)⟩,
 ⟨(some 27), none, .mv (.t 26)⟩,
 ⟨(some 28), (some (27, false)), .mv (.t 6)⟩,
 ⟨(some 29), (some (27, false)), .bin .gtr (.t 28) (.c (.int .i64 1000))⟩,
 ⟨(some 30), none, .pick (.t 27) (.c (.bool true)) (.t 29)⟩] false)
 (.cond (.t 30)
 (.seq
 (.region [
 ⟨(some 31), none, .build [.int .i64 0, .int .i64 0, .str []] []⟩,
 ⟨(some 32), none, .mv (.t 5)⟩,
 ⟨none, none, .store 3 (.t 2) (.t 31)⟩,
 ⟨(some 3), none, .mv (.t 32)⟩,
 ⟨(some 4), none, .mv (.c (.int .i64 2))⟩] false)
 .ret)
 .skip))
 (.seq
 (.region [
 ⟨(some 33), none, .mv (.t 6)⟩,
 ⟨(some 34), none, .build [.int .i64 0, .int .i64 0, .str []] [(0, 1, (.c (.int .i64 1))), (1, 1, (.t 33))]⟩,
 ⟨(some 35), none, .mv (.t 5)⟩,
 ⟨none, none, .store 3 (.t 2) (.t 34)⟩,
 ⟨(some 3), none, .mv (.t 35)⟩,
 ⟨(some 4), none, .mv (.c (.int .i64 0))⟩] false)
 .ret)))
 .skip)))
 (.seq
 (.region [
 ⟨(some 37), none, .mv (.t 0)⟩,
 ⟨(some 38), none, .call 75 [(.t 37)]⟩,
 ⟨(some 36), none, .mv (.t 38)⟩,
 ⟨(some 39), none, .extract 0 (.t 36)⟩,
 ⟨(some 40), none, .extract 1 (.t 36)⟩,
 ⟨(some 8), none, .mv (.t 39)⟩,
 ⟨(some 9), none, .mv (.t 40)⟩] false)
 (.seq
 (.block 0
 (.seq
 (.region [
 ⟨(some 42), none, .mv (.t 9)⟩,
 ⟨(some 43), none, .bin .eql (.t 42) (.c (.int .i64 0))⟩,
 ⟨(some 41), none, .mv (.t 43)⟩] false)
 (.cond (.t 41)
 (.seq
 (.region [
 ⟨(some 44), none, .build [.int .i64 0, .int .i64 0, .str []] []⟩,
 ⟨none, none, .store 3 (.t 2) (.t 44)⟩,
 ⟨(some 3), none, .mv (.c (.int .i64 0))⟩,
 ⟨(some 4), none, .mv (.c (.int .i64 3))⟩] false)
 .ret)
 (.seq
 (.region [
 ⟨(some 46), none, .mv (.t 8)⟩,
 ⟨(some 47), none, .lenS (.t 46)⟩,
 ⟨(some 48), none, .bin .gtr (.t 47) (.c (.int .i64 40))⟩,
 ⟨(some 45), none, .mv (.t 48)⟩] false)
 (.cond (.t 45)
 (.seq
 (.region [
 ⟨(some 49), none, .build [.int .i64 0, .int .i64 0, .str []] []⟩,
 ⟨(some 50), none, .mv (.t 9)⟩,
 ⟨none, none, .store 3 (.t 2) (.t 49)⟩,
 ⟨(some 3), none, .mv (.t 50)⟩,
 ⟨(some 4), none, .mv (.c (.int .i64 2))⟩] false)
 .ret)
 .skip)))))
 (.seq
 (.region [
 ⟨(some 51), none, .mv (.t 8)⟩,
 ⟨(some 52), none, .build [.int .i64 0, .int .i64 0, .str []] [(0, 1, (.c (.int .i64 2))), (2, 1, (.t 51))]⟩,
 ⟨(some 53), none, .mv (.t 9)⟩,
 ⟨none, none, .store 3 (.t 2) (.t 52)⟩,
 ⟨(some 3), none, .mv (.t 53)⟩,
 ⟨(some 4), none, .mv (.c (.int .i64 0))⟩] false)
 .ret)))))
def r52 : List ERes := [.cell true 3 2, .t 3, .t 4]

theorem c52 : chkF Tryd.prog Tryd.f52 1 e52 r52 = true := by kernel_rfl

def e55 : EC :=
 (.seq
 (.region [
 ⟨(some 2), none, .alloc 23 [.int .i64 0, .int .i64 0, .str []]⟩,
 ⟨(some 3), none, .mv (.c (.int .i64 0))⟩] false)
 (.seq
 (.seq
 (.region [
 ⟨(some 8), none, .mv (.t 0)⟩,
 ⟨(some 9), none, .bin .neq (.t 8) (.c (.str []))⟩,
 ⟨(some 10), none, .mv (.t 9)⟩,
 ⟨(some 11), (some (10, true)), .mv (.t 0)⟩,
 ⟨(some 12), (some (10, true)), .idxS (.t 11) (.c (.int .i64 0))⟩,
 ⟨(some 13), (some (10, true)), .bin .eql (.t 12) (.c (.int .u8 34))⟩,
 ⟨(some 14), none, .pick (.t 10) (.t 13) (.c (.bool false))⟩] false)
 (.cond (.t 14)
 (.seq
 (.region [
 ⟨(some 16), none, .mv (.t 0)⟩,
 ⟨(some 17), none, .call 76 [(.t 16)]⟩,
 ⟨(some 15), none, .mv (.t 17)⟩,
 ⟨(some 18), none, .extract 0 (.t 15)⟩,
 ⟨(some 19), none, .extract 1 (.t 15)⟩,
 ⟨(some 4), none, .mv (.t 18)⟩,
 ⟨(some 5), none, .mv (.t 19)⟩] false)
 (.seq
 (.region [
 ⟨(some 20), none, .mv (.t 4)⟩,
 ⟨(some 21), none, .call 43 [(.t 20)]⟩,
 ⟨(some 22), none, .mv (.t 5)⟩,
 ⟨none, none, .store 3 (.t 2) (.t 21)⟩,
 ⟨(some 3), none, .mv (.t 22)⟩] false)
 .ret))
 .skip))
 (.seq
 (.region [
 ⟨(some 24), none, .mv (.t 0)⟩,
 ⟨(some 25), none, .call 77 [(.t 24)]⟩,
 ⟨(some 23), none, .mv (.t 25)⟩,
 ⟨(some 26), none, .extract 0 (.t 23)⟩,
 ⟨(some 27), none, .extract 1 (.t 23)⟩,
 ⟨(some 6), none, .mv (.t 26)⟩,
 ⟨(some 7), none, .mv (.t 27)⟩] false)
 (.seq
 (.region [
 ⟨(some 28), none, .mv (.t 6)⟩,
 ⟨(some 29), none, .call 16 [(.t 28)]⟩,
 ⟨(some 30), none, .mv (.t 7)⟩,
 ⟨none, none, .store 3 (.t 2) (.t 29)⟩,
 ⟨(some 3), none, .mv (.t 30)⟩] false)
 .ret))))
def r55 : List ERes := [.cell true 3 2, .t 3]

theorem c55 : chkF Tryd.prog Tryd.f55 1 e55 r55 = true := by kernel_rfl

def e58 : EC :=
 (.seq
 (.region [
 ⟨(some 6), none, .mv (.c (.bool false))⟩] false)
 (.seq
 (.seq
 (.region [
 ⟨(some 10), none, .mv (.t 0)⟩,
 ⟨(some 11), none, .len (.t 10)⟩,
 ⟨(some 12), none, .mv (.t 1)⟩,
 ⟨(some 13), none, .len (.t 12)⟩,
 ⟨(some 14), none, .bin .neq (.t 11) (.t 13)⟩] false)
 (.cond (.t 14)
 (.seq
 (.region [
 ⟨(some 6), none, .mv (.c (.bool false))⟩] false)
 .ret)
 .skip))
 (.seq
 (.seq
 (.region [
 ⟨(some 15), none, .mv (.t 0)⟩,
 ⟨(some 16), none, .len (.t 15)⟩,
 ⟨(some 17), none, .mv (.c (.int .i64 0))⟩] false)
 (.block 0
 (.loop
 (.seq
 (.region [
 ⟨(some 18), none, .bin .lss (.t 17) (.t 16)⟩] false)
 (.seq
 (.cond (.t 18)
 .skip
 (.exit 0))
 (.seq
 (.block 1
 (.seq
 (.region [
 ⟨(some 19), none, .mv (.t 17)⟩,
 ⟨(some 20), none, .iaddr 4 (.t 15) (.t 17)⟩,
 ⟨(some 21), none, .load true 4 (.t 20)⟩,
 ⟨(some 8), none, .alloc 73 [.str [], .int .i64 0, .int .i64 0, .int .i64 0]⟩,
 ⟨(some 7), none, .mv (.t 19)⟩,
 ⟨none, none, .store 4 (.t 8) (.t 21)⟩] false)
 (.seq
 (.region [
 ⟨(some 22), none, .mv (.t 1)⟩,
 ⟨(some 23), none, .mv (.t 7)⟩,
 ⟨(some 24), none, .iaddr 3 (.t 22) (.t 23)⟩,
 ⟨(some 25), none, .load true 3 (.t 24)⟩,
 ⟨(some 9), none, .alloc 23 [.int .i64 0, .int .i64 0, .str []]⟩,
 ⟨none, none, .store 3 (.t 9) (.t 25)⟩] false)
 (.seq
 (.region [
 ⟨(some 26), none, .mv (.t 2)⟩,
 ⟨(some 27), none, .load true 4 (.t 8)⟩,
 ⟨(some 28), none, .load true 3 (.t 9)⟩,
 ⟨(some 29), none, .callv (.t 26) [(.t 27), (.t 28)]⟩,
 ⟨(some 30), none, .not (.t 29)⟩] false)
 (.cond (.t 30)
 (.seq
 (.region [
 ⟨(some 6), none, .mv (.c (.bool false))⟩] false)
 .ret)
 .skip)))))
 (.region [
 ⟨(some 31), none, .bin .add (.t 17) (.c (.int .i64 1))⟩,
 ⟨(some 17), none, .mv (.t 31)⟩] false)))))))
 (.seq
 (.region [
 ⟨(some 6), none, .mv (.c (.bool true))⟩] false)
 .ret))))
def r58 : List ERes := [.t 6]

theorem c58 : chkF Tryd.prog Tryd.f58 3 e58 r58 = true := by kernel_rfl

def e59 : EC :=
 (.seq
 (.region [
 ⟨(some 2), none, .box 73 (.t 0)⟩,
 ⟨(some 3), none, .box 23 (.t 1)⟩,
 ⟨(some 4), none, .mv (.c (.bool false))⟩] false)
 (.seq
 (.region [
 ⟨(some 5), none, .faddr 1 (.t 2)⟩,
 ⟨(some 6), none, .load true 3 (.t 5)⟩,
 ⟨(some 7), none, .load true 3 (.t 3)⟩,
 ⟨(some 8), none, .call 27 [(.t 6), (.t 7)]⟩,
 ⟨(some 4), none, .mv (.t 8)⟩] false)
 .ret))
def r59 : List ERes := [.t 4]

theorem c59 : chkF Tryd.prog Tryd.f59 2 e59 r59 = true := by kernel_rfl

def e60 : EC :=
 (.seq
 (.region [
 ⟨(some 6), none, .mv (.c (.bool false))⟩] false)
 (.seq
 (.seq
 (.region [
 ⟨(some 10), none, .mv (.t 0)⟩,
 ⟨(some 11), none, .len (.t 10)⟩,
 ⟨(some 12), none, .mv (.t 1)⟩,
 ⟨(some 13), none, .len (.t 12)⟩,
 ⟨(some 14), none, .bin .neq (.t 11) (.t 13)⟩] false)
 (.cond (.t 14)
 (.seq
 (.region [
 ⟨(some 6), none, .mv (.c (.bool false))⟩] false)
 .ret)
 .skip))
 (.seq
 (.seq
 (.region [
 ⟨(some 15), none, .mv (.t 0)⟩,
 ⟨(some 16), none, .len (.t 15)⟩,
 ⟨(some 17), none, .mv (.c (.int .i64 0))⟩] false)
 (.block 0
 (.loop
 (.seq
 (.region [
 ⟨(some 18), none, .bin .lss (.t 17) (.t 16)⟩] false)
 (.seq
 (.cond (.t 18)
 .skip
 (.exit 0))
 (.seq
 (.block 1
 (.seq
 (.region [
 ⟨(some 19), none, .mv (.t 17)⟩,
 ⟨(some 20), none, .iaddr 3 (.t 15) (.t 17)⟩,
 ⟨(some 21), none, .load true 3 (.t 20)⟩,
 ⟨(some 8), none, .alloc 23 [.int .i64 0, .int .i64 0, .str []]⟩,
 ⟨(some 7), none, .mv (.t 19)⟩,
 ⟨none, none, .store 3 (.t 8) (.t 21)⟩] false)
 (.seq
 (.region [
 ⟨(some 22), none, .mv (.t 1)⟩,
 ⟨(some 23), none, .mv (.t 7)⟩,
 ⟨(some 24), none, .iaddr 3 (.t 22) (.t 23)⟩,
 ⟨(some 25), none, .load true 3 (.t 24)⟩,
 ⟨(some 9), none, .alloc 23 [.int .i64 0, .int .i64 0, .str []]⟩,
 ⟨none, none, .store 3 (.t 9) (.t 25)⟩] false)
 (.seq
 (.region [
 ⟨(some 26), none, .mv (.t 2)⟩,
 ⟨(some 27), none, .load true 3 (.t 8)⟩,
 ⟨(some 28), none, .load true 3 (.t 9)⟩,
 ⟨(some 29), none, .callv (.t 26) [(.t 27), (.t 28)]⟩,
 ⟨(some 30), none, .not (.t 29)⟩] false)
 (.cond (.t 30)
 (.seq
 (.region [
 ⟨(some 6), none, .mv (.c (.bool false))⟩] false)
 .ret)
 .skip)))))
 (.region [
 ⟨(some 31), none, .bin .add (.t 17) (.c (.int .i64 1))⟩,
 ⟨(some 17), none, .mv (.t 31)⟩] false)))))))
 (.seq
 (.region [
 ⟨(some 6), none, .mv (.c (.bool true))⟩] false)
 .ret))))
def r60 : List ERes := [.t 6]

theorem c60 : chkF Tryd.prog Tryd.f60 3 e60 r60 = true := by kernel_rfl

def e61 : EC :=
 (.seq
 (.region [
 ⟨(some 2), none, .box 23 (.t 0)⟩,
 ⟨(some 3), none, .box 23 (.t 1)⟩,
 ⟨(some 4), none, .mv (.c (.bool false))⟩] false)
 (.seq
 (.region [
 ⟨(some 5), none, .load true 3 (.t 2)⟩,
 ⟨(some 6), none, .load true 3 (.t 3)⟩,
 ⟨(some 7), none, .call 13 [(.t 5), (.t 6)]⟩,
 ⟨(some 8), none, .bin .eql (.t 7) (.c (.int .i64 0))⟩,
 ⟨(some 4), none, .mv (.t 8)⟩] false)
 .ret))
def r61 : List ERes := [.t 4]

theorem c61 : chkF Tryd.prog Tryd.f61 2 e61 r61 = true := by kernel_rfl

def e67 : EC :=
 (.seq
 (.region [
 ⟨(some 4), none, .mv (.c (.bool false))⟩] false)
 (.seq
 (.region [
 ⟨(some 5), none, .mv (.t 0)⟩,
 ⟨(some 6), none, .mv (.t 1)⟩,
 ⟨(some 7), none, .call 83 [(.t 5), (.t 6)]⟩,
 ⟨(some 4), none, .mv (.t 7)⟩] false)
 .ret))
def r67 : List ERes := [.t 4]

theorem c67 : chkF Tryd.prog Tryd.f67 2 e67 r67 = true := by kernel_rfl

def e73 : EC :=
 (.seq
 (.region [
 ⟨(some 2), none, .mv (.c (.int .i64 0))⟩] false)
 (.seq
 (.region [
 ⟨(some 3), none, .mv (.c (.int .i64 0))⟩] false)
 (.seq
 (.seq
 (.region [
 ⟨(some 6), none, .mv (.t 0)⟩,
 ⟨(some 7), none, .call 67 [(.t 6), (.c (.str [45]))]⟩] false)
 (.cond (.t 7)
 (.region [
 ⟨(some 3), none, .mv (.c (.int .i64 1))⟩] false)
 .skip))
 (.seq
 (.region [
 ⟨(some 8), none, .mv (.t 3)⟩,
 ⟨(some 4), none, .mv (.t 8)⟩] false)
 (.seq
 (.block 0
 (.loop
 (.seq
 (.seq
 (.region [
 ⟨(some 9), none, .mv (.t 4)⟩,
 ⟨(some 10), none, .mv (.t 0)⟩,
 ⟨(some 11), none, .lenS (.t 10)⟩,
 ⟨(some 12), none, .bin .lss (.t 9) (.t 11)⟩,
 ⟨(some 13), none, .mv (.t 12)⟩,
 ⟨(some 14), (some (13, true)), .mv (.t 0)⟩,
 ⟨(some 15), (some (13, true)), .mv (.t 4)⟩,
 ⟨(some 16), (some (13, true)), .idxS (.t 14) (.t 15)⟩,
 ⟨(some 17), (some (13, true)), .bin .geq (.t 16) (.c (.int .u8 48))⟩,
 ⟨(some 18), none, .pick (.t 13) (.t 17) (.c (.bool false))⟩,
 ⟨(some 19), none, .mv (.t 18)⟩,
 ⟨(some 20), (some (19, true)), .mv (.t 0)⟩,
 ⟨(some 21), (some (19, true)), .mv (.t 4)⟩,
 ⟨(some 22), (some (19, true)), .idxS (.t 20) (.t 21)⟩,
 ⟨(some 23), (some (19, true)), .bin .leq (.t 22) (.c (.int .u8 57))⟩,
 ⟨(some 24), none, .pick (.t 19) (.t 23) (.c (.bool false))⟩] false)
 (.cond (.t 24)
 .skip
 (.exit 0)))
 (.block 1
 (.region [
 ⟨(some 25), none, .mv (.t 4)⟩,
 ⟨(some 26), none, .bin .add (.t 25) (.c (.int .i64 1))⟩,
 ⟨(some 4), none, .mv (.t 26)⟩] false)))))
 (.seq
 (.region [
 ⟨(some 27), none, .mv (.t 0)⟩,
 ⟨(some 28), none, .mv (.t 3)⟩,
 ⟨(some 29), none, .mv (.t 4)⟩,
 ⟨(some 30), none, .slS (.t 27) (some (.t 28)) (some (.t 29))⟩,
 ⟨(some 5), none, .mv (.t 30)⟩] false)
 (.seq
 (.seq
 (.region [
 ⟨(some 31), none, .mv (.t 5)⟩,
 ⟨(some 32), none, .bin .eql (.t 31) (.c (.str []))⟩,
 ⟨(some 33), none, .mv (.t 32)⟩,
 ⟨(some 34), (some (33, false)), .mv (.t 5)⟩,
 ⟨(some 35), (some (33, false)), .idxS (.t 34) (.c (.int .i64 0))⟩,
 ⟨(some 36), (some (33, false)), .bin .eql (.t 35) (.c (.int .u8 48))⟩,
 ⟨(some 37), (some (33, false)), .mv (.t 36)⟩,
 ⟨(some 38), (some (37, true)), .mv (.t 5)⟩,
 ⟨(some 39), (some (37, true)), .lenS (.t 38)⟩,
 ⟨(some 40), (some (37, true)), .bin .gtr (.t 39) (.c (.int .i64 1))⟩,
 ⟨(some 41), (some (37, true)), .mv (.t 40)⟩,
 ⟨(some 42), (some (41, false)), .mv (.t 3)⟩,
 ⟨(some 43), (some (41, false)), .bin .eql (.t 42) (.c (.int .i64 1))⟩,
 ⟨(some 44), (some (37, true)), .pick (.t 41) (.c (.bool true)) (.t 43)⟩,
 ⟨(some 45), (some (33, false)), .pick (.t 37) (.t 44) (.c (.bool false))⟩,
 ⟨(some 46), none, .pick (.t 33) (.c (.bool true)) (.t 45)⟩] false)
 (.cond (.t 46)
 (.seq
 (.region [
 ⟨(some 2), none, .mv (.c (.int .i64 0))⟩] false)
 .ret)
 .skip))
 (.seq
 (.region [
 ⟨(some 47), none, .mv (.t 4)⟩,
 ⟨(some 2), none, .mv (.t 47)⟩] false)
 .ret))))))))
def r73 : List ERes := [.t 2]

theorem c73 : chkF Tryd.prog Tryd.f73 1 e73 r73 = true := by kernel_rfl

def e76 : EC :=
 (.seq
 (.region [
 ⟨(some 2), none, .mv (.c (.str []))⟩,
 ⟨(some 3), none, .mv (.c (.int .i64 0))⟩] false)
 (.seq
 (.region [
 ⟨(some 4), none, .mv (.c (.str []))⟩] false)
 (.seq
 (.seq
 (.region [
 ⟨(some 5), none, .mv (.c (.int .i64 1))⟩] false)
 (.block 0
 (.loop
 (.seq
 (.seq
 (.region [
 ⟨(some 6), none, .mv (.t 5)⟩,
 ⟨(some 7), none, .mv (.t 0)⟩,
 ⟨(some 8), none, .lenS (.t 7)⟩,
 ⟨(some 9), none, .bin .lss (.t 6) (.t 8)⟩] false)
 (.cond (.t 9)
 .skip
 (.exit 0)))
 (.seq
 (.block 1
 (.seq
 (.block 2
 (.seq
 (.region [
 ⟨(some 13), none, .mv (.t 0)⟩,
 ⟨(some 14), none, .mv (.t 5)⟩,
 ⟨(some 15), none, .idxS (.t 13) (.t 14)⟩,
 ⟨(some 16), none, .bin .eql (.t 15) (.c (.int .u8 34))⟩,
 ⟨(some 12), none, .mv (.t 16)⟩] false)
 (.cond (.t 12)
 (.seq
 (.region [
 ⟨(some 17), none, .mv (.t 4)⟩,
 ⟨(some 18), none, .mv (.t 5)⟩,
 ⟨(some 19), none, .bin .add (.t 18) (.c (.int .i64 1))⟩,
 ⟨(some 2), none, .mv (.t 17)⟩,
 ⟨(some 3), none, .mv (.t 19)⟩] false)
 .ret)
 (.seq
 (.region [
 ⟨(some 21), none, .mv (.t 0)⟩,
 ⟨(some 22), none, .mv (.t 5)⟩,
 ⟨(some 23), none, .idxS (.t 21) (.t 22)⟩,
 ⟨(some 24), none, .bin .eql (.t 23) (.c (.int .u8 92))⟩,
 ⟨(some 25), none, .mv (.t 24)⟩,
 ⟨(some 26), (some (25, true)), .mv (.t 5)⟩,
 ⟨(some 27), (some (25, true)), .bin .add (.t 26) (.c (.int .i64 1))⟩,
 ⟨(some 28), (some (25, true)), .mv (.t 0)⟩,
 ⟨(some 29), (some (25, true)), .lenS (.t 28)⟩,
 ⟨(some 30), (some (25, true)), .bin .lss (.t 27) (.t 29)⟩,
 ⟨(some 31), none, .pick (.t 25) (.t 30) (.c (.bool false))⟩,
 ⟨(some 32), none, .mv (.t 31)⟩,
 ⟨(some 33), (some (32, true)), .mv (.t 0)⟩,
 ⟨(some 34), (some (32, true)), .mv (.t 5)⟩,
 ⟨(some 35), (some (32, true)), .bin .add (.t 34) (.c (.int .i64 1))⟩,
 ⟨(some 36), (some (32, true)), .idxS (.t 33) (.t 35)⟩,
 ⟨(some 37), (some (32, true)), .bin .eql (.t 36) (.c (.int .u8 34))⟩,
 ⟨(some 38), (some (32, true)), .mv (.t 37)⟩,
 ⟨(some 39), (some (38, false)), .mv (.t 0)⟩,
 ⟨(some 40), (some (38, false)), .mv (.t 5)⟩,
 ⟨(some 41), (some (38, false)), .bin .add (.t 40) (.c (.int .i64 1))⟩,
 ⟨(some 42), (some (38, false)), .idxS (.t 39) (.t 41)⟩,
 ⟨(some 43), (some (38, false)), .bin .eql (.t 42) (.c (.int .u8 92))⟩,
 ⟨(some 44), (some (32, true)), .pick (.t 38) (.c (.bool true)) (.t 43)⟩,
 ⟨(some 45), none, .pick (.t 32) (.t 44) (.c (.bool false))⟩,
 ⟨(some 20), none, .mv (.t 45)⟩] false)
 (.cond (.t 20)
 (.region [
 ⟨(some 46), none, .mv (.t 5)⟩,
 ⟨(some 47), none, .bin .add (.t 46) (.c (.int .i64 1))⟩,
 ⟨(some 5), none, .mv (.t 47)⟩] false)
 (.seq
 (.region [
 ⟨(some 49), none, .mv (.t 0)⟩,
 ⟨(some 50), none, .mv (.t 5)⟩,
 ⟨(some 51), none, .idxS (.t 49) (.t 50)⟩,
 ⟨(some 52), none, .bin .eql (.t 51) (.c (.int .u8 92))⟩,
 ⟨(some 53), none, .mv (.t 52)⟩,
 ⟨(some 54), (some (53, false)), .mv (.t 0)⟩,
 ⟨(some 55), (some (53, false)), .mv (.t 5)⟩,
 ⟨(some 56), (some (53, false)), .mv (.t 5)⟩,
 ⟨(some 57), (some (53, false)), .bin .add (.t 56) (.c (.int .i64 1))⟩,
 ⟨(some 58), (some (53, false)), .slS (.t 54) (some (.t 55)) (some (.t 57))⟩,
 ⟨(some 59), (some (53, false)), .call 54 [(.t 58)]⟩,
 ⟨(some 60), (some (53, false)), .not (.t 59)⟩,
 ⟨(some 61), none, .pick (.t 53) (.c (.bool true)) (.t 60)⟩,
 ⟨(some 48), none, .mv (.t 61)⟩] false)
 (.cond (.t 48)
 (.seq
 (.region [
 ⟨(some 2), none, .mv (.c (.str []))⟩,
 ⟨(some 3), none, .mv (.c (.int .i64 0))⟩] false)
 .ret)
 .skip)))))))
 (.region [
 ⟨(some 62), none, .mv (.t 4)⟩,
 ⟨(some 63), none, .mv (.t 0)⟩,
 ⟨(some 64), none, .mv (.t 5)⟩,
 ⟨(some 65), none, .mv (.t 5)⟩,
 ⟨(some 66), none, .bin .add (.t 65) (.c (.int .i64 1))⟩,
 ⟨(some 67), none, .slS (.t 63) (some (.t 64)) (some (.t 66))⟩,
 ⟨(some 68), none, .bin .add (.t 62) (.t 67)⟩,
 ⟨(some 4), none, .mv (.t 68)⟩] false)))
 (.region [
 ⟨(some 10), none, .mv (.t 5)⟩,
 ⟨(some 11), none, .bin .add (.t 10) (.c (.int .i64 1))⟩,
 ⟨(some 5), none, .mv (.t 11)⟩] false))))))
 (.seq
 (.region [
 ⟨(some 2), none, .mv (.c (.str []))⟩,
 ⟨(some 3), none, .mv (.c (.int .i64 0))⟩] false)
 .ret))))
def r76 : List ERes := [.t 2, .t 3]

theorem c76 : chkF Tryd.prog Tryd.f76 1 e76 r76 = true := by kernel_rfl

def e77 : EC :=
 (.seq
 (.region [
 ⟨(some 2), none, .mv (.c (.int .i64 0))⟩,
 ⟨(some 3), none, .mv (.c (.int .i64 0))⟩] false)
 (.seq
 (.region [
 ⟨(some 4), none, .mv (.c (.int .i64 0))⟩,
 ⟨(some 5), none, .mv (.c (.int .i64 1))⟩] false)
 (.seq
 (.seq
 (.region [
 ⟨(some 8), none, .mv (.t 0)⟩,
 ⟨(some 9), none, .bin .neq (.t 8) (.c (.str []))⟩,
 ⟨(some 10), none, .mv (.t 9)⟩,
 ⟨(some 11), (some (10, true)), .mv (.t 0)⟩,
 ⟨(some 12), (some (10, true)), .idxS (.t 11) (.c (.int .i64 0))⟩,
 ⟨(some 13), (some (10, true)), .bin .eql (.t 12) (.c (.int .u8 45))⟩,
 ⟨(some 14), none, .pick (.t 10) (.t 13) (.c (.bool false))⟩] false)
 (.cond (.t 14)
 (.region [
 ⟨(some 4), none, .mv (.c (.int .i64 1))⟩,
 ⟨(some 5), none, .mv (.c (.int .i64 (-1)))⟩] false)
 .skip))
 (.seq
 (.region [
 ⟨(some 15), none, .mv (.t 4)⟩,
 ⟨(some 6), none, .mv (.t 15)⟩,
 ⟨(some 7), none, .mv (.c (.int .i64 0))⟩] false)
 (.seq
 (.block 0
 (.loop
 (.seq
 (.seq
 (.region [
 ⟨(some 16), none, .mv (.t 4)⟩,
 ⟨(some 17), none, .mv (.t 0)⟩,
 ⟨(some 18), none, .lenS (.t 17)⟩,
 ⟨(some 19), none, .bin .lss (.t 16) (.t 18)⟩,
 ⟨(some 20), none, .mv (.t 19)⟩,
 ⟨(some 21), (some (20, true)), .mv (.t 0)⟩,
 ⟨(some 22), (some (20, true)), .mv (.t 4)⟩,
 ⟨(some 23), (some (20, true)), .idxS (.t 21) (.t 22)⟩,
 ⟨(some 24), (some (20, true)), .bin .geq (.t 23) (.c (.int .u8 48))⟩,
 ⟨(some 25), none, .pick (.t 20) (.t 24) (.c (.bool false))⟩,
 ⟨(some 26), none, .mv (.t 25)⟩,
 ⟨(some 27), (some (26, true)), .mv (.t 0)⟩,
 ⟨(some 28), (some (26, true)), .mv (.t 4)⟩,
 ⟨(some 29), (some (26, true)), .idxS (.t 27) (.t 28)⟩,
 ⟨(some 30), (some (26, true)), .bin .leq (.t 29) (.c (.int .u8 57))⟩,
 ⟨(some 31), none, .pick (.t 26) (.t 30) (.c (.bool false))⟩] false)
 (.cond (.t 31)
 .skip
 (.exit 0)))
 (.block 1
 (.seq
 (.region [
 ⟨(some 32), none, .mv (.t 7)⟩,
 ⟨(some 33), none, .bin .mul (.c (.int .i64 10)) (.t 32)⟩,
 ⟨(some 34), none, .mv (.t 0)⟩,
 ⟨(some 35), none, .mv (.t 4)⟩,
 ⟨(some 36), none, .idxS (.t 34) (.t 35)⟩,
 ⟨(some 37), none, .bin .sub (.t 36) (.c (.int .u8 48))⟩,
 ⟨(some 38), none, .conv .i64 (.t 37)⟩,
 ⟨(some 39), none, .bin .add (.t 33) (.t 38)⟩,
 ⟨(some 40), none, .minmax false [(.t 39), (.c (.int .i64 100000))]⟩,
 ⟨(some 7), none, .mv (.t 40)⟩] false)
 (.region [
 ⟨(some 41), none, .mv (.t 4)⟩,
 ⟨(some 42), none, .bin .add (.t 41) (.c (.int .i64 1))⟩,
 ⟨(some 4), none, .mv (.t 42)⟩] false))))))
 (.seq
 (.seq
 (.region [
 ⟨(some 43), none, .mv (.t 4)⟩,
 ⟨(some 44), none, .mv (.t 6)⟩,
 ⟨(some 45), none, .bin .eql (.t 43) (.t 44)⟩,
 ⟨(some 46), none, .mv (.t 45)⟩,
 ⟨(some 47), (some (46, false)), .mv (.t 0)⟩,
 ⟨(some 48), (some (46, false)), .mv (.t 6)⟩,
 ⟨(some 49), (some (46, false)), .idxS (.t 47) (.t 48)⟩,
 ⟨(some 50), (some (46, false)), .bin .eql (.t 49) (.c (.int .u8 48))⟩,
 ⟨(some 51), (some (46, false)), .mv (.t 50)⟩,
 ⟨(some 52), (some (51, true)), .mv (.t 4)⟩,
 ⟨(some 53), (some (51, true)), .mv (.t 6)⟩,
 ⟨(some 54), (some (51, true)), .bin .add (.t 53) (.c (.int .i64 1))⟩,
 ⟨(some 55), (some (51, true)), .bin .gtr (.t 52) (.t 54)⟩,
 ⟨(some 56), (some (46, false)), .pick (.t 51) (.t 55) (.c (.bool false))⟩,
 ⟨(some 57), none, .pick (.t 46) (.c (.bool true)) (.t 56)⟩,
 ⟨(some 58), none, .mv (.t 57)⟩,
 ⟨(some 59), (some (58, false)), .mv (.t 7)⟩,
 ⟨(some 60), (some (58, false)), .bin .eql (.t 59) (.c (.int .i64 0))⟩,
 ⟨(some 61), (some (58, false)), .mv (.t 60)⟩,
 ⟨(some 62), (some (61, true)), .mv (.t 5)⟩,
 ⟨(some 63), (some (61, true)), .bin .lss (.t 62) (.c (.int .i64 0))⟩,
 ⟨(some 64), (some (58, false)), .pick (.t 61) (.t 63) (.c (.bool false))⟩,
 ⟨(some 65), none, .pick (.t 58) (.c (.bool true)) (.t 64)⟩] false)
 (.cond (.t 65)
 (.seq
 (.region [
 ⟨(some 2), none, .mv (.c (.int .i64 0))⟩,
 ⟨(some 3), none, .mv (.c (.int .i64 0))⟩] false)
 .ret)
 .skip))
 (.seq
 (.region [
 ⟨(some 66), none, .mv (.t 5)⟩,
 ⟨(some 67), none, .mv (.t 7)⟩,
 ⟨(some 68), none, .bin .mul (.t 66) (.t 67)⟩,
 ⟨(some 69), none, .mv (.t 4)⟩,
 ⟨(some 2), none, .mv (.t 68)⟩,
 ⟨(some 3), none, .mv (.t 69)⟩] false)
 .ret)))))))
def r77 : List ERes := [.t 2, .t 3]

theorem c77 : chkF Tryd.prog Tryd.f77 1 e77 r77 = true := by kernel_rfl

def e78 : EC :=
 (.seq
 (.region [
 ⟨(some 4), none, .mv (.c (.bool false))⟩] false)
 (.seq
 (.region [
 ⟨(some 5), none, .mv (.t 0)⟩,
 ⟨(some 6), none, .mv (.t 1)⟩,
 ⟨(some 7), none, .call 89 [(.t 5), (.t 6)]⟩,
 ⟨(some 8), none, .bin .geq (.t 7) (.c (.int .i64 0))⟩,
 ⟨(some 4), none, .mv (.t 8)⟩] false)
 .ret))
def r78 : List ERes := [.t 4]

theorem c78 : chkF Tryd.prog Tryd.f78 2 e78 r78 = true := by kernel_rfl

def e79 : EC :=
 (.seq
 (.region [
 ⟨(some 2), none, .mv (.c (.bool false))⟩] false)
 (.seq
 (.region [
 ⟨(some 3), none, .mv (.t 0)⟩,
 ⟨(some 4), none, .bin .lss (.t 3) (.c (.int .i32 32))⟩,
 ⟨(some 5), none, .mv (.t 4)⟩,
 ⟨(some 6), (some (5, false)), .mv (.t 0)⟩,
 ⟨(some 7), (some (5, false)), .bin .gtr (.t 6) (.c (.int .i32 126))⟩,
 ⟨(some 8), none, .pick (.t 5) (.c (.bool true)) (.t 7)⟩,
 ⟨(some 2), none, .mv (.t 8)⟩] false)
 .ret))
def r79 : List ERes := [.t 2]

theorem c79 : chkF Tryd.prog Tryd.f79 1 e79 r79 = true := by kernel_rfl

def e83 : EC :=
 (.seq
 (.region [
 ⟨(some 4), none, .mv (.c (.bool false))⟩] false)
 (.seq
 (.region [
 ⟨(some 5), none, .mv (.t 0)⟩,
 ⟨(some 6), none, .lenS (.t 5)⟩,
 ⟨(some 7), none, .mv (.t 1)⟩,
 ⟨(some 8), none, .lenS (.t 7)⟩,
 ⟨(some 9), none, .bin .geq (.t 6) (.t 8)⟩,
 ⟨(some 10), none, .mv (.t 9)⟩,
 ⟨(some 11), (some (10, true)), .mv (.t 0)⟩,
 ⟨(some 12), (some (10, true)), .mv (.t 1)⟩,
 ⟨(some 13), (some (10, true)), .lenS (.t 12)⟩,
 ⟨(some 14), (some (10, true)), .slS (.t 11) none (some (.t 13))⟩,
 ⟨(some 15), (some (10, true)), .mv (.t 1)⟩,
 ⟨(some 16), (some (10, true)), .bin .eql (.t 14) (.t 15)⟩,
 ⟨(some 17), none, .pick (.t 10) (.t 16) (.c (.bool false))⟩,
 ⟨(some 4), none, .mv (.t 17)⟩] false)
 .ret))
def r83 : List ERes := [.t 4]

theorem c83 : chkF Tryd.prog Tryd.f83 2 e83 r83 = true := by kernel_rfl

def e89 : EC :=
 (.seq
 (.region [
 ⟨(some 4), none, .mv (.c (.int .i64 0))⟩] false)
 (.seq
 (.region [
 ⟨(some 5), none, .mv (.t 0)⟩,
 ⟨(some 6), none, .mv (.t 1)⟩,
 ⟨(some 7), none, .call 100 [(.t 5), (.t 6), (.c (.bool true))]⟩,
 ⟨(some 4), none, .mv (.t 7)⟩] false)
 .ret))
def r89 : List ERes := [.t 4]

theorem c89 : chkF Tryd.prog Tryd.f89 2 e89 r89 = true := by kernel_rfl

end Go.Aw.T

/- Resolved code of functions, and that it is theirs (written by ecode.py, own tool). -/
namespace Go.Aw.T
open Go Go.Aw Go.Proofs
set_option maxRecDepth 1000000

def e19 : EC :=
 (.seq
 (.region [
 ⟨(some 1), none, .box 23 (.t 0)⟩,
 ⟨(some 2), none, .mv (.c (.str []))⟩] false)
 (.seq
 (.seq
 (.region [
 ⟨(some 5), none, .load true 3 (.t 1)⟩,
 ⟨(some 6), none, .call 20 [(.t 5)]⟩,
 ⟨(some 7), none, .not (.t 6)⟩] false)
 (.cond (.t 7)
 (.seq
 (.region [
 ⟨(some 2), none, .mv (.c (.str [63]))⟩] false)
 .ret)
 .skip))
 (.seq
 (.seq
 (.region [
 ⟨(some 8), none, .faddr 0 (.t 1)⟩,
 ⟨(some 9), none, .load false 1 (.t 8)⟩,
 ⟨(some 10), none, .bin .eql (.t 9) (.c (.int .i64 1))⟩] false)
 (.cond (.t 10)
 (.seq
 (.region [
 ⟨(some 11), none, .faddr 1 (.t 1)⟩,
 ⟨(some 12), none, .load false 1 (.t 11)⟩,
 ⟨(some 13), none, .call 53 [(.t 12)]⟩,
 ⟨(some 2), none, .mv (.t 13)⟩] false)
 .ret)
 .skip))
 (.seq
 (.region [
 ⟨(some 3), none, .mv (.c (.str [34]))⟩] false)
 (.seq
 (.seq
 (.region [
 ⟨(some 4), none, .mv (.c (.int .i64 0))⟩] false)
 (.block 0
 (.loop
 (.seq
 (.seq
 (.region [
 ⟨(some 14), none, .mv (.t 4)⟩,
 ⟨(some 15), none, .faddr 2 (.t 1)⟩,
 ⟨(some 16), none, .load false 1 (.t 15)⟩,
 ⟨(some 17), none, .lenS (.t 16)⟩,
 ⟨(some 18), none, .bin .lss (.t 14) (.t 17)⟩] false)
 (.cond (.t 18)
 .skip
 (.exit 0)))
 (.seq
 (.block 1
 (.seq
 (.seq
 (.region [
 ⟨(some 21), none, .faddr 2 (.t 1)⟩,
 ⟨(some 22), none, .load false 1 (.t 21)⟩,
 ⟨(some 23), none, .mv (.t 4)⟩,
 ⟨(some 24), none, .idxS (.t 22) (.t 23)⟩,
 ⟨(some 25), none, .bin .eql (.t 24) (.c (.int .u8 34))⟩,
 ⟨(some 26), none, .mv (.t 25)⟩,
 ⟨(some 27), (some (26, false)), .faddr 2 (.t 1)⟩,
 ⟨(some 28), (some (26, false)), .load false 1 (.t 27)⟩,
 ⟨(some 29), (some (26, false)), .mv (.t 4)⟩,
 ⟨(some 30), (some (26, false)), .idxS (.t 28) (.t 29)⟩,
 ⟨(some 31), (some (26, false)), .bin .eql (.t 30) (.c (.int .u8 92))⟩,
 ⟨(some 32), none, .pick (.t 26) (.c (.bool true)) (.t 31)⟩] false)
 (.cond (.t 32)
 (.region [
 ⟨(some 33), none, .mv (.t 3)⟩,
 ⟨(some 34), none, .bin .add (.t 33) (.c (.str [92]))⟩,
 ⟨(some 3), none, .mv (.t 34)⟩] false)
 .skip))
 (.region [
 ⟨(some 35), none, .mv (.t 3)⟩,
 ⟨(some 36), none, .faddr 2 (.t 1)⟩,
 ⟨(some 37), none, .load false 1 (.t 36)⟩,
 ⟨(some 38), none, .mv (.t 4)⟩,
 ⟨(some 39), none, .mv (.t 4)⟩,
 ⟨(some 40), none, .bin .add (.t 39) (.c (.int .i64 1))⟩,
 ⟨(some 41), none, .slS (.t 37) (some (.t 38)) (some (.t 40))⟩,
 ⟨(some 42), none, .bin .add (.t 35) (.t 41)⟩,
 ⟨(some 3), none, .mv (.t 42)⟩] false)))
 (.region [
 ⟨(some 19), none, .mv (.t 4)⟩,
 ⟨(some 20), none, .bin .add (.t 19) (.c (.int .i64 1))⟩,
 ⟨(some 4), none, .mv (.t 20)⟩] false))))))
 (.seq
 (.region [
 ⟨(some 43), none, .mv (.t 3)⟩,
 ⟨(some 44), none, .bin .add (.t 43) (.c (.str [34]))⟩,
 ⟨(some 2), none, .mv (.t 44)⟩] false)
 .ret))))))
def r19 : List ERes := [.t 2]

theorem c19 : chkF Tryd.prog Tryd.f19 1 e19 r19 = true := by kernel_rfl

def e21 : EC :=
 (.seq
 (.region [
 ⟨(some 2), none, .alloc 23 [.int .i64 0, .int .i64 0, .str []]⟩,
 ⟨(some 3), none, .mv (.c (.int .i64 0))⟩] false)
 (.seq
 (.region [
 ⟨(some 7), none, .mv (.t 0)⟩,
 ⟨(some 8), none, .call 55 [(.t 7)]⟩,
 ⟨(some 6), none, .mv (.t 8)⟩,
 ⟨(some 9), none, .extract 0 (.t 6)⟩,
 ⟨(some 10), none, .extract 1 (.t 6)⟩,
 ⟨(some 4), none, .alloc 23 [.int .i64 0, .int .i64 0, .str []]⟩,
 ⟨none, none, .store 3 (.t 4) (.t 9)⟩,
 ⟨(some 5), none, .mv (.t 10)⟩] false)
 (.seq
 (.block 0
 (.seq
 (.region [
 ⟨(some 12), none, .mv (.t 5)⟩,
 ⟨(some 13), none, .bin .eql (.t 12) (.c (.int .i64 0))⟩,
 ⟨(some 14), none, .mv (.t 13)⟩,
 ⟨(some 15), (some (14, false)), .mv (.t 5)⟩,
 ⟨(some 16), (some (14, false)), .mv (.t 0)⟩,
 ⟨(some 17), (some (14, false)), .lenS (.t 16)⟩,
 ⟨(some 18), (some (14, false)), .bin .neq (.t 15) (.t 17)⟩,
 ⟨(some 19), none, .pick (.t 14) (.c (.bool true)) (.t 18)⟩,
 ⟨(some 11), none, .mv (.t 19)⟩] false)
 (.cond (.t 11)
 (.seq
 (.region [
 ⟨(some 20), none, .build [.int .i64 0, .int .i64 0, .str []] []⟩,
 ⟨none, none, .store 3 (.t 2) (.t 20)⟩,
 ⟨(some 3), none, .mv (.c (.int .i64 3))⟩] false)
 .ret)
 (.seq
 (.region [
 ⟨(some 22), none, .load true 3 (.t 4)⟩,
 ⟨(some 23), none, .call 20 [(.t 22)]⟩,
 ⟨(some 24), none, .not (.t 23)⟩,
 ⟨(some 21), none, .mv (.t 24)⟩] false)
 (.cond (.t 21)
 (.seq
 (.region [
 ⟨(some 25), none, .build [.int .i64 0, .int .i64 0, .str []] []⟩,
 ⟨none, none, .store 3 (.t 2) (.t 25)⟩,
 ⟨(some 3), none, .mv (.c (.int .i64 2))⟩] false)
 .ret)
 .skip)))))
 (.seq
 (.region [
 ⟨(some 26), none, .load true 3 (.t 4)⟩,
 ⟨none, none, .store 3 (.t 2) (.t 26)⟩,
 ⟨(some 3), none, .mv (.c (.int .i64 0))⟩] false)
 .ret))))
def r21 : List ERes := [.cell true 3 2, .t 3]

theorem c21 : chkF Tryd.prog Tryd.f21 1 e21 r21 = true := by kernel_rfl

end Go.Aw.T
