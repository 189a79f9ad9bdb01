/- Part of a proof; own work. -/
import Derived.Test.YtmmkhpmmhpaifaaDoorC6
import Derived.Test.YtmmkhpmmhpaifaaDoorProg
/- Resolved code of functions, and that it is theirs (written by ecode.py, own tool). -/
namespace Go.Aw.T
open Go Go.Aw Go.Proofs
set_option maxRecDepth 1000000

def e13 : EC :=
 (.seq
 (.region [
 ⟨(some 2), none, .box 23 (.t 0)⟩,
 ⟨(some 3), none, .box 23 (.t 1)⟩,
 ⟨(some 4), none, .mv (.c (.int .i64 0))⟩] false)
 (.seq
 (.region [
 ⟨(some 5), none, .faddr 0 (.t 2)⟩,
 ⟨(some 6), none, .load false 1 (.t 5)⟩,
 ⟨(some 7), none, .faddr 0 (.t 3)⟩,
 ⟨(some 8), none, .load false 1 (.t 7)⟩,
 ⟨(some 9), none, .pcall 45 [(.t 6), (.t 8)]⟩,
 ⟨(some 10), none, .faddr 1 (.t 2)⟩,
 ⟨(some 11), none, .load false 1 (.t 10)⟩,
 ⟨(some 12), none, .faddr 1 (.t 3)⟩,
 ⟨(some 13), none, .load false 1 (.t 12)⟩,
 ⟨(some 14), none, .pcall 45 [(.t 11), (.t 13)]⟩,
 ⟨(some 15), none, .faddr 2 (.t 2)⟩,
 ⟨(some 16), none, .load false 1 (.t 15)⟩,
 ⟨(some 17), none, .lenS (.t 16)⟩,
 ⟨(some 18), none, .faddr 2 (.t 3)⟩,
 ⟨(some 19), none, .load false 1 (.t 18)⟩,
 ⟨(some 20), none, .lenS (.t 19)⟩,
 ⟨(some 21), none, .pcall 45 [(.t 17), (.t 20)]⟩,
 ⟨(some 22), none, .faddr 2 (.t 2)⟩,
 ⟨(some 23), none, .load false 1 (.t 22)⟩,
 ⟨(some 24), none, .faddr 2 (.t 3)⟩,
 ⟨(some 25), none, .load false 1 (.t 24)⟩,
 ⟨(some 26), none, .pcall 46 [(.t 23), (.t 25)]⟩,
 ⟨(some 27), none, .bslice 3 1 4 [.int .i64 0] [(0, (.t 9)), (1, (.t 14)), (2, (.t 21)), (3, (.t 26))]⟩,
 ⟨(some 28), none, .pcall 44 [(.t 27)]⟩,
 ⟨(some 4), none, .mv (.t 28)⟩] true)
 .ret))
def r13 : List ERes := [.t 4]

theorem c13 : chkF Tryd.prog Tryd.f13 2 e13 r13 = true := by kernel_rfl

def e15 : EC :=
 (.seq
 (.region [
 ⟨(some 2), none, .box 28 (.t 0)⟩,
 ⟨(some 3), none, .box 23 (.t 1)⟩,
 ⟨(some 4), none, .alloc 23 [.int .i64 0, .int .i64 0, .str []]⟩,
 ⟨(some 5), none, .mv (.c (.int .i64 0))⟩] false)
 (.seq
 (.block 0
 (.seq
 (.region [
 ⟨(some 7), none, .load true 3 (.t 2)⟩,
 ⟨(some 8), none, .call 23 [(.t 7)]⟩,
 ⟨(some 9), none, .not (.t 8)⟩,
 ⟨(some 10), none, .mv (.t 9)⟩,
 ⟨(some 11), (some (10, false)), .load true 3 (.t 3)⟩,
 ⟨(some 12), (some (10, false)), .call 22 [(.t 11)]⟩,
 ⟨(some 13), (some (10, false)), .not (.t 12)⟩,
 ⟨(some 14), none, .pick (.t 10) (.c (.bool true)) (.t 13)⟩,
 ⟨(some 6), none, .mv (.t 14)⟩] false)
 (.cond (.t 6)
 (.seq
 (.region [
 ⟨(some 15), none, .build [.int .i64 0, .int .i64 0, .str []] []⟩,
 ⟨none, none, .store 3 (.t 4) (.t 15)⟩,
 ⟨(some 5), none, .mv (.c (.int .i64 1))⟩] false)
 .ret)
 (.seq
 (.region [
 ⟨(some 17), none, .faddr 0 (.t 2)⟩,
 ⟨(some 18), none, .load false 1 (.t 17)⟩,
 ⟨(some 19), none, .faddr 0 (.t 3)⟩,
 ⟨(some 20), none, .load false 1 (.t 19)⟩,
 ⟨(some 21), none, .bin .neq (.t 18) (.t 20)⟩,
 ⟨(some 16), none, .mv (.t 21)⟩] false)
 (.cond (.t 16)
 (.seq
 (.region [
 ⟨(some 22), none, .build [.int .i64 0, .int .i64 0, .str []] []⟩,
 ⟨none, none, .store 3 (.t 4) (.t 22)⟩,
 ⟨(some 5), none, .mv (.c (.int .i64 11))⟩] false)
 .ret)
 (.seq
 (.region [
 ⟨(some 24), none, .faddr 0 (.t 3)⟩,
 ⟨(some 25), none, .load false 1 (.t 24)⟩,
 ⟨(some 26), none, .bin .eql (.t 25) (.c (.int .i64 1))⟩,
 ⟨(some 23), none, .mv (.t 26)⟩] false)
 (.cond (.t 23)
 (.seq
 (.region [
 ⟨(some 27), none, .faddr 1 (.t 2)⟩,
 ⟨(some 28), none, .load false 1 (.t 27)⟩,
 ⟨(some 29), none, .faddr 2 (.t 2)⟩,
 ⟨(some 30), none, .load false 1 (.t 29)⟩,
 ⟨(some 31), none, .faddr 1 (.t 3)⟩,
 ⟨(some 32), none, .load false 1 (.t 31)⟩,
 ⟨(some 33), none, .minmax false [(.t 30), (.t 32)]⟩,
 ⟨(some 34), none, .minmax true [(.t 28), (.t 33)]⟩,
 ⟨(some 35), none, .faddr 1 (.t 3)⟩,
 ⟨none, none, .store 1 (.t 35) (.t 34)⟩] false)
 (.seq
 (.region [
 ⟨(some 36), none, .load true 3 (.t 3)⟩,
 ⟨none, none, .store 3 (.t 4) (.t 36)⟩,
 ⟨(some 5), none, .mv (.c (.int .i64 0))⟩] false)
 .ret))
 .skip)))))))
 (.seq
 (.region [
 ⟨(some 37), none, .faddr 2 (.t 3)⟩,
 ⟨(some 38), none, .load false 1 (.t 37)⟩,
 ⟨(some 39), none, .faddr 2 (.t 3)⟩,
 ⟨(some 40), none, .load false 1 (.t 39)⟩,
 ⟨(some 41), none, .lenS (.t 40)⟩,
 ⟨(some 42), none, .faddr 2 (.t 2)⟩,
 ⟨(some 43), none, .load false 1 (.t 42)⟩,
 ⟨(some 44), none, .minmax false [(.t 41), (.t 43)]⟩,
 ⟨(some 45), none, .slS (.t 38) none (some (.t 44))⟩,
 ⟨(some 46), none, .faddr 2 (.t 3)⟩,
 ⟨none, none, .store 1 (.t 46) (.t 45)⟩] false)
 (.seq
 (.region [
 ⟨(some 47), none, .faddr 2 (.t 3)⟩,
 ⟨(some 48), none, .load false 1 (.t 47)⟩,
 ⟨(some 49), none, .faddr 1 (.t 2)⟩,
 ⟨(some 50), none, .load false 1 (.t 49)⟩,
 ⟨(some 51), none, .faddr 2 (.t 3)⟩,
 ⟨(some 52), none, .load false 1 (.t 51)⟩,
 ⟨(some 53), none, .lenS (.t 52)⟩,
 ⟨(some 54), none, .bin .sub (.t 50) (.t 53)⟩,
 ⟨(some 55), none, .minmax true [(.c (.int .i64 0)), (.t 54)]⟩,
 ⟨(some 56), none, .pcall 48 [(.c (.str [97])), (.t 55)]⟩,
 ⟨(some 57), none, .bin .add (.t 48) (.t 56)⟩,
 ⟨(some 58), none, .faddr 2 (.t 3)⟩,
 ⟨none, none, .store 1 (.t 58) (.t 57)⟩] true)
 (.seq
 (.region [
 ⟨(some 59), none, .load true 3 (.t 3)⟩,
 ⟨none, none, .store 3 (.t 4) (.t 59)⟩,
 ⟨(some 5), none, .mv (.c (.int .i64 0))⟩] false)
 .ret)))))
def r15 : List ERes := [.cell true 3 4, .t 5]

theorem c15 : chkF Tryd.prog Tryd.f15 2 e15 r15 = true := by kernel_rfl

def e16 : EC :=
 (.seq
 (.region [
 ⟨(some 2), none, .alloc 23 [.int .i64 0, .int .i64 0, .str []]⟩] false)
 (.seq
 (.region [
 ⟨(some 3), none, .mv (.t 0)⟩,
 ⟨(some 4), none, .build [.int .i64 0, .int .i64 0, .str []] [(0, 1, (.c (.int .i64 1))), (1, 1, (.t 3))]⟩,
 ⟨none, none, .store 3 (.t 2) (.t 4)⟩] false)
 .ret))
def r16 : List ERes := [.cell true 3 2]

theorem c16 : chkF Tryd.prog Tryd.f16 1 e16 r16 = true := by kernel_rfl

def e20 : EC :=
 (.seq
 (.region [
 ⟨(some 1), none, .box 23 (.t 0)⟩,
 ⟨(some 2), none, .mv (.c (.bool false))⟩] false)
 (.seq
 (.seq
 (.region [
 ⟨(some 3), none, .faddr 0 (.t 1)⟩,
 ⟨(some 4), none, .load false 1 (.t 3)⟩] false)
 (.block 0
 (.seq
 (.region [
 ⟨(some 6), none, .bin .eql (.t 4) (.c (.int .i64 1))⟩,
 ⟨(some 5), none, .mv (.t 6)⟩] false)
 (.cond (.t 5)
 (.seq
 (.region [
 ⟨(some 7), none, .faddr 1 (.t 1)⟩,
 ⟨(some 8), none, .load false 1 (.t 7)⟩,
 ⟨(some 9), none, .bin .geq (.t 8) (.c (.int .i64 (-1000)))⟩,
 ⟨(some 10), none, .mv (.t 9)⟩,
 ⟨(some 11), (some (10, true)), .faddr 1 (.t 1)⟩,
 ⟨(some 12), (some (10, true)), .load false 1 (.t 11)⟩,
 ⟨(some 13), (some (10, true)), .bin .leq (.t 12) (.c (.int .i64 1000))⟩,
 ⟨(some 14), none, .pick (.t 10) (.t 13) (.c (.bool false))⟩,
 ⟨(some 15), none, .mv (.t 14)⟩,
 ⟨(some 16), (some (15, true)), .faddr 2 (.t 1)⟩,
 ⟨(some 17), (some (15, true)), .load false 1 (.t 16)⟩,
 ⟨(some 18), (some (15, true)), .bin .eql (.t 17) (.c (.str []))⟩,
 ⟨(some 19), none, .pick (.t 15) (.t 18) (.c (.bool false))⟩,
 ⟨(some 2), none, .mv (.t 19)⟩] false)
 .ret)
 (.seq
 (.region [
 ⟨(some 21), none, .bin .eql (.t 4) (.c (.int .i64 2))⟩,
 ⟨(some 20), none, .mv (.t 21)⟩] false)
 (.cond (.t 20)
 (.seq
 (.region [
 ⟨(some 22), none, .faddr 1 (.t 1)⟩,
 ⟨(some 23), none, .load false 1 (.t 22)⟩,
 ⟨(some 24), none, .bin .eql (.t 23) (.c (.int .i64 0))⟩,
 ⟨(some 25), none, .mv (.t 24)⟩,
 ⟨(some 26), (some (25, true)), .faddr 2 (.t 1)⟩,
 ⟨(some 27), (some (25, true)), .load false 1 (.t 26)⟩,
 ⟨(some 28), (some (25, true)), .lenS (.t 27)⟩,
 ⟨(some 29), (some (25, true)), .bin .leq (.t 28) (.c (.int .i64 40))⟩,
 ⟨(some 30), none, .pick (.t 25) (.t 29) (.c (.bool false))⟩,
 ⟨(some 31), none, .mv (.t 30)⟩,
 ⟨(some 32), (some (31, true)), .faddr 2 (.t 1)⟩,
 ⟨(some 33), (some (31, true)), .load false 1 (.t 32)⟩,
 ⟨(some 34), (some (31, true)), .call 54 [(.t 33)]⟩,
 ⟨(some 35), none, .pick (.t 31) (.t 34) (.c (.bool false))⟩,
 ⟨(some 2), none, .mv (.t 35)⟩] false)
 .ret)
 .skip))))))
 (.seq
 (.region [
 ⟨(some 2), none, .mv (.c (.bool false))⟩] false)
 .ret)))
def r20 : List ERes := [.t 2]

theorem c20 : chkF Tryd.prog Tryd.f20 1 e20 r20 = true := by kernel_rfl

def e22 : EC :=
 (.seq
 (.region [
 ⟨(some 1), none, .box 23 (.t 0)⟩,
 ⟨(some 2), none, .mv (.c (.bool false))⟩] false)
 (.seq
 (.seq
 (.region [
 ⟨(some 3), none, .faddr 0 (.t 1)⟩,
 ⟨(some 4), none, .load false 1 (.t 3)⟩] false)
 (.block 0
 (.seq
 (.region [
 ⟨(some 6), none, .bin .eql (.t 4) (.c (.int .i64 1))⟩,
 ⟨(some 5), none, .mv (.t 6)⟩] false)
 (.cond (.t 5)
 (.seq
 (.region [
 ⟨(some 7), none, .faddr 1 (.t 1)⟩,
 ⟨(some 8), none, .load false 1 (.t 7)⟩,
 ⟨(some 9), none, .bin .geq (.t 8) (.c (.int .i64 (-1000)))⟩,
 ⟨(some 10), none, .mv (.t 9)⟩,
 ⟨(some 11), (some (10, true)), .faddr 1 (.t 1)⟩,
 ⟨(some 12), (some (10, true)), .load false 1 (.t 11)⟩,
 ⟨(some 13), (some (10, true)), .bin .leq (.t 12) (.c (.int .i64 1000))⟩,
 ⟨(some 14), none, .pick (.t 10) (.t 13) (.c (.bool false))⟩,
 ⟨(some 15), none, .mv (.t 14)⟩,
 ⟨(some 16), (some (15, true)), .faddr 2 (.t 1)⟩,
 ⟨(some 17), (some (15, true)), .load false 1 (.t 16)⟩,
 ⟨(some 18), (some (15, true)), .bin .eql (.t 17) (.c (.str []))⟩,
 ⟨(some 19), none, .pick (.t 15) (.t 18) (.c (.bool false))⟩,
 ⟨(some 2), none, .mv (.t 19)⟩] false)
 .ret)
 (.seq
 (.region [
 ⟨(some 21), none, .bin .eql (.t 4) (.c (.int .i64 2))⟩,
 ⟨(some 20), none, .mv (.t 21)⟩] false)
 (.cond (.t 20)
 (.seq
 (.region [
 ⟨(some 22), none, .faddr 1 (.t 1)⟩,
 ⟨(some 23), none, .load false 1 (.t 22)⟩,
 ⟨(some 24), none, .bin .eql (.t 23) (.c (.int .i64 0))⟩,
 ⟨(some 25), none, .mv (.t 24)⟩,
 ⟨(some 26), (some (25, true)), .faddr 2 (.t 1)⟩,
 ⟨(some 27), (some (25, true)), .load false 1 (.t 26)⟩,
 ⟨(some 28), (some (25, true)), .lenS (.t 27)⟩,
 ⟨(some 29), (some (25, true)), .bin .leq (.t 28) (.c (.int .i64 40))⟩,
 ⟨(some 30), none, .pick (.t 25) (.t 29) (.c (.bool false))⟩,
 ⟨(some 31), none, .mv (.t 30)⟩,
 ⟨(some 32), (some (31, true)), .faddr 2 (.t 1)⟩,
 ⟨(some 33), (some (31, true)), .load false 1 (.t 32)⟩,
 ⟨(some 34), (some (31, true)), .call 56 [(.t 33)]⟩,
 ⟨(some 35), none, .pick (.t 31) (.t 34) (.c (.bool false))⟩,
 ⟨(some 2), none, .mv (.t 35)⟩] false)
 .ret)
 .skip))))))
 (.seq
 (.region [
 ⟨(some 2), none, .mv (.c (.bool false))⟩] false)
 .ret)))
def r22 : List ERes := [.t 2]

theorem c22 : chkF Tryd.prog Tryd.f22 1 e22 r22 = true := by kernel_rfl

def e23 : EC :=
 (.seq
 (.region [
 ⟨(some 1), none, .box 28 (.t 0)⟩,
 ⟨(some 2), none, .mv (.c (.bool false))⟩] false)
 (.seq
 (.region [
 ⟨(some 3), none, .mv (.c (.int .i64 0))⟩,
 ⟨(some 4), none, .mv (.c (.int .i64 0))⟩] false)
 (.seq
 (.seq
 (.region [
 ⟨(some 5), none, .faddr 0 (.t 1)⟩,
 ⟨(some 6), none, .load false 1 (.t 5)⟩] false)
 (.block 0
 (.seq
 (.region [
 ⟨(some 8), none, .bin .eql (.t 6) (.c (.int .i64 1))⟩,
 ⟨(some 7), none, .mv (.t 8)⟩] false)
 (.cond (.t 7)
 (.region [
 ⟨(some 3), none, .mv (.c (.int .i64 (-1000)))⟩,
 ⟨(some 4), none, .mv (.c (.int .i64 1000))⟩] false)
 (.seq
 (.region [
 ⟨(some 10), none, .bin .eql (.t 6) (.c (.int .i64 2))⟩,
 ⟨(some 9), none, .mv (.t 10)⟩] false)
 (.cond (.t 9)
 (.region [
 ⟨(some 3), none, .mv (.c (.int .i64 0))⟩,
 ⟨(some 4), none, .mv (.c (.int .i64 40))⟩] false)
 (.seq
 (.region [
 ⟨(some 2), none, .mv (.c (.bool false))⟩] false)
 .ret)))))))
 (.seq
 (.region [
 ⟨(some 11), none, .mv (.t 3)⟩,
 ⟨(some 12), none, .faddr 1 (.t 1)⟩,
 ⟨(some 13), none, .load false 1 (.t 12)⟩,
 ⟨(some 14), none, .bin .leq (.t 11) (.t 13)⟩,
 ⟨(some 15), none, .mv (.t 14)⟩,
 ⟨(some 16), (some (15, true)), .faddr 1 (.t 1)⟩,
 ⟨(some 17), (some (15, true)), .load false 1 (.t 16)⟩,
 ⟨(some 18), (some (15, true)), .faddr 2 (.t 1)⟩,
 ⟨(some 19), (some (15, true)), .load false 1 (.t 18)⟩,
 ⟨(some 20), (some (15, true)), .bin .leq (.t 17) (.t 19)⟩,
 ⟨(some 21), none, .pick (.t 15) (.t 20) (.c (.bool false))⟩,
 ⟨(some 22), none, .mv (.t 21)⟩,
 ⟨(some 23), (some (22, true)), .faddr 2 (.t 1)⟩,
 ⟨(some 24), (some (22, true)), .load false 1 (.t 23)⟩,
 ⟨(some 25), (some (22, true)), .mv (.t 4)⟩,
 ⟨(some 26), (some (22, true)), .bin .leq (.t 24) (.t 25)⟩,
 ⟨(some 27), none, .pick (.t 22) (.t 26) (.c (.bool false))⟩,
 ⟨(some 2), none, .mv (.t 27)⟩] false)
 .ret))))
def r23 : List ERes := [.t 2]

theorem c23 : chkF Tryd.prog Tryd.f23 1 e23 r23 = true := by kernel_rfl

def e29 : EC :=
 (.seq
 (.region [
 ⟨(some 1), none, .box 28 (.t 0)⟩,
 ⟨(some 2), none, .alloc 23 [.int .i64 0, .int .i64 0, .str []]⟩,
 ⟨(some 3), none, .mv (.c (.int .i64 0))⟩] false)
 (.seq
 (.seq
 (.region [
 ⟨(some 4), none, .load true 3 (.t 1)⟩,
 ⟨(some 5), none, .call 23 [(.t 4)]⟩,
 ⟨(some 6), none, .not (.t 5)⟩] false)
 (.cond (.t 6)
 (.seq
 (.region [
 ⟨(some 7), none, .build [.int .i64 0, .int .i64 0, .str []] []⟩,
 ⟨none, none, .store 3 (.t 2) (.t 7)⟩,
 ⟨(some 3), none, .mv (.c (.int .i64 1))⟩] false)
 .ret)
 .skip))
 (.seq
 (.seq
 (.region [
 ⟨(some 8), none, .faddr 0 (.t 1)⟩,
 ⟨(some 9), none, .load false 1 (.t 8)⟩,
 ⟨(some 10), none, .bin .eql (.t 9) (.c (.int .i64 1))⟩] false)
 (.cond (.t 10)
 (.seq
 (.region [
 ⟨(some 11), none, .faddr 1 (.t 1)⟩,
 ⟨(some 12), none, .load false 1 (.t 11)⟩,
 ⟨(some 13), none, .build [.int .i64 0, .int .i64 0, .str []] [(0, 1, (.c (.int .i64 1))), (1, 1, (.t 12))]⟩,
 ⟨none, none, .store 3 (.t 2) (.t 13)⟩,
 ⟨(some 3), none, .mv (.c (.int .i64 0))⟩] false)
 .ret)
 .skip))
 (.seq
 (.region [
 ⟨(some 14), none, .faddr 1 (.t 1)⟩,
 ⟨(some 15), none, .load false 1 (.t 14)⟩,
 ⟨(some 16), none, .call 48 [(.c (.str [97])), (.t 15)]⟩,
 ⟨(some 17), none, .build [.int .i64 0, .int .i64 0, .str []] [(0, 1, (.c (.int .i64 2))), (2, 1, (.t 16))]⟩,
 ⟨none, none, .store 3 (.t 2) (.t 17)⟩,
 ⟨(some 3), none, .mv (.c (.int .i64 0))⟩] false)
 .ret))))
def r29 : List ERes := [.cell true 3 2, .t 3]

theorem c29 : chkF Tryd.prog Tryd.f29 1 e29 r29 = true := by kernel_rfl

def e32 : EC :=
 (.seq
 (.region [
 ⟨(some 2), none, .mv (.c (.bool false))⟩] false)
 (.seq
 (.seq
 (.region [
 ⟨(some 3), none, .mv (.c (.int .i64 0))⟩] false)
 (.block 0
 (.loop
 (.seq
 (.seq
 (.region [
 ⟨(some 4), none, .mv (.t 3)⟩,
 ⟨(some 5), none, .mv (.t 0)⟩,
 ⟨(some 6), none, .len (.t 5)⟩,
 ⟨(some 7), none, .bin .lss (.t 4) (.t 6)⟩] false)
 (.cond (.t 7)
 .skip
 (.exit 0)))
 (.seq
 (.block 1
 (.seq
 (.region [
 ⟨(some 10), none, .mv (.t 0)⟩,
 ⟨(some 11), none, .mv (.t 3)⟩,
 ⟨(some 12), none, .iaddr 3 (.t 10) (.t 11)⟩,
 ⟨(some 13), none, .faddr 2 (.t 12)⟩,
 ⟨(some 14), none, .load false 1 (.t 13)⟩,
 ⟨(some 15), none, .lenS (.t 14)⟩,
 ⟨(some 16), none, .bin .gtr (.t 15) (.c (.int .i64 100))⟩] false)
 (.cond (.t 16)
 (.seq
 (.region [
 ⟨(some 2), none, .mv (.c (.bool false))⟩] false)
 .ret)
 .skip)))
 (.region [
 ⟨(some 8), none, .mv (.t 3)⟩,
 ⟨(some 9), none, .bin .add (.t 8) (.c (.int .i64 1))⟩,
 ⟨(some 3), none, .mv (.t 9)⟩] false))))))
 (.seq
 (.region [
 ⟨(some 17), none, .mv (.t 0)⟩,
 ⟨(some 18), none, .len (.t 17)⟩,
 ⟨(some 19), none, .bin .leq (.t 18) (.c (.int .i64 40))⟩,
 ⟨(some 2), none, .mv (.t 19)⟩] false)
 .ret)))
def r32 : List ERes := [.t 2]

theorem c32 : chkF Tryd.prog Tryd.f32 1 e32 r32 = true := by kernel_rfl

def e43 : EC :=
 (.seq
 (.region [
 ⟨(some 2), none, .alloc 23 [.int .i64 0, .int .i64 0, .str []]⟩] false)
 (.seq
 (.region [
 ⟨(some 3), none, .mv (.t 0)⟩,
 ⟨(some 4), none, .build [.int .i64 0, .int .i64 0, .str []] [(0, 1, (.c (.int .i64 2))), (2, 1, (.t 3))]⟩,
 ⟨none, none, .store 3 (.t 2) (.t 4)⟩] false)
 .ret))
def r43 : List ERes := [.cell true 3 2]

theorem c43 : chkF Tryd.prog Tryd.f43 1 e43 r43 = true := by kernel_rfl

def e44 : EC :=
 (.seq
 (.region [
 ⟨(some 2), none, .mv (.c (.int .i64 0))⟩] false)
 (.seq
 (.region [
 ⟨(some 3), none, .mv (.c (.int .i64 0))⟩] false)
 (.seq
 (.seq
 (.region [
 ⟨(some 6), none, .mv (.t 0)⟩,
 ⟨(some 7), none, .len (.t 6)⟩,
 ⟨(some 8), none, .mv (.c (.int .i64 0))⟩] false)
 (.block 0
 (.loop
 (.seq
 (.region [
 ⟨(some 9), none, .bin .lss (.t 8) (.t 7)⟩] false)
 (.seq
 (.cond (.t 9)
 .skip
 (.exit 0))
 (.seq
 (.block 1
 (.seq
 (.region [
 ⟨(some 10), none, .iaddr 1 (.t 6) (.t 8)⟩,
 ⟨(some 11), none, .load false 1 (.t 10)⟩,
 ⟨(some 5), none, .mv (.t 11)⟩] false)
 (.seq
 (.region [
 ⟨(some 12), none, .mv (.t 5)⟩,
 ⟨(some 13), none, .mv (.t 3)⟩,
 ⟨(some 14), none, .bin .neq (.t 12) (.t 13)⟩] false)
 (.cond (.t 14)
 (.seq
 (.region [
 ⟨(some 15), none, .mv (.t 5)⟩,
 ⟨(some 2), none, .mv (.t 15)⟩] false)
 .ret)
 .skip))))
 (.region [
 ⟨(some 16), none, .bin .add (.t 8) (.c (.int .i64 1))⟩,
 ⟨(some 8), none, .mv (.t 16)⟩] false)))))))
 (.seq
 (.region [
 ⟨(some 17), none, .mv (.t 3)⟩,
 ⟨(some 2), none, .mv (.t 17)⟩] false)
 .ret))))
def r44 : List ERes := [.t 2]

theorem c44 : chkF Tryd.prog Tryd.f44 1 e44 r44 = true := by kernel_rfl

def e45 : EC :=
 (.seq
 (.region [
 ⟨(some 4), none, .mv (.c (.int .i64 0))⟩] false)
 (.seq
 (.region [
 ⟨(some 7), none, .mv (.t 0)⟩,
 ⟨(some 8), none, .call 64 [(.t 7)]⟩,
 ⟨(some 5), none, .mv (.t 8)⟩] false)
 (.seq
 (.region [
 ⟨(some 9), none, .mv (.t 1)⟩,
 ⟨(some 10), none, .call 64 [(.t 9)]⟩,
 ⟨(some 6), none, .mv (.t 10)⟩] false)
 (.seq
 (.seq
 (.region [
 ⟨(some 11), none, .mv (.t 5)⟩] false)
 (.cond (.t 11)
 (.seq
 (.seq
 (.region [
 ⟨(some 12), none, .mv (.t 6)⟩] false)
 (.cond (.t 12)
 (.seq
 (.region [
 ⟨(some 4), none, .mv (.c (.int .i64 0))⟩] false)
 .ret)
 .skip))
 (.seq
 (.region [
 ⟨(some 4), none, .mv (.c (.int .i64 (-1)))⟩] false)
 .ret))
 .skip))
 (.seq
 (.seq
 (.region [
 ⟨(some 13), none, .mv (.t 6)⟩] false)
 (.cond (.t 13)
 (.seq
 (.region [
 ⟨(some 4), none, .mv (.c (.int .i64 1))⟩] false)
 .ret)
 .skip))
 (.seq
 (.seq
 (.region [
 ⟨(some 14), none, .mv (.t 0)⟩,
 ⟨(some 15), none, .mv (.t 1)⟩,
 ⟨(some 16), none, .bin .lss (.t 14) (.t 15)⟩] false)
 (.cond (.t 16)
 (.seq
 (.region [
 ⟨(some 4), none, .mv (.c (.int .i64 (-1)))⟩] false)
 .ret)
 .skip))
 (.seq
 (.seq
 (.region [
 ⟨(some 17), none, .mv (.t 0)⟩,
 ⟨(some 18), none, .mv (.t 1)⟩,
 ⟨(some 19), none, .bin .gtr (.t 17) (.t 18)⟩] false)
 (.cond (.t 19)
 (.seq
 (.region [
 ⟨(some 4), none, .mv (.c (.int .i64 1))⟩] false)
 .ret)
 .skip))
 (.seq
 (.region [
 ⟨(some 4), none, .mv (.c (.int .i64 0))⟩] false)
 .ret))))))))
def r45 : List ERes := [.t 4]

theorem c45 : chkF Tryd.prog Tryd.f45 2 e45 r45 = true := by kernel_rfl

def e46 : EC :=
 (.seq
 (.region [
 ⟨(some 4), none, .mv (.c (.int .i64 0))⟩] false)
 (.seq
 (.region [
 ⟨(some 7), none, .mv (.t 0)⟩,
 ⟨(some 8), none, .call 65 [(.t 7)]⟩,
 ⟨(some 5), none, .mv (.t 8)⟩] false)
 (.seq
 (.region [
 ⟨(some 9), none, .mv (.t 1)⟩,
 ⟨(some 10), none, .call 65 [(.t 9)]⟩,
 ⟨(some 6), none, .mv (.t 10)⟩] false)
 (.seq
 (.seq
 (.region [
 ⟨(some 11), none, .mv (.t 5)⟩] false)
 (.cond (.t 11)
 (.seq
 (.seq
 (.region [
 ⟨(some 12), none, .mv (.t 6)⟩] false)
 (.cond (.t 12)
 (.seq
 (.region [
 ⟨(some 4), none, .mv (.c (.int .i64 0))⟩] false)
 .ret)
 .skip))
 (.seq
 (.region [
 ⟨(some 4), none, .mv (.c (.int .i64 (-1)))⟩] false)
 .ret))
 .skip))
 (.seq
 (.seq
 (.region [
 ⟨(some 13), none, .mv (.t 6)⟩] false)
 (.cond (.t 13)
 (.seq
 (.region [
 ⟨(some 4), none, .mv (.c (.int .i64 1))⟩] false)
 .ret)
 .skip))
 (.seq
 (.seq
 (.region [
 ⟨(some 14), none, .mv (.t 0)⟩,
 ⟨(some 15), none, .mv (.t 1)⟩,
 ⟨(some 16), none, .bin .lss (.t 14) (.t 15)⟩] false)
 (.cond (.t 16)
 (.seq
 (.region [
 ⟨(some 4), none, .mv (.c (.int .i64 (-1)))⟩] false)
 .ret)
 .skip))
 (.seq
 (.seq
 (.region [
 ⟨(some 17), none, .mv (.t 0)⟩,
 ⟨(some 18), none, .mv (.t 1)⟩,
 ⟨(some 19), none, .bin .gtr (.t 17) (.t 18)⟩] false)
 (.cond (.t 19)
 (.seq
 (.region [
 ⟨(some 4), none, .mv (.c (.int .i64 1))⟩] false)
 .ret)
 .skip))
 (.seq
 (.region [
 ⟨(some 4), none, .mv (.c (.int .i64 0))⟩] false)
 .ret))))))))
def r46 : List ERes := [.t 4]

theorem c46 : chkF Tryd.prog Tryd.f46 2 e46 r46 = true := by kernel_rfl

def e54 : EC :=
 (.seq
 (.region [
 ⟨(some 2), none, .mv (.c (.bool false))⟩] false)
 (.seq
 (.seq
 (.region [
 ⟨(some 3), none, .mv (.c (.int .i64 0))⟩] false)
 (.block 0
 (.loop
 (.seq
 (.seq
 (.region [
 ⟨(some 4), none, .mv (.t 3)⟩,
 ⟨(some 5), none, .mv (.t 0)⟩,
 ⟨(some 6), none, .lenS (.t 5)⟩,
 ⟨(some 7), none, .bin .lss (.t 4) (.t 6)⟩] false)
 (.cond (.t 7)
 .skip
 (.exit 0)))
 (.seq
 (.block 1
 (.seq
 (.region [
 ⟨(some 10), none, .mv (.t 0)⟩,
 ⟨(some 11), none, .mv (.t 3)⟩,
 ⟨(some 12), none, .idxS (.t 10) (.t 11)⟩,
 ⟨(some 13), none, .bin .lss (.t 12) (.c (.int .u8 32))⟩,
 ⟨(some 14), none, .mv (.t 13)⟩,
 ⟨(some 15), (some (14, false)), .mv (.t 0)⟩,
 ⟨(some 16), (some (14, false)), .mv (.t 3)⟩,
 ⟨(some 17), (some (14, false)), .idxS (.t 15) (.t 16)⟩,
 ⟨(some 18), (some (14, false)), .bin .gtr (.t 17) (.c (.int .u8 126))⟩,
 ⟨(some 19), none, .pick (.t 14) (.c (.bool true)) (.t 18)⟩] false)
 (.cond (.t 19)
 (.seq
 (.region [
 ⟨(some 2), none, .mv (.c (.bool false))⟩] false)
 .ret)
 .skip)))
 (.region [
 ⟨(some 8), none, .mv (.t 3)⟩,
 ⟨(some 9), none, .bin .add (.t 8) (.c (.int .i64 1))⟩,
 ⟨(some 3), none, .mv (.t 9)⟩] false))))))
 (.seq
 (.region [
 ⟨(some 2), none, .mv (.c (.bool true))⟩] false)
 .ret)))
def r54 : List ERes := [.t 2]

theorem c54 : chkF Tryd.prog Tryd.f54 1 e54 r54 = true := by kernel_rfl

def e56 : EC :=
 (.seq
 (.region [
 ⟨(some 2), none, .mv (.c (.bool false))⟩] false)
 (.seq
 (.region [
 ⟨(some 3), none, .mv (.t 0)⟩,
 ⟨(some 4), none, .call 78 [(.t 3), (.c (.fn 79 []))]⟩,
 ⟨(some 5), none, .not (.t 4)⟩,
 ⟨(some 2), none, .mv (.t 5)⟩] false)
 .ret))
def r56 : List ERes := [.t 2]

theorem c56 : chkF Tryd.prog Tryd.f56 1 e56 r56 = true := by kernel_rfl

def e64 : EC :=
 (.seq
 (.region [
 ⟨(some 2), none, .mv (.c (.bool false))⟩] false)
 (.seq
 (.region [
 ⟨(some 3), none, .mv (.t 0)⟩,
 ⟨(some 4), none, .mv (.t 0)⟩,
 ⟨(some 5), none, .bin .neq (.t 3) (.t 4)⟩,
 ⟨(some 2), none, .mv (.t 5)⟩] false)
 .ret))
def r64 : List ERes := [.t 2]

theorem c64 : chkF Tryd.prog Tryd.f64 1 e64 r64 = true := by kernel_rfl

def e65 : EC :=
 (.seq
 (.region [
 ⟨(some 2), none, .mv (.c (.bool false))⟩] false)
 (.seq
 (.region [
 ⟨(some 3), none, .mv (.t 0)⟩,
 ⟨(some 4), none, .mv (.t 0)⟩,
 ⟨(some 5), none, .bin .neq (.t 3) (.t 4)⟩,
 ⟨(some 2), none, .mv (.t 5)⟩] false)
 .ret))
def r65 : List ERes := [.t 2]

theorem c65 : chkF Tryd.prog Tryd.f65 1 e65 r65 = true := by kernel_rfl

end Go.Aw.T


/- Resolved code of functions, and that it is theirs (written by ecode.py, own tool). -/
namespace Go.Aw.T
open Go Go.Aw Go.Proofs
set_option maxRecDepth 1000000

def e12 : EC :=
 (.seq
 (.region [
 ⟨(some 0), none, .mv (.c (.bool false))⟩] false)
 (.seq
 (.region [
 ⟨(some 8), none, .build [.int .i64 0, .int .i64 0, .int .i64 0] [(0, 1, (.c (.int .i64 1))), (1, 1, (.c (.int .i64 (-3)))), (2, 1, (.c (.int .i64 9)))]⟩,
 ⟨(some 1), none, .alloc 28 [.int .i64 0, .int .i64 0, .int .i64 0]⟩,
 ⟨none, none, .store 3 (.t 1) (.t 8)⟩] false)
 (.seq
 (.region [
 ⟨(some 10), none, .load true 3 (.t 1)⟩,
 ⟨(some 11), none, .call 29 [(.t 10)]⟩,
 ⟨(some 9), none, .mv (.t 11)⟩,
 ⟨(some 12), none, .extract 0 (.t 9)⟩,
 ⟨(some 13), none, .extract 1 (.t 9)⟩,
 ⟨(some 2), none, .alloc 23 [.int .i64 0, .int .i64 0, .str []]⟩,
 ⟨none, none, .store 3 (.t 2) (.t 12)⟩,
 ⟨(some 3), none, .mv (.t 13)⟩] false)
 (.seq
 (.region [
 ⟨(some 15), none, .load true 3 (.t 1)⟩,
 ⟨(some 16), none, .pcall 16 [(.c (.int .i64 12))]⟩,
 ⟨(some 17), none, .pcall 15 [(.t 15), (.t 16)]⟩,
 ⟨(some 14), none, .mv (.t 17)⟩,
 ⟨(some 18), none, .extract 0 (.t 14)⟩,
 ⟨(some 19), none, .extract 1 (.t 14)⟩,
 ⟨(some 4), none, .alloc 23 [.int .i64 0, .int .i64 0, .str []]⟩,
 ⟨none, none, .store 3 (.t 4) (.t 18)⟩,
 ⟨(some 5), none, .mv (.t 19)⟩] true)
 (.seq
 (.region [
 ⟨(some 21), none, .call 18 [(.c (.str [34, 97, 92, 34, 98, 34]))]⟩,
 ⟨(some 20), none, .mv (.t 21)⟩,
 ⟨(some 22), none, .extract 0 (.t 20)⟩,
 ⟨(some 23), none, .extract 1 (.t 20)⟩,
 ⟨(some 6), none, .alloc 23 [.int .i64 0, .int .i64 0, .str []]⟩,
 ⟨none, none, .store 3 (.t 6) (.t 22)⟩,
 ⟨(some 7), none, .mv (.t 23)⟩] false)
 (.seq
 (.region [
 ⟨(some 24), none, .mv (.t 3)⟩,
 ⟨(some 25), none, .bin .eql (.t 24) (.c (.int .i64 0))⟩,
 ⟨(some 26), none, .mv (.t 25)⟩,
 ⟨(some 27), (some (26, true)), .mv (.t 5)⟩,
 ⟨(some 28), (some (26, true)), .bin .eql (.t 27) (.c (.int .i64 0))⟩,
 ⟨(some 29), none, .pick (.t 26) (.t 28) (.c (.bool false))⟩,
 ⟨(some 30), none, .mv (.t 29)⟩,
 ⟨(some 31), (some (30, true)), .mv (.t 7)⟩,
 ⟨(some 32), (some (30, true)), .bin .eql (.t 31) (.c (.int .i64 0))⟩,
 ⟨(some 33), none, .pick (.t 30) (.t 32) (.c (.bool false))⟩,
 ⟨(some 34), none, .mv (.t 33)⟩,
 ⟨(some 35), (some (34, true)), .load true 3 (.t 2)⟩,
 ⟨(some 36), (some (34, true)), .pcall 16 [(.c (.int .i64 (-3)))]⟩,
 ⟨(some 37), (some (34, true)), .eqA false 23 [.i .i64, .i .i64, .s] (.t 35) (.t 36)⟩,
 ⟨(some 38), none, .pick (.t 34) (.t 37) (.c (.bool false))⟩,
 ⟨(some 39), none, .mv (.t 38)⟩,
 ⟨(some 40), (some (39, true)), .load true 3 (.t 4)⟩,
 ⟨(some 41), (some (39, true)), .pcall 16 [(.c (.int .i64 9))]⟩,
 ⟨(some 42), (some (39, true)), .eqA false 23 [.i .i64, .i .i64, .s] (.t 40) (.t 41)⟩,
 ⟨(some 43), none, .pick (.t 39) (.t 42) (.c (.bool false))⟩,
 ⟨(some 44), none, .mv (.t 43)⟩,
 ⟨(some 45), (some (44, true)), .load true 3 (.t 6)⟩,
 ⟨(some 46), (some (44, true)), .pcall 43 [(.c (.str [97, 34, 98]))]⟩,
 ⟨(some 47), (some (44, true)), .eqA false 23 [.i .i64, .i .i64, .s] (.t 45) (.t 46)⟩,
 ⟨(some 48), none, .pick (.t 44) (.t 47) (.c (.bool false))⟩,
 ⟨(some 49), none, .mv (.t 48)⟩,
 ⟨(some 50), (some (49, true)), .load true 3 (.t 6)⟩,
 ⟨(some 51), (some (49, true)), .pcall 17 [(.t 50)]⟩,
 ⟨(some 52), (some (49, true)), .bin .eql (.t 51) (.c (.str [34, 97, 92, 34, 98, 34]))⟩,
 ⟨(some 53), none, .pick (.t 49) (.t 52) (.c (.bool false))⟩,
 ⟨(some 54), none, .mv (.t 53)⟩,
 ⟨(some 55), (some (54, true)), .load true 3 (.t 2)⟩,
 ⟨(some 56), (some (54, true)), .bslice 23 3 1 [.int .i64 0, .int .i64 0, .str []] [(0, (.t 55))]⟩,
 ⟨(some 57), (some (54, true)), .load true 3 (.t 2)⟩,
 ⟨(some 58), (some (54, true)), .bslice 23 3 1 [.int .i64 0, .int .i64 0, .str []] [(0, (.t 57))]⟩,
 ⟨(some 59), (some (54, true)), .pcall 37 [(.t 56), (.t 58)]⟩,
 ⟨(some 60), none, .pick (.t 54) (.t 59) (.c (.bool false))⟩,
 ⟨(some 0), none, .mv (.t 60)⟩] true)
 .ret))))))
def r12 : List ERes := [.t 0]

theorem c12 : chkF Tryd.prog Tryd.f12 0 e12 r12 = true := by kernel_rfl

def e18 : EC :=
 (.seq
 (.region [
 ⟨(some 2), none, .alloc 23 [.int .i64 0, .int .i64 0, .str []]⟩,
 ⟨(some 3), none, .mv (.c (.int .i64 0))⟩] false)
 (.seq
 (.region [
 ⟨(some 8), none, .mv (.t 0)⟩,
 ⟨(some 9), none, .call 52 [(.t 8)]⟩,
 ⟨(some 7), none, .mv (.t 9)⟩,
 ⟨(some 10), none, .extract 0 (.t 7)⟩,
 ⟨(some 11), none, .extract 1 (.t 7)⟩,
 ⟨(some 12), none, .extract 2 (.t 7)⟩,
 ⟨(some 4), none, .alloc 23 [.int .i64 0, .int .i64 0, .str []]⟩,
 ⟨none, none, .store 3 (.t 4) (.t 10)⟩,
 ⟨(some 5), none, .mv (.t 11)⟩,
 ⟨(some 6), none, .mv (.t 12)⟩] false)
 (.seq
 (.seq
 (.region [
 ⟨(some 13), none, .mv (.t 5)⟩,
 ⟨(some 14), none, .bin .eql (.t 13) (.c (.int .i64 0))⟩,
 ⟨(some 15), none, .mv (.t 14)⟩,
 ⟨(some 16), (some (15, false)), .mv (.t 5)⟩,
 ⟨(some 17), (some (15, false)), .mv (.t 0)⟩,
 ⟨(some 18), (some (15, false)), .lenS (.t 17)⟩,
 ⟨(some 19), (some (15, false)), .bin .neq (.t 16) (.t 18)⟩,
 ⟨(some 20), none, .pick (.t 15) (.c (.bool true)) (.t 19)⟩] false)
 (.cond (.t 20)
 (.seq
 (.region [
 ⟨(some 21), none, .build [.int .i64 0, .int .i64 0, .str []] []⟩,
 ⟨none, none, .store 3 (.t 2) (.t 21)⟩,
 ⟨(some 3), none, .mv (.c (.int .i64 3))⟩] false)
 .ret)
 .skip))
 (.seq
 (.region [
 ⟨(some 22), none, .load true 3 (.t 4)⟩,
 ⟨(some 23), none, .mv (.t 6)⟩,
 ⟨none, none, .store 3 (.t 2) (.t 22)⟩,
 ⟨(some 3), none, .mv (.t 23)⟩] false)
 .ret))))
def r18 : List ERes := [.cell true 3 2, .t 3]

theorem c18 : chkF Tryd.prog Tryd.f18 1 e18 r18 = true := by kernel_rfl

def e35 : EC :=
 (.seq
 (.region [
 ⟨(some 4), none, .mv (.c (.bool false))⟩] false)
 (.seq
 (.seq
 (.region [
 ⟨(some 6), none, .mv (.t 0)⟩,
 ⟨(some 7), none, .len (.t 6)⟩,
 ⟨(some 8), none, .mv (.t 1)⟩,
 ⟨(some 9), none, .len (.t 8)⟩,
 ⟨(some 10), none, .bin .neq (.t 7) (.t 9)⟩] false)
 (.cond (.t 10)
 (.seq
 (.region [
 ⟨(some 4), none, .mv (.c (.bool false))⟩] false)
 .ret)
 .skip))
 (.seq
 (.seq
 (.region [
 ⟨(some 5), none, .mv (.c (.int .i64 0))⟩] false)
 (.block 0
 (.loop
 (.seq
 (.seq
 (.region [
 ⟨(some 11), none, .mv (.t 5)⟩,
 ⟨(some 12), none, .mv (.t 0)⟩,
 ⟨(some 13), none, .len (.t 12)⟩,
 ⟨(some 14), none, .bin .lss (.t 11) (.t 13)⟩] false)
 (.cond (.t 14)
 .skip
 (.exit 0)))
 (.seq
 (.block 1
 (.seq
 (.region [
 ⟨(some 17), none, .mv (.t 0)⟩,
 ⟨(some 18), none, .mv (.t 5)⟩,
 ⟨(some 19), none, .iaddr 3 (.t 17) (.t 18)⟩,
 ⟨(some 20), none, .load true 3 (.t 19)⟩,
 ⟨(some 21), none, .mv (.t 1)⟩,
 ⟨(some 22), none, .mv (.t 5)⟩,
 ⟨(some 23), none, .iaddr 3 (.t 21) (.t 22)⟩,
 ⟨(some 24), none, .load true 3 (.t 23)⟩,
 ⟨(some 25), none, .eqA true 23 [.i .i64, .i .i64, .s] (.t 20) (.t 24)⟩] true)
 (.cond (.t 25)
 (.seq
 (.region [
 ⟨(some 4), none, .mv (.c (.bool false))⟩] false)
 .ret)
 .skip)))
 (.region [
 ⟨(some 15), none, .mv (.t 5)⟩,
 ⟨(some 16), none, .bin .add (.t 15) (.c (.int .i64 1))⟩,
 ⟨(some 5), none, .mv (.t 16)⟩] false))))))
 (.seq
 (.region [
 ⟨(some 4), none, .mv (.c (.bool true))⟩] false)
 .ret))))
def r35 : List ERes := [.t 4]

theorem c35 : chkF Tryd.prog Tryd.f35 2 e35 r35 = true := by kernel_rfl

def e37 : EC :=
 (.seq
 (.region [
 ⟨(some 4), none, .mv (.c (.bool false))⟩] false)
 (.seq
 (.region [
 ⟨(some 5), none, .mv (.t 0)⟩,
 ⟨(some 6), none, .mv (.t 1)⟩,
 ⟨(some 7), none, .call 60 [(.t 5), (.t 6), (.c (.fn 61 []))]⟩,
 ⟨(some 4), none, .mv (.t 7)⟩] false)
 .ret))
def r37 : List ERes := [.t 4]

theorem c37 : chkF Tryd.prog Tryd.f37 2 e37 r37 = true := by kernel_rfl

def e52 : EC :=
 (.seq
 (.region [
 ⟨(some 2), none, .alloc 23 [.int .i64 0, .int .i64 0, .str []]⟩,
 ⟨(some 3), none, .mv (.c (.int .i64 0))⟩,
 ⟨(some 4), none, .mv (.c (.int .i64 0))⟩] false)
 (.seq
 (.seq
 (.region [
 ⟨(some 10), none, .mv (.t 0)⟩,
 ⟨(some 11), none, .call 73 [(.t 10)]⟩,
 ⟨(some 5), none, .mv (.t 11)⟩] false)
 (.seq
 (.region [
 ⟨(some 12), none, .mv (.t 5)⟩,
 ⟨(some 13), none, .bin .gtr (.t 12) (.c (.int .i64 0))⟩] false)
 (.cond (.t 13)
 (.seq
 (.region [
 ⟨(some 15), none, .mv (.t 0)⟩,
 ⟨(some 16), none, .mv (.t 5)⟩,
 ⟨(some 17), none, .slS (.t 15) none (some (.t 16))⟩,
 ⟨(some 18), none, .call 74 [(.t 17)]⟩,
 ⟨(some 14), none, .mv (.t 18)⟩,
 ⟨(some 19), none, .extract 0 (.t 14)⟩,
 ⟨(some 20), none, .extract 1 (.t 14)⟩,
 ⟨(some 6), none, .mv (.t 19)⟩,
 ⟨(some 7), none, .mv (.t 20)⟩] false)
 (.seq
 (.seq
 (.region [
 ⟨(some 21), none, .mv (.t 7)⟩,
 ⟨(some 22), none, .bin .neq (.t 21) (.c (.raw .nilIface))⟩,
 ⟨(some 23), none, .mv (.t 22)⟩,
 ⟨(some 24), (some (23, false)), .mv (.t 6)⟩,
 ⟨(some 25), (some (23, false)), .bin .lss (.t 24) (.c (.int .i64 (-1000)))⟩,
 ⟨(some 26), none, .pick (.t 23) (.c (.bool true)) (.t 25)⟩,
 ⟨(some 27), none, .mv (.t 26)⟩,
 ⟨(some 28), (some (27, false)), .mv (.t 6)⟩,
 ⟨(some 29), (some (27, false)), .bin .gtr (.t 28) (.c (.int .i64 1000))⟩,
 ⟨(some 30), none, .pick (.t 27) (.c (.bool true)) (.t 29)⟩] false)
 (.cond (.t 30)
 (.seq
 (.region [
 ⟨(some 31), none, .build [.int .i64 0, .int .i64 0, .str []] []⟩,
 ⟨(some 32), none, .mv (.t 5)⟩,
 ⟨none, none, .store 3 (.t 2) (.t 31)⟩,
 ⟨(some 3), none, .mv (.t 32)⟩,
 ⟨(some 4), none, .mv (.c (.int .i64 2))⟩] false)
 .ret)
 .skip))
 (.seq
 (.region [
 ⟨(some 33), none, .mv (.t 6)⟩,
 ⟨(some 34), none, .build [.int .i64 0, .int .i64 0, .str []] [(0, 1, (.c (.int .i64 1))), (1, 1, (.t 33))]⟩,
 ⟨(some 35), none, .mv (.t 5)⟩,
 ⟨none, none, .store 3 (.t 2) (.t 34)⟩,
 ⟨(some 3), none, .mv (.t 35)⟩,
 ⟨(some 4), none, .mv (.c (.int .i64 0))⟩] false)
 .ret)))
 .skip)))
 (.seq
 (.region [
 ⟨(some 37), none, .mv (.t 0)⟩,
 ⟨(some 38), none, .call 75 [(.t 37)]⟩,
 ⟨(some 36), none, .mv (.t 38)⟩,
 ⟨(some 39), none, .extract 0 (.t 36)⟩,
 ⟨(some 40), none, .extract 1 (.t 36)⟩,
 ⟨(some 8), none, .mv (.t 39)⟩,
 ⟨(some 9), none, .mv (.t 40)⟩] false)
 (.seq
 (.block 0
 (.seq
 (.region [
 ⟨(some 42), none, .mv (.t 9)⟩,
 ⟨(some 43), none, .bin .eql (.t 42) (.c (.int .i64 0))⟩,
 ⟨(some 41), none, .mv (.t 43)⟩] false)
 (.cond (.t 41)
 (.seq
 (.region [
 ⟨(some 44), none, .build [.int .i64 0, .int .i64 0, .str []] []⟩,
 ⟨none, none, .store 3 (.t 2) (.t 44)⟩,
 ⟨(some 3), none, .mv (.c (.int .i64 0))⟩,
 ⟨(some 4), none, .mv (.c (.int .i64 3))⟩] false)
 .ret)
 (.seq
 (.region [
 ⟨(some 46), none, .mv (.t 8)⟩,
 ⟨(some 47), none, .lenS (.t 46)⟩,
 ⟨(some 48), none, .bin .gtr (.t 47) (.c (.int .i64 40))⟩,
 ⟨(some 45), none, .mv (.t 48)⟩] false)
 (.cond (.t 45)
 (.seq
 (.region [
 ⟨(some 49), none, .build [.int .i64 0, .int .i64 0, .str []] []⟩,
 ⟨(some 50), none, .mv (.t 9)⟩,
 ⟨none, none, .store 3 (.t 2) (.t 49)⟩,
 ⟨(some 3), none, .mv (.t 50)⟩,
 ⟨(some 4), none, .mv (.c (.int .i64 2))⟩] false)
 .ret)
 .skip)))))
 (.seq
 (.region [
 ⟨(some 51), none, .mv (.t 8)⟩,
 ⟨(some 52), none, .build [.int .i64 0, .int .i64 0, .str []] [(0, 1, (.c (.int .i64 2))), (2, 1, (.t 51))]⟩,
 ⟨(some 53), none, .mv (.t 9)⟩,
 ⟨none, none, .store 3 (.t 2) (.t 52)⟩,
 ⟨(some 3), none, .mv (.t 53)⟩,
 ⟨(some 4), none, .mv (.c (.int .i64 0))⟩] false)
 .ret)))))
def r52 : List ERes := [.cell true 3 2, .t 3, .t 4]

theorem c52 : chkF Tryd.prog Tryd.f52 1 e52 r52 = true := by kernel_rfl

def e55 : EC :=
 (.seq
 (.region [
 ⟨(some 2), none, .alloc 23 [.int .i64 0, .int .i64 0, .str []]⟩,
 ⟨(some 3), none, .mv (.c (.int .i64 0))⟩] false)
 (.seq
 (.seq
 (.region [
 ⟨(some 8), none, .mv (.t 0)⟩,
 ⟨(some 9), none, .bin .neq (.t 8) (.c (.str []))⟩,
 ⟨(some 10), none, .mv (.t 9)⟩,
 ⟨(some 11), (some (10, true)), .mv (.t 0)⟩,
 ⟨(some 12), (some (10, true)), .idxS (.t 11) (.c (.int .i64 0))⟩,
 ⟨(some 13), (some (10, true)), .bin .eql (.t 12) (.c (.int .u8 34))⟩,
 ⟨(some 14), none, .pick (.t 10) (.t 13) (.c (.bool false))⟩] false)
 (.cond (.t 14)
 (.seq
 (.region [
 ⟨(some 16), none, .mv (.t 0)⟩,
 ⟨(some 17), none, .call 76 [(.t 16)]⟩,
 ⟨(some 15), none, .mv (.t 17)⟩,
 ⟨(some 18), none, .extract 0 (.t 15)⟩,
 ⟨(some 19), none, .extract 1 (.t 15)⟩,
 ⟨(some 4), none, .mv (.t 18)⟩,
 ⟨(some 5), none, .mv (.t 19)⟩] false)
 (.seq
 (.region [
 ⟨(some 20), none, .mv (.t 4)⟩,
 ⟨(some 21), none, .call 43 [(.t 20)]⟩,
 ⟨(some 22), none, .mv (.t 5)⟩,
 ⟨none, none, .store 3 (.t 2) (.t 21)⟩,
 ⟨(some 3), none, .mv (.t 22)⟩] false)
 .ret))
 .skip))
 (.seq
 (.region [
 ⟨(some 24), none, .mv (.t 0)⟩,
 ⟨(some 25), none, .call 77 [(.t 24)]⟩,
 ⟨(some 23), none, .mv (.t 25)⟩,
 ⟨(some 26), none, .extract 0 (.t 23)⟩,
 ⟨(some 27), none, .extract 1 (.t 23)⟩,
 ⟨(some 6), none, .mv (.t 26)⟩,
 ⟨(some 7), none, .mv (.t 27)⟩] false)
 (.seq
 (.region [
 ⟨(some 28), none, .mv (.t 6)⟩,
 ⟨(some 29), none, .call 16 [(.t 28)]⟩,
 ⟨(some 30), none, .mv (.t 7)⟩,
 ⟨none, none, .store 3 (.t 2) (.t 29)⟩,
 ⟨(some 3), none, .mv (.t 30)⟩] false)
 .ret))))
def r55 : List ERes := [.cell true 3 2, .t 3]

theorem c55 : chkF Tryd.prog Tryd.f55 1 e55 r55 = true := by kernel_rfl

def e60 : EC :=
 (.seq
 (.region [
 ⟨(some 6), none, .mv (.c (.bool false))⟩] false)
 (.seq
 (.seq
 (.region [
 ⟨(some 10), none, .mv (.t 0)⟩,
 ⟨(some 11), none, .len (.t 10)⟩,
 ⟨(some 12), none, .mv (.t 1)⟩,
 ⟨(some 13), none, .len (.t 12)⟩,
 ⟨(some 14), none, .bin .neq (.t 11) (.t 13)⟩] false)
 (.cond (.t 14)
 (.seq
 (.region [
 ⟨(some 6), none, .mv (.c (.bool false))⟩] false)
 .ret)
 .skip))
 (.seq
 (.seq
 (.region [
 ⟨(some 15), none, .mv (.t 0)⟩,
 ⟨(some 16), none, .len (.t 15)⟩,
 ⟨(some 17), none, .mv (.c (.int .i64 0))⟩] false)
 (.block 0
 (.loop
 (.seq
 (.region [
 ⟨(some 18), none, .bin .lss (.t 17) (.t 16)⟩] false)
 (.seq
 (.cond (.t 18)
 .skip
 (.exit 0))
 (.seq
 (.block 1
 (.seq
 (.region [
 ⟨(some 19), none, .mv (.t 17)⟩,
 ⟨(some 20), none, .iaddr 3 (.t 15) (.t 17)⟩,
 ⟨(some 21), none, .load true 3 (.t 20)⟩,
 ⟨(some 8), none, .alloc 23 [.int .i64 0, .int .i64 0, .str []]⟩,
 ⟨(some 7), none, .mv (.t 19)⟩,
 ⟨none, none, .store 3 (.t 8) (.t 21)⟩] false)
 (.seq
 (.region [
 ⟨(some 22), none, .mv (.t 1)⟩,
 ⟨(some 23), none, .mv (.t 7)⟩,
 ⟨(some 24), none, .iaddr 3 (.t 22) (.t 23)⟩,
 ⟨(some 25), none, .load true 3 (.t 24)⟩,
 ⟨(some 9), none, .alloc 23 [.int .i64 0, .int .i64 0, .str []]⟩,
 ⟨none, none, .store 3 (.t 9) (.t 25)⟩] false)
 (.seq
 (.region [
 ⟨(some 26), none, .mv (.t 2)⟩,
 ⟨(some 27), none, .load true 3 (.t 8)⟩,
 ⟨(some 28), none, .load true 3 (.t 9)⟩,
 ⟨(some 29), none, .callv (.t 26) [(.t 27), (.t 28)]⟩,
 ⟨(some 30), none, .not (.t 29)⟩] false)
 (.cond (.t 30)
 (.seq
 (.region [
 ⟨(some 6), none, .mv (.c (.bool false))⟩] false)
 .ret)
 .skip)))))
 (.region [
 ⟨(some 31), none, .bin .add (.t 17) (.c (.int .i64 1))⟩,
 ⟨(some 17), none, .mv (.t 31)⟩] false)))))))
 (.seq
 (.region [
 ⟨(some 6), none, .mv (.c (.bool true))⟩] false)
 .ret))))
def r60 : List ERes := [.t 6]

theorem c60 : chkF Tryd.prog Tryd.f60 3 e60 r60 = true := by kernel_rfl

def e61 : EC :=
 (.seq
 (.region [
 ⟨(some 2), none, .box 23 (.t 0)⟩,
 ⟨(some 3), none, .box 23 (.t 1)⟩,
 ⟨(some 4), none, .mv (.c (.bool false))⟩] false)
 (.seq
 (.region [
 ⟨(some 5), none, .load true 3 (.t 2)⟩,
 ⟨(some 6), none, .load true 3 (.t 3)⟩,
 ⟨(some 7), none, .call 13 [(.t 5), (.t 6)]⟩,
 ⟨(some 8), none, .bin .eql (.t 7) (.c (.int .i64 0))⟩,
 ⟨(some 4), none, .mv (.t 8)⟩] false)
 .ret))
def r61 : List ERes := [.t 4]

theorem c61 : chkF Tryd.prog Tryd.f61 2 e61 r61 = true := by kernel_rfl

def e67 : EC :=
 (.seq
 (.region [
 ⟨(some 4), none, .mv (.c (.bool false))⟩] false)
 (.seq
 (.region [
 ⟨(some 5), none, .mv (.t 0)⟩,
 ⟨(some 6), none, .mv (.t 1)⟩,
 ⟨(some 7), none, .call 83 [(.t 5), (.t 6)]⟩,
 ⟨(some 4), none, .mv (.t 7)⟩] false)
 .ret))
def r67 : List ERes := [.t 4]

theorem c67 : chkF Tryd.prog Tryd.f67 2 e67 r67 = true := by kernel_rfl

def e73 : EC :=
 (.seq
 (.region [
 ⟨(some 2), none, .mv (.c (.int .i64 0))⟩] false)
 (.seq
 (.region [
 ⟨(some 3), none, .mv (.c (.int .i64 0))⟩] false)
 (.seq
 (.seq
 (.region [
 ⟨(some 6), none, .mv (.t 0)⟩,
 ⟨(some 7), none, .call 67 [(.t 6), (.c (.str [45]))]⟩] false)
 (.cond (.t 7)
 (.region [
 ⟨(some 3), none, .mv (.c (.int .i64 1))⟩] false)
 .skip))
 (.seq
 (.region [
 ⟨(some 8), none, .mv (.t 3)⟩,
 ⟨(some 4), none, .mv (.t 8)⟩] false)
 (.seq
 (.block 0
 (.loop
 (.seq
 (.seq
 (.region [
 ⟨(some 9), none, .mv (.t 4)⟩,
 ⟨(some 10), none, .mv (.t 0)⟩,
 ⟨(some 11), none, .lenS (.t 10)⟩,
 ⟨(some 12), none, .bin .lss (.t 9) (.t 11)⟩,
 ⟨(some 13), none, .mv (.t 12)⟩,
 ⟨(some 14), (some (13, true)), .mv (.t 0)⟩,
 ⟨(some 15), (some (13, true)), .mv (.t 4)⟩,
 ⟨(some 16), (some (13, true)), .idxS (.t 14) (.t 15)⟩,
 ⟨(some 17), (some (13, true)), .bin .geq (.t 16) (.c (.int .u8 48))⟩,
 ⟨(some 18), none, .pick (.t 13) (.t 17) (.c (.bool false))⟩,
 ⟨(some 19), none, .mv (.t 18)⟩,
 ⟨(some 20), (some (19, true)), .mv (.t 0)⟩,
 ⟨(some 21), (some (19, true)), .mv (.t 4)⟩,
 ⟨(some 22), (some (19, true)), .idxS (.t 20) (.t 21)⟩,
 ⟨(some 23), (some (19, true)), .bin .leq (.t 22) (.c (.int .u8 57))⟩,
 ⟨(some 24), none, .pick (.t 19) (.t 23) (.c (.bool false))⟩] false)
 (.cond (.t 24)
 .skip
 (.exit 0)))
 (.block 1
 (.region [
 ⟨(some 25), none, .mv (.t 4)⟩,
 ⟨(some 26), none, .bin .add (.t 25) (.c (.int .i64 1))⟩,
 ⟨(some 4), none, .mv (.t 26)⟩] false)))))
 (.seq
 (.region [
 ⟨(some 27), none, .mv (.t 0)⟩,
 ⟨(some 28), none, .mv (.t 3)⟩,
 ⟨(some 29), none, .mv (.t 4)⟩,
 ⟨(some 30), none, .slS (.t 27) (some (.t 28)) (some (.t 29))⟩,
 ⟨(some 5), none, .mv (.t 30)⟩] false)
 (.seq
 (.seq
 (.region [
 ⟨(some 31), none, .mv (.t 5)⟩,
 ⟨(some 32), none, .bin .eql (.t 31) (.c (.str []))⟩,
 ⟨(some 33), none, .mv (.t 32)⟩,
 ⟨(some 34), (some (33, false)), .mv (.t 5)⟩,
 ⟨(some 35), (some (33, false)), .idxS (.t 34) (.c (.int .i64 0))⟩,
 ⟨(some 36), (some (33, false)), .bin .eql (.t 35) (.c (.int .u8 48))⟩,
 ⟨(some 37), (some (33, false)), .mv (.t 36)⟩,
 ⟨(some 38), (some (37, true)), .mv (.t 5)⟩,
 ⟨(some 39), (some (37, true)), .lenS (.t 38)⟩,
 ⟨(some 40), (some (37, true)), .bin .gtr (.t 39) (.c (.int .i64 1))⟩,
 ⟨(some 41), (some (37, true)), .mv (.t 40)⟩,
 ⟨(some 42), (some (41, false)), .mv (.t 3)⟩,
 ⟨(some 43), (some (41, false)), .bin .eql (.t 42) (.c (.int .i64 1))⟩,
 ⟨(some 44), (some (37, true)), .pick (.t 41) (.c (.bool true)) (.t 43)⟩,
 ⟨(some 45), (some (33, false)), .pick (.t 37) (.t 44) (.c (.bool false))⟩,
 ⟨(some 46), none, .pick (.t 33) (.c (.bool true)) (.t 45)⟩] false)
 (.cond (.t 46)
 (.seq
 (.region [
 ⟨(some 2), none, .mv (.c (.int .i64 0))⟩] false)
 .ret)
 .skip))
 (.seq
 (.region [
 ⟨(some 47), none, .mv (.t 4)⟩,
 ⟨(some 2), none, .mv (.t 47)⟩] false)
 .ret))))))))
def r73 : List ERes := [.t 2]

theorem c73 : chkF Tryd.prog Tryd.f73 1 e73 r73 = true := by kernel_rfl

def e76 : EC :=
 (.seq
 (.region [
 ⟨(some 2), none, .mv (.c (.str []))⟩,
 ⟨(some 3), none, .mv (.c (.int .i64 0))⟩] false)
 (.seq
 (.region [
 ⟨(some 4), none, .mv (.c (.str []))⟩] false)
 (.seq
 (.seq
 (.region [
 ⟨(some 5), none, .mv (.c (.int .i64 1))⟩] false)
 (.block 0
 (.loop
 (.seq
 (.seq
 (.region [
 ⟨(some 6), none, .mv (.t 5)⟩,
 ⟨(some 7), none, .mv (.t 0)⟩,
 ⟨(some 8), none, .lenS (.t 7)⟩,
 ⟨(some 9), none, .bin .lss (.t 6) (.t 8)⟩] false)
 (.cond (.t 9)
 .skip
 (.exit 0)))
 (.seq
 (.block 1
 (.seq
 (.block 2
 (.seq
 (.region [
 ⟨(some 13), none, .mv (.t 0)⟩,
 ⟨(some 14), none, .mv (.t 5)⟩,
 ⟨(some 15), none, .idxS (.t 13) (.t 14)⟩,
 ⟨(some 16), none, .bin .eql (.t 15) (.c (.int .u8 34))⟩,
 ⟨(some 12), none, .mv (.t 16)⟩] false)
 (.cond (.t 12)
 (.seq
 (.region [
 ⟨(some 17), none, .mv (.t 4)⟩,
 ⟨(some 18), none, .mv (.t 5)⟩,
 ⟨(some 19), none, .bin .add (.t 18) (.c (.int .i64 1))⟩,
 ⟨(some 2), none, .mv (.t 17)⟩,
 ⟨(some 3), none, .mv (.t 19)⟩] false)
 .ret)
 (.seq
 (.region [
 ⟨(some 21), none, .mv (.t 0)⟩,
 ⟨(some 22), none, .mv (.t 5)⟩,
 ⟨(some 23), none, .idxS (.t 21) (.t 22)⟩,
 ⟨(some 24), none, .bin .eql (.t 23) (.c (.int .u8 92))⟩,
 ⟨(some 25), none, .mv (.t 24)⟩,
 ⟨(some 26), (some (25, true)), .mv (.t 5)⟩,
 ⟨(some 27), (some (25, true)), .bin .add (.t 26) (.c (.int .i64 1))⟩,
 ⟨(some 28), (some (25, true)), .mv (.t 0)⟩,
 ⟨(some 29), (some (25, true)), .lenS (.t 28)⟩,
 ⟨(some 30), (some (25, true)), .bin .lss (.t 27) (.t 29)⟩,
 ⟨(some 31), none, .pick (.t 25) (.t 30) (.c (.bool false))⟩,
 ⟨(some 32), none, .mv (.t 31)⟩,
 ⟨(some 33), (some (32, true)), .mv (.t 0)⟩,
 ⟨(some 34), (some (32, true)), .mv (.t 5)⟩,
 ⟨(some 35), (some (32, true)), .bin .add (.t 34) (.c (.int .i64 1))⟩,
 ⟨(some 36), (some (32, true)), .idxS (.t 33) (.t 35)⟩,
 ⟨(some 37), (some (32, true)), .bin .eql (.t 36) (.c (.int .u8 34))⟩,
 ⟨(some 38), (some (32, true)), .mv (.t 37)⟩,
 ⟨(some 39), (some (38, false)), .mv (.t 0)⟩,
 ⟨(some 40), (some (38, false)), .mv (.t 5)⟩,
 ⟨(some 41), (some (38, false)), .bin .add (.t 40) (.c (.int .i64 1))⟩,
 ⟨(some 42), (some (38, false)), .idxS (.t 39) (.t 41)⟩,
 ⟨(some 43), (some (38, false)), .bin .eql (.t 42) (.c (.int .u8 92))⟩,
 ⟨(some 44), (some (32, true)), .pick (.t 38) (.c (.bool true)) (.t 43)⟩,
 ⟨(some 45), none, .pick (.t 32) (.t 44) (.c (.bool false))⟩,
 ⟨(some 20), none, .mv (.t 45)⟩] false)
 (.cond (.t 20)
 (.region [
 ⟨(some 46), none, .mv (.t 5)⟩,
 ⟨(some 47), none, .bin .add (.t 46) (.c (.int .i64 1))⟩,
 ⟨(some 5), none, .mv (.t 47)⟩] false)
 (.seq
 (.region [
 ⟨(some 49), none, .mv (.t 0)⟩,
 ⟨(some 50), none, .mv (.t 5)⟩,
 ⟨(some 51), none, .idxS (.t 49) (.t 50)⟩,
 ⟨(some 52), none, .bin .eql (.t 51) (.c (.int .u8 92))⟩,
 ⟨(some 53), none, .mv (.t 52)⟩,
 ⟨(some 54), (some (53, false)), .mv (.t 0)⟩,
 ⟨(some 55), (some (53, false)), .mv (.t 5)⟩,
 ⟨(some 56), (some (53, false)), .mv (.t 5)⟩,
 ⟨(some 57), (some (53, false)), .bin .add (.t 56) (.c (.int .i64 1))⟩,
 ⟨(some 58), (some (53, false)), .slS (.t 54) (some (.t 55)) (some (.t 57))⟩,
 ⟨(some 59), (some (53, false)), .call 54 [(.t 58)]⟩,
 ⟨(some 60), (some (53, false)), .not (.t 59)⟩,
 ⟨(some 61), none, .pick (.t 53) (.c (.bool true)) (.t 60)⟩,
 ⟨(some 48), none, .mv (.t 61)⟩] false)
 (.cond (.t 48)
 (.seq
 (.region [
 ⟨(some 2), none, .mv (.c (.str []))⟩,
 ⟨(some 3), none, .mv (.c (.int .i64 0))⟩] false)
 .ret)
 .skip)))))))
 (.region [
 ⟨(some 62), none, .mv (.t 4)⟩,
 ⟨(some 63), none, .mv (.t 0)⟩,
 ⟨(some 64), none, .mv (.t 5)⟩,
 ⟨(some 65), none, .mv (.t 5)⟩,
 ⟨(some 66), none, .bin .add (.t 65) (.c (.int .i64 1))⟩,
 ⟨(some 67), none, .slS (.t 63) (some (.t 64)) (some (.t 66))⟩,
 ⟨(some 68), none, .bin .add (.t 62) (.t 67)⟩,
 ⟨(some 4), none, .mv (.t 68)⟩] false)))
 (.region [
 ⟨(some 10), none, .mv (.t 5)⟩,
 ⟨(some 11), none, .bin .add (.t 10) (.c (.int .i64 1))⟩,
 ⟨(some 5), none, .mv (.t 11)⟩] false))))))
 (.seq
 (.region [
 ⟨(some 2), none, .mv (.c (.str []))⟩,
 ⟨(some 3), none, .mv (.c (.int .i64 0))⟩] false)
 .ret))))
def r76 : List ERes := [.t 2, .t 3]

theorem c76 : chkF Tryd.prog Tryd.f76 1 e76 r76 = true := by kernel_rfl

def e77 : EC :=
 (.seq
 (.region [
 ⟨(some 2), none, .mv (.c (.int .i64 0))⟩,
 ⟨(some 3), none, .mv (.c (.int .i64 0))⟩] false)
 (.seq
 (.region [
 ⟨(some 4), none, .mv (.c (.int .i64 0))⟩,
 ⟨(some 5), none, .mv (.c (.int .i64 1))⟩] false)
 (.seq
 (.seq
 (.region [
 ⟨(some 8), none, .mv (.t 0)⟩,
 ⟨(some 9), none, .bin .neq (.t 8) (.c (.str []))⟩,
 ⟨(some 10), none, .mv (.t 9)⟩,
 ⟨(some 11), (some (10, true)), .mv (.t 0)⟩,
 ⟨(some 12), (some (10, true)), .idxS (.t 11) (.c (.int .i64 0))⟩,
 ⟨(some 13), (some (10, true)), .bin .eql (.t 12) (.c (.int .u8 45))⟩,
 ⟨(some 14), none, .pick (.t 10) (.t 13) (.c (.bool false))⟩] false)
 (.cond (.t 14)
 (.region [
 ⟨(some 4), none, .mv (.c (.int .i64 1))⟩,
 ⟨(some 5), none, .mv (.c (.int .i64 (-1)))⟩] false)
 .skip))
 (.seq
 (.region [
 ⟨(some 15), none, .mv (.t 4)⟩,
 ⟨(some 6), none, .mv (.t 15)⟩,
 ⟨(some 7), none, .mv (.c (.int .i64 0))⟩] false)
 (.seq
 (.block 0
 (.loop
 (.seq
 (.seq
 (.region [
 ⟨(some 16), none, .mv (.t 4)⟩,
 ⟨(some 17), none, .mv (.t 0)⟩,
 ⟨(some 18), none, .lenS (.t 17)⟩,
 ⟨(some 19), none, .bin .lss (.t 16) (.t 18)⟩,
 ⟨(some 20), none, .mv (.t 19)⟩,
 ⟨(some 21), (some (20, true)), .mv (.t 0)⟩,
 ⟨(some 22), (some (20, true)), .mv (.t 4)⟩,
 ⟨(some 23), (some (20, true)), .idxS (.t 21) (.t 22)⟩,
 ⟨(some 24), (some (20, true)), .bin .geq (.t 23) (.c (.int .u8 48))⟩,
 ⟨(some 25), none, .pick (.t 20) (.t 24) (.c (.bool false))⟩,
 ⟨(some 26), none, .mv (.t 25)⟩,
 ⟨(some 27), (some (26, true)), .mv (.t 0)⟩,
 ⟨(some 28), (some (26, true)), .mv (.t 4)⟩,
 ⟨(some 29), (some (26, true)), .idxS (.t 27) (.t 28)⟩,
 ⟨(some 30), (some (26, true)), .bin .leq (.t 29) (.c (.int .u8 57))⟩,
 ⟨(some 31), none, .pick (.t 26) (.t 30) (.c (.bool false))⟩] false)
 (.cond (.t 31)
 .skip
 (.exit 0)))
 (.block 1
 (.seq
 (.region [
 ⟨(some 32), none, .mv (.t 7)⟩,
 ⟨(some 33), none, .bin .mul (.c (.int .i64 10)) (.t 32)⟩,
 ⟨(some 34), none, .mv (.t 0)⟩,
 ⟨(some 35), none, .mv (.t 4)⟩,
 ⟨(some 36), none, .idxS (.t 34) (.t 35)⟩,
 ⟨(some 37), none, .bin .sub (.t 36) (.c (.int .u8 48))⟩,
 ⟨(some 38), none, .conv .i64 (.t 37)⟩,
 ⟨(some 39), none, .bin .add (.t 33) (.t 38)⟩,
 ⟨(some 40), none, .minmax false [(.t 39), (.c (.int .i64 100000))]⟩,
 ⟨(some 7), none, .mv (.t 40)⟩] false)
 (.region [
 ⟨(some 41), none, .mv (.t 4)⟩,
 ⟨(some 42), none, .bin .add (.t 41) (.c (.int .i64 1))⟩,
 ⟨(some 4), none, .mv (.t 42)⟩] false))))))
 (.seq
 (.seq
 (.region [
 ⟨(some 43), none, .mv (.t 4)⟩,
 ⟨(some 44), none, .mv (.t 6)⟩,
 ⟨(some 45), none, .bin .eql (.t 43) (.t 44)⟩,
 ⟨(some 46), none, .mv (.t 45)⟩,
 ⟨(some 47), (some (46, false)), .mv (.t 0)⟩,
 ⟨(some 48), (some (46, false)), .mv (.t 6)⟩,
 ⟨(some 49), (some (46, false)), .idxS (.t 47) (.t 48)⟩,
 ⟨(some 50), (some (46, false)), .bin .eql (.t 49) (.c (.int .u8 48))⟩,
 ⟨(some 51), (some (46, false)), .mv (.t 50)⟩,
 ⟨(some 52), (some (51, true)), .mv (.t 4)⟩,
 ⟨(some 53), (some (51, true)), .mv (.t 6)⟩,
 ⟨(some 54), (some (51, true)), .bin .add (.t 53) (.c (.int .i64 1))⟩,
 ⟨(some 55), (some (51, true)), .bin .gtr (.t 52) (.t 54)⟩,
 ⟨(some 56), (some (46, false)), .pick (.t 51) (.t 55) (.c (.bool false))⟩,
 ⟨(some 57), none, .pick (.t 46) (.c (.bool true)) (.t 56)⟩,
 ⟨(some 58), none, .mv (.t 57)⟩,
 ⟨(some 59), (some (58, false)), .mv (.t 7)⟩,
 ⟨(some 60), (some (58, false)), .bin .eql (.t 59) (.c (.int .i64 0))⟩,
 ⟨(some 61), (some (58, false)), .mv (.t 60)⟩,
 ⟨(some 62), (some (61, true)), .mv (.t 5)⟩,
 ⟨(some 63), (some (61, true)), .bin .lss (.t 62) (.c (.int .i64 0))⟩,
 ⟨(some 64), (some (58, false)), .pick (.t 61) (.t 63) (.c (.bool false))⟩,
 ⟨(some 65), none, .pick (.t 58) (.c (.bool true)) (.t 64)⟩] false)
 (.cond (.t 65)
 (.seq
 (.region [
 ⟨(some 2), none, .mv (.c (.int .i64 0))⟩,
 ⟨(some 3), none, .mv (.c (.int .i64 0))⟩] false)
 .ret)
 .skip))
 (.seq
 (.region [
 ⟨(some 66), none, .mv (.t 5)⟩,
 ⟨(some 67), none, .mv (.t 7)⟩,
 ⟨(some 68), none, .bin .mul (.t 66) (.t 67)⟩,
 ⟨(some 69), none, .mv (.t 4)⟩,
 ⟨(some 2), none, .mv (.t 68)⟩,
 ⟨(some 3), none, .mv (.t 69)⟩] false)
 .ret)))))))
def r77 : List ERes := [.t 2, .t 3]

theorem c77 : chkF Tryd.prog Tryd.f77 1 e77 r77 = true := by kernel_rfl

def e78 : EC :=
 (.seq
 (.region [
 ⟨(some 4), none, .mv (.c (.bool false))⟩] false)
 (.seq
 (.region [
 ⟨(some 5), none, .mv (.t 0)⟩,
 ⟨(some 6), none, .mv (.t 1)⟩,
 ⟨(some 7), none, .call 89 [(.t 5), (.t 6)]⟩,
 ⟨(some 8), none, .bin .geq (.t 7) (.c (.int .i64 0))⟩,
 ⟨(some 4), none, .mv (.t 8)⟩] false)
 .ret))
def r78 : List ERes := [.t 4]

theorem c78 : chkF Tryd.prog Tryd.f78 2 e78 r78 = true := by kernel_rfl

def e79 : EC :=
 (.seq
 (.region [
 ⟨(some 2), none, .mv (.c (.bool false))⟩] false)
 (.seq
 (.region [
 ⟨(some 3), none, .mv (.t 0)⟩,
 ⟨(some 4), none, .bin .lss (.t 3) (.c (.int .i32 32))⟩,
 ⟨(some 5), none, .mv (.t 4)⟩,
 ⟨(some 6), (some (5, false)), .mv (.t 0)⟩,
 ⟨(some 7), (some (5, false)), .bin .gtr (.t 6) (.c (.int .i32 126))⟩,
 ⟨(some 8), none, .pick (.t 5) (.c (.bool true)) (.t 7)⟩,
 ⟨(some 2), none, .mv (.t 8)⟩] false)
 .ret))
def r79 : List ERes := [.t 2]

theorem c79 : chkF Tryd.prog Tryd.f79 1 e79 r79 = true := by kernel_rfl

def e83 : EC :=
 (.seq
 (.region [
 ⟨(some 4), none, .mv (.c (.bool false))⟩] false)
 (.seq
 (.region [
 ⟨(some 5), none, .mv (.t 0)⟩,
 ⟨(some 6), none, .lenS (.t 5)⟩,
 ⟨(some 7), none, .mv (.t 1)⟩,
 ⟨(some 8), none, .lenS (.t 7)⟩,
 ⟨(some 9), none, .bin .geq (.t 6) (.t 8)⟩,
 ⟨(some 10), none, .mv (.t 9)⟩,
 ⟨(some 11), (some (10, true)), .mv (.t 0)⟩,
 ⟨(some 12), (some (10, true)), .mv (.t 1)⟩,
 ⟨(some 13), (some (10, true)), .lenS (.t 12)⟩,
 ⟨(some 14), (some (10, true)), .slS (.t 11) none (some (.t 13))⟩,
 ⟨(some 15), (some (10, true)), .mv (.t 1)⟩,
 ⟨(some 16), (some (10, true)), .bin .eql (.t 14) (.t 15)⟩,
 ⟨(some 17), none, .pick (.t 10) (.t 16) (.c (.bool false))⟩,
 ⟨(some 4), none, .mv (.t 17)⟩] false)
 .ret))
def r83 : List ERes := [.t 4]

theorem c83 : chkF Tryd.prog Tryd.f83 2 e83 r83 = true := by kernel_rfl

def e89 : EC :=
 (.seq
 (.region [
 ⟨(some 4), none, .mv (.c (.int .i64 0))⟩] false)
 (.seq
 (.region [
 ⟨(some 5), none, .mv (.t 0)⟩,
 ⟨(some 6), none, .mv (.t 1)⟩,
 ⟨(some 7), none, .call 100 [(.t 5), (.t 6), (.c (.bool true))]⟩,
 ⟨(some 4), none, .mv (.t 7)⟩] false)
 .ret))
def r89 : List ERes := [.t 4]

theorem c89 : chkF Tryd.prog Tryd.f89 2 e89 r89 = true := by kernel_rfl

end Go.Aw.T


/- Resolved code of functions, and that it is theirs (written by ecode.py, own tool). -/
namespace Go.Aw.T
open Go Go.Aw Go.Proofs
set_option maxRecDepth 1000000

def e19 : EC :=
 (.seq
 (.region [
 ⟨(some 1), none, .box 23 (.t 0)⟩,
 ⟨(some 2), none, .mv (.c (.str []))⟩] false)
 (.seq
 (.seq
 (.region [
 ⟨(some 5), none, .load true 3 (.t 1)⟩,
 ⟨(some 6), none, .call 20 [(.t 5)]⟩,
 ⟨(some 7), none, .not (.t 6)⟩] false)
 (.cond (.t 7)
 (.seq
 (.region [
 ⟨(some 2), none, .mv (.c (.str [63]))⟩] false)
 .ret)
 .skip))
 (.seq
 (.seq
 (.region [
 ⟨(some 8), none, .faddr 0 (.t 1)⟩,
 ⟨(some 9), none, .load false 1 (.t 8)⟩,
 ⟨(some 10), none, .bin .eql (.t 9) (.c (.int .i64 1))⟩] false)
 (.cond (.t 10)
 (.seq
 (.region [
 ⟨(some 11), none, .faddr 1 (.t 1)⟩,
 ⟨(some 12), none, .load false 1 (.t 11)⟩,
 ⟨(some 13), none, .call 53 [(.t 12)]⟩,
 ⟨(some 2), none, .mv (.t 13)⟩] false)
 .ret)
 .skip))
 (.seq
 (.region [
 ⟨(some 3), none, .mv (.c (.str [34]))⟩] false)
 (.seq
 (.seq
 (.region [
 ⟨(some 4), none, .mv (.c (.int .i64 0))⟩] false)
 (.block 0
 (.loop
 (.seq
 (.seq
 (.region [
 ⟨(some 14), none, .mv (.t 4)⟩,
 ⟨(some 15), none, .faddr 2 (.t 1)⟩,
 ⟨(some 16), none, .load false 1 (.t 15)⟩,
 ⟨(some 17), none, .lenS (.t 16)⟩,
 ⟨(some 18), none, .bin .lss (.t 14) (.t 17)⟩] false)
 (.cond (.t 18)
 .skip
 (.exit 0)))
 (.seq
 (.block 1
 (.seq
 (.seq
 (.region [
 ⟨(some 21), none, .faddr 2 (.t 1)⟩,
 ⟨(some 22), none, .load false 1 (.t 21)⟩,
 ⟨(some 23), none, .mv (.t 4)⟩,
 ⟨(some 24), none, .idxS (.t 22) (.t 23)⟩,
 ⟨(some 25), none, .bin .eql (.t 24) (.c (.int .u8 34))⟩,
 ⟨(some 26), none, .mv (.t 25)⟩,
 ⟨(some 27), (some (26, false)), .faddr 2 (.t 1)⟩,
 ⟨(some 28), (some (26, false)), .load false 1 (.t 27)⟩,
 ⟨(some 29), (some (26, false)), .mv (.t 4)⟩,
 ⟨(some 30), (some (26, false)), .idxS (.t 28) (.t 29)⟩,
 ⟨(some 31), (some (26, false)), .bin .eql (.t 30) (.c (.int .u8 92))⟩,
 ⟨(some 32), none, .pick (.t 26) (.c (.bool true)) (.t 31)⟩] false)
 (.cond (.t 32)
 (.region [
 ⟨(some 33), none, .mv (.t 3)⟩,
 ⟨(some 34), none, .bin .add (.t 33) (.c (.str [92]))⟩,
 ⟨(some 3), none, .mv (.t 34)⟩] false)
 .skip))
 (.region [
 ⟨(some 35), none, .mv (.t 3)⟩,
 ⟨(some 36), none, .faddr 2 (.t 1)⟩,
 ⟨(some 37), none, .load false 1 (.t 36)⟩,
 ⟨(some 38), none, .mv (.t 4)⟩,
 ⟨(some 39), none, .mv (.t 4)⟩,
 ⟨(some 40), none, .bin .add (.t 39) (.c (.int .i64 1))⟩,
 ⟨(some 41), none, .slS (.t 37) (some (.t 38)) (some (.t 40))⟩,
 ⟨(some 42), none, .bin .add (.t 35) (.t 41)⟩,
 ⟨(some 3), none, .mv (.t 42)⟩] false)))
 (.region [
 ⟨(some 19), none, .mv (.t 4)⟩,
 ⟨(some 20), none, .bin .add (.t 19) (.c (.int .i64 1))⟩,
 ⟨(some 4), none, .mv (.t 20)⟩] false))))))
 (.seq
 (.region [
 ⟨(some 43), none, .mv (.t 3)⟩,
 ⟨(some 44), none, .bin .add (.t 43) (.c (.str [34]))⟩,
 ⟨(some 2), none, .mv (.t 44)⟩] false)
 .ret))))))
def r19 : List ERes := [.t 2]

theorem c19 : chkF Tryd.prog Tryd.f19 1 e19 r19 = true := by kernel_rfl

end Go.Aw.T


/- Resolved code of functions, and that it is theirs (written by ecode.py, own tool). -/
namespace Go.Aw.T
open Go Go.Aw Go.Proofs
set_option maxRecDepth 1000000

def e39 : EC :=
 (.seq
 (.region [
 ⟨(some 2), none, .mv (.c (.str []))⟩] false)
 (.seq
 (.region [
 ⟨(some 3), none, .mv (.c (.nilS))⟩] false)
 (.seq
 (.seq
 (.region [
 ⟨(some 6), none, .mv (.t 0)⟩,
 ⟨(some 7), none, .len (.t 6)⟩,
 ⟨(some 8), none, .mv (.c (.int .i64 0))⟩] false)
 (.block 0
 (.loop
 (.seq
 (.region [
 ⟨(some 9), none, .bin .lss (.t 8) (.t 7)⟩] false)
 (.seq
 (.cond (.t 9)
 .skip
 (.exit 0))
 (.seq
 (.block 1
 (.seq
 (.region [
 ⟨(some 10), none, .iaddr 3 (.t 6) (.t 8)⟩,
 ⟨(some 11), none, .load true 3 (.t 10)⟩,
 ⟨(some 5), none, .alloc 23 [.int .i64 0, .int .i64 0, .str []]⟩,
 ⟨none, none, .store 3 (.t 5) (.t 11)⟩] false)
 (.region [
 ⟨(some 12), none, .mv (.t 3)⟩,
 ⟨(some 13), none, .load true 3 (.t 5)⟩,
 ⟨(some 14), none, .call 17 [(.t 13)]⟩,
 ⟨(some 15), none, .bslice 9 1 1 [.str []] [(0, (.t 14))]⟩,
 ⟨(some 16), none, .append 9 1 16 (.t 12) (.t 15)⟩,
 ⟨(some 3), none, .mv (.t 16)⟩] false)))
 (.region [
 ⟨(some 17), none, .bin .add (.t 8) (.c (.int .i64 1))⟩,
 ⟨(some 8), none, .mv (.t 17)⟩] false)))))))
 (.seq
 (.region [
 ⟨(some 18), none, .mv (.t 3)⟩,
 ⟨(some 19), none, .call 62 [(.t 18), (.c (.str [44, 32]))]⟩,
 ⟨(some 20), none, .bin .add (.c (.str [40])) (.t 19)⟩,
 ⟨(some 21), none, .bin .add (.t 20) (.c (.str [41]))⟩,
 ⟨(some 2), none, .mv (.t 21)⟩] false)
 .ret))))
def r39 : List ERes := [.t 2]

theorem c39 : chkF Tryd.prog Tryd.f39 1 e39 r39 = true := by kernel_rfl

def e40 : EC :=
 (.seq
 (.region [
 ⟨(some 2), none, .mv (.c (.nilS))⟩,
 ⟨(some 3), none, .mv (.c (.int .i64 0))⟩] false)
 (.seq
 (.region [
 ⟨(some 11), none, .mv (.t 0)⟩,
 ⟨(some 12), none, .call 63 [(.t 11), (.c (.str [40]))]⟩,
 ⟨(some 10), none, .mv (.t 12)⟩,
 ⟨(some 13), none, .extract 0 (.t 10)⟩,
 ⟨(some 14), none, .extract 1 (.t 10)⟩,
 ⟨(some 4), none, .mv (.t 13)⟩,
 ⟨(some 5), none, .mv (.t 14)⟩] false)
 (.seq
 (.seq
 (.region [
 ⟨(some 15), none, .mv (.t 5)⟩,
 ⟨(some 16), none, .not (.t 15)⟩] false)
 (.cond (.t 16)
 (.seq
 (.region [
 ⟨(some 2), none, .mv (.c (.nilS))⟩,
 ⟨(some 3), none, .mv (.c (.int .i64 3))⟩] false)
 .ret)
 .skip))
 (.seq
 (.seq
 (.region [
 ⟨(some 17), none, .mv (.t 4)⟩,
 ⟨(some 18), none, .bin .eql (.t 17) (.c (.str [41]))⟩] false)
 (.cond (.t 18)
 (.seq
 (.region [
 ⟨(some 2), none, .mv (.c (.nilS))⟩,
 ⟨(some 3), none, .mv (.c (.int .i64 0))⟩] false)
 .ret)
 .skip))
 (.seq
 (.region [
 ⟨(some 6), none, .mv (.c (.nilS))⟩] false)
 (.seq
 (.block 0
 (.loop
 (.block 1
 (.seq
 (.region [
 ⟨(some 20), none, .mv (.t 4)⟩,
 ⟨(some 21), none, .call 52 [(.t 20)]⟩,
 ⟨(some 19), none, .mv (.t 21)⟩,
 ⟨(some 22), none, .extract 0 (.t 19)⟩,
 ⟨(some 23), none, .extract 1 (.t 19)⟩,
 ⟨(some 24), none, .extract 2 (.t 19)⟩,
 ⟨(some 7), none, .alloc 23 [.int .i64 0, .int .i64 0, .str []]⟩,
 ⟨none, none, .store 3 (.t 7) (.t 22)⟩,
 ⟨(some 8), none, .mv (.t 23)⟩,
 ⟨(some 9), none, .mv (.t 24)⟩] false)
 (.seq
 (.seq
 (.region [
 ⟨(some 25), none, .mv (.t 8)⟩,
 ⟨(some 26), none, .bin .eql (.t 25) (.c (.int .i64 0))⟩,
 ⟨(some 27), none, .mv (.t 26)⟩,
 ⟨(some 28), (some (27, false)), .mv (.t 9)⟩,
 ⟨(some 29), (some (27, false)), .bin .neq (.t 28) (.c (.int .i64 0))⟩,
 ⟨(some 30), none, .pick (.t 27) (.c (.bool true)) (.t 29)⟩] false)
 (.cond (.t 30)
 (.seq
 (.region [
 ⟨(some 2), none, .mv (.c (.nilS))⟩,
 ⟨(some 3), none, .mv (.c (.int .i64 3))⟩] false)
 .ret)
 .skip))
 (.seq
 (.region [
 ⟨(some 31), none, .mv (.t 6)⟩,
 ⟨(some 32), none, .load true 3 (.t 7)⟩,
 ⟨(some 33), none, .bslice 23 3 1 [.int .i64 0, .int .i64 0, .str []] [(0, (.t 32))]⟩,
 ⟨(some 34), none, .append 23 3 32 (.t 31) (.t 33)⟩,
 ⟨(some 6), none, .mv (.t 34)⟩] false)
 (.seq
 (.region [
 ⟨(some 35), none, .mv (.t 4)⟩,
 ⟨(some 36), none, .mv (.t 8)⟩,
 ⟨(some 37), none, .slS (.t 35) (some (.t 36)) none⟩,
 ⟨(some 4), none, .mv (.t 37)⟩] false)
 (.seq
 (.seq
 (.region [
 ⟨(some 38), none, .mv (.t 4)⟩,
 ⟨(some 39), none, .bin .eql (.t 38) (.c (.str [41]))⟩] false)
 (.cond (.t 39)
 (.exit 0)
 .skip))
 (.seq
 (.region [
 ⟨(some 41), none, .mv (.t 4)⟩,
 ⟨(some 42), none, .call 63 [(.t 41), (.c (.str [44, 32]))]⟩,
 ⟨(some 40), none, .mv (.t 42)⟩,
 ⟨(some 43), none, .extract 0 (.t 40)⟩,
 ⟨(some 44), none, .extract 1 (.t 40)⟩,
 ⟨(some 4), none, .mv (.t 43)⟩,
 ⟨(some 5), none, .mv (.t 44)⟩] false)
 (.seq
 (.region [
 ⟨(some 45), none, .mv (.t 5)⟩,
 ⟨(some 46), none, .not (.t 45)⟩] false)
 (.cond (.t 46)
 (.seq
 (.region [
 ⟨(some 2), none, .mv (.c (.nilS))⟩,
 ⟨(some 3), none, .mv (.c (.int .i64 3))⟩] false)
 .ret)
 .skip)))))))))))
 (.seq
 (.seq
 (.region [
 ⟨(some 47), none, .mv (.t 6)⟩,
 ⟨(some 48), none, .len (.t 47)⟩,
 ⟨(some 49), none, .bin .gtr (.t 48) (.c (.int .i64 24))⟩] false)
 (.cond (.t 49)
 (.seq
 (.region [
 ⟨(some 2), none, .mv (.c (.nilS))⟩,
 ⟨(some 3), none, .mv (.c (.int .i64 6))⟩] false)
 .ret)
 .skip))
 (.seq
 (.region [
 ⟨(some 50), none, .mv (.t 6)⟩,
 ⟨(some 2), none, .mv (.t 50)⟩,
 ⟨(some 3), none, .mv (.c (.int .i64 0))⟩] false)
 .ret))))))))
def r40 : List ERes := [.t 2, .t 3]

theorem c40 : chkF Tryd.prog Tryd.f40 1 e40 r40 = true := by kernel_rfl

def e41 : EC :=
 (.seq
 (.region [
 ⟨(some 2), none, .mv (.c (.nilS))⟩,
 ⟨(some 3), none, .mv (.c (.int .i64 0))⟩] false)
 (.seq
 (.seq
 (.region [
 ⟨(some 8), none, .mv (.t 0)⟩,
 ⟨(some 9), none, .bin .eql (.t 8) (.c (.str [40, 41]))⟩] false)
 (.cond (.t 9)
 (.seq
 (.region [
 ⟨(some 2), none, .mv (.c (.nilS))⟩,
 ⟨(some 3), none, .mv (.c (.int .i64 0))⟩] false)
 .ret)
 .skip))
 (.seq
 (.seq
 (.region [
 ⟨(some 10), none, .mv (.t 0)⟩,
 ⟨(some 11), none, .bin .eql (.t 10) (.c (.str []))⟩,
 ⟨(some 12), none, .mv (.t 11)⟩,
 ⟨(some 13), (some (12, false)), .mv (.t 0)⟩,
 ⟨(some 14), (some (12, false)), .idxS (.t 13) (.c (.int .i64 0))⟩,
 ⟨(some 15), (some (12, false)), .bin .neq (.t 14) (.c (.int .u8 40))⟩,
 ⟨(some 16), none, .pick (.t 12) (.c (.bool true)) (.t 15)⟩] false)
 (.cond (.t 16)
 (.seq
 (.region [
 ⟨(some 2), none, .mv (.c (.nilS))⟩,
 ⟨(some 3), none, .mv (.c (.int .i64 3))⟩] false)
 .ret)
 .skip))
 (.seq
 (.region [
 ⟨(some 4), none, .mv (.c (.nilS))⟩] false)
 (.seq
 (.region [
 ⟨(some 5), none, .mv (.c (.int .i64 1))⟩] false)
 (.block 0
 (.loop
 (.block 1
 (.seq
 (.region [
 ⟨(some 18), none, .mv (.t 0)⟩,
 ⟨(some 19), none, .mv (.t 5)⟩,
 ⟨(some 20), none, .slS (.t 18) (some (.t 19)) none⟩,
 ⟨(some 21), none, .call 55 [(.t 20)]⟩,
 ⟨(some 17), none, .mv (.t 21)⟩,
 ⟨(some 22), none, .extract 0 (.t 17)⟩,
 ⟨(some 23), none, .extract 1 (.t 17)⟩,
 ⟨(some 6), none, .alloc 23 [.int .i64 0, .int .i64 0, .str []]⟩,
 ⟨none, none, .store 3 (.t 6) (.t 22)⟩,
 ⟨(some 7), none, .mv (.t 23)⟩] false)
 (.seq
 (.region [
 ⟨(some 24), none, .mv (.t 5)⟩,
 ⟨(some 25), none, .mv (.t 7)⟩,
 ⟨(some 26), none, .bin .add (.t 24) (.t 25)⟩,
 ⟨(some 5), none, .mv (.t 26)⟩] false)
 (.seq
 (.seq
 (.region [
 ⟨(some 27), none, .mv (.t 7)⟩,
 ⟨(some 28), none, .bin .eql (.t 27) (.c (.int .i64 0))⟩,
 ⟨(some 29), none, .mv (.t 28)⟩,
 ⟨(some 30), (some (29, false)), .load true 3 (.t 6)⟩,
 ⟨(some 31), (some (29, false)), .call 20 [(.t 30)]⟩,
 ⟨(some 32), (some (29, false)), .not (.t 31)⟩,
 ⟨(some 33), none, .pick (.t 29) (.c (.bool true)) (.t 32)⟩,
 ⟨(some 34), none, .mv (.t 33)⟩,
 ⟨(some 35), (some (34, false)), .mv (.t 5)⟩,
 ⟨(some 36), (some (34, false)), .mv (.t 0)⟩,
 ⟨(some 37), (some (34, false)), .lenS (.t 36)⟩,
 ⟨(some 38), (some (34, false)), .bin .geq (.t 35) (.t 37)⟩,
 ⟨(some 39), none, .pick (.t 34) (.c (.bool true)) (.t 38)⟩] false)
 (.cond (.t 39)
 (.seq
 (.region [
 ⟨(some 2), none, .mv (.c (.nilS))⟩,
 ⟨(some 3), none, .mv (.c (.int .i64 3))⟩] false)
 .ret)
 .skip))
 (.seq
 (.region [
 ⟨(some 40), none, .mv (.t 4)⟩,
 ⟨(some 41), none, .load true 3 (.t 6)⟩,
 ⟨(some 42), none, .bslice 23 3 1 [.int .i64 0, .int .i64 0, .str []] [(0, (.t 41))]⟩,
 ⟨(some 43), none, .append 23 3 32 (.t 40) (.t 42)⟩,
 ⟨(some 4), none, .mv (.t 43)⟩] false)
 (.seq
 (.block 2
 (.seq
 (.region [
 ⟨(some 45), none, .mv (.t 0)⟩,
 ⟨(some 46), none, .mv (.t 5)⟩,
 ⟨(some 47), none, .slS (.t 45) (some (.t 46)) none⟩,
 ⟨(some 48), none, .bin .eql (.t 47) (.c (.str [41]))⟩,
 ⟨(some 49), none, .mv (.t 48)⟩,
 ⟨(some 50), (some (49, true)), .mv (.t 4)⟩,
 ⟨(some 51), (some (49, true)), .len (.t 50)⟩,
 ⟨(some 52), (some (49, true)), .bin .gtr (.t 51) (.c (.int .i64 24))⟩,
 ⟨(some 53), none, .pick (.t 49) (.t 52) (.c (.bool false))⟩,
 ⟨(some 44), none, .mv (.t 53)⟩] false)
 (.cond (.t 44)
 (.seq
 (.region [
 ⟨(some 2), none, .mv (.c (.nilS))⟩,
 ⟨(some 3), none, .mv (.c (.int .i64 6))⟩] false)
 .ret)
 (.seq
 (.region [
 ⟨(some 55), none, .mv (.t 0)⟩,
 ⟨(some 56), none, .mv (.t 5)⟩,
 ⟨(some 57), none, .slS (.t 55) (some (.t 56)) none⟩,
 ⟨(some 58), none, .bin .eql (.t 57) (.c (.str [41]))⟩,
 ⟨(some 54), none, .mv (.t 58)⟩] false)
 (.cond (.t 54)
 (.seq
 (.region [
 ⟨(some 59), none, .mv (.t 4)⟩,
 ⟨(some 2), none, .mv (.t 59)⟩,
 ⟨(some 3), none, .mv (.c (.int .i64 0))⟩] false)
 .ret)
 (.seq
 (.region [
 ⟨(some 61), none, .mv (.t 0)⟩,
 ⟨(some 62), none, .lenS (.t 61)⟩,
 ⟨(some 63), none, .mv (.t 5)⟩,
 ⟨(some 64), none, .bin .add (.t 63) (.c (.int .i64 2))⟩,
 ⟨(some 65), none, .bin .lss (.t 62) (.t 64)⟩,
 ⟨(some 66), none, .mv (.t 65)⟩,
 ⟨(some 67), (some (66, false)), .mv (.t 0)⟩,
 ⟨(some 68), (some (66, false)), .mv (.t 5)⟩,
 ⟨(some 69), (some (66, false)), .mv (.t 5)⟩,
 ⟨(some 70), (some (66, false)), .bin .add (.t 69) (.c (.int .i64 2))⟩,
 ⟨(some 71), (some (66, false)), .slS (.t 67) (some (.t 68)) (some (.t 70))⟩,
 ⟨(some 72), (some (66, false)), .bin .neq (.t 71) (.c (.str [44, 32]))⟩,
 ⟨(some 73), none, .pick (.t 66) (.c (.bool true)) (.t 72)⟩,
 ⟨(some 60), none, .mv (.t 73)⟩] false)
 (.cond (.t 60)
 (.seq
 (.region [
 ⟨(some 2), none, .mv (.c (.nilS))⟩,
 ⟨(some 3), none, .mv (.c (.int .i64 3))⟩] false)
 .ret)
 .skip)))))))
 (.region [
 ⟨(some 74), none, .mv (.t 5)⟩,
 ⟨(some 75), none, .bin .add (.t 74) (.c (.int .i64 2))⟩,
 ⟨(some 5), none, .mv (.t 75)⟩] false))))))))))))))
def r41 : List ERes := [.t 2, .t 3]

theorem c41 : chkF Tryd.prog Tryd.f41 1 e41 r41 = true := by kernel_rfl

def e42 : EC :=
 (.seq
 (.region [
 ⟨(some 2), none, .mv (.c (.str []))⟩] false)
 (.seq
 (.region [
 ⟨(some 3), none, .mv (.c (.str [40]))⟩] false)
 (.seq
 (.seq
 (.region [
 ⟨(some 4), none, .mv (.c (.int .i64 0))⟩] false)
 (.block 0
 (.loop
 (.seq
 (.seq
 (.region [
 ⟨(some 5), none, .mv (.t 4)⟩,
 ⟨(some 6), none, .mv (.t 0)⟩,
 ⟨(some 7), none, .len (.t 6)⟩,
 ⟨(some 8), none, .bin .lss (.t 5) (.t 7)⟩] false)
 (.cond (.t 8)
 .skip
 (.exit 0)))
 (.seq
 (.block 1
 (.seq
 (.seq
 (.region [
 ⟨(some 11), none, .mv (.t 4)⟩,
 ⟨(some 12), none, .bin .gtr (.t 11) (.c (.int .i64 0))⟩] false)
 (.cond (.t 12)
 (.region [
 ⟨(some 13), none, .mv (.t 3)⟩,
 ⟨(some 14), none, .bin .add (.t 13) (.c (.str [44, 32]))⟩,
 ⟨(some 3), none, .mv (.t 14)⟩] false)
 .skip))
 (.region [
 ⟨(some 15), none, .mv (.t 3)⟩,
 ⟨(some 16), none, .mv (.t 0)⟩,
 ⟨(some 17), none, .mv (.t 4)⟩,
 ⟨(some 18), none, .iaddr 3 (.t 16) (.t 17)⟩,
 ⟨(some 19), none, .load true 3 (.t 18)⟩,
 ⟨(some 20), none, .call 19 [(.t 19)]⟩,
 ⟨(some 21), none, .bin .add (.t 15) (.t 20)⟩,
 ⟨(some 3), none, .mv (.t 21)⟩] false)))
 (.region [
 ⟨(some 9), none, .mv (.t 4)⟩,
 ⟨(some 10), none, .bin .add (.t 9) (.c (.int .i64 1))⟩,
 ⟨(some 4), none, .mv (.t 10)⟩] false))))))
 (.seq
 (.region [
 ⟨(some 22), none, .mv (.t 3)⟩,
 ⟨(some 23), none, .bin .add (.t 22) (.c (.str [41]))⟩,
 ⟨(some 2), none, .mv (.t 23)⟩] false)
 .ret))))
def r42 : List ERes := [.t 2]

theorem c42 : chkF Tryd.prog Tryd.f42 1 e42 r42 = true := by kernel_rfl

def e63 : EC :=
 (.seq
 (.region [
 ⟨(some 4), none, .mv (.c (.str []))⟩,
 ⟨(some 5), none, .mv (.c (.bool false))⟩] false)
 (.seq
 (.region [
 ⟨(some 6), none, .mv (.t 0)⟩,
 ⟨(some 7), none, .mv (.t 1)⟩,
 ⟨(some 8), none, .call 80 [(.t 6), (.t 7)]⟩,
 ⟨(some 9), none, .extract 0 (.t 8)⟩,
 ⟨(some 10), none, .extract 1 (.t 8)⟩,
 ⟨(some 4), none, .mv (.t 9)⟩,
 ⟨(some 5), none, .mv (.t 10)⟩] false)
 .ret))
def r63 : List ERes := [.t 4, .t 5]

theorem c63 : chkF Tryd.prog Tryd.f63 2 e63 r63 = true := by kernel_rfl

def e80 : EC :=
 (.seq
 (.region [
 ⟨(some 4), none, .mv (.c (.str []))⟩,
 ⟨(some 5), none, .mv (.c (.bool false))⟩] false)
 (.seq
 (.seq
 (.region [
 ⟨(some 6), none, .mv (.t 0)⟩,
 ⟨(some 7), none, .mv (.t 1)⟩,
 ⟨(some 8), none, .call 83 [(.t 6), (.t 7)]⟩,
 ⟨(some 9), none, .not (.t 8)⟩] false)
 (.cond (.t 9)
 (.seq
 (.region [
 ⟨(some 10), none, .mv (.t 0)⟩,
 ⟨(some 4), none, .mv (.t 10)⟩,
 ⟨(some 5), none, .mv (.c (.bool false))⟩] false)
 .ret)
 .skip))
 (.seq
 (.region [
 ⟨(some 11), none, .mv (.t 0)⟩,
 ⟨(some 12), none, .mv (.t 1)⟩,
 ⟨(some 13), none, .lenS (.t 12)⟩,
 ⟨(some 14), none, .slS (.t 11) (some (.t 13)) none⟩,
 ⟨(some 4), none, .mv (.t 14)⟩,
 ⟨(some 5), none, .mv (.c (.bool true))⟩] false)
 .ret)))
def r80 : List ERes := [.t 4, .t 5]

theorem c80 : chkF Tryd.prog Tryd.f80 2 e80 r80 = true := by kernel_rfl

def e11 : EC :=
 (.seq
 (.region [
 ⟨(some 4), none, .mv (.c (.bool false))⟩] false)
 (.seq
 (.seq
 (.region [
 ⟨(some 13), none, .call 12 []⟩,
 ⟨(some 14), none, .not (.t 13)⟩] false)
 (.cond (.t 14)
 (.seq
 (.region [
 ⟨(some 4), none, .mv (.c (.bool false))⟩] false)
 .ret)
 .skip))
 (.seq
 (.seq
 (.region [
 ⟨(some 15), none, .mv (.t 0)⟩,
 ⟨(some 16), none, .call 32 [(.t 15)]⟩,
 ⟨(some 17), none, .not (.t 16)⟩,
 ⟨(some 18), none, .mv (.t 17)⟩,
 ⟨(some 19), (some (18, false)), .mv (.t 1)⟩,
 ⟨(some 20), (some (18, false)), .lenS (.t 19)⟩,
 ⟨(some 21), (some (18, false)), .bin .gtr (.t 20) (.c (.int .i64 400))⟩,
 ⟨(some 22), none, .pick (.t 18) (.c (.bool true)) (.t 21)⟩] false)
 (.cond (.t 22)
 (.seq
 (.region [
 ⟨(some 4), none, .mv (.c (.bool true))⟩] false)
 .ret)
 .skip))
 (.seq
 (.region [
 ⟨(some 23), none, .mv (.t 0)⟩,
 ⟨(some 24), none, .call 39 [(.t 23)]⟩,
 ⟨(some 5), none, .mv (.t 24)⟩] false)
 (.seq
 (.region [
 ⟨(some 26), none, .mv (.t 1)⟩,
 ⟨(some 27), none, .call 40 [(.t 26)]⟩,
 ⟨(some 25), none, .mv (.t 27)⟩,
 ⟨(some 28), none, .extract 0 (.t 25)⟩,
 ⟨(some 29), none, .extract 1 (.t 25)⟩,
 ⟨(some 6), none, .mv (.t 28)⟩,
 ⟨(some 7), none, .mv (.t 29)⟩] false)
 (.seq
 (.region [
 ⟨(some 31), none, .mv (.t 1)⟩,
 ⟨(some 32), none, .call 41 [(.t 31)]⟩,
 ⟨(some 30), none, .mv (.t 32)⟩,
 ⟨(some 33), none, .extract 0 (.t 30)⟩,
 ⟨(some 34), none, .extract 1 (.t 30)⟩,
 ⟨(some 8), none, .mv (.t 33)⟩,
 ⟨(some 9), none, .mv (.t 34)⟩] false)
 (.seq
 (.seq
 (.region [
 ⟨(some 35), none, .mv (.t 5)⟩,
 ⟨(some 36), none, .mv (.t 0)⟩,
 ⟨(some 37), none, .call 42 [(.t 36)]⟩,
 ⟨(some 38), none, .bin .neq (.t 35) (.t 37)⟩,
 ⟨(some 39), none, .mv (.t 38)⟩,
 ⟨(some 40), (some (39, false)), .mv (.t 6)⟩,
 ⟨(some 41), (some (39, false)), .mv (.t 8)⟩,
 ⟨(some 42), (some (39, false)), .call 35 [(.t 40), (.t 41)]⟩,
 ⟨(some 43), (some (39, false)), .not (.t 42)⟩,
 ⟨(some 44), none, .pick (.t 39) (.c (.bool true)) (.t 43)⟩,
 ⟨(some 45), none, .mv (.t 44)⟩,
 ⟨(some 46), (some (45, false)), .mv (.t 7)⟩,
 ⟨(some 47), (some (45, false)), .mv (.t 9)⟩,
 ⟨(some 48), (some (45, false)), .bin .neq (.t 46) (.t 47)⟩,
 ⟨(some 49), none, .pick (.t 45) (.c (.bool true)) (.t 48)⟩,
 ⟨(some 50), none, .mv (.t 49)⟩,
 ⟨(some 51), (some (50, false)), .mv (.t 7)⟩,
 ⟨(some 52), (some (50, false)), .bin .eql (.t 51) (.c (.int .i64 0))⟩,
 ⟨(some 53), (some (50, false)), .mv (.t 52)⟩,
 ⟨(some 54), (some (53, true)), .mv (.t 6)⟩,
 ⟨(some 55), (some (53, true)), .call 39 [(.t 54)]⟩,
 ⟨(some 56), (some (53, true)), .mv (.t 1)⟩,
 ⟨(some 57), (some (53, true)), .bin .neq (.t 55) (.t 56)⟩,
 ⟨(some 58), (some (50, false)), .pick (.t 53) (.t 57) (.c (.bool false))⟩,
 ⟨(some 59), none, .pick (.t 50) (.c (.bool true)) (.t 58)⟩] false)
 (.cond (.t 59)
 (.seq
 (.region [
 ⟨(some 4), none, .mv (.c (.bool false))⟩] false)
 .ret)
 .skip))
 (.seq
 (.seq
 (.region [
 ⟨(some 10), none, .mv (.c (.int .i64 0))⟩] false)
 (.block 0
 (.loop
 (.seq
 (.seq
 (.region [
 ⟨(some 60), none, .mv (.t 10)⟩,
 ⟨(some 61), none, .mv (.t 0)⟩,
 ⟨(some 62), none, .len (.t 61)⟩,
 ⟨(some 63), none, .bin .lss (.t 60) (.t 62)⟩] false)
 (.cond (.t 63)
 .skip
 (.exit 0)))
 (.seq
 (.block 1
 (.seq
 (.region [
 ⟨(some 66), none, .mv (.t 0)⟩,
 ⟨(some 67), none, .mv (.t 10)⟩,
 ⟨(some 68), none, .iaddr 3 (.t 66) (.t 67)⟩,
 ⟨(some 69), none, .load true 3 (.t 68)⟩,
 ⟨(some 70), none, .call 20 [(.t 69)]⟩,
 ⟨(some 71), none, .not (.t 70)⟩] false)
 (.cond (.t 71)
 (.seq
 (.region [
 ⟨(some 4), none, .mv (.c (.bool true))⟩] false)
 .ret)
 .skip)))
 (.region [
 ⟨(some 64), none, .mv (.t 10)⟩,
 ⟨(some 65), none, .bin .add (.t 64) (.c (.int .i64 1))⟩,
 ⟨(some 10), none, .mv (.t 65)⟩] false))))))
 (.seq
 (.region [
 ⟨(some 73), none, .mv (.t 5)⟩,
 ⟨(some 74), none, .call 40 [(.t 73)]⟩,
 ⟨(some 72), none, .mv (.t 74)⟩,
 ⟨(some 75), none, .extract 0 (.t 72)⟩,
 ⟨(some 76), none, .extract 1 (.t 72)⟩,
 ⟨(some 11), none, .mv (.t 75)⟩,
 ⟨(some 12), none, .mv (.t 76)⟩] false)
 (.seq
 (.seq
 (.region [
 ⟨(some 77), none, .mv (.t 0)⟩,
 ⟨(some 78), none, .len (.t 77)⟩,
 ⟨(some 79), none, .bin .gtr (.t 78) (.c (.int .i64 24))⟩] false)
 (.cond (.t 79)
 (.seq
 (.region [
 ⟨(some 80), none, .mv (.t 12)⟩,
 ⟨(some 81), none, .bin .eql (.t 80) (.c (.int .i64 6))⟩,
 ⟨(some 4), none, .mv (.t 81)⟩] false)
 .ret)
 .skip))
 (.seq
 (.region [
 ⟨(some 82), none, .mv (.t 12)⟩,
 ⟨(some 83), none, .bin .eql (.t 82) (.c (.int .i64 0))⟩,
 ⟨(some 84), none, .mv (.t 83)⟩,
 ⟨(some 85), (some (84, true)), .mv (.t 11)⟩,
 ⟨(some 86), (some (84, true)), .mv (.t 0)⟩,
 ⟨(some 87), (some (84, true)), .call 35 [(.t 85), (.t 86)]⟩,
 ⟨(some 88), none, .pick (.t 84) (.t 87) (.c (.bool false))⟩,
 ⟨(some 4), none, .mv (.t 88)⟩] false)
 .ret)))))))))))
def r11 : List ERes := [.t 4]

theorem c11 : chkF Tryd.prog Tryd.f11 2 e11 r11 = true := by kernel_rfl

end Go.Aw.T

