/- Part of a proof; own work. -/
import Derived.Test.YtjjngpjdhjeckaaC6
import Derived.Test.YtjjngpjdhjeckaaProg
/- Resolved code of functions, and that it is theirs (written by ecode.py, own tool). -/
namespace Go.Aw.T
open Go Go.Aw Go.Proofs
set_option maxRecDepth 1000000

def e7 : EC :=
 (.seq
 (.region [
 ⟨(some 4), none, .mv (.c (.bool false))⟩] false)
 (.seq
 (.seq
 (.region [
 ⟨(some 12), none, .call 24 []⟩,
 ⟨(some 13), none, .not (.t 12)⟩] false)
 (.cond (.t 13)
 (.seq
 (.region [
 ⟨(some 4), none, .mv (.c (.bool false))⟩] false)
 .ret)
 .skip))
 (.seq
 (.seq
 (.region [
 ⟨(some 14), none, .mv (.t 0)⟩,
 ⟨(some 15), none, .bin .lss (.t 14) (.c (.int .i64 (-1000)))⟩,
 ⟨(some 16), none, .mv (.t 15)⟩,
 ⟨(some 17), (some (16, false)), .mv (.t 0)⟩,
 ⟨(some 18), (some (16, false)), .bin .gtr (.t 17) (.c (.int .i64 1000))⟩,
 ⟨(some 19), none, .pick (.t 16) (.c (.bool true)) (.t 18)⟩,
 ⟨(some 20), none, .mv (.t 19)⟩,
 ⟨(some 21), (some (20, false)), .mv (.t 1)⟩,
 ⟨(some 22), (some (20, false)), .bin .lss (.t 21) (.c (.int .i64 (-1000)))⟩,
 ⟨(some 23), none, .pick (.t 20) (.c (.bool true)) (.t 22)⟩,
 ⟨(some 24), none, .mv (.t 23)⟩,
 ⟨(some 25), (some (24, false)), .mv (.t 1)⟩,
 ⟨(some 26), (some (24, false)), .bin .gtr (.t 25) (.c (.int .i64 1000))⟩,
 ⟨(some 27), none, .pick (.t 24) (.c (.bool true)) (.t 26)⟩] false)
 (.cond (.t 27)
 (.seq
 (.region [
 ⟨(some 4), none, .mv (.c (.bool true))⟩] false)
 .ret)
 .skip))
 (.seq
 (.region [
 ⟨(some 28), none, .mv (.t 0)⟩,
 ⟨(some 29), none, .call 29 [(.t 28)]⟩,
 ⟨(some 30), none, .mv (.t 1)⟩,
 ⟨(some 31), none, .call 29 [(.t 30)]⟩,
 ⟨(some 5), none, .alloc 70 [.int .i64 0, .int .i64 0, .str []]⟩,
 ⟨(some 6), none, .alloc 70 [.int .i64 0, .int .i64 0, .str []]⟩,
 ⟨none, none, .store 3 (.t 5) (.t 29)⟩,
 ⟨none, none, .store 3 (.t 6) (.t 31)⟩] false)
 (.seq
 (.region [
 ⟨(some 32), none, .build [.int .i64 0, .int .i64 0, .int .i64 0, .int .i64 0, .int .i64 0] [(0, 1, (.c (.int .i64 6))), (1, 1, (.c (.int .i64 7))), (2, 1, (.c (.int .i64 8))), (3, 1, (.c (.int .i64 9))), (4, 1, (.c (.int .i64 10)))]⟩,
 ⟨(some 7), none, .alloc 73 [.int .i64 0, .int .i64 0, .int .i64 0, .int .i64 0, .int .i64 0]⟩,
 ⟨none, none, .store 5 (.t 7) (.t 32)⟩] false)
 (.seq
 (.region [
 ⟨(some 8), none, .alloc 73 [.int .i64 0, .int .i64 0, .int .i64 0, .int .i64 0, .int .i64 0]⟩] false)
 (.seq
 (.seq
 (.region [
 ⟨(some 9), none, .mv (.c (.int .i64 0))⟩] false)
 (.block 0
 (.loop
 (.seq
 (.seq
 (.region [
 ⟨(some 33), none, .mv (.t 9)⟩,
 ⟨(some 34), none, .bin .lss (.t 33) (.c (.int .i64 5))⟩] false)
 (.cond (.t 34)
 .skip
 (.exit 0)))
 (.seq
 (.block 1
 (.seq
 (.region [
 ⟨(some 38), none, .mv (.t 9)⟩,
 ⟨(some 39), none, .iaddrA 5 1 (.t 7) (.t 38)⟩,
 ⟨(some 40), none, .load false 1 (.t 39)⟩,
 ⟨(some 41), none, .load true 3 (.t 5)⟩,
 ⟨(some 42), none, .load true 3 (.t 6)⟩,
 ⟨(some 43), none, .pcall 30 [(.t 40), (.t 41), (.t 42)]⟩,
 ⟨(some 37), none, .mv (.t 43)⟩,
 ⟨(some 44), none, .extract 0 (.t 37)⟩,
 ⟨(some 45), none, .extract 1 (.t 37)⟩,
 ⟨(some 10), none, .alloc 70 [.int .i64 0, .int .i64 0, .str []]⟩,
 ⟨none, none, .store 3 (.t 10) (.t 44)⟩,
 ⟨(some 11), none, .mv (.t 45)⟩] true)
 (.seq
 (.seq
 (.region [
 ⟨(some 46), none, .mv (.t 11)⟩,
 ⟨(some 47), none, .not (.t 46)⟩,
 ⟨(some 48), none, .mv (.t 47)⟩,
 ⟨(some 49), (some (48, false)), .faddr 0 (.t 10)⟩,
 ⟨(some 50), (some (48, false)), .load false 1 (.t 49)⟩,
 ⟨(some 51), (some (48, false)), .bin .neq (.t 50) (.c (.int .i64 1))⟩,
 ⟨(some 52), none, .pick (.t 48) (.c (.bool true)) (.t 51)⟩] false)
 (.cond (.t 52)
 (.seq
 (.region [
 ⟨(some 4), none, .mv (.c (.bool false))⟩] false)
 .ret)
 .skip))
 (.region [
 ⟨(some 53), none, .mv (.t 9)⟩,
 ⟨(some 54), none, .faddr 1 (.t 10)⟩,
 ⟨(some 55), none, .load false 1 (.t 54)⟩,
 ⟨(some 56), none, .iaddrA 5 1 (.t 8) (.t 53)⟩,
 ⟨none, none, .store 1 (.t 56) (.t 55)⟩] false))))
 (.region [
 ⟨(some 35), none, .mv (.t 9)⟩,
 ⟨(some 36), none, .bin .add (.t 35) (.c (.int .i64 1))⟩,
 ⟨(some 9), none, .mv (.t 36)⟩] false))))))
 (.seq
 (.seq
 (.region [
 ⟨(some 57), none, .iaddrA 5 1 (.t 8) (.c (.int .i64 0))⟩,
 ⟨(some 58), none, .load false 1 (.t 57)⟩,
 ⟨(some 59), none, .mv (.t 0)⟩,
 ⟨(some 60), none, .mv (.t 1)⟩,
 ⟨(some 61), none, .bin .add (.t 59) (.t 60)⟩,
 ⟨(some 62), none, .bin .neq (.t 58) (.t 61)⟩,
 ⟨(some 63), none, .mv (.t 62)⟩,
 ⟨(some 64), (some (63, false)), .iaddrA 5 1 (.t 8) (.c (.int .i64 1))⟩,
 ⟨(some 65), (some (63, false)), .load false 1 (.t 64)⟩,
 ⟨(some 66), (some (63, false)), .mv (.t 0)⟩,
 ⟨(some 67), (some (63, false)), .mv (.t 1)⟩,
 ⟨(some 68), (some (63, false)), .bin .sub (.t 66) (.t 67)⟩,
 ⟨(some 69), (some (63, false)), .bin .neq (.t 65) (.t 68)⟩,
 ⟨(some 70), none, .pick (.t 63) (.c (.bool true)) (.t 69)⟩,
 ⟨(some 71), none, .mv (.t 70)⟩,
 ⟨(some 72), (some (71, false)), .iaddrA 5 1 (.t 8) (.c (.int .i64 2))⟩,
 ⟨(some 73), (some (71, false)), .load false 1 (.t 72)⟩,
 ⟨(some 74), (some (71, false)), .mv (.t 0)⟩,
 ⟨(some 75), (some (71, false)), .mv (.t 1)⟩,
 ⟨(some 76), (some (71, false)), .bin .mul (.t 74) (.t 75)⟩,
 ⟨(some 77), (some (71, false)), .bin .neq (.t 73) (.t 76)⟩,
 ⟨(some 78), none, .pick (.t 71) (.c (.bool true)) (.t 77)⟩] false)
 (.cond (.t 78)
 (.seq
 (.region [
 ⟨(some 4), none, .mv (.c (.bool false))⟩] false)
 .ret)
 .skip))
 (.seq
 (.seq
 (.region [
 ⟨(some 79), none, .mv (.t 1)⟩,
 ⟨(some 80), none, .bin .eql (.t 79) (.c (.int .i64 0))⟩] false)
 (.cond (.t 80)
 (.seq
 (.region [
 ⟨(some 81), none, .iaddrA 5 1 (.t 8) (.c (.int .i64 3))⟩,
 ⟨(some 82), none, .load false 1 (.t 81)⟩,
 ⟨(some 83), none, .bin .eql (.t 82) (.c (.int .i64 0))⟩,
 ⟨(some 84), none, .mv (.t 83)⟩,
 ⟨(some 85), (some (84, true)), .iaddrA 5 1 (.t 8) (.c (.int .i64 4))⟩,
 ⟨(some 86), (some (84, true)), .load false 1 (.t 85)⟩,
 ⟨(some 87), (some (84, true)), .bin .eql (.t 86) (.c (.int .i64 0))⟩,
 ⟨(some 88), none, .pick (.t 84) (.t 87) (.c (.bool false))⟩,
 ⟨(some 4), none, .mv (.t 88)⟩] false)
 .ret)
 .skip))
 (.seq
 (.region [
 ⟨(some 89), none, .iaddrA 5 1 (.t 8) (.c (.int .i64 3))⟩,
 ⟨(some 90), none, .load false 1 (.t 89)⟩,
 ⟨(some 91), none, .mv (.t 1)⟩,
 ⟨(some 92), none, .bin .mul (.t 90) (.t 91)⟩,
 ⟨(some 93), none, .iaddrA 5 1 (.t 8) (.c (.int .i64 4))⟩,
 ⟨(some 94), none, .load false 1 (.t 93)⟩,
 ⟨(some 95), none, .bin .add (.t 92) (.t 94)⟩,
 ⟨(some 96), none, .mv (.t 0)⟩,
 ⟨(some 97), none, .bin .eql (.t 95) (.t 96)⟩,
 ⟨(some 98), none, .mv (.t 97)⟩,
 ⟨(some 99), (some (98, true)), .iaddrA 5 1 (.t 8) (.c (.int .i64 4))⟩,
 ⟨(some 100), (some (98, true)), .load false 1 (.t 99)⟩,
 ⟨(some 101), (some (98, true)), .iaddrA 5 1 (.t 8) (.c (.int .i64 4))⟩,
 ⟨(some 102), (some (98, true)), .load false 1 (.t 101)⟩,
 ⟨(some 103), (some (98, true)), .bin .mul (.t 100) (.t 102)⟩,
 ⟨(some 104), (some (98, true)), .mv (.t 1)⟩,
 ⟨(some 105), (some (98, true)), .mv (.t 1)⟩,
 ⟨(some 106), (some (98, true)), .bin .mul (.t 104) (.t 105)⟩,
 ⟨(some 107), (some (98, true)), .bin .lss (.t 103) (.t 106)⟩,
 ⟨(some 108), none, .pick (.t 98) (.t 107) (.c (.bool false))⟩,
 ⟨(some 109), none, .mv (.t 108)⟩,
 ⟨(some 110), (some (109, true)), .iaddrA 5 1 (.t 8) (.c (.int .i64 4))⟩,
 ⟨(some 111), (some (109, true)), .load false 1 (.t 110)⟩,
 ⟨(some 112), (some (109, true)), .mv (.t 0)⟩,
 ⟨(some 113), (some (109, true)), .bin .mul (.t 111) (.t 112)⟩,
 ⟨(some 114), (some (109, true)), .bin .geq (.t 113) (.c (.int .i64 0))⟩,
 ⟨(some 115), none, .pick (.t 109) (.t 114) (.c (.bool false))⟩,
 ⟨(some 4), none, .mv (.t 115)⟩] false)
 .ret))))))))))
def r7 : List ERes := [.t 4]

theorem c7 : chkF Try.prog Try.f7 2 e7 r7 = true := by kernel_rfl

def e24 : EC :=
 (.seq
 (.region [
 ⟨(some 0), none, .mv (.c (.bool false))⟩] false)
 (.seq
 (.region [
 ⟨(some 6), none, .build [.int .i64 0, .int .i64 0, .str []] [(0, 1, (.c (.int .i64 1))), (1, 1, (.c (.int .i64 7)))]⟩,
 ⟨(some 7), none, .build [.int .i64 0, .int .i64 0, .str []] [(0, 1, (.c (.int .i64 1))), (1, 1, (.c (.int .i64 (-2))))]⟩,
 ⟨(some 8), none, .build [.int .i64 0, .int .i64 0, .str []] [(0, 1, (.c (.int .i64 9)))]⟩,
 ⟨(some 9), none, .build [.int .i64 0, .int .i64 0, .str []] [(0, 1, (.c (.int .i64 24)))]⟩,
 ⟨(some 10), none, .bslice 88 3 4 [.int .i64 0, .int .i64 0, .str []] [(0, (.t 6)), (1, (.t 7)), (2, (.t 8)), (3, (.t 9))]⟩,
 ⟨(some 11), none, .build [.str [], .int .i64 0, .nilS, .nilS, .nilS, .nilS] [(0, 1, (.c (.str [115]))), (5, 1, (.t 10))]⟩,
 ⟨(some 1), none, .alloc 41 [.str [], .int .i64 0, .nilS, .nilS, .nilS, .nilS]⟩,
 ⟨none, none, .store 6 (.t 1) (.t 11)⟩] false)
 (.seq
 (.region [
 ⟨(some 13), none, .load true 6 (.t 1)⟩,
 ⟨(some 14), none, .call 26 [(.t 13), (.c (.int .i64 0)), (.c (.nilS)), (.c (.nilS)), (.c (.int .i64 4))]⟩,
 ⟨(some 12), none, .mv (.t 14)⟩,
 ⟨(some 15), none, .extract 0 (.t 12)⟩,
 ⟨(some 16), none, .extract 1 (.t 12)⟩,
 ⟨(some 2), none, .alloc 60 [.nilS, .nilS, .int .i64 0]⟩,
 ⟨none, none, .store 3 (.t 2) (.t 15)⟩,
 ⟨(some 3), none, .mv (.t 16)⟩] false)
 (.seq
 (.region [
 ⟨(some 18), none, .load true 6 (.t 1)⟩,
 ⟨(some 19), none, .call 26 [(.t 18), (.c (.int .i64 0)), (.c (.nilS)), (.c (.nilS)), (.c (.int .i64 3))]⟩,
 ⟨(some 17), none, .mv (.t 19)⟩,
 ⟨(some 20), none, .extract 0 (.t 17)⟩,
 ⟨(some 21), none, .extract 1 (.t 17)⟩,
 ⟨(some 4), none, .alloc 60 [.nilS, .nilS, .int .i64 0]⟩,
 ⟨none, none, .store 3 (.t 4) (.t 20)⟩,
 ⟨(some 5), none, .mv (.t 21)⟩] false)
 (.seq
 (.region [
 ⟨(some 22), none, .mv (.t 3)⟩,
 ⟨(some 23), none, .bin .eql (.t 22) (.c (.int .i64 0))⟩,
 ⟨(some 24), none, .mv (.t 23)⟩,
 ⟨(some 25), (some (24, true)), .mv (.t 5)⟩,
 ⟨(some 26), (some (24, true)), .bin .eql (.t 25) (.c (.int .i64 26))⟩,
 ⟨(some 27), none, .pick (.t 24) (.t 26) (.c (.bool false))⟩,
 ⟨(some 28), none, .mv (.t 27)⟩,
 ⟨(some 29), (some (28, true)), .faddr 2 (.t 2)⟩,
 ⟨(some 30), (some (28, true)), .load false 1 (.t 29)⟩,
 ⟨(some 31), (some (28, true)), .bin .eql (.t 30) (.c (.int .i64 4))⟩,
 ⟨(some 32), none, .pick (.t 28) (.t 31) (.c (.bool false))⟩,
 ⟨(some 33), none, .mv (.t 32)⟩,
 ⟨(some 34), (some (33, true)), .faddr 0 (.t 2)⟩,
 ⟨(some 35), (some (33, true)), .load false 1 (.t 34)⟩,
 ⟨(some 36), (some (33, true)), .len (.t 35)⟩,
 ⟨(some 37), (some (33, true)), .bin .eql (.t 36) (.c (.int .i64 1))⟩,
 ⟨(some 38), none, .pick (.t 33) (.t 37) (.c (.bool false))⟩,
 ⟨(some 39), none, .mv (.t 38)⟩,
 ⟨(some 40), (some (39, true)), .faddr 0 (.t 2)⟩,
 ⟨(some 41), (some (39, true)), .load false 1 (.t 40)⟩,
 ⟨(some 42), (some (39, true)), .iaddr 3 (.t 41) (.c (.int .i64 0))⟩,
 ⟨(some 43), (some (39, true)), .load true 3 (.t 42)⟩,
 ⟨(some 44), (some (39, true)), .pcall 29 [(.c (.int .i64 (-3)))]⟩,
 ⟨(some 45), (some (39, true)), .eqA false 70 [.i .i64, .i .i64, .s] (.t 43) (.t 44)⟩,
 ⟨(some 46), none, .pick (.t 39) (.t 45) (.c (.bool false))⟩,
 ⟨(some 47), none, .mv (.t 46)⟩,
 ⟨(some 48), (some (47, true)), .load true 6 (.t 1)⟩,
 ⟨(some 49), (some (47, true)), .pcall 28 [(.t 48), (.c (.nilS))]⟩,
 ⟨(some 50), none, .pick (.t 47) (.t 49) (.c (.bool false))⟩,
 ⟨(some 0), none, .mv (.t 50)⟩] true)
 .ret)))))
def r24 : List ERes := [.t 0]

theorem c24 : chkF Try.prog Try.f24 0 e24 r24 = true := by kernel_rfl

def e26 : EC :=
 (.seq
 (.region [
 ⟨(some 5), none, .box 41 (.t 0)⟩,
 ⟨(some 10), none, .alloc 60 [.nilS, .nilS, .int .i64 0]⟩,
 ⟨(some 11), none, .mv (.c (.int .i64 0))⟩] false)
 (.seq
 (.region [
 ⟨(some 12), none, .mv (.c (.fn 54 []))⟩] false)
 (.seq
 (.seq
 (.region [
 ⟨(some 15), none, .load true 6 (.t 5)⟩,
 ⟨(some 16), none, .mv (.t 2)⟩,
 ⟨(some 17), none, .call 28 [(.t 15), (.t 16)]⟩,
 ⟨(some 18), none, .not (.t 17)⟩,
 ⟨(some 19), none, .mv (.t 18)⟩,
 ⟨(some 20), (some (19, false)), .mv (.t 1)⟩,
 ⟨(some 21), (some (19, false)), .bin .lss (.t 20) (.c (.int .i64 0))⟩,
 ⟨(some 22), none, .pick (.t 19) (.c (.bool true)) (.t 21)⟩,
 ⟨(some 23), none, .mv (.t 22)⟩,
 ⟨(some 24), (some (23, false)), .mv (.t 1)⟩,
 ⟨(some 25), (some (23, false)), .faddr 5 (.t 5)⟩,
 ⟨(some 26), (some (23, false)), .load false 1 (.t 25)⟩,
 ⟨(some 27), (some (23, false)), .len (.t 26)⟩,
 ⟨(some 28), (some (23, false)), .bin .geq (.t 24) (.t 27)⟩,
 ⟨(some 29), none, .pick (.t 23) (.c (.bool true)) (.t 28)⟩,
 ⟨(some 30), none, .mv (.t 29)⟩,
 ⟨(some 31), (some (30, false)), .mv (.t 3)⟩,
 ⟨(some 32), (some (30, false)), .len (.t 31)⟩,
 ⟨(some 33), (some (30, false)), .bin .gtr (.t 32) (.c (.int .i64 4))⟩,
 ⟨(some 34), none, .pick (.t 30) (.c (.bool true)) (.t 33)⟩,
 ⟨(some 35), none, .mv (.t 34)⟩,
 ⟨(some 36), (some (35, false)), .mv (.t 3)⟩,
 ⟨(some 37), (some (35, false)), .mv (.t 12)⟩,
 ⟨(some 38), (some (35, false)), .call 56 [(.t 36), (.t 37)]⟩,
 ⟨(some 39), none, .pick (.t 35) (.c (.bool true)) (.t 38)⟩] false)
 (.cond (.t 39)
 (.seq
 (.region [
 ⟨(some 40), none, .build [.nilS, .nilS, .int .i64 0] []⟩,
 ⟨none, none, .store 3 (.t 10) (.t 40)⟩,
 ⟨(some 11), none, .mv (.c (.int .i64 1))⟩] false)
 .ret)
 .skip))
 (.seq
 (.region [
 ⟨(some 41), none, .load true 6 (.t 5)⟩,
 ⟨(some 42), none, .mv (.t 2)⟩,
 ⟨(some 43), none, .pcallM 70 3 57 [(.t 42)]⟩,
 ⟨(some 44), none, .mv (.t 3)⟩,
 ⟨(some 45), none, .mv (.t 1)⟩,
 ⟨(some 46), none, .build [.str [], .int .i64 0, .nilS, .nilS, .nilS, .nilS, .nilS, .nilS, .nilS, .nilS, .int .i64 0, .bool false, .bool false] [(0, 6, (.t 41)), (6, 1, (.t 43)), (7, 1, (.t 44)), (10, 1, (.t 45))]⟩,
 ⟨(some 47), none, .box 149 (.t 46)⟩,
 ⟨(some 13), none, .mv (.t 47)⟩] true)
 (.seq
 (.region [
 ⟨(some 14), none, .mv (.c (.int .i64 0))⟩] false)
 (.seq
 (.block 0
 (.loop
 (.seq
 (.seq
 (.region [
 ⟨(some 48), none, .mv (.t 13)⟩,
 ⟨(some 49), none, .nilck (.t 48)⟩,
 ⟨(some 50), none, .faddr 12 (.t 49)⟩,
 ⟨(some 51), none, .load false 1 (.t 50)⟩,
 ⟨(some 52), none, .not (.t 51)⟩] false)
 (.cond (.t 52)
 .skip
 (.exit 0)))
 (.block 1
 (.seq
 (.block 2
 (.seq
 (.region [
 ⟨(some 54), none, .mv (.t 13)⟩,
 ⟨(some 55), none, .nilck (.t 54)⟩,
 ⟨(some 56), none, .faddr 10 (.t 55)⟩,
 ⟨(some 57), none, .load false 1 (.t 56)⟩,
 ⟨(some 58), none, .faddr 5 (.t 5)⟩,
 ⟨(some 59), none, .load false 1 (.t 58)⟩,
 ⟨(some 60), none, .len (.t 59)⟩,
 ⟨(some 61), none, .bin .geq (.t 57) (.t 60)⟩,
 ⟨(some 53), none, .mv (.t 61)⟩] true)
 (.cond (.t 53)
 (.seq
 (.region [
 ⟨(some 62), none, .build [.nilS, .nilS, .int .i64 0] []⟩,
 ⟨none, none, .store 3 (.t 10) (.t 62)⟩,
 ⟨(some 11), none, .mv (.c (.int .i64 25))⟩] false)
 .ret)
 (.seq
 (.region [
 ⟨(some 64), none, .mv (.t 14)⟩,
 ⟨(some 65), none, .mv (.t 4)⟩,
 ⟨(some 66), none, .bin .geq (.t 64) (.t 65)⟩,
 ⟨(some 63), none, .mv (.t 66)⟩] false)
 (.cond (.t 63)
 (.seq
 (.region [
 ⟨(some 67), none, .build [.nilS, .nilS, .int .i64 0] []⟩,
 ⟨none, none, .store 3 (.t 10) (.t 67)⟩,
 ⟨(some 11), none, .mv (.c (.int .i64 26))⟩] false)
 .ret)
 .skip)))))
 (.seq
 (.region [
 ⟨(some 68), none, .mv (.t 14)⟩,
 ⟨(some 69), none, .bin .add (.t 68) (.c (.int .i64 1))⟩,
 ⟨(some 14), none, .mv (.t 69)⟩] false)
 (.seq
 (.region [
 ⟨(some 70), none, .mv (.t 13)⟩,
 ⟨(some 71), none, .call 58 [(.t 70)]⟩] false)
 (.seq
 (.region [
 ⟨(some 72), none, .mv (.t 13)⟩,
 ⟨(some 73), none, .nilck (.t 72)⟩,
 ⟨(some 74), none, .faddr 11 (.t 73)⟩,
 ⟨(some 75), none, .load false 1 (.t 74)⟩] false)
 (.cond (.t 75)
 (.seq
 (.region [
 ⟨(some 76), none, .build [.nilS, .nilS, .int .i64 0] []⟩,
 ⟨none, none, .store 3 (.t 10) (.t 76)⟩,
 ⟨(some 11), none, .mv (.c (.int .i64 25))⟩] false)
 .ret)
 .skip)))))))))
 (.seq
 (.region [
 ⟨(some 77), none, .mv (.t 13)⟩,
 ⟨(some 78), none, .nilck (.t 77)⟩,
 ⟨(some 79), none, .faddr 8 (.t 78)⟩,
 ⟨(some 80), none, .load false 1 (.t 79)⟩,
 ⟨(some 81), none, .mv (.t 13)⟩,
 ⟨(some 82), none, .nilck (.t 81)⟩,
 ⟨(some 83), none, .faddr 6 (.t 82)⟩,
 ⟨(some 84), none, .load false 1 (.t 83)⟩,
 ⟨(some 85), none, .mv (.t 14)⟩,
 ⟨(some 86), none, .build [.nilS, .nilS, .int .i64 0] [(0, 1, (.t 80)), (1, 1, (.t 84)), (2, 1, (.t 85))]⟩,
 ⟨none, none, .store 3 (.t 10) (.t 86)⟩,
 ⟨(some 11), none, .mv (.c (.int .i64 0))⟩] true)
 .ret)))))))
def r26 : List ERes := [.cell true 3 10, .t 11]

theorem c26 : chkF Try.prog Try.f26 5 e26 r26 = true := by kernel_rfl

def e29 : EC :=
 (.seq
 (.region [
 ⟨(some 2), none, .alloc 70 [.int .i64 0, .int .i64 0, .str []]⟩] false)
 (.seq
 (.region [
 ⟨(some 3), none, .mv (.t 0)⟩,
 ⟨(some 4), none, .build [.int .i64 0, .int .i64 0, .str []] [(0, 1, (.c (.int .i64 1))), (1, 1, (.t 3))]⟩,
 ⟨none, none, .store 3 (.t 2) (.t 4)⟩] false)
 .ret))
def r29 : List ERes := [.cell true 3 2]

theorem c29 : chkF Try.prog Try.f29 1 e29 r29 = true := by kernel_rfl

def e30 : EC :=
 (.seq
 (.region [
 ⟨(some 4), none, .box 70 (.t 1)⟩,
 ⟨(some 5), none, .box 70 (.t 2)⟩,
 ⟨(some 6), none, .alloc 70 [.int .i64 0, .int .i64 0, .str []]⟩,
 ⟨(some 7), none, .mv (.c (.bool false))⟩] false)
 (.seq
 (.region [
 ⟨(some 11), none, .build [.int .i64 0, .int .i64 0, .str []] [(0, 1, (.c (.int .i64 4)))]⟩,
 ⟨(some 12), none, .build [.int .i64 0, .int .i64 0, .str []] [(0, 1, (.c (.int .i64 4))), (1, 1, (.c (.int .i64 1)))]⟩,
 ⟨(some 13), none, .mv (.t 0)⟩,
 ⟨(some 14), none, .build [.int .i64 0, .int .i64 0, .str []] [(0, 1, (.t 13))]⟩,
 ⟨(some 15), none, .build [.int .i64 0, .int .i64 0, .str []] [(0, 1, (.c (.int .i64 24)))]⟩,
 ⟨(some 16), none, .bslice 88 3 4 [.int .i64 0, .int .i64 0, .str []] [(0, (.t 11)), (1, (.t 12)), (2, (.t 14)), (3, (.t 15))]⟩,
 ⟨(some 17), none, .build [.str [], .int .i64 0, .nilS, .nilS, .nilS, .nilS] [(0, 1, (.c (.str [115]))), (5, 1, (.t 16))]⟩,
 ⟨(some 8), none, .alloc 41 [.str [], .int .i64 0, .nilS, .nilS, .nilS, .nilS]⟩,
 ⟨none, none, .store 6 (.t 8) (.t 17)⟩] false)
 (.seq
 (.region [
 ⟨(some 19), none, .load true 6 (.t 8)⟩,
 ⟨(some 20), none, .load true 3 (.t 4)⟩,
 ⟨(some 21), none, .load true 3 (.t 5)⟩,
 ⟨(some 22), none, .bslice 70 3 2 [.int .i64 0, .int .i64 0, .str []] [(0, (.t 20)), (1, (.t 21))]⟩,
 ⟨(some 23), none, .call 26 [(.t 19), (.c (.int .i64 0)), (.c (.nilS)), (.t 22), (.c (.int .i64 9))]⟩,
 ⟨(some 18), none, .mv (.t 23)⟩,
 ⟨(some 24), none, .extract 0 (.t 18)⟩,
 ⟨(some 25), none, .extract 1 (.t 18)⟩,
 ⟨(some 9), none, .alloc 60 [.nilS, .nilS, .int .i64 0]⟩,
 ⟨none, none, .store 3 (.t 9) (.t 24)⟩,
 ⟨(some 10), none, .mv (.t 25)⟩] false)
 (.seq
 (.seq
 (.region [
 ⟨(some 26), none, .mv (.t 10)⟩,
 ⟨(some 27), none, .bin .neq (.t 26) (.c (.int .i64 0))⟩,
 ⟨(some 28), none, .mv (.t 27)⟩,
 ⟨(some 29), (some (28, false)), .faddr 0 (.t 9)⟩,
 ⟨(some 30), (some (28, false)), .load false 1 (.t 29)⟩,
 ⟨(some 31), (some (28, false)), .len (.t 30)⟩,
 ⟨(some 32), (some (28, false)), .bin .neq (.t 31) (.c (.int .i64 1))⟩,
 ⟨(some 33), none, .pick (.t 28) (.c (.bool true)) (.t 32)⟩] false)
 (.cond (.t 33)
 (.seq
 (.region [
 ⟨(some 34), none, .build [.int .i64 0, .int .i64 0, .str []] []⟩,
 ⟨none, none, .store 3 (.t 6) (.t 34)⟩,
 ⟨(some 7), none, .mv (.c (.bool false))⟩] false)
 .ret)
 .skip))
 (.seq
 (.region [
 ⟨(some 35), none, .faddr 0 (.t 9)⟩,
 ⟨(some 36), none, .load false 1 (.t 35)⟩,
 ⟨(some 37), none, .iaddr 3 (.t 36) (.c (.int .i64 0))⟩,
 ⟨(some 38), none, .load true 3 (.t 37)⟩,
 ⟨none, none, .store 3 (.t 6) (.t 38)⟩,
 ⟨(some 7), none, .mv (.c (.bool true))⟩] false)
 .ret)))))
def r30 : List ERes := [.cell true 3 6, .t 7]

theorem c30 : chkF Try.prog Try.f30 3 e30 r30 = true := by kernel_rfl

def e43 : EC :=
 (.seq
 (.region [
 ⟨(some 1), none, .box 41 (.t 0)⟩,
 ⟨(some 2), none, .mv (.c (.bool false))⟩] false)
 (.seq
 (.seq
 (.region [
 ⟨(some 5), none, .faddr 0 (.t 1)⟩,
 ⟨(some 6), none, .load false 1 (.t 5)⟩,
 ⟨(some 7), none, .call 67 [(.t 6)]⟩,
 ⟨(some 8), none, .not (.t 7)⟩,
 ⟨(some 9), none, .mv (.t 8)⟩,
 ⟨(some 10), (some (9, false)), .faddr 1 (.t 1)⟩,
 ⟨(some 11), (some (9, false)), .load false 1 (.t 10)⟩,
 ⟨(some 12), (some (9, false)), .call 68 [(.t 11), (.c (.int .i64 0)), (.c (.int .i64 5))]⟩,
 ⟨(some 13), (some (9, false)), .not (.t 12)⟩,
 ⟨(some 14), none, .pick (.t 9) (.c (.bool true)) (.t 13)⟩,
 ⟨(some 15), none, .mv (.t 14)⟩,
 ⟨(some 16), (some (15, false)), .faddr 5 (.t 1)⟩,
 ⟨(some 17), (some (15, false)), .load false 1 (.t 16)⟩,
 ⟨(some 18), (some (15, false)), .len (.t 17)⟩,
 ⟨(some 19), (some (15, false)), .call 68 [(.t 18), (.c (.int .i64 1)), (.c (.int .i64 1000))]⟩,
 ⟨(some 20), (some (15, false)), .not (.t 19)⟩,
 ⟨(some 21), none, .pick (.t 15) (.c (.bool true)) (.t 20)⟩,
 ⟨(some 22), none, .mv (.t 21)⟩,
 ⟨(some 23), (some (22, false)), .load true 6 (.t 1)⟩,
 ⟨(some 24), (some (22, false)), .call 69 [(.t 23)]⟩,
 ⟨(some 25), (some (22, false)), .not (.t 24)⟩,
 ⟨(some 26), none, .pick (.t 22) (.c (.bool true)) (.t 25)⟩,
 ⟨(some 27), none, .mv (.t 26)⟩,
 ⟨(some 28), (some (27, false)), .load true 6 (.t 1)⟩,
 ⟨(some 29), (some (27, false)), .call 70 [(.t 28)]⟩,
 ⟨(some 30), (some (27, false)), .not (.t 29)⟩,
 ⟨(some 31), none, .pick (.t 27) (.c (.bool true)) (.t 30)⟩] false)
 (.cond (.t 31)
 (.seq
 (.region [
 ⟨(some 2), none, .mv (.c (.bool false))⟩] false)
 .ret)
 .skip))
 (.seq
 (.seq
 (.region [
 ⟨(some 32), none, .faddr 5 (.t 1)⟩,
 ⟨(some 33), none, .load false 1 (.t 32)⟩,
 ⟨(some 34), none, .len (.t 33)⟩,
 ⟨(some 35), none, .mv (.c (.int .i64 0))⟩] false)
 (.block 0
 (.loop
 (.seq
 (.region [
 ⟨(some 36), none, .bin .lss (.t 35) (.t 34)⟩] false)
 (.seq
 (.cond (.t 36)
 .skip
 (.exit 0))
 (.seq
 (.block 1
 (.seq
 (.region [
 ⟨(some 37), none, .iaddr 3 (.t 33) (.t 35)⟩,
 ⟨(some 38), none, .load true 3 (.t 37)⟩,
 ⟨(some 4), none, .alloc 88 [.int .i64 0, .int .i64 0, .str []]⟩,
 ⟨none, none, .store 3 (.t 4) (.t 38)⟩] false)
 (.seq
 (.seq
 (.region [
 ⟨(some 39), none, .load true 3 (.t 4)⟩,
 ⟨(some 40), none, .call 71 [(.t 39)]⟩,
 ⟨(some 41), none, .not (.t 40)⟩] false)
 (.cond (.t 41)
 (.seq
 (.region [
 ⟨(some 2), none, .mv (.c (.bool false))⟩] false)
 .ret)
 .skip))
 (.seq
 (.region [
 ⟨(some 42), none, .faddr 0 (.t 4)⟩,
 ⟨(some 43), none, .load false 1 (.t 42)⟩] false)
 (.block 2
 (.seq
 (.seq
 (.region [
 ⟨(some 45), none, .bin .eql (.t 43) (.c (.int .i64 3))⟩,
 ⟨(some 44), none, .mv (.t 45)⟩] false)
 (.cond (.t 44)
 .skip
 (.region [
 ⟨(some 46), none, .bin .eql (.t 43) (.c (.int .i64 5))⟩,
 ⟨(some 44), none, .mv (.t 46)⟩] false)))
 (.cond (.t 44)
 (.seq
 (.region [
 ⟨(some 47), none, .faddr 1 (.t 4)⟩,
 ⟨(some 48), none, .load false 1 (.t 47)⟩,
 ⟨(some 49), none, .faddr 2 (.t 1)⟩,
 ⟨(some 50), none, .load false 1 (.t 49)⟩,
 ⟨(some 51), none, .len (.t 50)⟩,
 ⟨(some 52), none, .bin .geq (.t 48) (.t 51)⟩] false)
 (.cond (.t 52)
 (.seq
 (.region [
 ⟨(some 2), none, .mv (.c (.bool false))⟩] false)
 .ret)
 .skip))
 (.seq
 (.seq
 (.region [
 ⟨(some 54), none, .bin .eql (.t 43) (.c (.int .i64 19))⟩,
 ⟨(some 53), none, .mv (.t 54)⟩] false)
 (.cond (.t 53)
 .skip
 (.seq
 (.region [
 ⟨(some 55), none, .bin .eql (.t 43) (.c (.int .i64 20))⟩,
 ⟨(some 53), none, .mv (.t 55)⟩] false)
 (.cond (.t 53)
 .skip
 (.region [
 ⟨(some 56), none, .bin .eql (.t 43) (.c (.int .i64 22))⟩,
 ⟨(some 53), none, .mv (.t 56)⟩] false)))))
 (.cond (.t 53)
 (.seq
 (.region [
 ⟨(some 57), none, .load true 6 (.t 1)⟩,
 ⟨(some 58), none, .faddr 1 (.t 4)⟩,
 ⟨(some 59), none, .load false 1 (.t 58)⟩,
 ⟨(some 60), none, .call 72 [(.t 57), (.t 59)]⟩,
 ⟨(some 61), none, .not (.t 60)⟩] false)
 (.cond (.t 61)
 (.seq
 (.region [
 ⟨(some 2), none, .mv (.c (.bool false))⟩] false)
 .ret)
 .skip))
 .skip)))))))))
 (.region [
 ⟨(some 62), none, .bin .add (.t 35) (.c (.int .i64 1))⟩,
 ⟨(some 35), none, .mv (.t 62)⟩] false)))))))
 (.seq
 (.region [
 ⟨(some 2), none, .mv (.c (.bool true))⟩] false)
 .ret))))
def r43 : List ERes := [.t 2]

theorem c43 : chkF Try.prog Try.f43 1 e43 r43 = true := by kernel_rfl

def e54 : EC :=
 (.seq
 (.region [
 ⟨(some 1), none, .box 70 (.t 0)⟩,
 ⟨(some 2), none, .mv (.c (.bool false))⟩] false)
 (.seq
 (.region [
 ⟨(some 3), none, .load true 3 (.t 1)⟩,
 ⟨(some 4), none, .call 55 [(.t 3)]⟩,
 ⟨(some 5), none, .not (.t 4)⟩,
 ⟨(some 2), none, .mv (.t 5)⟩] false)
 .ret))
def r54 : List ERes := [.t 2]

theorem c54 : chkF Try.prog Try.f54 1 e54 r54 = true := by kernel_rfl

def e55 : EC :=
 (.seq
 (.region [
 ⟨(some 1), none, .box 70 (.t 0)⟩,
 ⟨(some 2), none, .mv (.c (.bool false))⟩] false)
 (.seq
 (.seq
 (.region [
 ⟨(some 3), none, .faddr 0 (.t 1)⟩,
 ⟨(some 4), none, .load false 1 (.t 3)⟩] false)
 (.block 0
 (.seq
 (.region [
 ⟨(some 6), none, .bin .eql (.t 4) (.c (.int .i64 1))⟩,
 ⟨(some 5), none, .mv (.t 6)⟩] false)
 (.cond (.t 5)
 (.seq
 (.region [
 ⟨(some 7), none, .faddr 1 (.t 1)⟩,
 ⟨(some 8), none, .load false 1 (.t 7)⟩,
 ⟨(some 9), none, .bin .geq (.t 8) (.c (.int .i64 (-1000)))⟩,
 ⟨(some 10), none, .mv (.t 9)⟩,
 ⟨(some 11), (some (10, true)), .faddr 1 (.t 1)⟩,
 ⟨(some 12), (some (10, true)), .load false 1 (.t 11)⟩,
 ⟨(some 13), (some (10, true)), .bin .leq (.t 12) (.c (.int .i64 1000))⟩,
 ⟨(some 14), none, .pick (.t 10) (.t 13) (.c (.bool false))⟩,
 ⟨(some 15), none, .mv (.t 14)⟩,
 ⟨(some 16), (some (15, true)), .faddr 2 (.t 1)⟩,
 ⟨(some 17), (some (15, true)), .load false 1 (.t 16)⟩,
 ⟨(some 18), (some (15, true)), .bin .eql (.t 17) (.c (.str []))⟩,
 ⟨(some 19), none, .pick (.t 15) (.t 18) (.c (.bool false))⟩,
 ⟨(some 2), none, .mv (.t 19)⟩] false)
 .ret)
 (.seq
 (.region [
 ⟨(some 21), none, .bin .eql (.t 4) (.c (.int .i64 2))⟩,
 ⟨(some 20), none, .mv (.t 21)⟩] false)
 (.cond (.t 20)
 (.seq
 (.region [
 ⟨(some 22), none, .faddr 1 (.t 1)⟩,
 ⟨(some 23), none, .load false 1 (.t 22)⟩,
 ⟨(some 24), none, .bin .eql (.t 23) (.c (.int .i64 0))⟩,
 ⟨(some 25), none, .mv (.t 24)⟩,
 ⟨(some 26), (some (25, true)), .faddr 2 (.t 1)⟩,
 ⟨(some 27), (some (25, true)), .load false 1 (.t 26)⟩,
 ⟨(some 28), (some (25, true)), .lenS (.t 27)⟩,
 ⟨(some 29), (some (25, true)), .bin .leq (.t 28) (.c (.int .i64 40))⟩,
 ⟨(some 30), none, .pick (.t 25) (.t 29) (.c (.bool false))⟩,
 ⟨(some 31), none, .mv (.t 30)⟩,
 ⟨(some 32), (some (31, true)), .faddr 2 (.t 1)⟩,
 ⟨(some 33), (some (31, true)), .load false 1 (.t 32)⟩,
 ⟨(some 34), (some (31, true)), .call 85 [(.t 33)]⟩,
 ⟨(some 35), none, .pick (.t 31) (.t 34) (.c (.bool false))⟩,
 ⟨(some 2), none, .mv (.t 35)⟩] false)
 .ret)
 .skip))))))
 (.seq
 (.region [
 ⟨(some 2), none, .mv (.c (.bool false))⟩] false)
 .ret)))
def r55 : List ERes := [.t 2]

theorem c55 : chkF Try.prog Try.f55 1 e55 r55 = true := by kernel_rfl

def e56 : EC :=
 (.seq
 (.region [
 ⟨(some 4), none, .mv (.c (.bool false))⟩] false)
 (.seq
 (.region [
 ⟨(some 5), none, .mv (.t 0)⟩,
 ⟨(some 6), none, .mv (.t 1)⟩,
 ⟨(some 7), none, .call 86 [(.t 5), (.t 6)]⟩,
 ⟨(some 8), none, .bin .geq (.t 7) (.c (.int .i64 0))⟩,
 ⟨(some 4), none, .mv (.t 8)⟩] false)
 .ret))
def r56 : List ERes := [.t 4]

theorem c56 : chkF Try.prog Try.f56 2 e56 r56 = true := by kernel_rfl

def e57 : EC :=
 (.seq
 (.region [
 ⟨(some 2), none, .mv (.c (.nilS))⟩] false)
 (.seq
 (.seq
 (.region [
 ⟨(some 3), none, .mv (.t 0)⟩,
 ⟨(some 4), none, .isnil false (.t 3)⟩] false)
 (.cond (.t 4)
 (.seq
 (.region [
 ⟨(some 2), none, .mv (.c (.nilS))⟩] false)
 .ret)
 .skip))
 (.seq
 (.region [
 ⟨(some 5), none, .bsliceM 70 3 0 [.int .i64 0, .int .i64 0, .str []] []⟩,
 ⟨(some 6), none, .mv (.t 0)⟩,
 ⟨(some 7), none, .appendM 70 3 32 (.t 5) (.t 6)⟩,
 ⟨(some 2), none, .mv (.t 7)⟩] false)
 .ret)))
def r57 : List ERes := [.t 2]

theorem c57 : chkF Try.prog Try.f57 1 e57 r57 = true := by kernel_rfl

def e58 : EC :=
 (.seq
 (.region [
 ⟨(some 3), none, .mv (.t 0)⟩,
 ⟨(some 4), none, .nilck (.t 3)⟩,
 ⟨(some 5), none, .faddr 0 (.t 4)⟩,
 ⟨(some 6), none, .faddr 5 (.t 5)⟩,
 ⟨(some 7), none, .load false 1 (.t 6)⟩,
 ⟨(some 8), none, .mv (.t 0)⟩,
 ⟨(some 9), none, .nilck (.t 8)⟩,
 ⟨(some 10), none, .faddr 10 (.t 9)⟩,
 ⟨(some 11), none, .load false 1 (.t 10)⟩,
 ⟨(some 12), none, .iaddr 3 (.t 7) (.t 11)⟩,
 ⟨(some 13), none, .load true 3 (.t 12)⟩,
 ⟨(some 2), none, .alloc 88 [.int .i64 0, .int .i64 0, .str []]⟩,
 ⟨none, none, .store 3 (.t 2) (.t 13)⟩] true)
 (.seq
 (.region [
 ⟨(some 14), none, .mv (.t 0)⟩,
 ⟨(some 15), none, .nilck (.t 14)⟩,
 ⟨(some 16), none, .faddr 10 (.t 15)⟩,
 ⟨(some 17), none, .load false 1 (.t 16)⟩,
 ⟨(some 18), none, .bin .add (.t 17) (.c (.int .i64 1))⟩,
 ⟨(some 19), none, .nilck (.t 14)⟩,
 ⟨(some 20), none, .faddr 10 (.t 19)⟩,
 ⟨none, none, .store 1 (.t 20) (.t 18)⟩] false)
 (.seq
 (.region [
 ⟨(some 21), none, .faddr 0 (.t 2)⟩,
 ⟨(some 22), none, .load false 1 (.t 21)⟩] false)
 (.block 0
 (.seq
 (.region [
 ⟨(some 27), none, .bin .eql (.t 22) (.c (.int .i64 1))⟩,
 ⟨(some 26), none, .mv (.t 27)⟩] false)
 (.cond (.t 26)
 (.region [
 ⟨(some 28), none, .mv (.t 0)⟩,
 ⟨(some 29), none, .faddr 1 (.t 2)⟩,
 ⟨(some 30), none, .load false 1 (.t 29)⟩,
 ⟨(some 31), none, .call 88 [(.t 30)]⟩,
 ⟨(some 32), none, .call 87 [(.t 28), (.t 31)]⟩] false)
 (.seq
 (.region [
 ⟨(some 34), none, .bin .eql (.t 22) (.c (.int .i64 2))⟩,
 ⟨(some 33), none, .mv (.t 34)⟩] false)
 (.cond (.t 33)
 (.region [
 ⟨(some 35), none, .mv (.t 0)⟩,
 ⟨(some 36), none, .faddr 2 (.t 2)⟩,
 ⟨(some 37), none, .load false 1 (.t 36)⟩,
 ⟨(some 38), none, .build [.int .i64 0, .int .i64 0, .str []] [(0, 1, (.c (.int .i64 2))), (2, 1, (.t 37))]⟩,
 ⟨(some 39), none, .call 87 [(.t 35), (.t 38)]⟩] false)
 (.seq
 (.region [
 ⟨(some 41), none, .bin .eql (.t 22) (.c (.int .i64 3))⟩,
 ⟨(some 40), none, .mv (.t 41)⟩] false)
 (.cond (.t 40)
 (.region [
 ⟨(some 42), none, .mv (.t 0)⟩,
 ⟨(some 43), none, .mv (.t 0)⟩,
 ⟨(some 44), none, .nilck (.t 43)⟩,
 ⟨(some 45), none, .faddr 6 (.t 44)⟩,
 ⟨(some 46), none, .load false 1 (.t 45)⟩,
 ⟨(some 47), none, .faddr 1 (.t 2)⟩,
 ⟨(some 48), none, .load false 1 (.t 47)⟩,
 ⟨(some 49), none, .iaddrM 3 (.t 46) (.t 48)⟩,
 ⟨(some 50), none, .loadM true 3 (.t 49)⟩,
 ⟨(some 51), none, .call 87 [(.t 42), (.t 50)]⟩] true)
 (.seq
 (.region [
 ⟨(some 53), none, .bin .eql (.t 22) (.c (.int .i64 4))⟩,
 ⟨(some 52), none, .mv (.t 53)⟩] false)
 (.cond (.t 52)
 (.seq
 (.seq
 (.region [
 ⟨(some 54), none, .faddr 1 (.t 2)⟩,
 ⟨(some 55), none, .load false 1 (.t 54)⟩,
 ⟨(some 56), none, .mv (.t 0)⟩,
 ⟨(some 57), none, .nilck (.t 56)⟩,
 ⟨(some 58), none, .faddr 7 (.t 57)⟩,
 ⟨(some 59), none, .load false 1 (.t 58)⟩,
 ⟨(some 60), none, .len (.t 59)⟩,
 ⟨(some 61), none, .bin .geq (.t 55) (.t 60)⟩] true)
 (.cond (.t 61)
 (.seq
 (.region [
 ⟨(some 62), none, .mv (.t 0)⟩,
 ⟨(some 63), none, .nilck (.t 62)⟩,
 ⟨(some 64), none, .faddr 11 (.t 63)⟩,
 ⟨none, none, .store 1 (.t 64) (.c (.bool true))⟩] false)
 .ret)
 .skip))
 (.region [
 ⟨(some 65), none, .mv (.t 0)⟩,
 ⟨(some 66), none, .mv (.t 0)⟩,
 ⟨(some 67), none, .nilck (.t 66)⟩,
 ⟨(some 68), none, .faddr 7 (.t 67)⟩,
 ⟨(some 69), none, .load false 1 (.t 68)⟩,
 ⟨(some 70), none, .faddr 1 (.t 2)⟩,
 ⟨(some 71), none, .load false 1 (.t 70)⟩,
 ⟨(some 72), none, .iaddr 3 (.t 69) (.t 71)⟩,
 ⟨(some 73), none, .load true 3 (.t 72)⟩,
 ⟨(some 74), none, .call 87 [(.t 65), (.t 73)]⟩] true))
 (.seq
 (.region [
 ⟨(some 76), none, .bin .eql (.t 22) (.c (.int .i64 5))⟩,
 ⟨(some 75), none, .mv (.t 76)⟩] false)
 (.cond (.t 75)
 (.region [
 ⟨(some 77), none, .mv (.t 0)⟩,
 ⟨(some 78), none, .faddr 1 (.t 2)⟩,
 ⟨(some 79), none, .load false 1 (.t 78)⟩,
 ⟨(some 80), none, .call 89 [(.t 77), (.t 79)]⟩] false)
 (.seq
 (.region [
 ⟨(some 82), none, .bin .eql (.t 22) (.c (.int .i64 11))⟩,
 ⟨(some 81), none, .mv (.t 82)⟩] false)
 (.cond (.t 81)
 (.region [
 ⟨(some 83), none, .mv (.t 0)⟩,
 ⟨(some 84), none, .mv (.t 0)⟩,
 ⟨(some 85), none, .call 91 [(.t 84), (.c (.int .i64 1))]⟩,
 ⟨(some 86), none, .field false 1 1 (.t 85)⟩,
 ⟨(some 87), none, .neg (.t 86)⟩,
 ⟨(some 88), none, .call 90 [(.t 83), (.t 87)]⟩] false)
 (.seq
 (.region [
 ⟨(some 90), none, .bin .eql (.t 22) (.c (.int .i64 14))⟩,
 ⟨(some 89), none, .mv (.t 90)⟩] false)
 (.cond (.t 89)
 (.region [
 ⟨(some 91), none, .mv (.t 0)⟩,
 ⟨(some 92), none, .mv (.t 0)⟩,
 ⟨(some 93), none, .call 91 [(.t 92), (.c (.int .i64 1))]⟩,
 ⟨(some 94), none, .field false 1 1 (.t 93)⟩,
 ⟨(some 95), none, .bin .eql (.t 94) (.c (.int .i64 0))⟩,
 ⟨(some 96), none, .call 92 [(.t 95)]⟩,
 ⟨(some 97), none, .call 90 [(.t 91), (.t 96)]⟩] false)
 (.seq
 (.seq
 (.region [
 ⟨(some 99), none, .bin .eql (.t 22) (.c (.int .i64 12))⟩,
 ⟨(some 98), none, .mv (.t 99)⟩] false)
 (.cond (.t 98)
 .skip
 (.seq
 (.region [
 ⟨(some 100), none, .bin .eql (.t 22) (.c (.int .i64 17))⟩,
 ⟨(some 98), none, .mv (.t 100)⟩] false)
 (.cond (.t 98)
 .skip
 (.region [
 ⟨(some 101), none, .bin .eql (.t 22) (.c (.int .i64 18))⟩,
 ⟨(some 98), none, .mv (.t 101)⟩] false)))))
 (.cond (.t 98)
 (.region [
 ⟨(some 102), none, .mv (.t 0)⟩,
 ⟨(some 103), none, .faddr 0 (.t 2)⟩,
 ⟨(some 104), none, .load false 1 (.t 103)⟩,
 ⟨(some 105), none, .call 93 [(.t 102), (.t 104)]⟩] false)
 (.seq
 (.seq
 (.region [
 ⟨(some 107), none, .bin .eql (.t 22) (.c (.int .i64 6))⟩,
 ⟨(some 106), none, .mv (.t 107)⟩] false)
 (.cond (.t 106)
 .skip
 (.seq
 (.region [
 ⟨(some 108), none, .bin .eql (.t 22) (.c (.int .i64 7))⟩,
 ⟨(some 106), none, .mv (.t 108)⟩] false)
 (.cond (.t 106)
 .skip
 (.seq
 (.region [
 ⟨(some 109), none, .bin .eql (.t 22) (.c (.int .i64 8))⟩,
 ⟨(some 106), none, .mv (.t 109)⟩] false)
 (.cond (.t 106)
 .skip
 (.seq
 (.region [
 ⟨(some 110), none, .bin .eql (.t 22) (.c (.int .i64 9))⟩,
 ⟨(some 106), none, .mv (.t 110)⟩] false)
 (.cond (.t 106)
 .skip
 (.seq
 (.region [
 ⟨(some 111), none, .bin .eql (.t 22) (.c (.int .i64 10))⟩,
 ⟨(some 106), none, .mv (.t 111)⟩] false)
 (.cond (.t 106)
 .skip
 (.seq
 (.region [
 ⟨(some 112), none, .bin .eql (.t 22) (.c (.int .i64 13))⟩,
 ⟨(some 106), none, .mv (.t 112)⟩] false)
 (.cond (.t 106)
 .skip
 (.seq
 (.region [
 ⟨(some 113), none, .bin .eql (.t 22) (.c (.int .i64 15))⟩,
 ⟨(some 106), none, .mv (.t 113)⟩] false)
 (.cond (.t 106)
 .skip
 (.region [
 ⟨(some 114), none, .bin .eql (.t 22) (.c (.int .i64 16))⟩,
 ⟨(some 106), none, .mv (.t 114)⟩] false)))))))))))))))
 (.cond (.t 106)
 (.region [
 ⟨(some 115), none, .mv (.t 0)⟩,
 ⟨(some 116), none, .faddr 0 (.t 2)⟩,
 ⟨(some 117), none, .load false 1 (.t 116)⟩,
 ⟨(some 118), none, .call 94 [(.t 115), (.t 117)]⟩] false)
 (.region [
 ⟨(some 23), none, .mv (.t 0)⟩,
 ⟨(some 24), none, .load true 3 (.t 2)⟩,
 ⟨(some 25), none, .call 95 [(.t 23), (.t 24)]⟩] false)))))))))))))))))))))))
def r58 : List ERes := []

theorem c58 : chkF Try.prog Try.f58 1 e58 r58 = true := by kernel_rfl

def e59 : EC :=
 (.seq
 (.region [
 ⟨(some 6), none, .mv (.c (.bool false))⟩] false)
 (.seq
 (.seq
 (.region [
 ⟨(some 10), none, .mv (.t 0)⟩,
 ⟨(some 11), none, .len (.t 10)⟩,
 ⟨(some 12), none, .mv (.t 1)⟩,
 ⟨(some 13), none, .len (.t 12)⟩,
 ⟨(some 14), none, .bin .neq (.t 11) (.t 13)⟩] false)
 (.cond (.t 14)
 (.seq
 (.region [
 ⟨(some 6), none, .mv (.c (.bool false))⟩] false)
 .ret)
 .skip))
 (.seq
 (.seq
 (.region [
 ⟨(some 15), none, .mv (.t 0)⟩,
 ⟨(some 16), none, .len (.t 15)⟩,
 ⟨(some 17), none, .mv (.c (.int .i64 0))⟩] false)
 (.block 0
 (.loop
 (.seq
 (.region [
 ⟨(some 18), none, .bin .lss (.t 17) (.t 16)⟩] false)
 (.seq
 (.cond (.t 18)
 .skip
 (.exit 0))
 (.seq
 (.block 1
 (.seq
 (.region [
 ⟨(some 19), none, .mv (.t 17)⟩,
 ⟨(some 20), none, .iaddr 7 (.t 15) (.t 17)⟩,
 ⟨(some 21), none, .load true 7 (.t 20)⟩,
 ⟨(some 8), none, .alloc 87 [.str [], .int .i64 0, .int .i64 0, .int .i64 0, .int .i64 0, .int .i64 0, .str []]⟩,
 ⟨(some 7), none, .mv (.t 19)⟩,
 ⟨none, none, .store 7 (.t 8) (.t 21)⟩] false)
 (.seq
 (.region [
 ⟨(some 22), none, .mv (.t 1)⟩,
 ⟨(some 23), none, .mv (.t 7)⟩,
 ⟨(some 24), none, .iaddr 3 (.t 22) (.t 23)⟩,
 ⟨(some 25), none, .load true 3 (.t 24)⟩,
 ⟨(some 9), none, .alloc 70 [.int .i64 0, .int .i64 0, .str []]⟩,
 ⟨none, none, .store 3 (.t 9) (.t 25)⟩] false)
 (.seq
 (.region [
 ⟨(some 26), none, .mv (.t 2)⟩,
 ⟨(some 27), none, .load true 7 (.t 8)⟩,
 ⟨(some 28), none, .load true 3 (.t 9)⟩,
 ⟨(some 29), none, .callv (.t 26) [(.t 27), (.t 28)]⟩,
 ⟨(some 30), none, .not (.t 29)⟩] false)
 (.cond (.t 30)
 (.seq
 (.region [
 ⟨(some 6), none, .mv (.c (.bool false))⟩] false)
 .ret)
 .skip)))))
 (.region [
 ⟨(some 31), none, .bin .add (.t 17) (.c (.int .i64 1))⟩,
 ⟨(some 17), none, .mv (.t 31)⟩] false)))))))
 (.seq
 (.region [
 ⟨(some 6), none, .mv (.c (.bool true))⟩] false)
 .ret))))
def r59 : List ERes := [.t 6]

theorem c59 : chkF Try.prog Try.f59 3 e59 r59 = true := by kernel_rfl

def e60 : EC :=
 (.seq
 (.region [
 ⟨(some 2), none, .box 87 (.t 0)⟩,
 ⟨(some 3), none, .box 70 (.t 1)⟩,
 ⟨(some 4), none, .mv (.c (.bool false))⟩] false)
 (.seq
 (.region [
 ⟨(some 5), none, .faddr 1 (.t 2)⟩,
 ⟨(some 6), none, .load true 3 (.t 5)⟩,
 ⟨(some 7), none, .load true 3 (.t 3)⟩,
 ⟨(some 8), none, .call 61 [(.t 6), (.t 7)]⟩,
 ⟨(some 4), none, .mv (.t 8)⟩] false)
 .ret))
def r60 : List ERes := [.t 4]

theorem c60 : chkF Try.prog Try.f60 2 e60 r60 = true := by kernel_rfl

def e61 : EC :=
 (.seq
 (.region [
 ⟨(some 2), none, .box 85 (.t 0)⟩,
 ⟨(some 3), none, .box 70 (.t 1)⟩,
 ⟨(some 4), none, .mv (.c (.bool false))⟩] false)
 (.seq
 (.region [
 ⟨(some 6), none, .load true 3 (.t 3)⟩,
 ⟨(some 7), none, .call 96 [(.t 6)]⟩,
 ⟨(some 5), none, .mv (.t 7)⟩] false)
 (.seq
 (.region [
 ⟨(some 8), none, .load true 3 (.t 2)⟩,
 ⟨(some 9), none, .call 97 [(.t 8)]⟩,
 ⟨(some 10), none, .mv (.t 9)⟩,
 ⟨(some 11), (some (10, true)), .load true 3 (.t 3)⟩,
 ⟨(some 12), (some (10, true)), .call 55 [(.t 11)]⟩,
 ⟨(some 13), none, .pick (.t 10) (.t 12) (.c (.bool false))⟩,
 ⟨(some 14), none, .mv (.t 13)⟩,
 ⟨(some 15), (some (14, true)), .faddr 0 (.t 2)⟩,
 ⟨(some 16), (some (14, true)), .load false 1 (.t 15)⟩,
 ⟨(some 17), (some (14, true)), .faddr 0 (.t 3)⟩,
 ⟨(some 18), (some (14, true)), .load false 1 (.t 17)⟩,
 ⟨(some 19), (some (14, true)), .bin .eql (.t 16) (.t 18)⟩,
 ⟨(some 20), none, .pick (.t 14) (.t 19) (.c (.bool false))⟩,
 ⟨(some 21), none, .mv (.t 20)⟩,
 ⟨(some 22), (some (21, true)), .mv (.t 5)⟩,
 ⟨(some 23), (some (21, true)), .faddr 1 (.t 2)⟩,
 ⟨(some 24), (some (21, true)), .load false 1 (.t 23)⟩,
 ⟨(some 25), (some (21, true)), .bin .geq (.t 22) (.t 24)⟩,
 ⟨(some 26), none, .pick (.t 21) (.t 25) (.c (.bool false))⟩,
 ⟨(some 27), none, .mv (.t 26)⟩,
 ⟨(some 28), (some (27, true)), .mv (.t 5)⟩,
 ⟨(some 29), (some (27, true)), .faddr 2 (.t 2)⟩,
 ⟨(some 30), (some (27, true)), .load false 1 (.t 29)⟩,
 ⟨(some 31), (some (27, true)), .bin .leq (.t 28) (.t 30)⟩,
 ⟨(some 32), none, .pick (.t 27) (.t 31) (.c (.bool false))⟩,
 ⟨(some 4), none, .mv (.t 32)⟩] false)
 .ret)))
def r61 : List ERes := [.t 4]

theorem c61 : chkF Try.prog Try.f61 2 e61 r61 = true := by kernel_rfl

def e67 : EC :=
 (.seq
 (.region [
 ⟨(some 2), none, .mv (.c (.bool false))⟩] false)
 (.seq
 (.seq
 (.region [
 ⟨(some 4), none, .mv (.t 0)⟩,
 ⟨(some 5), none, .bin .eql (.t 4) (.c (.str []))⟩,
 ⟨(some 6), none, .mv (.t 5)⟩,
 ⟨(some 7), (some (6, false)), .mv (.t 0)⟩,
 ⟨(some 8), (some (6, false)), .lenS (.t 7)⟩,
 ⟨(some 9), (some (6, false)), .bin .gtr (.t 8) (.c (.int .i64 16))⟩,
 ⟨(some 10), none, .pick (.t 6) (.c (.bool true)) (.t 9)⟩,
 ⟨(some 11), none, .mv (.t 10)⟩,
 ⟨(some 12), (some (11, false)), .mv (.t 0)⟩,
 ⟨(some 13), (some (11, false)), .idxS (.t 12) (.c (.int .i64 0))⟩,
 ⟨(some 14), (some (11, false)), .call 106 [(.t 13)]⟩,
 ⟨(some 15), (some (11, false)), .not (.t 14)⟩,
 ⟨(some 16), none, .pick (.t 11) (.c (.bool true)) (.t 15)⟩] false)
 (.cond (.t 16)
 (.seq
 (.region [
 ⟨(some 2), none, .mv (.c (.bool false))⟩] false)
 .ret)
 .skip))
 (.seq
 (.seq
 (.region [
 ⟨(some 17), none, .mv (.t 0)⟩,
 ⟨(some 18), none, .lenS (.t 17)⟩,
 ⟨(some 19), none, .mv (.c (.int .i64 0))⟩] false)
 (.block 0
 (.loop
 (.seq
 (.region [
 ⟨(some 20), none, .bin .lss (.t 19) (.t 18)⟩] false)
 (.seq
 (.cond (.t 20)
 .skip
 (.exit 0))
 (.seq
 (.block 1
 (.seq
 (.region [
 ⟨(some 21), none, .mv (.t 19)⟩,
 ⟨(some 3), none, .mv (.t 21)⟩] false)
 (.seq
 (.region [
 ⟨(some 22), none, .mv (.t 0)⟩,
 ⟨(some 23), none, .mv (.t 3)⟩,
 ⟨(some 24), none, .idxS (.t 22) (.t 23)⟩,
 ⟨(some 25), none, .call 107 [(.t 24)]⟩,
 ⟨(some 26), none, .not (.t 25)⟩] false)
 (.cond (.t 26)
 (.seq
 (.region [
 ⟨(some 2), none, .mv (.c (.bool false))⟩] false)
 .ret)
 .skip))))
 (.region [
 ⟨(some 27), none, .bin .add (.t 19) (.c (.int .i64 1))⟩,
 ⟨(some 19), none, .mv (.t 27)⟩] false)))))))
 (.seq
 (.region [
 ⟨(some 2), none, .mv (.c (.bool true))⟩] false)
 .ret))))
def r67 : List ERes := [.t 2]

theorem c67 : chkF Try.prog Try.f67 1 e67 r67 = true := by kernel_rfl

def e68 : EC :=
 (.seq
 (.region [
 ⟨(some 6), none, .mv (.c (.bool false))⟩] false)
 (.seq
 (.region [
 ⟨(some 7), none, .mv (.t 0)⟩,
 ⟨(some 8), none, .mv (.t 1)⟩,
 ⟨(some 9), none, .bin .geq (.t 7) (.t 8)⟩,
 ⟨(some 10), none, .mv (.t 9)⟩,
 ⟨(some 11), (some (10, true)), .mv (.t 0)⟩,
 ⟨(some 12), (some (10, true)), .mv (.t 2)⟩,
 ⟨(some 13), (some (10, true)), .bin .leq (.t 11) (.t 12)⟩,
 ⟨(some 14), none, .pick (.t 10) (.t 13) (.c (.bool false))⟩,
 ⟨(some 6), none, .mv (.t 14)⟩] false)
 .ret))
def r68 : List ERes := [.t 6]

theorem c68 : chkF Try.prog Try.f68 3 e68 r68 = true := by kernel_rfl

def e69 : EC :=
 (.seq
 (.region [
 ⟨(some 1), none, .box 41 (.t 0)⟩,
 ⟨(some 2), none, .mv (.c (.bool false))⟩] false)
 (.seq
 (.seq
 (.region [
 ⟨(some 6), none, .faddr 2 (.t 1)⟩,
 ⟨(some 7), none, .load false 1 (.t 6)⟩,
 ⟨(some 8), none, .len (.t 7)⟩,
 ⟨(some 9), none, .mv (.c (.int .i64 0))⟩] false)
 (.block 0
 (.loop
 (.seq
 (.region [
 ⟨(some 10), none, .bin .lss (.t 9) (.t 8)⟩] false)
 (.seq
 (.cond (.t 10)
 .skip
 (.exit 0))
 (.seq
 (.block 1
 (.seq
 (.region [
 ⟨(some 11), none, .mv (.t 9)⟩,
 ⟨(some 12), none, .iaddr 7 (.t 7) (.t 9)⟩,
 ⟨(some 13), none, .load true 7 (.t 12)⟩,
 ⟨(some 4), none, .alloc 87 [.str [], .int .i64 0, .int .i64 0, .int .i64 0, .int .i64 0, .int .i64 0, .str []]⟩,
 ⟨(some 3), none, .mv (.t 11)⟩,
 ⟨none, none, .store 7 (.t 4) (.t 13)⟩] false)
 (.seq
 (.region [
 ⟨(some 14), none, .mkfn 108 [(.t 4)]⟩,
 ⟨(some 5), none, .mv (.t 14)⟩] false)
 (.seq
 (.region [
 ⟨(some 15), none, .faddr 0 (.t 4)⟩,
 ⟨(some 16), none, .load false 1 (.t 15)⟩,
 ⟨(some 17), none, .call 67 [(.t 16)]⟩,
 ⟨(some 18), none, .not (.t 17)⟩,
 ⟨(some 19), none, .mv (.t 18)⟩,
 ⟨(some 20), (some (19, false)), .faddr 2 (.t 1)⟩,
 ⟨(some 21), (some (19, false)), .load false 1 (.t 20)⟩,
 ⟨(some 22), (some (19, false)), .mv (.t 5)⟩,
 ⟨(some 23), (some (19, false)), .call 109 [(.t 21), (.t 22)]⟩,
 ⟨(some 24), (some (19, false)), .mv (.t 3)⟩,
 ⟨(some 25), (some (19, false)), .bin .neq (.t 23) (.t 24)⟩,
 ⟨(some 26), none, .pick (.t 19) (.c (.bool true)) (.t 25)⟩,
 ⟨(some 27), none, .mv (.t 26)⟩,
 ⟨(some 28), (some (27, false)), .faddr 1 (.t 4)⟩,
 ⟨(some 29), (some (27, false)), .load true 3 (.t 28)⟩,
 ⟨(some 30), (some (27, false)), .faddr 4 (.t 4)⟩,
 ⟨(some 31), (some (27, false)), .load true 3 (.t 30)⟩,
 ⟨(some 32), (some (27, false)), .call 61 [(.t 29), (.t 31)]⟩,
 ⟨(some 33), (some (27, false)), .not (.t 32)⟩,
 ⟨(some 34), none, .pick (.t 27) (.c (.bool true)) (.t 33)⟩] false)
 (.cond (.t 34)
 (.seq
 (.region [
 ⟨(some 2), none, .mv (.c (.bool false))⟩] false)
 .ret)
 .skip)))))
 (.region [
 ⟨(some 35), none, .bin .add (.t 9) (.c (.int .i64 1))⟩,
 ⟨(some 9), none, .mv (.t 35)⟩] false)))))))
 (.seq
 (.region [
 ⟨(some 36), none, .faddr 2 (.t 1)⟩,
 ⟨(some 37), none, .load false 1 (.t 36)⟩,
 ⟨(some 38), none, .len (.t 37)⟩,
 ⟨(some 39), none, .bin .leq (.t 38) (.c (.int .i64 12))⟩,
 ⟨(some 2), none, .mv (.t 39)⟩] false)
 .ret)))
def r69 : List ERes := [.t 2]

theorem c69 : chkF Try.prog Try.f69 1 e69 r69 = true := by kernel_rfl

def e70 : EC :=
 (.seq
 (.region [
 ⟨(some 1), none, .box 41 (.t 0)⟩,
 ⟨(some 2), none, .mv (.c (.bool false))⟩] false)
 (.seq
 (.seq
 (.region [
 ⟨(some 8), none, .faddr 3 (.t 1)⟩,
 ⟨(some 9), none, .load false 1 (.t 8)⟩,
 ⟨(some 10), none, .len (.t 9)⟩,
 ⟨(some 11), none, .mv (.c (.int .i64 0))⟩] false)
 (.block 0
 (.loop
 (.seq
 (.region [
 ⟨(some 12), none, .bin .lss (.t 11) (.t 10)⟩] false)
 (.seq
 (.cond (.t 12)
 .skip
 (.exit 0))
 (.seq
 (.block 1
 (.seq
 (.region [
 ⟨(some 13), none, .mv (.t 11)⟩,
 ⟨(some 14), none, .iaddr 3 (.t 9) (.t 11)⟩,
 ⟨(some 15), none, .load true 3 (.t 14)⟩,
 ⟨(some 4), none, .alloc 128 [.int .i64 0, .int .i64 0, .int .i64 0]⟩,
 ⟨(some 3), none, .mv (.t 13)⟩,
 ⟨none, none, .store 3 (.t 4) (.t 15)⟩] false)
 (.seq
 (.region [
 ⟨(some 16), none, .mkfn 110 [(.t 4)]⟩,
 ⟨(some 5), none, .mv (.t 16)⟩] false)
 (.seq
 (.region [
 ⟨(some 17), none, .load true 6 (.t 1)⟩,
 ⟨(some 18), none, .faddr 0 (.t 4)⟩,
 ⟨(some 19), none, .load false 1 (.t 18)⟩,
 ⟨(some 20), none, .faddr 1 (.t 4)⟩,
 ⟨(some 21), none, .load false 1 (.t 20)⟩,
 ⟨(some 22), none, .call 111 [(.t 17), (.t 19), (.t 21)]⟩,
 ⟨(some 23), none, .not (.t 22)⟩,
 ⟨(some 24), none, .mv (.t 23)⟩,
 ⟨(some 25), (some (24, false)), .load true 6 (.t 1)⟩,
 ⟨(some 26), (some (24, false)), .faddr 2 (.t 4)⟩,
 ⟨(some 27), (some (24, false)), .load false 1 (.t 26)⟩,
 ⟨(some 28), (some (24, false)), .call 72 [(.t 25), (.t 27)]⟩,
 ⟨(some 29), (some (24, false)), .not (.t 28)⟩,
 ⟨(some 30), none, .pick (.t 24) (.c (.bool true)) (.t 29)⟩,
 ⟨(some 31), none, .mv (.t 30)⟩,
 ⟨(some 32), (some (31, false)), .faddr 3 (.t 1)⟩,
 ⟨(some 33), (some (31, false)), .load false 1 (.t 32)⟩,
 ⟨(some 34), (some (31, false)), .mv (.t 5)⟩,
 ⟨(some 35), (some (31, false)), .call 112 [(.t 33), (.t 34)]⟩,
 ⟨(some 36), (some (31, false)), .mv (.t 3)⟩,
 ⟨(some 37), (some (31, false)), .bin .neq (.t 35) (.t 36)⟩,
 ⟨(some 38), none, .pick (.t 31) (.c (.bool true)) (.t 37)⟩] false)
 (.cond (.t 38)
 (.seq
 (.region [
 ⟨(some 2), none, .mv (.c (.bool false))⟩] false)
 .ret)
 .skip)))))
 (.region [
 ⟨(some 39), none, .bin .add (.t 11) (.c (.int .i64 1))⟩,
 ⟨(some 11), none, .mv (.t 39)⟩] false)))))))
 (.seq
 (.seq
 (.region [
 ⟨(some 40), none, .faddr 4 (.t 1)⟩,
 ⟨(some 41), none, .load false 1 (.t 40)⟩,
 ⟨(some 42), none, .len (.t 41)⟩,
 ⟨(some 43), none, .mv (.c (.int .i64 0))⟩] false)
 (.block 2
 (.loop
 (.seq
 (.region [
 ⟨(some 44), none, .bin .lss (.t 43) (.t 42)⟩] false)
 (.seq
 (.cond (.t 44)
 .skip
 (.exit 2))
 (.seq
 (.block 3
 (.seq
 (.region [
 ⟨(some 45), none, .iaddr 4 (.t 41) (.t 43)⟩,
 ⟨(some 46), none, .load true 4 (.t 45)⟩,
 ⟨(some 7), none, .alloc 117 [.int .i64 0, .int .i64 0, .int .i64 0, .int .i64 0]⟩,
 ⟨none, none, .store 4 (.t 7) (.t 46)⟩] false)
 (.seq
 (.region [
 ⟨(some 47), none, .load true 6 (.t 1)⟩,
 ⟨(some 48), none, .faddr 0 (.t 7)⟩,
 ⟨(some 49), none, .load false 1 (.t 48)⟩,
 ⟨(some 50), none, .faddr 1 (.t 7)⟩,
 ⟨(some 51), none, .load false 1 (.t 50)⟩,
 ⟨(some 52), none, .call 111 [(.t 47), (.t 49), (.t 51)]⟩,
 ⟨(some 53), none, .not (.t 52)⟩,
 ⟨(some 54), none, .mv (.t 53)⟩,
 ⟨(some 55), (some (54, false)), .load true 6 (.t 1)⟩,
 ⟨(some 56), (some (54, false)), .faddr 3 (.t 7)⟩,
 ⟨(some 57), (some (54, false)), .load false 1 (.t 56)⟩,
 ⟨(some 58), (some (54, false)), .call 72 [(.t 55), (.t 57)]⟩,
 ⟨(some 59), (some (54, false)), .not (.t 58)⟩,
 ⟨(some 60), none, .pick (.t 54) (.c (.bool true)) (.t 59)⟩,
 ⟨(some 61), none, .mv (.t 60)⟩,
 ⟨(some 62), (some (61, false)), .faddr 2 (.t 7)⟩,
 ⟨(some 63), (some (61, false)), .load false 1 (.t 62)⟩,
 ⟨(some 64), (some (61, false)), .bin .neq (.t 63) (.c (.int .i64 (-1)))⟩,
 ⟨(some 65), (some (61, false)), .mv (.t 64)⟩,
 ⟨(some 66), (some (65, true)), .load true 6 (.t 1)⟩,
 ⟨(some 67), (some (65, true)), .faddr 2 (.t 7)⟩,
 ⟨(some 68), (some (65, true)), .load false 1 (.t 67)⟩,
 ⟨(some 69), (some (65, true)), .call 72 [(.t 66), (.t 68)]⟩,
 ⟨(some 70), (some (65, true)), .not (.t 69)⟩,
 ⟨(some 71), (some (61, false)), .pick (.t 65) (.t 70) (.c (.bool false))⟩,
 ⟨(some 72), none, .pick (.t 61) (.c (.bool true)) (.t 71)⟩] false)
 (.cond (.t 72)
 (.seq
 (.region [
 ⟨(some 2), none, .mv (.c (.bool false))⟩] false)
 .ret)
 .skip))))
 (.region [
 ⟨(some 73), none, .bin .add (.t 43) (.c (.int .i64 1))⟩,
 ⟨(some 43), none, .mv (.t 73)⟩] false)))))))
 (.seq
 (.region [
 ⟨(some 74), none, .faddr 3 (.t 1)⟩,
 ⟨(some 75), none, .load false 1 (.t 74)⟩,
 ⟨(some 76), none, .len (.t 75)⟩,
 ⟨(some 77), none, .bin .leq (.t 76) (.c (.int .i64 40))⟩,
 ⟨(some 78), none, .mv (.t 77)⟩,
 ⟨(some 79), (some (78, true)), .faddr 4 (.t 1)⟩,
 ⟨(some 80), (some (78, true)), .load false 1 (.t 79)⟩,
 ⟨(some 81), (some (78, true)), .len (.t 80)⟩,
 ⟨(some 82), (some (78, true)), .bin .leq (.t 81) (.c (.int .i64 40))⟩,
 ⟨(some 83), none, .pick (.t 78) (.t 82) (.c (.bool false))⟩,
 ⟨(some 2), none, .mv (.t 83)⟩] false)
 .ret))))
def r70 : List ERes := [.t 2]

theorem c70 : chkF Try.prog Try.f70 1 e70 r70 = true := by kernel_rfl

def e71 : EC :=
 (.seq
 (.region [
 ⟨(some 1), none, .box 88 (.t 0)⟩,
 ⟨(some 2), none, .mv (.c (.bool false))⟩] false)
 (.seq
 (.seq
 (.region [
 ⟨(some 6), none, .faddr 0 (.t 1)⟩,
 ⟨(some 7), none, .load false 1 (.t 6)⟩,
 ⟨(some 8), none, .bin .eql (.t 7) (.c (.int .i64 2))⟩] false)
 (.cond (.t 8)
 (.seq
 (.region [
 ⟨(some 9), none, .faddr 1 (.t 1)⟩,
 ⟨(some 10), none, .load false 1 (.t 9)⟩,
 ⟨(some 11), none, .bin .eql (.t 10) (.c (.int .i64 0))⟩,
 ⟨(some 12), none, .mv (.t 11)⟩,
 ⟨(some 13), (some (12, true)), .faddr 2 (.t 1)⟩,
 ⟨(some 14), (some (12, true)), .load false 1 (.t 13)⟩,
 ⟨(some 15), (some (12, true)), .build [.int .i64 0, .int .i64 0, .str []] [(0, 1, (.c (.int .i64 2))), (2, 1, (.t 14))]⟩,
 ⟨(some 16), (some (12, true)), .call 55 [(.t 15)]⟩,
 ⟨(some 17), none, .pick (.t 12) (.t 16) (.c (.bool false))⟩,
 ⟨(some 2), none, .mv (.t 17)⟩] false)
 .ret)
 .skip))
 (.seq
 (.seq
 (.region [
 ⟨(some 19), none, .faddr 0 (.t 1)⟩,
 ⟨(some 20), none, .load false 1 (.t 19)⟩,
 ⟨(some 21), none, .call 113 [(.t 20)]⟩,
 ⟨(some 18), none, .mv (.t 21)⟩,
 ⟨(some 22), none, .extract 0 (.t 18)⟩,
 ⟨(some 23), none, .extract 1 (.t 18)⟩,
 ⟨(some 24), none, .extract 2 (.t 18)⟩,
 ⟨(some 3), none, .mv (.t 22)⟩,
 ⟨(some 4), none, .mv (.t 23)⟩,
 ⟨(some 5), none, .mv (.t 24)⟩] false)
 (.seq
 (.region [
 ⟨(some 25), none, .mv (.t 5)⟩] false)
 (.cond (.t 25)
 (.seq
 (.region [
 ⟨(some 26), none, .faddr 1 (.t 1)⟩,
 ⟨(some 27), none, .load false 1 (.t 26)⟩,
 ⟨(some 28), none, .mv (.t 3)⟩,
 ⟨(some 29), none, .mv (.t 4)⟩,
 ⟨(some 30), none, .call 68 [(.t 27), (.t 28), (.t 29)]⟩,
 ⟨(some 31), none, .mv (.t 30)⟩,
 ⟨(some 32), (some (31, true)), .faddr 2 (.t 1)⟩,
 ⟨(some 33), (some (31, true)), .load false 1 (.t 32)⟩,
 ⟨(some 34), (some (31, true)), .bin .eql (.t 33) (.c (.str []))⟩,
 ⟨(some 35), none, .pick (.t 31) (.t 34) (.c (.bool false))⟩,
 ⟨(some 2), none, .mv (.t 35)⟩] false)
 .ret)
 .skip)))
 (.seq
 (.region [
 ⟨(some 36), none, .faddr 0 (.t 1)⟩,
 ⟨(some 37), none, .load false 1 (.t 36)⟩,
 ⟨(some 38), none, .call 68 [(.t 37), (.c (.int .i64 1)), (.c (.int .i64 24))]⟩,
 ⟨(some 39), none, .mv (.t 38)⟩,
 ⟨(some 40), (some (39, true)), .faddr 1 (.t 1)⟩,
 ⟨(some 41), (some (39, true)), .load false 1 (.t 40)⟩,
 ⟨(some 42), (some (39, true)), .bin .eql (.t 41) (.c (.int .i64 0))⟩,
 ⟨(some 43), none, .pick (.t 39) (.t 42) (.c (.bool false))⟩,
 ⟨(some 44), none, .mv (.t 43)⟩,
 ⟨(some 45), (some (44, true)), .faddr 2 (.t 1)⟩,
 ⟨(some 46), (some (44, true)), .load false 1 (.t 45)⟩,
 ⟨(some 47), (some (44, true)), .bin .eql (.t 46) (.c (.str []))⟩,
 ⟨(some 48), none, .pick (.t 44) (.t 47) (.c (.bool false))⟩,
 ⟨(some 2), none, .mv (.t 48)⟩] false)
 .ret))))
def r71 : List ERes := [.t 2]

theorem c71 : chkF Try.prog Try.f71 1 e71 r71 = true := by kernel_rfl

def e72 : EC :=
 (.seq
 (.region [
 ⟨(some 2), none, .box 41 (.t 0)⟩,
 ⟨(some 4), none, .mv (.c (.bool false))⟩] false)
 (.seq
 (.region [
 ⟨(some 5), none, .mv (.t 1)⟩,
 ⟨(some 6), none, .faddr 5 (.t 2)⟩,
 ⟨(some 7), none, .load false 1 (.t 6)⟩,
 ⟨(some 8), none, .len (.t 7)⟩,
 ⟨(some 9), none, .bin .sub (.t 8) (.c (.int .i64 1))⟩,
 ⟨(some 10), none, .call 68 [(.t 5), (.c (.int .i64 0)), (.t 9)]⟩,
 ⟨(some 4), none, .mv (.t 10)⟩] false)
 .ret))
def r72 : List ERes := [.t 4]

theorem c72 : chkF Try.prog Try.f72 2 e72 r72 = true := by kernel_rfl

def e85 : EC :=
 (.seq
 (.region [
 ⟨(some 2), none, .mv (.c (.bool false))⟩] false)
 (.seq
 (.region [
 ⟨(some 3), none, .mv (.t 0)⟩,
 ⟨(some 4), none, .call 121 [(.t 3), (.c (.fn 122 []))]⟩,
 ⟨(some 5), none, .not (.t 4)⟩,
 ⟨(some 2), none, .mv (.t 5)⟩] false)
 .ret))
def r85 : List ERes := [.t 2]

theorem c85 : chkF Try.prog Try.f85 1 e85 r85 = true := by kernel_rfl

def e86 : EC :=
 (.seq
 (.region [
 ⟨(some 4), none, .mv (.c (.int .i64 0))⟩] false)
 (.seq
 (.seq
 (.region [
 ⟨(some 6), none, .mv (.t 0)⟩,
 ⟨(some 7), none, .len (.t 6)⟩,
 ⟨(some 8), none, .mv (.c (.int .i64 0))⟩] false)
 (.block 0
 (.loop
 (.seq
 (.region [
 ⟨(some 9), none, .bin .lss (.t 8) (.t 7)⟩] false)
 (.seq
 (.cond (.t 9)
 .skip
 (.exit 0))
 (.seq
 (.block 1
 (.seq
 (.region [
 ⟨(some 10), none, .mv (.t 8)⟩,
 ⟨(some 5), none, .mv (.t 10)⟩] false)
 (.seq
 (.region [
 ⟨(some 11), none, .mv (.t 1)⟩,
 ⟨(some 12), none, .mv (.t 0)⟩,
 ⟨(some 13), none, .mv (.t 5)⟩,
 ⟨(some 14), none, .iaddr 3 (.t 12) (.t 13)⟩,
 ⟨(some 15), none, .load true 3 (.t 14)⟩,
 ⟨(some 16), none, .callv (.t 11) [(.t 15)]⟩] false)
 (.cond (.t 16)
 (.seq
 (.region [
 ⟨(some 17), none, .mv (.t 5)⟩,
 ⟨(some 4), none, .mv (.t 17)⟩] false)
 .ret)
 .skip))))
 (.region [
 ⟨(some 18), none, .bin .add (.t 8) (.c (.int .i64 1))⟩,
 ⟨(some 8), none, .mv (.t 18)⟩] false)))))))
 (.seq
 (.region [
 ⟨(some 4), none, .mv (.c (.int .i64 (-1)))⟩] false)
 .ret)))
def r86 : List ERes := [.t 4]

theorem c86 : chkF Try.prog Try.f86 2 e86 r86 = true := by kernel_rfl

def e87 : EC :=
 (.seq
 (.region [
 ⟨(some 3), none, .box 70 (.t 1)⟩] false)
 (.seq
 (.seq
 (.region [
 ⟨(some 4), none, .mv (.t 0)⟩,
 ⟨(some 5), none, .nilck (.t 4)⟩,
 ⟨(some 6), none, .faddr 8 (.t 5)⟩,
 ⟨(some 7), none, .load false 1 (.t 6)⟩,
 ⟨(some 8), none, .lenM (.t 7)⟩,
 ⟨(some 9), none, .bin .geq (.t 8) (.c (.int .i64 16))⟩] false)
 (.cond (.t 9)
 (.seq
 (.region [
 ⟨(some 10), none, .mv (.t 0)⟩,
 ⟨(some 11), none, .nilck (.t 10)⟩,
 ⟨(some 12), none, .faddr 11 (.t 11)⟩,
 ⟨none, none, .store 1 (.t 12) (.c (.bool true))⟩] false)
 .ret)
 .skip))
 (.region [
 ⟨(some 13), none, .mv (.t 0)⟩,
 ⟨(some 14), none, .mv (.t 0)⟩,
 ⟨(some 15), none, .nilck (.t 14)⟩,
 ⟨(some 16), none, .faddr 8 (.t 15)⟩,
 ⟨(some 17), none, .load false 1 (.t 16)⟩,
 ⟨(some 18), none, .load true 3 (.t 3)⟩,
 ⟨(some 19), none, .bslice 70 3 1 [.int .i64 0, .int .i64 0, .str []] [(0, (.t 18))]⟩,
 ⟨(some 20), none, .appendM 70 3 32 (.t 17) (.t 19)⟩,
 ⟨(some 21), none, .nilck (.t 13)⟩,
 ⟨(some 22), none, .faddr 8 (.t 21)⟩,
 ⟨none, none, .store 1 (.t 22) (.t 20)⟩] true)))
def r87 : List ERes := []

theorem c87 : chkF Try.prog Try.f87 2 e87 r87 = true := by kernel_rfl

def e88 : EC :=
 (.seq
 (.region [
 ⟨(some 2), none, .alloc 70 [.int .i64 0, .int .i64 0, .str []]⟩] false)
 (.seq
 (.region [
 ⟨(some 3), none, .mv (.t 0)⟩,
 ⟨(some 4), none, .minmax false [(.c (.int .i64 1000000)), (.t 3)]⟩,
 ⟨(some 5), none, .minmax true [(.c (.int .i64 (-1000000))), (.t 4)]⟩,
 ⟨(some 6), none, .build [.int .i64 0, .int .i64 0, .str []] [(0, 1, (.c (.int .i64 1))), (1, 1, (.t 5))]⟩,
 ⟨none, none, .store 3 (.t 2) (.t 6)⟩] false)
 .ret))
def r88 : List ERes := [.cell true 3 2]

theorem c88 : chkF Try.prog Try.f88 1 e88 r88 = true := by kernel_rfl

def e89 : EC :=
 (.seq
 (.region [
 ⟨(some 7), none, .mv (.t 0)⟩,
 ⟨(some 8), none, .nilck (.t 7)⟩,
 ⟨(some 9), none, .faddr 0 (.t 8)⟩,
 ⟨(some 10), none, .faddr 2 (.t 9)⟩,
 ⟨(some 11), none, .load false 1 (.t 10)⟩,
 ⟨(some 12), none, .mv (.t 1)⟩,
 ⟨(some 13), none, .iaddr 7 (.t 11) (.t 12)⟩,
 ⟨(some 14), none, .faddr 1 (.t 13)⟩,
 ⟨(some 15), none, .load true 3 (.t 14)⟩,
 ⟨(some 4), none, .alloc 85 [.int .i64 0, .int .i64 0, .int .i64 0]⟩,
 ⟨none, none, .store 3 (.t 4) (.t 15)⟩] false)
 (.seq
 (.region [
 ⟨(some 16), none, .mv (.t 0)⟩,
 ⟨(some 17), none, .faddr 0 (.t 4)⟩,
 ⟨(some 18), none, .load false 1 (.t 17)⟩,
 ⟨(some 19), none, .call 91 [(.t 16), (.t 18)]⟩,
 ⟨(some 5), none, .alloc 70 [.int .i64 0, .int .i64 0, .str []]⟩,
 ⟨none, none, .store 3 (.t 5) (.t 19)⟩] false)
 (.seq
 (.seq
 (.region [
 ⟨(some 20), none, .mv (.t 0)⟩,
 ⟨(some 21), none, .nilck (.t 20)⟩,
 ⟨(some 22), none, .faddr 11 (.t 21)⟩,
 ⟨(some 23), none, .load false 1 (.t 22)⟩] false)
 (.cond (.t 23)
 .ret
 .skip))
 (.seq
 (.region [
 ⟨(some 24), none, .faddr 1 (.t 5)⟩,
 ⟨(some 25), none, .load false 1 (.t 24)⟩,
 ⟨(some 26), none, .minmax false [(.c (.int .i64 1000)), (.t 25)]⟩,
 ⟨(some 27), none, .minmax true [(.c (.int .i64 (-1000))), (.t 26)]⟩,
 ⟨(some 28), none, .faddr 1 (.t 5)⟩,
 ⟨none, none, .store 1 (.t 28) (.t 27)⟩] false)
 (.seq
 (.region [
 ⟨(some 30), none, .load true 3 (.t 4)⟩,
 ⟨(some 31), none, .load true 3 (.t 5)⟩,
 ⟨(some 32), none, .call 123 [(.t 30), (.t 31)]⟩,
 ⟨(some 29), none, .mv (.t 32)⟩,
 ⟨(some 33), none, .extract 0 (.t 29)⟩,
 ⟨(some 34), none, .extract 1 (.t 29)⟩,
 ⟨none, none, .store 3 (.t 5) (.t 33)⟩,
 ⟨(some 6), none, .mv (.t 34)⟩] false)
 (.seq
 (.seq
 (.region [
 ⟨(some 35), none, .mv (.t 6)⟩,
 ⟨(some 36), none, .bin .neq (.t 35) (.c (.int .i64 0))⟩] false)
 (.cond (.t 36)
 (.seq
 (.region [
 ⟨(some 37), none, .mv (.t 0)⟩,
 ⟨(some 38), none, .nilck (.t 37)⟩,
 ⟨(some 39), none, .faddr 11 (.t 38)⟩,
 ⟨none, none, .store 1 (.t 39) (.c (.bool true))⟩] false)
 .ret)
 .skip))
 (.region [
 ⟨(some 40), none, .mv (.t 0)⟩,
 ⟨(some 41), none, .nilck (.t 40)⟩,
 ⟨(some 42), none, .faddr 6 (.t 41)⟩,
 ⟨(some 43), none, .load false 1 (.t 42)⟩,
 ⟨(some 44), none, .mv (.t 1)⟩,
 ⟨(some 45), none, .load true 3 (.t 5)⟩,
 ⟨(some 46), none, .iaddrM 3 (.t 43) (.t 44)⟩,
 ⟨none, none, .store 3 (.t 46) (.t 45)⟩] true)))))))
def r89 : List ERes := []

theorem c89 : chkF Try.prog Try.f89 2 e89 r89 = true := by kernel_rfl

def e90 : EC :=
 (.seq
 (.region [
 ⟨(some 4), none, .mv (.t 0)⟩,
 ⟨(some 5), none, .nilck (.t 4)⟩,
 ⟨(some 6), none, .faddr 11 (.t 5)⟩,
 ⟨(some 7), none, .load false 1 (.t 6)⟩,
 ⟨(some 8), none, .not (.t 7)⟩] false)
 (.cond (.t 8)
 (.region [
 ⟨(some 9), none, .mv (.t 0)⟩,
 ⟨(some 10), none, .mv (.t 1)⟩,
 ⟨(some 11), none, .call 88 [(.t 10)]⟩,
 ⟨(some 12), none, .call 87 [(.t 9), (.t 11)]⟩] false)
 .skip))
def r90 : List ERes := []

theorem c90 : chkF Try.prog Try.f90 2 e90 r90 = true := by kernel_rfl

def e91 : EC :=
 (.seq
 (.region [
 ⟨(some 4), none, .alloc 70 [.int .i64 0, .int .i64 0, .str []]⟩] false)
 (.seq
 (.region [
 ⟨(some 7), none, .mv (.t 0)⟩,
 ⟨(some 8), none, .nilck (.t 7)⟩,
 ⟨(some 9), none, .faddr 8 (.t 8)⟩,
 ⟨(some 10), none, .load false 1 (.t 9)⟩,
 ⟨(some 11), none, .lenM (.t 10)⟩,
 ⟨(some 5), none, .mv (.t 11)⟩] false)
 (.seq
 (.seq
 (.region [
 ⟨(some 12), none, .mv (.t 0)⟩,
 ⟨(some 13), none, .nilck (.t 12)⟩,
 ⟨(some 14), none, .faddr 11 (.t 13)⟩,
 ⟨(some 15), none, .load false 1 (.t 14)⟩,
 ⟨(some 16), none, .mv (.t 15)⟩,
 ⟨(some 17), (some (16, false)), .mv (.t 5)⟩,
 ⟨(some 18), (some (16, false)), .bin .eql (.t 17) (.c (.int .i64 0))⟩,
 ⟨(some 19), none, .pick (.t 16) (.c (.bool true)) (.t 18)⟩,
 ⟨(some 20), none, .mv (.t 19)⟩,
 ⟨(some 21), (some (20, false)), .mv (.t 1)⟩,
 ⟨(some 22), (some (20, false)), .bin .neq (.t 21) (.c (.int .i64 0))⟩,
 ⟨(some 23), (some (20, false)), .mv (.t 22)⟩,
 ⟨(some 24), (some (23, true)), .mv (.t 0)⟩,
 ⟨(some 25), (some (23, true)), .nilck (.t 24)⟩,
 ⟨(some 26), (some (23, true)), .faddr 8 (.t 25)⟩,
 ⟨(some 27), (some (23, true)), .load false 1 (.t 26)⟩,
 ⟨(some 28), (some (23, true)), .mv (.t 5)⟩,
 ⟨(some 29), (some (23, true)), .bin .sub (.t 28) (.c (.int .i64 1))⟩,
 ⟨(some 30), (some (23, true)), .iaddrM 3 (.t 27) (.t 29)⟩,
 ⟨(some 31), (some (23, true)), .faddrM 0 (.t 30)⟩,
 ⟨(some 32), (some (23, true)), .loadM false 1 (.t 31)⟩,
 ⟨(some 33), (some (23, true)), .mv (.t 1)⟩,
 ⟨(some 34), (some (23, true)), .bin .neq (.t 32) (.t 33)⟩,
 ⟨(some 35), (some (20, false)), .pick (.t 23) (.t 34) (.c (.bool false))⟩,
 ⟨(some 36), none, .pick (.t 20) (.c (.bool true)) (.t 35)⟩] false)
 (.cond (.t 36)
 (.seq
 (.region [
 ⟨(some 37), none, .mv (.t 0)⟩,
 ⟨(some 38), none, .nilck (.t 37)⟩,
 ⟨(some 39), none, .faddr 11 (.t 38)⟩,
 ⟨none, none, .store 1 (.t 39) (.c (.bool true))⟩] false)
 (.seq
 (.region [
 ⟨(some 40), none, .build [.int .i64 0, .int .i64 0, .str []] []⟩,
 ⟨none, none, .store 3 (.t 4) (.t 40)⟩] false)
 .ret))
 .skip))
 (.seq
 (.region [
 ⟨(some 41), none, .mv (.t 0)⟩,
 ⟨(some 42), none, .nilck (.t 41)⟩,
 ⟨(some 43), none, .faddr 8 (.t 42)⟩,
 ⟨(some 44), none, .load false 1 (.t 43)⟩,
 ⟨(some 45), none, .mv (.t 5)⟩,
 ⟨(some 46), none, .bin .sub (.t 45) (.c (.int .i64 1))⟩,
 ⟨(some 47), none, .iaddrM 3 (.t 44) (.t 46)⟩,
 ⟨(some 48), none, .loadM true 3 (.t 47)⟩,
 ⟨(some 6), none, .alloc 70 [.int .i64 0, .int .i64 0, .str []]⟩,
 ⟨none, none, .store 3 (.t 6) (.t 48)⟩] false)
 (.seq
 (.region [
 ⟨(some 49), none, .mv (.t 0)⟩,
 ⟨(some 50), none, .mv (.t 0)⟩,
 ⟨(some 51), none, .nilck (.t 50)⟩,
 ⟨(some 52), none, .faddr 8 (.t 51)⟩,
 ⟨(some 53), none, .load false 1 (.t 52)⟩,
 ⟨(some 54), none, .mv (.t 5)⟩,
 ⟨(some 55), none, .bin .sub (.t 54) (.c (.int .i64 1))⟩,
 ⟨(some 56), none, .slM 3 (.t 53) none (some (.t 55))⟩,
 ⟨(some 57), none, .nilck (.t 49)⟩,
 ⟨(some 58), none, .faddr 8 (.t 57)⟩,
 ⟨none, none, .store 1 (.t 58) (.t 56)⟩] false)
 (.seq
 (.region [
 ⟨(some 59), none, .load true 3 (.t 6)⟩,
 ⟨none, none, .store 3 (.t 4) (.t 59)⟩] false)
 .ret))))))
def r91 : List ERes := [.cell true 3 4]

theorem c91 : chkF Try.prog Try.f91 2 e91 r91 = true := by kernel_rfl

def e92 : EC :=
 (.seq
 (.region [
 ⟨(some 2), none, .mv (.c (.int .i64 0))⟩] false)
 (.seq
 (.seq
 (.region [
 ⟨(some 3), none, .mv (.t 0)⟩] false)
 (.cond (.t 3)
 (.seq
 (.region [
 ⟨(some 2), none, .mv (.c (.int .i64 1))⟩] false)
 .ret)
 .skip))
 (.seq
 (.region [
 ⟨(some 2), none, .mv (.c (.int .i64 0))⟩] false)
 .ret)))
def r92 : List ERes := [.t 2]

theorem c92 : chkF Try.prog Try.f92 1 e92 r92 = true := by kernel_rfl

def e93 : EC :=
 (.seq
 (.region [
 ⟨(some 9), none, .mv (.t 1)⟩] false)
 (.block 0
 (.seq
 (.region [
 ⟨(some 11), none, .bin .eql (.t 9) (.c (.int .i64 12))⟩,
 ⟨(some 10), none, .mv (.t 11)⟩] false)
 (.cond (.t 10)
 (.seq
 (.region [
 ⟨(some 12), none, .mv (.t 0)⟩,
 ⟨(some 13), none, .call 91 [(.t 12), (.c (.int .i64 0))]⟩,
 ⟨(some 4), none, .alloc 70 [.int .i64 0, .int .i64 0, .str []]⟩,
 ⟨none, none, .store 3 (.t 4) (.t 13)⟩] false)
 (.seq
 (.region [
 ⟨(some 14), none, .mv (.t 0)⟩,
 ⟨(some 15), none, .faddr 0 (.t 4)⟩,
 ⟨(some 16), none, .load false 1 (.t 15)⟩,
 ⟨(some 17), none, .call 91 [(.t 14), (.t 16)]⟩,
 ⟨(some 5), none, .alloc 70 [.int .i64 0, .int .i64 0, .str []]⟩,
 ⟨none, none, .store 3 (.t 5) (.t 17)⟩] false)
 (.region [
 ⟨(some 18), none, .mv (.t 0)⟩,
 ⟨(some 19), none, .load true 3 (.t 5)⟩,
 ⟨(some 20), none, .load true 3 (.t 4)⟩,
 ⟨(some 21), none, .eqA false 70 [.i .i64, .i .i64, .s] (.t 19) (.t 20)⟩,
 ⟨(some 22), none, .call 92 [(.t 21)]⟩,
 ⟨(some 23), none, .call 90 [(.t 18), (.t 22)]⟩] false)))
 (.seq
 (.region [
 ⟨(some 25), none, .bin .eql (.t 9) (.c (.int .i64 17))⟩,
 ⟨(some 24), none, .mv (.t 25)⟩] false)
 (.cond (.t 24)
 (.seq
 (.region [
 ⟨(some 26), none, .mv (.t 0)⟩,
 ⟨(some 27), none, .call 91 [(.t 26), (.c (.int .i64 2))]⟩,
 ⟨(some 6), none, .alloc 70 [.int .i64 0, .int .i64 0, .str []]⟩,
 ⟨none, none, .store 3 (.t 6) (.t 27)⟩] false)
 (.seq
 (.region [
 ⟨(some 28), none, .mv (.t 0)⟩,
 ⟨(some 29), none, .call 91 [(.t 28), (.c (.int .i64 2))]⟩,
 ⟨(some 7), none, .alloc 70 [.int .i64 0, .int .i64 0, .str []]⟩,
 ⟨none, none, .store 3 (.t 7) (.t 29)⟩] false)
 (.seq
 (.region [
 ⟨(some 30), none, .mv (.t 0)⟩,
 ⟨(some 31), none, .nilck (.t 30)⟩,
 ⟨(some 32), none, .faddr 11 (.t 31)⟩,
 ⟨(some 33), none, .load false 1 (.t 32)⟩,
 ⟨(some 34), none, .not (.t 33)⟩] false)
 (.cond (.t 34)
 (.seq
 (.region [
 ⟨(some 35), none, .faddr 2 (.t 7)⟩,
 ⟨(some 36), none, .load false 1 (.t 35)⟩,
 ⟨(some 37), none, .faddr 2 (.t 6)⟩,
 ⟨(some 38), none, .load false 1 (.t 37)⟩,
 ⟨(some 39), none, .bin .add (.t 36) (.t 38)⟩,
 ⟨(some 8), none, .mv (.t 39)⟩] false)
 (.region [
 ⟨(some 40), none, .mv (.t 0)⟩,
 ⟨(some 41), none, .mv (.t 8)⟩,
 ⟨(some 42), none, .mv (.t 8)⟩,
 ⟨(some 43), none, .lenS (.t 42)⟩,
 ⟨(some 44), none, .minmax false [(.t 43), (.c (.int .i64 40))]⟩,
 ⟨(some 45), none, .slS (.t 41) none (some (.t 44))⟩,
 ⟨(some 46), none, .build [.int .i64 0, .int .i64 0, .str []] [(0, 1, (.c (.int .i64 2))), (2, 1, (.t 45))]⟩,
 ⟨(some 47), none, .call 87 [(.t 40), (.t 46)]⟩] false))
 .skip))))
 (.seq
 (.region [
 ⟨(some 49), none, .bin .eql (.t 9) (.c (.int .i64 18))⟩,
 ⟨(some 48), none, .mv (.t 49)⟩] false)
 (.cond (.t 48)
 (.region [
 ⟨(some 50), none, .mv (.t 0)⟩,
 ⟨(some 51), none, .mv (.t 0)⟩,
 ⟨(some 52), none, .call 91 [(.t 51), (.c (.int .i64 2))]⟩,
 ⟨(some 53), none, .field false 2 1 (.t 52)⟩,
 ⟨(some 54), none, .lenS (.t 53)⟩,
 ⟨(some 55), none, .call 90 [(.t 50), (.t 54)]⟩] false)
 .skip))))))))
def r93 : List ERes := []

theorem c93 : chkF Try.prog Try.f93 2 e93 r93 = true := by kernel_rfl

def e94 : EC :=
 (.seq
 (.region [
 ⟨(some 8), none, .mv (.t 0)⟩,
 ⟨(some 9), none, .call 124 [(.t 8)]⟩,
 ⟨(some 7), none, .mv (.t 9)⟩,
 ⟨(some 10), none, .extract 0 (.t 7)⟩,
 ⟨(some 11), none, .extract 1 (.t 7)⟩,
 ⟨(some 4), none, .mv (.t 10)⟩,
 ⟨(some 5), none, .mv (.t 11)⟩] false)
 (.seq
 (.region [
 ⟨(some 6), none, .mv (.c (.int .i64 0))⟩] false)
 (.seq
 (.seq
 (.region [
 ⟨(some 12), none, .mv (.t 1)⟩] false)
 (.block 0
 (.seq
 (.region [
 ⟨(some 14), none, .bin .eql (.t 12) (.c (.int .i64 6))⟩,
 ⟨(some 13), none, .mv (.t 14)⟩] false)
 (.cond (.t 13)
 (.region [
 ⟨(some 15), none, .mv (.t 4)⟩,
 ⟨(some 16), none, .mv (.t 5)⟩,
 ⟨(some 17), none, .bin .add (.t 15) (.t 16)⟩,
 ⟨(some 6), none, .mv (.t 17)⟩] false)
 (.seq
 (.region [
 ⟨(some 19), none, .bin .eql (.t 12) (.c (.int .i64 7))⟩,
 ⟨(some 18), none, .mv (.t 19)⟩] false)
 (.cond (.t 18)
 (.region [
 ⟨(some 20), none, .mv (.t 4)⟩,
 ⟨(some 21), none, .mv (.t 5)⟩,
 ⟨(some 22), none, .bin .sub (.t 20) (.t 21)⟩,
 ⟨(some 6), none, .mv (.t 22)⟩] false)
 (.seq
 (.region [
 ⟨(some 24), none, .bin .eql (.t 12) (.c (.int .i64 8))⟩,
 ⟨(some 23), none, .mv (.t 24)⟩] false)
 (.cond (.t 23)
 (.region [
 ⟨(some 25), none, .mv (.t 4)⟩,
 ⟨(some 26), none, .mv (.t 5)⟩,
 ⟨(some 27), none, .bin .mul (.t 25) (.t 26)⟩,
 ⟨(some 6), none, .mv (.t 27)⟩] false)
 (.seq
 (.region [
 ⟨(some 29), none, .bin .eql (.t 12) (.c (.int .i64 9))⟩,
 ⟨(some 28), none, .mv (.t 29)⟩] false)
 (.cond (.t 28)
 (.seq
 (.region [
 ⟨(some 30), none, .mv (.t 5)⟩,
 ⟨(some 31), none, .bin .neq (.t 30) (.c (.int .i64 0))⟩] false)
 (.cond (.t 31)
 (.region [
 ⟨(some 32), none, .mv (.t 4)⟩,
 ⟨(some 33), none, .mv (.t 5)⟩,
 ⟨(some 34), none, .bin .quo (.t 32) (.t 33)⟩,
 ⟨(some 6), none, .mv (.t 34)⟩] false)
 .skip))
 (.seq
 (.region [
 ⟨(some 36), none, .bin .eql (.t 12) (.c (.int .i64 10))⟩,
 ⟨(some 35), none, .mv (.t 36)⟩] false)
 (.cond (.t 35)
 (.seq
 (.region [
 ⟨(some 37), none, .mv (.t 5)⟩,
 ⟨(some 38), none, .bin .neq (.t 37) (.c (.int .i64 0))⟩] false)
 (.cond (.t 38)
 (.region [
 ⟨(some 39), none, .mv (.t 4)⟩,
 ⟨(some 40), none, .mv (.t 5)⟩,
 ⟨(some 41), none, .bin .rem (.t 39) (.t 40)⟩,
 ⟨(some 6), none, .mv (.t 41)⟩] false)
 .skip))
 (.seq
 (.region [
 ⟨(some 43), none, .bin .eql (.t 12) (.c (.int .i64 13))⟩,
 ⟨(some 42), none, .mv (.t 43)⟩] false)
 (.cond (.t 42)
 (.region [
 ⟨(some 44), none, .mv (.t 4)⟩,
 ⟨(some 45), none, .mv (.t 5)⟩,
 ⟨(some 46), none, .bin .lss (.t 44) (.t 45)⟩,
 ⟨(some 47), none, .call 92 [(.t 46)]⟩,
 ⟨(some 6), none, .mv (.t 47)⟩] false)
 (.seq
 (.region [
 ⟨(some 49), none, .bin .eql (.t 12) (.c (.int .i64 15))⟩,
 ⟨(some 48), none, .mv (.t 49)⟩] false)
 (.cond (.t 48)
 (.region [
 ⟨(some 50), none, .mv (.t 4)⟩,
 ⟨(some 51), none, .bin .neq (.t 50) (.c (.int .i64 0))⟩,
 ⟨(some 52), none, .mv (.t 51)⟩,
 ⟨(some 53), (some (52, true)), .mv (.t 5)⟩,
 ⟨(some 54), (some (52, true)), .bin .neq (.t 53) (.c (.int .i64 0))⟩,
 ⟨(some 55), none, .pick (.t 52) (.t 54) (.c (.bool false))⟩,
 ⟨(some 56), none, .call 92 [(.t 55)]⟩,
 ⟨(some 6), none, .mv (.t 56)⟩] false)
 (.seq
 (.region [
 ⟨(some 58), none, .bin .eql (.t 12) (.c (.int .i64 16))⟩,
 ⟨(some 57), none, .mv (.t 58)⟩] false)
 (.cond (.t 57)
 (.region [
 ⟨(some 59), none, .mv (.t 4)⟩,
 ⟨(some 60), none, .bin .neq (.t 59) (.c (.int .i64 0))⟩,
 ⟨(some 61), none, .mv (.t 60)⟩,
 ⟨(some 62), (some (61, false)), .mv (.t 5)⟩,
 ⟨(some 63), (some (61, false)), .bin .neq (.t 62) (.c (.int .i64 0))⟩,
 ⟨(some 64), none, .pick (.t 61) (.c (.bool true)) (.t 63)⟩,
 ⟨(some 65), none, .call 92 [(.t 64)]⟩,
 ⟨(some 6), none, .mv (.t 65)⟩] false)
 .skip))))))))))))))))))
 (.region [
 ⟨(some 66), none, .mv (.t 0)⟩,
 ⟨(some 67), none, .mv (.t 6)⟩,
 ⟨(some 68), none, .call 90 [(.t 66), (.t 67)]⟩] false))))
def r94 : List ERes := []

theorem c94 : chkF Try.prog Try.f94 2 e94 r94 = true := by kernel_rfl

def e95 : EC :=
 (.seq
 (.region [
 ⟨(some 3), none, .box 88 (.t 1)⟩] false)
 (.seq
 (.region [
 ⟨(some 6), none, .mv (.t 0)⟩,
 ⟨(some 7), none, .nilck (.t 6)⟩,
 ⟨(some 8), none, .faddr 9 (.t 7)⟩,
 ⟨(some 9), none, .load false 1 (.t 8)⟩,
 ⟨(some 10), none, .lenM (.t 9)⟩,
 ⟨(some 11), none, .bin .sub (.t 10) (.c (.int .i64 1))⟩,
 ⟨(some 4), none, .mv (.t 11)⟩] false)
 (.seq
 (.region [
 ⟨(some 12), none, .faddr 0 (.t 3)⟩,
 ⟨(some 13), none, .load false 1 (.t 12)⟩] false)
 (.block 0
 (.seq
 (.region [
 ⟨(some 15), none, .bin .eql (.t 13) (.c (.int .i64 19))⟩,
 ⟨(some 14), none, .mv (.t 15)⟩] false)
 (.cond (.t 14)
 (.region [
 ⟨(some 16), none, .mv (.t 0)⟩,
 ⟨(some 17), none, .faddr 1 (.t 3)⟩,
 ⟨(some 18), none, .load false 1 (.t 17)⟩,
 ⟨(some 19), none, .nilck (.t 16)⟩,
 ⟨(some 20), none, .faddr 10 (.t 19)⟩,
 ⟨none, none, .store 1 (.t 20) (.t 18)⟩] false)
 (.seq
 (.region [
 ⟨(some 22), none, .bin .eql (.t 13) (.c (.int .i64 20))⟩,
 ⟨(some 21), none, .mv (.t 22)⟩] false)
 (.cond (.t 21)
 (.seq
 (.region [
 ⟨(some 23), none, .mv (.t 0)⟩,
 ⟨(some 24), none, .call 91 [(.t 23), (.c (.int .i64 1))]⟩,
 ⟨(some 5), none, .alloc 70 [.int .i64 0, .int .i64 0, .str []]⟩,
 ⟨none, none, .store 3 (.t 5) (.t 24)⟩] false)
 (.seq
 (.region [
 ⟨(some 25), none, .mv (.t 0)⟩,
 ⟨(some 26), none, .nilck (.t 25)⟩,
 ⟨(some 27), none, .faddr 11 (.t 26)⟩,
 ⟨(some 28), none, .load false 1 (.t 27)⟩,
 ⟨(some 29), none, .not (.t 28)⟩,
 ⟨(some 30), none, .mv (.t 29)⟩,
 ⟨(some 31), (some (30, true)), .faddr 1 (.t 5)⟩,
 ⟨(some 32), (some (30, true)), .load false 1 (.t 31)⟩,
 ⟨(some 33), (some (30, true)), .bin .eql (.t 32) (.c (.int .i64 0))⟩,
 ⟨(some 34), none, .pick (.t 30) (.t 33) (.c (.bool false))⟩] false)
 (.cond (.t 34)
 (.region [
 ⟨(some 35), none, .mv (.t 0)⟩,
 ⟨(some 36), none, .faddr 1 (.t 3)⟩,
 ⟨(some 37), none, .load false 1 (.t 36)⟩,
 ⟨(some 38), none, .nilck (.t 35)⟩,
 ⟨(some 39), none, .faddr 10 (.t 38)⟩,
 ⟨none, none, .store 1 (.t 39) (.t 37)⟩] false)
 .skip)))
 (.seq
 (.region [
 ⟨(some 41), none, .bin .eql (.t 13) (.c (.int .i64 21))⟩,
 ⟨(some 40), none, .mv (.t 41)⟩] false)
 (.cond (.t 40)
 (.seq
 (.seq
 (.region [
 ⟨(some 42), none, .mv (.t 0)⟩,
 ⟨(some 43), none, .nilck (.t 42)⟩,
 ⟨(some 44), none, .faddr 9 (.t 43)⟩,
 ⟨(some 45), none, .load false 1 (.t 44)⟩,
 ⟨(some 46), none, .lenM (.t 45)⟩,
 ⟨(some 47), none, .bin .geq (.t 46) (.c (.int .i64 4))⟩] false)
 (.cond (.t 47)
 (.seq
 (.region [
 ⟨(some 48), none, .mv (.t 0)⟩,
 ⟨(some 49), none, .nilck (.t 48)⟩,
 ⟨(some 50), none, .faddr 11 (.t 49)⟩,
 ⟨none, none, .store 1 (.t 50) (.c (.bool true))⟩] false)
 .ret)
 .skip))
 (.region [
 ⟨(some 51), none, .mv (.t 0)⟩,
 ⟨(some 52), none, .mv (.t 0)⟩,
 ⟨(some 53), none, .nilck (.t 52)⟩,
 ⟨(some 54), none, .faddr 9 (.t 53)⟩,
 ⟨(some 55), none, .load false 1 (.t 54)⟩,
 ⟨(some 56), none, .faddr 1 (.t 3)⟩,
 ⟨(some 57), none, .load false 1 (.t 56)⟩,
 ⟨(some 58), none, .bslice 3 1 1 [.int .i64 0] [(0, (.t 57))]⟩,
 ⟨(some 59), none, .appendM 3 1 8 (.t 55) (.t 58)⟩,
 ⟨(some 60), none, .nilck (.t 51)⟩,
 ⟨(some 61), none, .faddr 9 (.t 60)⟩,
 ⟨none, none, .store 1 (.t 61) (.t 59)⟩] true))
 (.seq
 (.region [
 ⟨(some 63), none, .bin .eql (.t 13) (.c (.int .i64 22))⟩,
 ⟨(some 62), none, .mv (.t 63)⟩] false)
 (.cond (.t 62)
 (.seq
 (.seq
 (.region [
 ⟨(some 64), none, .mv (.t 4)⟩,
 ⟨(some 65), none, .bin .lss (.t 64) (.c (.int .i64 0))⟩] false)
 (.cond (.t 65)
 (.seq
 (.region [
 ⟨(some 66), none, .mv (.t 0)⟩,
 ⟨(some 67), none, .nilck (.t 66)⟩,
 ⟨(some 68), none, .faddr 11 (.t 67)⟩,
 ⟨none, none, .store 1 (.t 68) (.c (.bool true))⟩] false)
 .ret)
 .skip))
 (.seq
 (.region [
 ⟨(some 69), none, .mv (.t 0)⟩,
 ⟨(some 70), none, .nilck (.t 69)⟩,
 ⟨(some 71), none, .faddr 9 (.t 70)⟩,
 ⟨(some 72), none, .load false 1 (.t 71)⟩,
 ⟨(some 73), none, .mv (.t 4)⟩,
 ⟨(some 74), none, .iaddrM 1 (.t 72) (.t 73)⟩,
 ⟨(some 75), none, .loadM false 1 (.t 74)⟩,
 ⟨(some 76), none, .bin .sub (.t 75) (.c (.int .i64 1))⟩,
 ⟨(some 77), none, .iaddrM 1 (.t 72) (.t 73)⟩,
 ⟨none, none, .store 1 (.t 77) (.t 76)⟩] false)
 (.seq
 (.region [
 ⟨(some 78), none, .mv (.t 0)⟩,
 ⟨(some 79), none, .nilck (.t 78)⟩,
 ⟨(some 80), none, .faddr 9 (.t 79)⟩,
 ⟨(some 81), none, .load false 1 (.t 80)⟩,
 ⟨(some 82), none, .mv (.t 4)⟩,
 ⟨(some 83), none, .iaddrM 1 (.t 81) (.t 82)⟩,
 ⟨(some 84), none, .loadM false 1 (.t 83)⟩,
 ⟨(some 85), none, .bin .gtr (.t 84) (.c (.int .i64 0))⟩] false)
 (.cond (.t 85)
 (.region [
 ⟨(some 86), none, .mv (.t 0)⟩,
 ⟨(some 87), none, .faddr 1 (.t 3)⟩,
 ⟨(some 88), none, .load false 1 (.t 87)⟩,
 ⟨(some 89), none, .nilck (.t 86)⟩,
 ⟨(some 90), none, .faddr 10 (.t 89)⟩,
 ⟨none, none, .store 1 (.t 90) (.t 88)⟩] false)
 .skip))))
 (.seq
 (.region [
 ⟨(some 92), none, .bin .eql (.t 13) (.c (.int .i64 23))⟩,
 ⟨(some 91), none, .mv (.t 92)⟩] false)
 (.cond (.t 91)
 (.seq
 (.seq
 (.region [
 ⟨(some 93), none, .mv (.t 4)⟩,
 ⟨(some 94), none, .bin .lss (.t 93) (.c (.int .i64 0))⟩] false)
 (.cond (.t 94)
 (.seq
 (.region [
 ⟨(some 95), none, .mv (.t 0)⟩,
 ⟨(some 96), none, .nilck (.t 95)⟩,
 ⟨(some 97), none, .faddr 11 (.t 96)⟩,
 ⟨none, none, .store 1 (.t 97) (.c (.bool true))⟩] false)
 .ret)
 .skip))
 (.region [
 ⟨(some 98), none, .mv (.t 0)⟩,
 ⟨(some 99), none, .mv (.t 0)⟩,
 ⟨(some 100), none, .nilck (.t 99)⟩,
 ⟨(some 101), none, .faddr 9 (.t 100)⟩,
 ⟨(some 102), none, .load false 1 (.t 101)⟩,
 ⟨(some 103), none, .mv (.t 4)⟩,
 ⟨(some 104), none, .slM 1 (.t 102) none (some (.t 103))⟩,
 ⟨(some 105), none, .nilck (.t 98)⟩,
 ⟨(some 106), none, .faddr 9 (.t 105)⟩,
 ⟨none, none, .store 1 (.t 106) (.t 104)⟩] false))
 (.seq
 (.region [
 ⟨(some 108), none, .bin .eql (.t 13) (.c (.int .i64 24))⟩,
 ⟨(some 107), none, .mv (.t 108)⟩] false)
 (.cond (.t 107)
 (.region [
 ⟨(some 109), none, .mv (.t 0)⟩,
 ⟨(some 110), none, .nilck (.t 109)⟩,
 ⟨(some 111), none, .faddr 12 (.t 110)⟩,
 ⟨none, none, .store 1 (.t 111) (.c (.bool true))⟩] false)
 .skip))))))))))))))))
def r95 : List ERes := []

theorem c95 : chkF Try.prog Try.f95 2 e95 r95 = true := by kernel_rfl

def e96 : EC :=
 (.seq
 (.region [
 ⟨(some 1), none, .box 70 (.t 0)⟩,
 ⟨(some 2), none, .mv (.c (.int .i64 0))⟩] false)
 (.seq
 (.seq
 (.region [
 ⟨(some 3), none, .faddr 0 (.t 1)⟩,
 ⟨(some 4), none, .load false 1 (.t 3)⟩] false)
 (.block 0
 (.seq
 (.region [
 ⟨(some 6), none, .bin .eql (.t 4) (.c (.int .i64 1))⟩,
 ⟨(some 5), none, .mv (.t 6)⟩] false)
 (.cond (.t 5)
 (.seq
 (.region [
 ⟨(some 7), none, .faddr 1 (.t 1)⟩,
 ⟨(some 8), none, .load false 1 (.t 7)⟩,
 ⟨(some 2), none, .mv (.t 8)⟩] false)
 .ret)
 (.seq
 (.region [
 ⟨(some 10), none, .bin .eql (.t 4) (.c (.int .i64 2))⟩,
 ⟨(some 9), none, .mv (.t 10)⟩] false)
 (.cond (.t 9)
 (.seq
 (.region [
 ⟨(some 11), none, .faddr 2 (.t 1)⟩,
 ⟨(some 12), none, .load false 1 (.t 11)⟩,
 ⟨(some 13), none, .lenS (.t 12)⟩,
 ⟨(some 2), none, .mv (.t 13)⟩] false)
 .ret)
 .skip))))))
 (.seq
 (.region [
 ⟨(some 2), none, .mv (.c (.int .i64 0))⟩] false)
 .ret)))
def r96 : List ERes := [.t 2]

theorem c96 : chkF Try.prog Try.f96 1 e96 r96 = true := by kernel_rfl

def e97 : EC :=
 (.seq
 (.region [
 ⟨(some 1), none, .box 85 (.t 0)⟩,
 ⟨(some 2), none, .mv (.c (.bool false))⟩] false)
 (.seq
 (.region [
 ⟨(some 3), none, .mv (.c (.int .i64 0))⟩,
 ⟨(some 4), none, .mv (.c (.int .i64 0))⟩] false)
 (.seq
 (.seq
 (.region [
 ⟨(some 5), none, .faddr 0 (.t 1)⟩,
 ⟨(some 6), none, .load false 1 (.t 5)⟩] false)
 (.block 0
 (.seq
 (.region [
 ⟨(some 8), none, .bin .eql (.t 6) (.c (.int .i64 1))⟩,
 ⟨(some 7), none, .mv (.t 8)⟩] false)
 (.cond (.t 7)
 (.region [
 ⟨(some 3), none, .mv (.c (.int .i64 (-1000)))⟩,
 ⟨(some 4), none, .mv (.c (.int .i64 1000))⟩] false)
 (.seq
 (.region [
 ⟨(some 10), none, .bin .eql (.t 6) (.c (.int .i64 2))⟩,
 ⟨(some 9), none, .mv (.t 10)⟩] false)
 (.cond (.t 9)
 (.region [
 ⟨(some 3), none, .mv (.c (.int .i64 0))⟩,
 ⟨(some 4), none, .mv (.c (.int .i64 40))⟩] false)
 (.seq
 (.region [
 ⟨(some 2), none, .mv (.c (.bool false))⟩] false)
 .ret)))))))
 (.seq
 (.region [
 ⟨(some 11), none, .mv (.t 3)⟩,
 ⟨(some 12), none, .faddr 1 (.t 1)⟩,
 ⟨(some 13), none, .load false 1 (.t 12)⟩,
 ⟨(some 14), none, .bin .leq (.t 11) (.t 13)⟩,
 ⟨(some 15), none, .mv (.t 14)⟩,
 ⟨(some 16), (some (15, true)), .faddr 1 (.t 1)⟩,
 ⟨(some 17), (some (15, true)), .load false 1 (.t 16)⟩,
 ⟨(some 18), (some (15, true)), .faddr 2 (.t 1)⟩,
 ⟨(some 19), (some (15, true)), .load false 1 (.t 18)⟩,
 ⟨(some 20), (some (15, true)), .bin .leq (.t 17) (.t 19)⟩,
 ⟨(some 21), none, .pick (.t 15) (.t 20) (.c (.bool false))⟩,
 ⟨(some 22), none, .mv (.t 21)⟩,
 ⟨(some 23), (some (22, true)), .faddr 2 (.t 1)⟩,
 ⟨(some 24), (some (22, true)), .load false 1 (.t 23)⟩,
 ⟨(some 25), (some (22, true)), .mv (.t 4)⟩,
 ⟨(some 26), (some (22, true)), .bin .leq (.t 24) (.t 25)⟩,
 ⟨(some 27), none, .pick (.t 22) (.t 26) (.c (.bool false))⟩,
 ⟨(some 2), none, .mv (.t 27)⟩] false)
 .ret))))
def r97 : List ERes := [.t 2]

theorem c97 : chkF Try.prog Try.f97 1 e97 r97 = true := by kernel_rfl

def e106 : EC :=
 (.seq
 (.region [
 ⟨(some 2), none, .mv (.c (.bool false))⟩] false)
 (.seq
 (.region [
 ⟨(some 3), none, .mv (.t 0)⟩,
 ⟨(some 4), none, .bin .leq (.c (.int .u8 97)) (.t 3)⟩,
 ⟨(some 5), none, .mv (.t 4)⟩,
 ⟨(some 6), (some (5, true)), .mv (.t 0)⟩,
 ⟨(some 7), (some (5, true)), .bin .leq (.t 6) (.c (.int .u8 122))⟩,
 ⟨(some 8), none, .pick (.t 5) (.t 7) (.c (.bool false))⟩,
 ⟨(some 9), none, .mv (.t 8)⟩,
 ⟨(some 10), (some (9, false)), .mv (.t 0)⟩,
 ⟨(some 11), (some (9, false)), .bin .leq (.c (.int .u8 65)) (.t 10)⟩,
 ⟨(some 12), (some (9, false)), .mv (.t 11)⟩,
 ⟨(some 13), (some (12, true)), .mv (.t 0)⟩,
 ⟨(some 14), (some (12, true)), .bin .leq (.t 13) (.c (.int .u8 90))⟩,
 ⟨(some 15), (some (9, false)), .pick (.t 12) (.t 14) (.c (.bool false))⟩,
 ⟨(some 16), none, .pick (.t 9) (.c (.bool true)) (.t 15)⟩,
 ⟨(some 2), none, .mv (.t 16)⟩] false)
 .ret))
def r106 : List ERes := [.t 2]

theorem c106 : chkF Try.prog Try.f106 1 e106 r106 = true := by kernel_rfl

def e107 : EC :=
 (.seq
 (.region [
 ⟨(some 2), none, .mv (.c (.bool false))⟩] false)
 (.seq
 (.region [
 ⟨(some 3), none, .mv (.t 0)⟩,
 ⟨(some 4), none, .call 106 [(.t 3)]⟩,
 ⟨(some 5), none, .mv (.t 4)⟩,
 ⟨(some 6), (some (5, false)), .mv (.t 0)⟩,
 ⟨(some 7), (some (5, false)), .call 125 [(.t 6)]⟩,
 ⟨(some 8), none, .pick (.t 5) (.c (.bool true)) (.t 7)⟩,
 ⟨(some 9), none, .mv (.t 8)⟩,
 ⟨(some 10), (some (9, false)), .mv (.t 0)⟩,
 ⟨(some 11), (some (9, false)), .bin .eql (.t 10) (.c (.int .u8 95))⟩,
 ⟨(some 12), none, .pick (.t 9) (.c (.bool true)) (.t 11)⟩,
 ⟨(some 2), none, .mv (.t 12)⟩] false)
 .ret))
def r107 : List ERes := [.t 2]

theorem c107 : chkF Try.prog Try.f107 1 e107 r107 = true := by kernel_rfl

def e108 : EC :=
 (.seq
 (.region [
 ⟨(some 2), none, .box 87 (.t 0)⟩,
 ⟨(some 3), none, .mv (.c (.bool false))⟩] false)
 (.seq
 (.region [
 ⟨(some 4), none, .faddr 0 (.t 2)⟩,
 ⟨(some 5), none, .load false 1 (.t 4)⟩,
 ⟨(some 6), none, .faddr 0 (.t 1)⟩,
 ⟨(some 7), none, .load false 1 (.t 6)⟩,
 ⟨(some 8), none, .bin .eql (.t 5) (.t 7)⟩,
 ⟨(some 3), none, .mv (.t 8)⟩] false)
 .ret))
def r108 : List ERes := [.t 3]

theorem c108 : chkF Try.prog Try.f108 1 e108 r108 = true := by kernel_rfl

def e109 : EC :=
 (.seq
 (.region [
 ⟨(some 4), none, .mv (.c (.int .i64 0))⟩] false)
 (.seq
 (.seq
 (.region [
 ⟨(some 6), none, .mv (.t 0)⟩,
 ⟨(some 7), none, .len (.t 6)⟩,
 ⟨(some 8), none, .mv (.c (.int .i64 0))⟩] false)
 (.block 0
 (.loop
 (.seq
 (.region [
 ⟨(some 9), none, .bin .lss (.t 8) (.t 7)⟩] false)
 (.seq
 (.cond (.t 9)
 .skip
 (.exit 0))
 (.seq
 (.block 1
 (.seq
 (.region [
 ⟨(some 10), none, .mv (.t 8)⟩,
 ⟨(some 5), none, .mv (.t 10)⟩] false)
 (.seq
 (.region [
 ⟨(some 11), none, .mv (.t 1)⟩,
 ⟨(some 12), none, .mv (.t 0)⟩,
 ⟨(some 13), none, .mv (.t 5)⟩,
 ⟨(some 14), none, .iaddr 7 (.t 12) (.t 13)⟩,
 ⟨(some 15), none, .load true 7 (.t 14)⟩,
 ⟨(some 16), none, .callv (.t 11) [(.t 15)]⟩] false)
 (.cond (.t 16)
 (.seq
 (.region [
 ⟨(some 17), none, .mv (.t 5)⟩,
 ⟨(some 4), none, .mv (.t 17)⟩] false)
 .ret)
 .skip))))
 (.region [
 ⟨(some 18), none, .bin .add (.t 8) (.c (.int .i64 1))⟩,
 ⟨(some 8), none, .mv (.t 18)⟩] false)))))))
 (.seq
 (.region [
 ⟨(some 4), none, .mv (.c (.int .i64 (-1)))⟩] false)
 .ret)))
def r109 : List ERes := [.t 4]

theorem c109 : chkF Try.prog Try.f109 2 e109 r109 = true := by kernel_rfl

def e110 : EC :=
 (.seq
 (.region [
 ⟨(some 2), none, .box 128 (.t 0)⟩,
 ⟨(some 3), none, .mv (.c (.bool false))⟩] false)
 (.seq
 (.region [
 ⟨(some 4), none, .faddr 0 (.t 2)⟩,
 ⟨(some 5), none, .load false 1 (.t 4)⟩,
 ⟨(some 6), none, .faddr 0 (.t 1)⟩,
 ⟨(some 7), none, .load false 1 (.t 6)⟩,
 ⟨(some 8), none, .bin .eql (.t 5) (.t 7)⟩,
 ⟨(some 9), none, .mv (.t 8)⟩,
 ⟨(some 10), (some (9, true)), .faddr 1 (.t 2)⟩,
 ⟨(some 11), (some (9, true)), .load false 1 (.t 10)⟩,
 ⟨(some 12), (some (9, true)), .faddr 1 (.t 1)⟩,
 ⟨(some 13), (some (9, true)), .load false 1 (.t 12)⟩,
 ⟨(some 14), (some (9, true)), .bin .eql (.t 11) (.t 13)⟩,
 ⟨(some 15), none, .pick (.t 9) (.t 14) (.c (.bool false))⟩,
 ⟨(some 3), none, .mv (.t 15)⟩] false)
 .ret))
def r110 : List ERes := [.t 3]

theorem c110 : chkF Try.prog Try.f110 1 e110 r110 = true := by kernel_rfl

def e111 : EC :=
 (.seq
 (.region [
 ⟨(some 3), none, .box 41 (.t 0)⟩,
 ⟨(some 6), none, .mv (.c (.bool false))⟩] false)
 (.seq
 (.region [
 ⟨(some 7), none, .mv (.t 1)⟩,
 ⟨(some 8), none, .call 68 [(.t 7), (.c (.int .i64 0)), (.c (.int .i64 5))]⟩,
 ⟨(some 9), none, .mv (.t 8)⟩,
 ⟨(some 10), (some (9, true)), .mv (.t 1)⟩,
 ⟨(some 11), (some (9, true)), .faddr 1 (.t 3)⟩,
 ⟨(some 12), (some (9, true)), .load false 1 (.t 11)⟩,
 ⟨(some 13), (some (9, true)), .bin .neq (.t 10) (.t 12)⟩,
 ⟨(some 14), none, .pick (.t 9) (.t 13) (.c (.bool false))⟩,
 ⟨(some 15), none, .mv (.t 14)⟩,
 ⟨(some 16), (some (15, true)), .mv (.t 2)⟩,
 ⟨(some 17), (some (15, true)), .call 68 [(.t 16), (.c (.int .i64 0)), (.c (.int .i64 39))]⟩,
 ⟨(some 18), none, .pick (.t 15) (.t 17) (.c (.bool false))⟩,
 ⟨(some 6), none, .mv (.t 18)⟩] false)
 .ret))
def r111 : List ERes := [.t 6]

theorem c111 : chkF Try.prog Try.f111 3 e111 r111 = true := by kernel_rfl

def e112 : EC :=
 (.seq
 (.region [
 ⟨(some 4), none, .mv (.c (.int .i64 0))⟩] false)
 (.seq
 (.seq
 (.region [
 ⟨(some 6), none, .mv (.t 0)⟩,
 ⟨(some 7), none, .len (.t 6)⟩,
 ⟨(some 8), none, .mv (.c (.int .i64 0))⟩] false)
 (.block 0
 (.loop
 (.seq
 (.region [
 ⟨(some 9), none, .bin .lss (.t 8) (.t 7)⟩] false)
 (.seq
 (.cond (.t 9)
 .skip
 (.exit 0))
 (.seq
 (.block 1
 (.seq
 (.region [
 ⟨(some 10), none, .mv (.t 8)⟩,
 ⟨(some 5), none, .mv (.t 10)⟩] false)
 (.seq
 (.region [
 ⟨(some 11), none, .mv (.t 1)⟩,
 ⟨(some 12), none, .mv (.t 0)⟩,
 ⟨(some 13), none, .mv (.t 5)⟩,
 ⟨(some 14), none, .iaddr 3 (.t 12) (.t 13)⟩,
 ⟨(some 15), none, .load true 3 (.t 14)⟩,
 ⟨(some 16), none, .callv (.t 11) [(.t 15)]⟩] false)
 (.cond (.t 16)
 (.seq
 (.region [
 ⟨(some 17), none, .mv (.t 5)⟩,
 ⟨(some 4), none, .mv (.t 17)⟩] false)
 .ret)
 .skip))))
 (.region [
 ⟨(some 18), none, .bin .add (.t 8) (.c (.int .i64 1))⟩,
 ⟨(some 8), none, .mv (.t 18)⟩] false)))))))
 (.seq
 (.region [
 ⟨(some 4), none, .mv (.c (.int .i64 (-1)))⟩] false)
 .ret)))
def r112 : List ERes := [.t 4]

theorem c112 : chkF Try.prog Try.f112 2 e112 r112 = true := by kernel_rfl

def e113 : EC :=
 (.seq
 (.region [
 ⟨(some 2), none, .mv (.c (.int .i64 0))⟩,
 ⟨(some 3), none, .mv (.c (.int .i64 0))⟩,
 ⟨(some 4), none, .mv (.c (.bool false))⟩] false)
 (.seq
 (.seq
 (.region [
 ⟨(some 5), none, .mv (.t 0)⟩] false)
 (.block 0
 (.seq
 (.region [
 ⟨(some 7), none, .bin .eql (.t 5) (.c (.int .i64 1))⟩,
 ⟨(some 6), none, .mv (.t 7)⟩] false)
 (.cond (.t 6)
 (.seq
 (.region [
 ⟨(some 2), none, .mv (.c (.int .i64 (-1000)))⟩,
 ⟨(some 3), none, .mv (.c (.int .i64 1000))⟩,
 ⟨(some 4), none, .mv (.c (.bool true))⟩] false)
 .ret)
 (.seq
 (.seq
 (.region [
 ⟨(some 9), none, .bin .eql (.t 5) (.c (.int .i64 3))⟩,
 ⟨(some 8), none, .mv (.t 9)⟩] false)
 (.cond (.t 8)
 .skip
 (.region [
 ⟨(some 10), none, .bin .eql (.t 5) (.c (.int .i64 5))⟩,
 ⟨(some 8), none, .mv (.t 10)⟩] false)))
 (.cond (.t 8)
 (.seq
 (.region [
 ⟨(some 2), none, .mv (.c (.int .i64 0))⟩,
 ⟨(some 3), none, .mv (.c (.int .i64 11))⟩,
 ⟨(some 4), none, .mv (.c (.bool true))⟩] false)
 .ret)
 (.seq
 (.region [
 ⟨(some 12), none, .bin .eql (.t 5) (.c (.int .i64 4))⟩,
 ⟨(some 11), none, .mv (.t 12)⟩] false)
 (.cond (.t 11)
 (.seq
 (.region [
 ⟨(some 2), none, .mv (.c (.int .i64 0))⟩,
 ⟨(some 3), none, .mv (.c (.int .i64 3))⟩,
 ⟨(some 4), none, .mv (.c (.bool true))⟩] false)
 .ret)
 (.seq
 (.seq
 (.region [
 ⟨(some 14), none, .bin .eql (.t 5) (.c (.int .i64 19))⟩,
 ⟨(some 13), none, .mv (.t 14)⟩] false)
 (.cond (.t 13)
 .skip
 (.seq
 (.region [
 ⟨(some 15), none, .bin .eql (.t 5) (.c (.int .i64 20))⟩,
 ⟨(some 13), none, .mv (.t 15)⟩] false)
 (.cond (.t 13)
 .skip
 (.region [
 ⟨(some 16), none, .bin .eql (.t 5) (.c (.int .i64 22))⟩,
 ⟨(some 13), none, .mv (.t 16)⟩] false)))))
 (.cond (.t 13)
 (.seq
 (.region [
 ⟨(some 2), none, .mv (.c (.int .i64 0))⟩,
 ⟨(some 3), none, .mv (.c (.int .i64 999))⟩,
 ⟨(some 4), none, .mv (.c (.bool true))⟩] false)
 .ret)
 (.seq
 (.region [
 ⟨(some 18), none, .bin .eql (.t 5) (.c (.int .i64 21))⟩,
 ⟨(some 17), none, .mv (.t 18)⟩] false)
 (.cond (.t 17)
 (.seq
 (.region [
 ⟨(some 2), none, .mv (.c (.int .i64 1))⟩,
 ⟨(some 3), none, .mv (.c (.int .i64 50))⟩,
 ⟨(some 4), none, .mv (.c (.bool true))⟩] false)
 .ret)
 .skip))))))))))))
 (.seq
 (.region [
 ⟨(some 2), none, .mv (.c (.int .i64 0))⟩,
 ⟨(some 3), none, .mv (.c (.int .i64 0))⟩,
 ⟨(some 4), none, .mv (.c (.bool false))⟩] false)
 .ret)))
def r113 : List ERes := [.t 2, .t 3, .t 4]

theorem c113 : chkF Try.prog Try.f113 1 e113 r113 = true := by kernel_rfl

def e121 : EC :=
 (.seq
 (.region [
 ⟨(some 4), none, .mv (.c (.bool false))⟩] false)
 (.seq
 (.region [
 ⟨(some 5), none, .mv (.t 0)⟩,
 ⟨(some 6), none, .mv (.t 1)⟩,
 ⟨(some 7), none, .call 126 [(.t 5), (.t 6)]⟩,
 ⟨(some 8), none, .bin .geq (.t 7) (.c (.int .i64 0))⟩,
 ⟨(some 4), none, .mv (.t 8)⟩] false)
 .ret))
def r121 : List ERes := [.t 4]

theorem c121 : chkF Try.prog Try.f121 2 e121 r121 = true := by kernel_rfl

def e122 : EC :=
 (.seq
 (.region [
 ⟨(some 2), none, .mv (.c (.bool false))⟩] false)
 (.seq
 (.region [
 ⟨(some 3), none, .mv (.t 0)⟩,
 ⟨(some 4), none, .bin .lss (.t 3) (.c (.int .i32 32))⟩,
 ⟨(some 5), none, .mv (.t 4)⟩,
 ⟨(some 6), (some (5, false)), .mv (.t 0)⟩,
 ⟨(some 7), (some (5, false)), .bin .gtr (.t 6) (.c (.int .i32 126))⟩,
 ⟨(some 8), none, .pick (.t 5) (.c (.bool true)) (.t 7)⟩,
 ⟨(some 2), none, .mv (.t 8)⟩] false)
 .ret))
def r122 : List ERes := [.t 2]

theorem c122 : chkF Try.prog Try.f122 1 e122 r122 = true := by kernel_rfl

def e123 : EC :=
 (.seq
 (.region [
 ⟨(some 2), none, .box 85 (.t 0)⟩,
 ⟨(some 3), none, .box 70 (.t 1)⟩,
 ⟨(some 4), none, .alloc 70 [.int .i64 0, .int .i64 0, .str []]⟩,
 ⟨(some 5), none, .mv (.c (.int .i64 0))⟩] false)
 (.seq
 (.block 0
 (.seq
 (.region [
 ⟨(some 7), none, .load true 3 (.t 2)⟩,
 ⟨(some 8), none, .call 97 [(.t 7)]⟩,
 ⟨(some 9), none, .not (.t 8)⟩,
 ⟨(some 10), none, .mv (.t 9)⟩,
 ⟨(some 11), (some (10, false)), .load true 3 (.t 3)⟩,
 ⟨(some 12), (some (10, false)), .call 55 [(.t 11)]⟩,
 ⟨(some 13), (some (10, false)), .not (.t 12)⟩,
 ⟨(some 14), none, .pick (.t 10) (.c (.bool true)) (.t 13)⟩,
 ⟨(some 6), none, .mv (.t 14)⟩] false)
 (.cond (.t 6)
 (.seq
 (.region [
 ⟨(some 15), none, .build [.int .i64 0, .int .i64 0, .str []] []⟩,
 ⟨none, none, .store 3 (.t 4) (.t 15)⟩,
 ⟨(some 5), none, .mv (.c (.int .i64 1))⟩] false)
 .ret)
 (.seq
 (.region [
 ⟨(some 17), none, .faddr 0 (.t 2)⟩,
 ⟨(some 18), none, .load false 1 (.t 17)⟩,
 ⟨(some 19), none, .faddr 0 (.t 3)⟩,
 ⟨(some 20), none, .load false 1 (.t 19)⟩,
 ⟨(some 21), none, .bin .neq (.t 18) (.t 20)⟩,
 ⟨(some 16), none, .mv (.t 21)⟩] false)
 (.cond (.t 16)
 (.seq
 (.region [
 ⟨(some 22), none, .build [.int .i64 0, .int .i64 0, .str []] []⟩,
 ⟨none, none, .store 3 (.t 4) (.t 22)⟩,
 ⟨(some 5), none, .mv (.c (.int .i64 11))⟩] false)
 .ret)
 (.seq
 (.region [
 ⟨(some 24), none, .faddr 0 (.t 3)⟩,
 ⟨(some 25), none, .load false 1 (.t 24)⟩,
 ⟨(some 26), none, .bin .eql (.t 25) (.c (.int .i64 1))⟩,
 ⟨(some 23), none, .mv (.t 26)⟩] false)
 (.cond (.t 23)
 (.seq
 (.region [
 ⟨(some 27), none, .faddr 1 (.t 2)⟩,
 ⟨(some 28), none, .load false 1 (.t 27)⟩,
 ⟨(some 29), none, .faddr 2 (.t 2)⟩,
 ⟨(some 30), none, .load false 1 (.t 29)⟩,
 ⟨(some 31), none, .faddr 1 (.t 3)⟩,
 ⟨(some 32), none, .load false 1 (.t 31)⟩,
 ⟨(some 33), none, .minmax false [(.t 30), (.t 32)]⟩,
 ⟨(some 34), none, .minmax true [(.t 28), (.t 33)]⟩,
 ⟨(some 35), none, .faddr 1 (.t 3)⟩,
 ⟨none, none, .store 1 (.t 35) (.t 34)⟩] false)
 (.seq
 (.region [
 ⟨(some 36), none, .load true 3 (.t 3)⟩,
 ⟨none, none, .store 3 (.t 4) (.t 36)⟩,
 ⟨(some 5), none, .mv (.c (.int .i64 0))⟩] false)
 .ret))
 .skip)))))))
 (.seq
 (.region [
 ⟨(some 37), none, .faddr 2 (.t 3)⟩,
 ⟨(some 38), none, .load false 1 (.t 37)⟩,
 ⟨(some 39), none, .faddr 2 (.t 3)⟩,
 ⟨(some 40), none, .load false 1 (.t 39)⟩,
 ⟨(some 41), none, .lenS (.t 40)⟩,
 ⟨(some 42), none, .faddr 2 (.t 2)⟩,
 ⟨(some 43), none, .load false 1 (.t 42)⟩,
 ⟨(some 44), none, .minmax false [(.t 41), (.t 43)]⟩,
 ⟨(some 45), none, .slS (.t 38) none (some (.t 44))⟩,
 ⟨(some 46), none, .faddr 2 (.t 3)⟩,
 ⟨none, none, .store 1 (.t 46) (.t 45)⟩] false)
 (.seq
 (.region [
 ⟨(some 47), none, .faddr 2 (.t 3)⟩,
 ⟨(some 48), none, .load false 1 (.t 47)⟩,
 ⟨(some 49), none, .faddr 1 (.t 2)⟩,
 ⟨(some 50), none, .load false 1 (.t 49)⟩,
 ⟨(some 51), none, .faddr 2 (.t 3)⟩,
 ⟨(some 52), none, .load false 1 (.t 51)⟩,
 ⟨(some 53), none, .lenS (.t 52)⟩,
 ⟨(some 54), none, .bin .sub (.t 50) (.t 53)⟩,
 ⟨(some 55), none, .minmax true [(.c (.int .i64 0)), (.t 54)]⟩,
 ⟨(some 56), none, .pcall 127 [(.c (.str [97])), (.t 55)]⟩,
 ⟨(some 57), none, .bin .add (.t 48) (.t 56)⟩,
 ⟨(some 58), none, .faddr 2 (.t 3)⟩,
 ⟨none, none, .store 1 (.t 58) (.t 57)⟩] true)
 (.seq
 (.region [
 ⟨(some 59), none, .load true 3 (.t 3)⟩,
 ⟨none, none, .store 3 (.t 4) (.t 59)⟩,
 ⟨(some 5), none, .mv (.c (.int .i64 0))⟩] false)
 .ret)))))
def r123 : List ERes := [.cell true 3 4, .t 5]

theorem c123 : chkF Try.prog Try.f123 2 e123 r123 = true := by kernel_rfl

def e124 : EC :=
 (.seq
 (.region [
 ⟨(some 2), none, .mv (.c (.int .i64 0))⟩,
 ⟨(some 3), none, .mv (.c (.int .i64 0))⟩] false)
 (.seq
 (.region [
 ⟨(some 4), none, .mv (.t 0)⟩,
 ⟨(some 5), none, .call 91 [(.t 4), (.c (.int .i64 1))]⟩,
 ⟨(some 6), none, .field false 1 1 (.t 5)⟩,
 ⟨(some 3), none, .mv (.t 6)⟩] false)
 (.seq
 (.region [
 ⟨(some 7), none, .mv (.t 0)⟩,
 ⟨(some 8), none, .call 91 [(.t 7), (.c (.int .i64 1))]⟩,
 ⟨(some 9), none, .field false 1 1 (.t 8)⟩,
 ⟨(some 2), none, .mv (.t 9)⟩] false)
 (.seq
 (.region [
 ⟨(some 10), none, .mv (.t 2)⟩,
 ⟨(some 11), none, .mv (.t 3)⟩,
 ⟨(some 2), none, .mv (.t 10)⟩,
 ⟨(some 3), none, .mv (.t 11)⟩] false)
 .ret))))
def r124 : List ERes := [.t 2, .t 3]

theorem c124 : chkF Try.prog Try.f124 1 e124 r124 = true := by kernel_rfl

def e125 : EC :=
 (.seq
 (.region [
 ⟨(some 2), none, .mv (.c (.bool false))⟩] false)
 (.seq
 (.region [
 ⟨(some 3), none, .mv (.t 0)⟩,
 ⟨(some 4), none, .bin .leq (.c (.int .u8 48)) (.t 3)⟩,
 ⟨(some 5), none, .mv (.t 4)⟩,
 ⟨(some 6), (some (5, true)), .mv (.t 0)⟩,
 ⟨(some 7), (some (5, true)), .bin .leq (.t 6) (.c (.int .u8 57))⟩,
 ⟨(some 8), none, .pick (.t 5) (.t 7) (.c (.bool false))⟩,
 ⟨(some 2), none, .mv (.t 8)⟩] false)
 .ret))
def r125 : List ERes := [.t 2]

theorem c125 : chkF Try.prog Try.f125 1 e125 r125 = true := by kernel_rfl

def e126 : EC :=
 (.seq
 (.region [
 ⟨(some 4), none, .mv (.c (.int .i64 0))⟩] false)
 (.seq
 (.region [
 ⟨(some 5), none, .mv (.t 0)⟩,
 ⟨(some 6), none, .mv (.t 1)⟩,
 ⟨(some 7), none, .call 128 [(.t 5), (.t 6), (.c (.bool true))]⟩,
 ⟨(some 4), none, .mv (.t 7)⟩] false)
 .ret))
def r126 : List ERes := [.t 4]

theorem c126 : chkF Try.prog Try.f126 2 e126 r126 = true := by kernel_rfl

end Go.Aw.T

/- Resolved code of functions, and that it is theirs (written by ecode.py, own tool). -/
namespace Go.Aw.T
open Go Go.Aw Go.Proofs
set_option maxRecDepth 1000000

def e28 : EC :=
 (.seq
 (.region [
 ⟨(some 2), none, .box 41 (.t 0)⟩,
 ⟨(some 4), none, .mv (.c (.bool false))⟩] false)
 (.seq
 (.region [
 ⟨(some 5), none, .load true 6 (.t 2)⟩,
 ⟨(some 6), none, .call 43 [(.t 5)]⟩,
 ⟨(some 7), none, .mv (.t 6)⟩,
 ⟨(some 8), (some (7, true)), .faddr 2 (.t 2)⟩,
 ⟨(some 9), (some (7, true)), .load false 1 (.t 8)⟩,
 ⟨(some 10), (some (7, true)), .mv (.t 1)⟩,
 ⟨(some 11), (some (7, true)), .call 59 [(.t 9), (.t 10), (.c (.fn 60 []))]⟩,
 ⟨(some 12), none, .pick (.t 7) (.t 11) (.c (.bool false))⟩,
 ⟨(some 4), none, .mv (.t 12)⟩] false)
 .ret))
def r28 : List ERes := [.t 4]

theorem c28 : chkF Try.prog Try.f28 2 e28 r28 = true := by kernel_rfl

def e53 : EC :=
 (.seq
 (.region [
 ⟨(some 2), none, .mv (.c (.bool false))⟩] false)
 (.seq
 (.seq
 (.region [
 ⟨(some 3), none, .mv (.c (.int .i64 0))⟩] false)
 (.block 0
 (.loop
 (.seq
 (.seq
 (.region [
 ⟨(some 4), none, .mv (.t 3)⟩,
 ⟨(some 5), none, .mv (.t 0)⟩,
 ⟨(some 6), none, .len (.t 5)⟩,
 ⟨(some 7), none, .bin .lss (.t 4) (.t 6)⟩] false)
 (.cond (.t 7)
 .skip
 (.exit 0)))
 (.seq
 (.block 1
 (.seq
 (.region [
 ⟨(some 10), none, .mv (.t 0)⟩,
 ⟨(some 11), none, .mv (.t 3)⟩,
 ⟨(some 12), none, .iaddr 3 (.t 10) (.t 11)⟩,
 ⟨(some 13), none, .faddr 2 (.t 12)⟩,
 ⟨(some 14), none, .load false 1 (.t 13)⟩,
 ⟨(some 15), none, .lenS (.t 14)⟩,
 ⟨(some 16), none, .bin .gtr (.t 15) (.c (.int .i64 100))⟩] false)
 (.cond (.t 16)
 (.seq
 (.region [
 ⟨(some 2), none, .mv (.c (.bool false))⟩] false)
 .ret)
 .skip)))
 (.region [
 ⟨(some 8), none, .mv (.t 3)⟩,
 ⟨(some 9), none, .bin .add (.t 8) (.c (.int .i64 1))⟩,
 ⟨(some 3), none, .mv (.t 9)⟩] false))))))
 (.seq
 (.region [
 ⟨(some 17), none, .mv (.t 0)⟩,
 ⟨(some 18), none, .len (.t 17)⟩,
 ⟨(some 19), none, .bin .leq (.t 18) (.c (.int .i64 40))⟩,
 ⟨(some 2), none, .mv (.t 19)⟩] false)
 .ret)))
def r53 : List ERes := [.t 2]

theorem c53 : chkF Try.prog Try.f53 1 e53 r53 = true := by kernel_rfl

def e36 : EC :=
 (.seq
 (.region [
 ⟨(some 4), none, .mv (.c (.bool false))⟩] false)
 (.seq
 (.seq
 (.region [
 ⟨(some 6), none, .mv (.t 0)⟩,
 ⟨(some 7), none, .len (.t 6)⟩,
 ⟨(some 8), none, .mv (.t 1)⟩,
 ⟨(some 9), none, .len (.t 8)⟩,
 ⟨(some 10), none, .bin .neq (.t 7) (.t 9)⟩] false)
 (.cond (.t 10)
 (.seq
 (.region [
 ⟨(some 4), none, .mv (.c (.bool false))⟩] false)
 .ret)
 .skip))
 (.seq
 (.seq
 (.region [
 ⟨(some 5), none, .mv (.c (.int .i64 0))⟩] false)
 (.block 0
 (.loop
 (.seq
 (.seq
 (.region [
 ⟨(some 11), none, .mv (.t 5)⟩,
 ⟨(some 12), none, .mv (.t 0)⟩,
 ⟨(some 13), none, .len (.t 12)⟩,
 ⟨(some 14), none, .bin .lss (.t 11) (.t 13)⟩] false)
 (.cond (.t 14)
 .skip
 (.exit 0)))
 (.seq
 (.block 1
 (.seq
 (.region [
 ⟨(some 17), none, .mv (.t 0)⟩,
 ⟨(some 18), none, .mv (.t 5)⟩,
 ⟨(some 19), none, .iaddr 3 (.t 17) (.t 18)⟩,
 ⟨(some 20), none, .load true 3 (.t 19)⟩,
 ⟨(some 21), none, .mv (.t 1)⟩,
 ⟨(some 22), none, .mv (.t 5)⟩,
 ⟨(some 23), none, .iaddr 3 (.t 21) (.t 22)⟩,
 ⟨(some 24), none, .load true 3 (.t 23)⟩,
 ⟨(some 25), none, .eqA true 70 [.i .i64, .i .i64, .s] (.t 20) (.t 24)⟩] true)
 (.cond (.t 25)
 (.seq
 (.region [
 ⟨(some 4), none, .mv (.c (.bool false))⟩] false)
 .ret)
 .skip)))
 (.region [
 ⟨(some 15), none, .mv (.t 5)⟩,
 ⟨(some 16), none, .bin .add (.t 15) (.c (.int .i64 1))⟩,
 ⟨(some 5), none, .mv (.t 16)⟩] false))))))
 (.seq
 (.region [
 ⟨(some 4), none, .mv (.c (.bool true))⟩] false)
 .ret))))
def r36 : List ERes := [.t 4]

theorem c36 : chkF Try.prog Try.f36 2 e36 r36 = true := by kernel_rfl

def e25 : EC :=
 (.seq
 (.region [
 ⟨(some 1), none, .box 56 (.t 0)⟩,
 ⟨(some 2), none, .mv (.c (.bool false))⟩] false)
 (.seq
 (.region [
 ⟨(some 3), none, .faddr 1 (.t 1)⟩,
 ⟨(some 4), none, .load false 1 (.t 3)⟩,
 ⟨(some 5), none, .call 53 [(.t 4)]⟩,
 ⟨(some 6), none, .mv (.t 5)⟩,
 ⟨(some 7), (some (6, true)), .faddr 2 (.t 1)⟩,
 ⟨(some 8), (some (6, true)), .load false 1 (.t 7)⟩,
 ⟨(some 9), (some (6, true)), .call 53 [(.t 8)]⟩,
 ⟨(some 10), none, .pick (.t 6) (.t 9) (.c (.bool false))⟩,
 ⟨(some 11), none, .mv (.t 10)⟩,
 ⟨(some 12), (some (11, true)), .faddr 3 (.t 1)⟩,
 ⟨(some 13), (some (11, true)), .load false 1 (.t 12)⟩,
 ⟨(some 14), (some (11, true)), .bin .leq (.t 13) (.c (.int .i64 3000))⟩,
 ⟨(some 15), none, .pick (.t 11) (.t 14) (.c (.bool false))⟩,
 ⟨(some 2), none, .mv (.t 15)⟩] false)
 .ret))
def r25 : List ERes := [.t 2]

theorem c25 : chkF Try.prog Try.f25 1 e25 r25 = true := by kernel_rfl

def e27 : EC :=
 (.seq
 (.region [
 ⟨(some 2), none, .box 60 (.t 0)⟩,
 ⟨(some 3), none, .box 64 (.t 1)⟩,
 ⟨(some 4), none, .mv (.c (.bool false))⟩] false)
 (.seq
 (.region [
 ⟨(some 5), none, .faddr 0 (.t 2)⟩,
 ⟨(some 6), none, .load false 1 (.t 5)⟩,
 ⟨(some 7), none, .faddr 0 (.t 3)⟩,
 ⟨(some 8), none, .load false 1 (.t 7)⟩,
 ⟨(some 9), none, .call 36 [(.t 6), (.t 8)]⟩,
 ⟨(some 10), none, .mv (.t 9)⟩,
 ⟨(some 11), (some (10, true)), .faddr 1 (.t 2)⟩,
 ⟨(some 12), (some (10, true)), .load false 1 (.t 11)⟩,
 ⟨(some 13), (some (10, true)), .faddr 1 (.t 3)⟩,
 ⟨(some 14), (some (10, true)), .load false 1 (.t 13)⟩,
 ⟨(some 15), (some (10, true)), .call 36 [(.t 12), (.t 14)]⟩,
 ⟨(some 16), none, .pick (.t 10) (.t 15) (.c (.bool false))⟩,
 ⟨(some 17), none, .mv (.t 16)⟩,
 ⟨(some 18), (some (17, true)), .faddr 2 (.t 2)⟩,
 ⟨(some 19), (some (17, true)), .load false 1 (.t 18)⟩,
 ⟨(some 20), (some (17, true)), .faddr 2 (.t 3)⟩,
 ⟨(some 21), (some (17, true)), .load false 1 (.t 20)⟩,
 ⟨(some 22), (some (17, true)), .bin .eql (.t 19) (.t 21)⟩,
 ⟨(some 23), none, .pick (.t 17) (.t 22) (.c (.bool false))⟩,
 ⟨(some 4), none, .mv (.t 23)⟩] false)
 .ret))
def r27 : List ERes := [.t 4]

theorem c27 : chkF Try.prog Try.f27 2 e27 r27 = true := by kernel_rfl

def e16 : EC :=
 (.seq
 (.region [
 ⟨(some 1), none, .box 27 (.t 0)⟩,
 ⟨(some 2), none, .mv (.c (.bool false))⟩] false)
 (.seq
 (.seq
 (.region [
 ⟨(some 3), none, .mv (.c (.int .i64 0))⟩] false)
 (.block 0
 (.loop
 (.seq
 (.seq
 (.region [
 ⟨(some 5), none, .mv (.t 3)⟩,
 ⟨(some 6), none, .faddr 5 (.t 1)⟩,
 ⟨(some 7), none, .load false 1 (.t 6)⟩,
 ⟨(some 8), none, .len (.t 7)⟩,
 ⟨(some 9), none, .bin .lss (.t 5) (.t 8)⟩] false)
 (.cond (.t 9)
 .skip
 (.exit 0)))
 (.seq
 (.block 1
 (.seq
 (.region [
 ⟨(some 12), none, .faddr 5 (.t 1)⟩,
 ⟨(some 13), none, .load false 1 (.t 12)⟩,
 ⟨(some 14), none, .mv (.t 3)⟩,
 ⟨(some 15), none, .iaddr 3 (.t 13) (.t 14)⟩,
 ⟨(some 16), none, .faddr 2 (.t 15)⟩,
 ⟨(some 17), none, .load false 1 (.t 16)⟩,
 ⟨(some 18), none, .lenS (.t 17)⟩,
 ⟨(some 19), none, .bin .gtr (.t 18) (.c (.int .i64 100))⟩] false)
 (.cond (.t 19)
 (.seq
 (.region [
 ⟨(some 2), none, .mv (.c (.bool false))⟩] false)
 .ret)
 .skip)))
 (.region [
 ⟨(some 10), none, .mv (.t 3)⟩,
 ⟨(some 11), none, .bin .add (.t 10) (.c (.int .i64 1))⟩,
 ⟨(some 3), none, .mv (.t 11)⟩] false))))))
 (.seq
 (.seq
 (.region [
 ⟨(some 4), none, .mv (.c (.int .i64 0))⟩] false)
 (.block 2
 (.loop
 (.seq
 (.seq
 (.region [
 ⟨(some 20), none, .mv (.t 4)⟩,
 ⟨(some 21), none, .faddr 2 (.t 1)⟩,
 ⟨(some 22), none, .load false 1 (.t 21)⟩,
 ⟨(some 23), none, .len (.t 22)⟩,
 ⟨(some 24), none, .bin .lss (.t 20) (.t 23)⟩] false)
 (.cond (.t 24)
 .skip
 (.exit 2)))
 (.seq
 (.block 3
 (.seq
 (.region [
 ⟨(some 27), none, .faddr 2 (.t 1)⟩,
 ⟨(some 28), none, .load false 1 (.t 27)⟩,
 ⟨(some 29), none, .mv (.t 4)⟩,
 ⟨(some 30), none, .iaddr 7 (.t 28) (.t 29)⟩,
 ⟨(some 31), none, .faddr 0 (.t 30)⟩,
 ⟨(some 32), none, .load false 1 (.t 31)⟩,
 ⟨(some 33), none, .lenS (.t 32)⟩,
 ⟨(some 34), none, .bin .gtr (.t 33) (.c (.int .i64 100))⟩,
 ⟨(some 35), none, .mv (.t 34)⟩,
 ⟨(some 36), (some (35, false)), .faddr 2 (.t 1)⟩,
 ⟨(some 37), (some (35, false)), .load false 1 (.t 36)⟩,
 ⟨(some 38), (some (35, false)), .mv (.t 4)⟩,
 ⟨(some 39), (some (35, false)), .iaddr 7 (.t 37) (.t 38)⟩,
 ⟨(some 40), (some (35, false)), .faddr 4 (.t 39)⟩,
 ⟨(some 41), (some (35, false)), .faddr 2 (.t 40)⟩,
 ⟨(some 42), (some (35, false)), .load false 1 (.t 41)⟩,
 ⟨(some 43), (some (35, false)), .lenS (.t 42)⟩,
 ⟨(some 44), (some (35, false)), .bin .gtr (.t 43) (.c (.int .i64 100))⟩,
 ⟨(some 45), none, .pick (.t 35) (.c (.bool true)) (.t 44)⟩] false)
 (.cond (.t 45)
 (.seq
 (.region [
 ⟨(some 2), none, .mv (.c (.bool false))⟩] false)
 .ret)
 .skip)))
 (.region [
 ⟨(some 25), none, .mv (.t 4)⟩,
 ⟨(some 26), none, .bin .add (.t 25) (.c (.int .i64 1))⟩,
 ⟨(some 4), none, .mv (.t 26)⟩] false))))))
 (.seq
 (.region [
 ⟨(some 46), none, .faddr 0 (.t 1)⟩,
 ⟨(some 47), none, .load false 1 (.t 46)⟩,
 ⟨(some 48), none, .lenS (.t 47)⟩,
 ⟨(some 49), none, .bin .leq (.t 48) (.c (.int .i64 100))⟩,
 ⟨(some 50), none, .mv (.t 49)⟩,
 ⟨(some 51), (some (50, true)), .faddr 2 (.t 1)⟩,
 ⟨(some 52), (some (50, true)), .load false 1 (.t 51)⟩,
 ⟨(some 53), (some (50, true)), .len (.t 52)⟩,
 ⟨(some 54), (some (50, true)), .bin .leq (.t 53) (.c (.int .i64 20))⟩,
 ⟨(some 55), none, .pick (.t 50) (.t 54) (.c (.bool false))⟩,
 ⟨(some 56), none, .mv (.t 55)⟩,
 ⟨(some 57), (some (56, true)), .faddr 3 (.t 1)⟩,
 ⟨(some 58), (some (56, true)), .load false 1 (.t 57)⟩,
 ⟨(some 59), (some (56, true)), .len (.t 58)⟩,
 ⟨(some 60), (some (56, true)), .bin .leq (.t 59) (.c (.int .i64 60))⟩,
 ⟨(some 61), none, .pick (.t 56) (.t 60) (.c (.bool false))⟩,
 ⟨(some 62), none, .mv (.t 61)⟩,
 ⟨(some 63), (some (62, true)), .faddr 4 (.t 1)⟩,
 ⟨(some 64), (some (62, true)), .load false 1 (.t 63)⟩,
 ⟨(some 65), (some (62, true)), .len (.t 64)⟩,
 ⟨(some 66), (some (62, true)), .bin .leq (.t 65) (.c (.int .i64 60))⟩,
 ⟨(some 67), none, .pick (.t 62) (.t 66) (.c (.bool false))⟩,
 ⟨(some 68), none, .mv (.t 67)⟩,
 ⟨(some 69), (some (68, true)), .faddr 5 (.t 1)⟩,
 ⟨(some 70), (some (68, true)), .load false 1 (.t 69)⟩,
 ⟨(some 71), (some (68, true)), .len (.t 70)⟩,
 ⟨(some 72), (some (68, true)), .bin .leq (.t 71) (.c (.int .i64 300))⟩,
 ⟨(some 73), none, .pick (.t 68) (.t 72) (.c (.bool false))⟩,
 ⟨(some 2), none, .mv (.t 73)⟩] false)
 .ret))))
def r16 : List ERes := [.t 2]

theorem c16 : chkF Try.prog Try.f16 1 e16 r16 = true := by kernel_rfl

def e18 : EC :=
 (.seq
 (.region [
 ⟨(some 1), none, .box 27 (.t 0)⟩,
 ⟨(some 2), none, .alloc 41 [.str [], .int .i64 0, .nilS, .nilS, .nilS, .nilS]⟩] false)
 (.seq
 (.region [
 ⟨(some 8), none, .faddr 0 (.t 1)⟩,
 ⟨(some 9), none, .load false 1 (.t 8)⟩,
 ⟨(some 10), none, .faddr 1 (.t 1)⟩,
 ⟨(some 11), none, .load false 1 (.t 10)⟩,
 ⟨(some 12), none, .build [.str [], .int .i64 0, .nilS, .nilS, .nilS, .nilS] [(0, 1, (.t 9)), (1, 1, (.t 11))]⟩,
 ⟨(some 3), none, .alloc 41 [.str [], .int .i64 0, .nilS, .nilS, .nilS, .nilS]⟩,
 ⟨none, none, .store 6 (.t 3) (.t 12)⟩] false)
 (.seq
 (.seq
 (.region [
 ⟨(some 4), none, .mv (.c (.int .i64 0))⟩] false)
 (.block 0
 (.loop
 (.seq
 (.seq
 (.region [
 ⟨(some 13), none, .mv (.t 4)⟩,
 ⟨(some 14), none, .faddr 2 (.t 1)⟩,
 ⟨(some 15), none, .load false 1 (.t 14)⟩,
 ⟨(some 16), none, .len (.t 15)⟩,
 ⟨(some 17), none, .bin .lss (.t 13) (.t 16)⟩] false)
 (.cond (.t 17)
 .skip
 (.exit 0)))
 (.seq
 (.block 1
 (.region [
 ⟨(some 20), none, .faddr 2 (.t 3)⟩,
 ⟨(some 21), none, .load false 1 (.t 20)⟩,
 ⟨(some 22), none, .faddr 2 (.t 1)⟩,
 ⟨(some 23), none, .load false 1 (.t 22)⟩,
 ⟨(some 24), none, .mv (.t 4)⟩,
 ⟨(some 25), none, .iaddr 7 (.t 23) (.t 24)⟩,
 ⟨(some 26), none, .load true 7 (.t 25)⟩,
 ⟨(some 27), none, .bslice 87 7 1 [.str [], .int .i64 0, .int .i64 0, .int .i64 0, .int .i64 0, .int .i64 0, .str []] [(0, (.t 26))]⟩,
 ⟨(some 28), none, .appendM 87 7 72 (.t 21) (.t 27)⟩,
 ⟨(some 29), none, .faddr 2 (.t 3)⟩,
 ⟨none, none, .store 1 (.t 29) (.t 28)⟩] true))
 (.region [
 ⟨(some 18), none, .mv (.t 4)⟩,
 ⟨(some 19), none, .bin .add (.t 18) (.c (.int .i64 1))⟩,
 ⟨(some 4), none, .mv (.t 19)⟩] false))))))
 (.seq
 (.seq
 (.region [
 ⟨(some 5), none, .mv (.c (.int .i64 0))⟩] false)
 (.block 2
 (.loop
 (.seq
 (.seq
 (.region [
 ⟨(some 30), none, .mv (.t 5)⟩,
 ⟨(some 31), none, .faddr 3 (.t 1)⟩,
 ⟨(some 32), none, .load false 1 (.t 31)⟩,
 ⟨(some 33), none, .len (.t 32)⟩,
 ⟨(some 34), none, .bin .lss (.t 30) (.t 33)⟩] false)
 (.cond (.t 34)
 .skip
 (.exit 2)))
 (.seq
 (.block 3
 (.region [
 ⟨(some 37), none, .faddr 3 (.t 3)⟩,
 ⟨(some 38), none, .load false 1 (.t 37)⟩,
 ⟨(some 39), none, .faddr 3 (.t 1)⟩,
 ⟨(some 40), none, .load false 1 (.t 39)⟩,
 ⟨(some 41), none, .mv (.t 5)⟩,
 ⟨(some 42), none, .iaddr 3 (.t 40) (.t 41)⟩,
 ⟨(some 43), none, .load true 3 (.t 42)⟩,
 ⟨(some 44), none, .bslice 128 3 1 [.int .i64 0, .int .i64 0, .int .i64 0] [(0, (.t 43))]⟩,
 ⟨(some 45), none, .appendM 128 3 24 (.t 38) (.t 44)⟩,
 ⟨(some 46), none, .faddr 3 (.t 3)⟩,
 ⟨none, none, .store 1 (.t 46) (.t 45)⟩] true))
 (.region [
 ⟨(some 35), none, .mv (.t 5)⟩,
 ⟨(some 36), none, .bin .add (.t 35) (.c (.int .i64 1))⟩,
 ⟨(some 5), none, .mv (.t 36)⟩] false))))))
 (.seq
 (.seq
 (.region [
 ⟨(some 6), none, .mv (.c (.int .i64 0))⟩] false)
 (.block 4
 (.loop
 (.seq
 (.seq
 (.region [
 ⟨(some 47), none, .mv (.t 6)⟩,
 ⟨(some 48), none, .faddr 4 (.t 1)⟩,
 ⟨(some 49), none, .load false 1 (.t 48)⟩,
 ⟨(some 50), none, .len (.t 49)⟩,
 ⟨(some 51), none, .bin .lss (.t 47) (.t 50)⟩] false)
 (.cond (.t 51)
 .skip
 (.exit 4)))
 (.seq
 (.block 5
 (.region [
 ⟨(some 54), none, .faddr 4 (.t 3)⟩,
 ⟨(some 55), none, .load false 1 (.t 54)⟩,
 ⟨(some 56), none, .faddr 4 (.t 1)⟩,
 ⟨(some 57), none, .load false 1 (.t 56)⟩,
 ⟨(some 58), none, .mv (.t 6)⟩,
 ⟨(some 59), none, .iaddr 4 (.t 57) (.t 58)⟩,
 ⟨(some 60), none, .load true 4 (.t 59)⟩,
 ⟨(some 61), none, .bslice 117 4 1 [.int .i64 0, .int .i64 0, .int .i64 0, .int .i64 0] [(0, (.t 60))]⟩,
 ⟨(some 62), none, .appendM 117 4 32 (.t 55) (.t 61)⟩,
 ⟨(some 63), none, .faddr 4 (.t 3)⟩,
 ⟨none, none, .store 1 (.t 63) (.t 62)⟩] true))
 (.region [
 ⟨(some 52), none, .mv (.t 6)⟩,
 ⟨(some 53), none, .bin .add (.t 52) (.c (.int .i64 1))⟩,
 ⟨(some 6), none, .mv (.t 53)⟩] false))))))
 (.seq
 (.seq
 (.region [
 ⟨(some 7), none, .mv (.c (.int .i64 0))⟩] false)
 (.block 6
 (.loop
 (.seq
 (.seq
 (.region [
 ⟨(some 64), none, .mv (.t 7)⟩,
 ⟨(some 65), none, .faddr 5 (.t 1)⟩,
 ⟨(some 66), none, .load false 1 (.t 65)⟩,
 ⟨(some 67), none, .len (.t 66)⟩,
 ⟨(some 68), none, .bin .lss (.t 64) (.t 67)⟩] false)
 (.cond (.t 68)
 .skip
 (.exit 6)))
 (.seq
 (.block 7
 (.region [
 ⟨(some 71), none, .faddr 5 (.t 3)⟩,
 ⟨(some 72), none, .load false 1 (.t 71)⟩,
 ⟨(some 73), none, .faddr 5 (.t 1)⟩,
 ⟨(some 74), none, .load false 1 (.t 73)⟩,
 ⟨(some 75), none, .mv (.t 7)⟩,
 ⟨(some 76), none, .iaddr 3 (.t 74) (.t 75)⟩,
 ⟨(some 77), none, .load true 3 (.t 76)⟩,
 ⟨(some 78), none, .bslice 88 3 1 [.int .i64 0, .int .i64 0, .str []] [(0, (.t 77))]⟩,
 ⟨(some 79), none, .appendM 88 3 32 (.t 72) (.t 78)⟩,
 ⟨(some 80), none, .faddr 5 (.t 3)⟩,
 ⟨none, none, .store 1 (.t 80) (.t 79)⟩] true))
 (.region [
 ⟨(some 69), none, .mv (.t 7)⟩,
 ⟨(some 70), none, .bin .add (.t 69) (.c (.int .i64 1))⟩,
 ⟨(some 7), none, .mv (.t 70)⟩] false))))))
 (.seq
 (.region [
 ⟨(some 81), none, .load true 6 (.t 3)⟩,
 ⟨none, none, .store 6 (.t 2) (.t 81)⟩] false)
 .ret)))))))
def r18 : List ERes := [.cell true 6 2]

theorem c18 : chkF Try.prog Try.f18 1 e18 r18 = true := by kernel_rfl

def e5 : EC :=
 (.seq
 (.region [
 ⟨(some 3), none, .box 27 (.t 0)⟩,
 ⟨(some 4), none, .box 56 (.t 1)⟩,
 ⟨(some 6), none, .mv (.c (.bool false))⟩] false)
 (.seq
 (.seq
 (.region [
 ⟨(some 14), none, .call 24 []⟩,
 ⟨(some 15), none, .not (.t 14)⟩] false)
 (.cond (.t 15)
 (.seq
 (.region [
 ⟨(some 6), none, .mv (.c (.bool false))⟩] false)
 .ret)
 .skip))
 (.seq
 (.seq
 (.region [
 ⟨(some 16), none, .load true 6 (.t 3)⟩,
 ⟨(some 17), none, .call 16 [(.t 16)]⟩,
 ⟨(some 18), none, .not (.t 17)⟩,
 ⟨(some 19), none, .mv (.t 18)⟩,
 ⟨(some 20), (some (19, false)), .load true 4 (.t 4)⟩,
 ⟨(some 21), (some (19, false)), .call 25 [(.t 20)]⟩,
 ⟨(some 22), (some (19, false)), .not (.t 21)⟩,
 ⟨(some 23), none, .pick (.t 19) (.c (.bool true)) (.t 22)⟩] false)
 (.cond (.t 23)
 (.seq
 (.region [
 ⟨(some 6), none, .mv (.c (.bool true))⟩] false)
 .ret)
 .skip))
 (.seq
 (.region [
 ⟨(some 24), none, .load true 6 (.t 3)⟩,
 ⟨(some 25), none, .call 18 [(.t 24)]⟩,
 ⟨(some 7), none, .alloc 41 [.str [], .int .i64 0, .nilS, .nilS, .nilS, .nilS]⟩,
 ⟨none, none, .store 6 (.t 7) (.t 25)⟩] false)
 (.seq
 (.region [
 ⟨(some 27), none, .load true 6 (.t 7)⟩,
 ⟨(some 28), none, .faddr 0 (.t 4)⟩,
 ⟨(some 29), none, .load false 1 (.t 28)⟩,
 ⟨(some 30), none, .faddr 1 (.t 4)⟩,
 ⟨(some 31), none, .load false 1 (.t 30)⟩,
 ⟨(some 32), none, .faddr 2 (.t 4)⟩,
 ⟨(some 33), none, .load false 1 (.t 32)⟩,
 ⟨(some 34), none, .faddr 3 (.t 4)⟩,
 ⟨(some 35), none, .load false 1 (.t 34)⟩,
 ⟨(some 36), none, .call 26 [(.t 27), (.t 29), (.t 31), (.t 33), (.t 35)]⟩,
 ⟨(some 26), none, .mv (.t 36)⟩,
 ⟨(some 37), none, .extract 0 (.t 26)⟩,
 ⟨(some 38), none, .extract 1 (.t 26)⟩,
 ⟨(some 8), none, .alloc 60 [.nilS, .nilS, .int .i64 0]⟩,
 ⟨none, none, .store 3 (.t 8) (.t 37)⟩,
 ⟨(some 9), none, .mv (.t 38)⟩] false)
 (.seq
 (.seq
 (.region [
 ⟨(some 39), none, .mv (.t 9)⟩,
 ⟨(some 40), none, .bin .neq (.t 39) (.c (.int .i64 0))⟩] false)
 (.cond (.t 40)
 (.seq
 (.region [
 ⟨(some 41), none, .faddr 2 (.t 8)⟩,
 ⟨(some 42), none, .load false 1 (.t 41)⟩,
 ⟨(some 43), none, .bin .eql (.t 42) (.c (.int .i64 0))⟩,
 ⟨(some 44), none, .mv (.t 43)⟩,
 ⟨(some 45), (some (44, true)), .faddr 0 (.t 8)⟩,
 ⟨(some 46), (some (44, true)), .load false 1 (.t 45)⟩,
 ⟨(some 47), (some (44, true)), .len (.t 46)⟩,
 ⟨(some 48), (some (44, true)), .bin .eql (.t 47) (.c (.int .i64 0))⟩,
 ⟨(some 49), none, .pick (.t 44) (.t 48) (.c (.bool false))⟩,
 ⟨(some 50), none, .mv (.t 49)⟩,
 ⟨(some 51), (some (50, true)), .faddr 1 (.t 8)⟩,
 ⟨(some 52), (some (50, true)), .load false 1 (.t 51)⟩,
 ⟨(some 53), (some (50, true)), .len (.t 52)⟩,
 ⟨(some 54), (some (50, true)), .bin .eql (.t 53) (.c (.int .i64 0))⟩,
 ⟨(some 55), none, .pick (.t 50) (.t 54) (.c (.bool false))⟩,
 ⟨(some 6), none, .mv (.t 55)⟩] false)
 .ret)
 .skip))
 (.seq
 (.region [
 ⟨(some 57), none, .load true 6 (.t 7)⟩,
 ⟨(some 58), none, .faddr 0 (.t 4)⟩,
 ⟨(some 59), none, .load false 1 (.t 58)⟩,
 ⟨(some 60), none, .faddr 1 (.t 4)⟩,
 ⟨(some 61), none, .load false 1 (.t 60)⟩,
 ⟨(some 62), none, .faddr 2 (.t 4)⟩,
 ⟨(some 63), none, .load false 1 (.t 62)⟩,
 ⟨(some 64), none, .faddr 2 (.t 8)⟩,
 ⟨(some 65), none, .load false 1 (.t 64)⟩,
 ⟨(some 66), none, .mv (.t 2)⟩,
 ⟨(some 67), none, .conv .i64 (.t 66)⟩,
 ⟨(some 68), none, .bin .add (.t 65) (.t 67)⟩,
 ⟨(some 69), none, .call 26 [(.t 57), (.t 59), (.t 61), (.t 63), (.t 68)]⟩,
 ⟨(some 56), none, .mv (.t 69)⟩,
 ⟨(some 70), none, .extract 0 (.t 56)⟩,
 ⟨(some 71), none, .extract 1 (.t 56)⟩,
 ⟨(some 10), none, .alloc 60 [.nilS, .nilS, .int .i64 0]⟩,
 ⟨none, none, .store 3 (.t 10) (.t 70)⟩,
 ⟨(some 11), none, .mv (.t 71)⟩] false)
 (.seq
 (.region [
 ⟨(some 73), none, .load true 6 (.t 7)⟩,
 ⟨(some 74), none, .faddr 0 (.t 4)⟩,
 ⟨(some 75), none, .load false 1 (.t 74)⟩,
 ⟨(some 76), none, .faddr 1 (.t 4)⟩,
 ⟨(some 77), none, .load false 1 (.t 76)⟩,
 ⟨(some 78), none, .faddr 2 (.t 4)⟩,
 ⟨(some 79), none, .load false 1 (.t 78)⟩,
 ⟨(some 80), none, .faddr 2 (.t 8)⟩,
 ⟨(some 81), none, .load false 1 (.t 80)⟩,
 ⟨(some 82), none, .bin .sub (.t 81) (.c (.int .i64 1))⟩,
 ⟨(some 83), none, .call 26 [(.t 73), (.t 75), (.t 77), (.t 79), (.t 82)]⟩,
 ⟨(some 72), none, .mv (.t 83)⟩,
 ⟨(some 84), none, .extract 0 (.t 72)⟩,
 ⟨(some 85), none, .extract 1 (.t 72)⟩,
 ⟨(some 12), none, .alloc 60 [.nilS, .nilS, .int .i64 0]⟩,
 ⟨none, none, .store 3 (.t 12) (.t 84)⟩,
 ⟨(some 13), none, .mv (.t 85)⟩] false)
 (.seq
 (.region [
 ⟨(some 86), none, .faddr 2 (.t 8)⟩,
 ⟨(some 87), none, .load false 1 (.t 86)⟩,
 ⟨(some 88), none, .bin .geq (.t 87) (.c (.int .i64 1))⟩,
 ⟨(some 89), none, .mv (.t 88)⟩,
 ⟨(some 90), (some (89, true)), .faddr 2 (.t 8)⟩,
 ⟨(some 91), (some (89, true)), .load false 1 (.t 90)⟩,
 ⟨(some 92), (some (89, true)), .faddr 3 (.t 4)⟩,
 ⟨(some 93), (some (89, true)), .load false 1 (.t 92)⟩,
 ⟨(some 94), (some (89, true)), .bin .leq (.t 91) (.t 93)⟩,
 ⟨(some 95), none, .pick (.t 89) (.t 94) (.c (.bool false))⟩,
 ⟨(some 96), none, .mv (.t 95)⟩,
 ⟨(some 97), (some (96, true)), .mv (.t 11)⟩,
 ⟨(some 98), (some (96, true)), .bin .eql (.t 97) (.c (.int .i64 0))⟩,
 ⟨(some 99), none, .pick (.t 96) (.t 98) (.c (.bool false))⟩,
 ⟨(some 100), none, .mv (.t 99)⟩,
 ⟨(some 101), (some (100, true)), .mv (.t 13)⟩,
 ⟨(some 102), (some (100, true)), .bin .eql (.t 101) (.c (.int .i64 26))⟩,
 ⟨(some 103), none, .pick (.t 100) (.t 102) (.c (.bool false))⟩,
 ⟨(some 104), none, .mv (.t 103)⟩,
 ⟨(some 105), (some (104, true)), .load true 3 (.t 8)⟩,
 ⟨(some 106), (some (104, true)), .load true 3 (.t 10)⟩,
 ⟨(some 107), (some (104, true)), .call 27 [(.t 105), (.t 106)]⟩,
 ⟨(some 108), none, .pick (.t 104) (.t 107) (.c (.bool false))⟩,
 ⟨(some 6), none, .mv (.t 108)⟩] false)
 .ret)))))))))
def r5 : List ERes := [.t 6]

theorem c5 : chkF Try.prog Try.f5 3 e5 r5 = true := by kernel_rfl

end Go.Aw.T
/- Resolved code of functions, and that it is theirs (written by ecode.py, own tool). -/
namespace Go.Aw.T
open Go Go.Aw Go.Proofs
set_option maxRecDepth 1000000

def e31 : EC :=
 (.seq
 (.region [
 ⟨(some 2), none, .alloc 70 [.int .i64 0, .int .i64 0, .str []]⟩] false)
 (.seq
 (.region [
 ⟨(some 3), none, .mv (.t 0)⟩,
 ⟨(some 4), none, .build [.int .i64 0, .int .i64 0, .str []] [(0, 1, (.c (.int .i64 2))), (2, 1, (.t 3))]⟩,
 ⟨none, none, .store 3 (.t 2) (.t 4)⟩] false)
 .ret))
def r31 : List ERes := [.cell true 3 2]

theorem c31 : chkF Try.prog Try.f31 1 e31 r31 = true := by kernel_rfl

def e98 : EC :=
 (.region [
 ⟨(some 4), none, .mv (.t 0)⟩,
 ⟨(some 5), none, .mv (.t 1)⟩,
 ⟨(some 6), none, .minmax false [(.t 5), (.c (.int .i64 1000000))]⟩,
 ⟨(some 7), none, .minmax true [(.c (.int .i64 (-1000000))), (.t 6)]⟩,
 ⟨(some 8), none, .call 29 [(.t 7)]⟩,
 ⟨(some 9), none, .call 99 [(.t 4), (.t 8)]⟩] false)
def r98 : List ERes := []

theorem c98 : chkF Try.prog Try.f98 2 e98 r98 = true := by kernel_rfl

def e99 : EC :=
 (.seq
 (.region [
 ⟨(some 3), none, .box 70 (.t 1)⟩] false)
 (.seq
 (.seq
 (.region [
 ⟨(some 4), none, .mv (.t 0)⟩,
 ⟨(some 5), none, .nilck (.t 4)⟩,
 ⟨(some 6), none, .faddr 0 (.t 5)⟩,
 ⟨(some 7), none, .load false 1 (.t 6)⟩,
 ⟨(some 8), none, .lenM (.t 7)⟩,
 ⟨(some 9), none, .bin .eql (.t 8) (.c (.int .i64 16))⟩] false)
 (.cond (.t 9)
 (.seq
 (.region [
 ⟨(some 10), none, .mv (.t 0)⟩,
 ⟨(some 11), none, .nilck (.t 10)⟩,
 ⟨(some 12), none, .faddr 4 (.t 11)⟩,
 ⟨none, none, .store 1 (.t 12) (.c (.bool true))⟩] false)
 .ret)
 .skip))
 (.region [
 ⟨(some 13), none, .mv (.t 0)⟩,
 ⟨(some 14), none, .mv (.t 0)⟩,
 ⟨(some 15), none, .nilck (.t 14)⟩,
 ⟨(some 16), none, .faddr 0 (.t 15)⟩,
 ⟨(some 17), none, .load false 1 (.t 16)⟩,
 ⟨(some 18), none, .load true 3 (.t 3)⟩,
 ⟨(some 19), none, .bslice 70 3 1 [.int .i64 0, .int .i64 0, .str []] [(0, (.t 18))]⟩,
 ⟨(some 20), none, .appendM 70 3 32 (.t 17) (.t 19)⟩,
 ⟨(some 21), none, .nilck (.t 13)⟩,
 ⟨(some 22), none, .faddr 0 (.t 21)⟩,
 ⟨none, none, .store 1 (.t 22) (.t 20)⟩] true)))
def r99 : List ERes := []

theorem c99 : chkF Try.prog Try.f99 2 e99 r99 = true := by kernel_rfl

def e100 : EC :=
 (.seq
 (.region [
 ⟨(some 4), none, .alloc 70 [.int .i64 0, .int .i64 0, .str []]⟩] false)
 (.seq
 (.region [
 ⟨(some 7), none, .mv (.t 0)⟩,
 ⟨(some 8), none, .nilck (.t 7)⟩,
 ⟨(some 9), none, .faddr 0 (.t 8)⟩,
 ⟨(some 10), none, .load false 1 (.t 9)⟩,
 ⟨(some 11), none, .lenM (.t 10)⟩,
 ⟨(some 5), none, .mv (.t 11)⟩] false)
 (.seq
 (.seq
 (.region [
 ⟨(some 12), none, .mv (.t 0)⟩,
 ⟨(some 13), none, .nilck (.t 12)⟩,
 ⟨(some 14), none, .faddr 4 (.t 13)⟩,
 ⟨(some 15), none, .load false 1 (.t 14)⟩,
 ⟨(some 16), none, .mv (.t 15)⟩,
 ⟨(some 17), (some (16, false)), .mv (.t 5)⟩,
 ⟨(some 18), (some (16, false)), .bin .eql (.t 17) (.c (.int .i64 0))⟩,
 ⟨(some 19), none, .pick (.t 16) (.c (.bool true)) (.t 18)⟩,
 ⟨(some 20), none, .mv (.t 19)⟩,
 ⟨(some 21), (some (20, false)), .mv (.t 1)⟩,
 ⟨(some 22), (some (20, false)), .bin .neq (.t 21) (.c (.int .i64 0))⟩,
 ⟨(some 23), (some (20, false)), .mv (.t 22)⟩,
 ⟨(some 24), (some (23, true)), .mv (.t 0)⟩,
 ⟨(some 25), (some (23, true)), .nilck (.t 24)⟩,
 ⟨(some 26), (some (23, true)), .faddr 0 (.t 25)⟩,
 ⟨(some 27), (some (23, true)), .load false 1 (.t 26)⟩,
 ⟨(some 28), (some (23, true)), .mv (.t 5)⟩,
 ⟨(some 29), (some (23, true)), .bin .sub (.t 28) (.c (.int .i64 1))⟩,
 ⟨(some 30), (some (23, true)), .iaddrM 3 (.t 27) (.t 29)⟩,
 ⟨(some 31), (some (23, true)), .faddrM 0 (.t 30)⟩,
 ⟨(some 32), (some (23, true)), .loadM false 1 (.t 31)⟩,
 ⟨(some 33), (some (23, true)), .mv (.t 1)⟩,
 ⟨(some 34), (some (23, true)), .bin .neq (.t 32) (.t 33)⟩,
 ⟨(some 35), (some (20, false)), .pick (.t 23) (.t 34) (.c (.bool false))⟩,
 ⟨(some 36), none, .pick (.t 20) (.c (.bool true)) (.t 35)⟩] false)
 (.cond (.t 36)
 (.seq
 (.region [
 ⟨(some 37), none, .mv (.t 0)⟩,
 ⟨(some 38), none, .nilck (.t 37)⟩,
 ⟨(some 39), none, .faddr 4 (.t 38)⟩,
 ⟨none, none, .store 1 (.t 39) (.c (.bool true))⟩] false)
 (.seq
 (.region [
 ⟨(some 40), none, .mv (.t 1)⟩,
 ⟨(some 41), none, .build [.int .i64 0, .int .i64 0, .str []] [(0, 1, (.t 40))]⟩,
 ⟨none, none, .store 3 (.t 4) (.t 41)⟩] false)
 .ret))
 .skip))
 (.seq
 (.region [
 ⟨(some 42), none, .mv (.t 0)⟩,
 ⟨(some 43), none, .nilck (.t 42)⟩,
 ⟨(some 44), none, .faddr 0 (.t 43)⟩,
 ⟨(some 45), none, .load false 1 (.t 44)⟩,
 ⟨(some 46), none, .mv (.t 5)⟩,
 ⟨(some 47), none, .bin .sub (.t 46) (.c (.int .i64 1))⟩,
 ⟨(some 48), none, .iaddrM 3 (.t 45) (.t 47)⟩,
 ⟨(some 49), none, .loadM true 3 (.t 48)⟩,
 ⟨(some 6), none, .alloc 70 [.int .i64 0, .int .i64 0, .str []]⟩,
 ⟨none, none, .store 3 (.t 6) (.t 49)⟩] false)
 (.seq
 (.region [
 ⟨(some 50), none, .mv (.t 0)⟩,
 ⟨(some 51), none, .mv (.t 0)⟩,
 ⟨(some 52), none, .nilck (.t 51)⟩,
 ⟨(some 53), none, .faddr 0 (.t 52)⟩,
 ⟨(some 54), none, .load false 1 (.t 53)⟩,
 ⟨(some 55), none, .mv (.t 5)⟩,
 ⟨(some 56), none, .bin .sub (.t 55) (.c (.int .i64 1))⟩,
 ⟨(some 57), none, .slM 3 (.t 54) none (some (.t 56))⟩,
 ⟨(some 58), none, .nilck (.t 50)⟩,
 ⟨(some 59), none, .faddr 0 (.t 58)⟩,
 ⟨none, none, .store 1 (.t 59) (.t 57)⟩] false)
 (.seq
 (.region [
 ⟨(some 60), none, .load true 3 (.t 6)⟩,
 ⟨none, none, .store 3 (.t 4) (.t 60)⟩] false)
 .ret))))))
def r100 : List ERes := [.cell true 3 4]

theorem c100 : chkF Try.prog Try.f100 2 e100 r100 = true := by kernel_rfl

def e101 : EC :=
 (.seq
 (.region [
 ⟨(some 2), none, .box 85 (.t 0)⟩,
 ⟨(some 3), none, .box 70 (.t 1)⟩,
 ⟨(some 4), none, .alloc 70 [.int .i64 0, .int .i64 0, .str []]⟩] false)
 (.seq
 (.seq
 (.region [
 ⟨(some 7), none, .faddr 0 (.t 2)⟩,
 ⟨(some 8), none, .load false 1 (.t 7)⟩,
 ⟨(some 9), none, .bin .eql (.t 8) (.c (.int .i64 1))⟩] false)
 (.cond (.t 9)
 (.seq
 (.region [
 ⟨(some 10), none, .faddr 1 (.t 2)⟩,
 ⟨(some 11), none, .load false 1 (.t 10)⟩,
 ⟨(some 12), none, .faddr 1 (.t 3)⟩,
 ⟨(some 13), none, .load false 1 (.t 12)⟩,
 ⟨(some 14), none, .faddr 2 (.t 2)⟩,
 ⟨(some 15), none, .load false 1 (.t 14)⟩,
 ⟨(some 16), none, .minmax false [(.t 13), (.t 15)]⟩,
 ⟨(some 17), none, .minmax true [(.t 11), (.t 16)]⟩,
 ⟨(some 18), none, .call 29 [(.t 17)]⟩,
 ⟨none, none, .store 3 (.t 4) (.t 18)⟩] false)
 .ret)
 .skip))
 (.seq
 (.region [
 ⟨(some 20), none, .load true 3 (.t 2)⟩,
 ⟨(some 21), none, .load true 3 (.t 3)⟩,
 ⟨(some 22), none, .call 65 [(.t 20), (.t 21)]⟩,
 ⟨(some 19), none, .mv (.t 22)⟩,
 ⟨(some 23), none, .extract 0 (.t 19)⟩,
 ⟨(some 24), none, .extract 1 (.t 19)⟩,
 ⟨(some 5), none, .alloc 70 [.int .i64 0, .int .i64 0, .str []]⟩,
 ⟨none, none, .store 3 (.t 5) (.t 23)⟩,
 ⟨(some 6), none, .mv (.t 24)⟩] false)
 (.seq
 (.region [
 ⟨(some 25), none, .load true 3 (.t 5)⟩,
 ⟨none, none, .store 3 (.t 4) (.t 25)⟩] false)
 .ret))))
def r101 : List ERes := [.cell true 3 4]

theorem c101 : chkF Try.prog Try.f101 2 e101 r101 = true := by kernel_rfl

def e102 : EC :=
 (.seq
 (.seq
 (.region [
 ⟨(some 4), none, .mv (.t 1)⟩] false)
 (.cond (.t 4)
 (.seq
 (.region [
 ⟨(some 5), none, .mv (.t 0)⟩,
 ⟨(some 6), none, .call 98 [(.t 5), (.c (.int .i64 1))]⟩] false)
 .ret)
 .skip))
 (.region [
 ⟨(some 7), none, .mv (.t 0)⟩,
 ⟨(some 8), none, .call 98 [(.t 7), (.c (.int .i64 0))]⟩] false))
def r102 : List ERes := []

theorem c102 : chkF Try.prog Try.f102 2 e102 r102 = true := by kernel_rfl

def e103 : EC :=
 (.seq
 (.region [
 ⟨(some 6), none, .mv (.t 0)⟩,
 ⟨(some 7), none, .call 100 [(.t 6), (.c (.int .i64 1))]⟩,
 ⟨(some 8), none, .field false 1 1 (.t 7)⟩,
 ⟨(some 4), none, .mv (.t 8)⟩] false)
 (.seq
 (.region [
 ⟨(some 9), none, .mv (.t 0)⟩,
 ⟨(some 10), none, .call 100 [(.t 9), (.c (.int .i64 1))]⟩,
 ⟨(some 11), none, .field false 1 1 (.t 10)⟩,
 ⟨(some 5), none, .mv (.t 11)⟩] false)
 (.seq
 (.seq
 (.region [
 ⟨(some 12), none, .mv (.t 0)⟩,
 ⟨(some 13), none, .nilck (.t 12)⟩,
 ⟨(some 14), none, .faddr 4 (.t 13)⟩,
 ⟨(some 15), none, .load false 1 (.t 14)⟩] false)
 (.cond (.t 15)
 .ret
 .skip))
 (.seq
 (.region [
 ⟨(some 16), none, .mv (.t 1)⟩] false)
 (.block 0
 (.seq
 (.region [
 ⟨(some 36), none, .bin .eql (.t 16) (.c (.int .i64 6))⟩,
 ⟨(some 35), none, .mv (.t 36)⟩] false)
 (.cond (.t 35)
 (.region [
 ⟨(some 37), none, .mv (.t 0)⟩,
 ⟨(some 38), none, .mv (.t 5)⟩,
 ⟨(some 39), none, .mv (.t 4)⟩,
 ⟨(some 40), none, .bin .add (.t 38) (.t 39)⟩,
 ⟨(some 41), none, .call 98 [(.t 37), (.t 40)]⟩] false)
 (.seq
 (.region [
 ⟨(some 43), none, .bin .eql (.t 16) (.c (.int .i64 7))⟩,
 ⟨(some 42), none, .mv (.t 43)⟩] false)
 (.cond (.t 42)
 (.region [
 ⟨(some 44), none, .mv (.t 0)⟩,
 ⟨(some 45), none, .mv (.t 5)⟩,
 ⟨(some 46), none, .mv (.t 4)⟩,
 ⟨(some 47), none, .bin .sub (.t 45) (.t 46)⟩,
 ⟨(some 48), none, .call 98 [(.t 44), (.t 47)]⟩] false)
 (.seq
 (.region [
 ⟨(some 50), none, .bin .eql (.t 16) (.c (.int .i64 8))⟩,
 ⟨(some 49), none, .mv (.t 50)⟩] false)
 (.cond (.t 49)
 (.region [
 ⟨(some 51), none, .mv (.t 0)⟩,
 ⟨(some 52), none, .mv (.t 5)⟩,
 ⟨(some 53), none, .mv (.t 4)⟩,
 ⟨(some 54), none, .bin .mul (.t 52) (.t 53)⟩,
 ⟨(some 55), none, .call 98 [(.t 51), (.t 54)]⟩] false)
 (.seq
 (.region [
 ⟨(some 57), none, .bin .eql (.t 16) (.c (.int .i64 13))⟩,
 ⟨(some 56), none, .mv (.t 57)⟩] false)
 (.cond (.t 56)
 (.region [
 ⟨(some 58), none, .mv (.t 0)⟩,
 ⟨(some 59), none, .mv (.t 5)⟩,
 ⟨(some 60), none, .mv (.t 4)⟩,
 ⟨(some 61), none, .bin .lss (.t 59) (.t 60)⟩,
 ⟨(some 62), none, .call 102 [(.t 58), (.t 61)]⟩] false)
 (.seq
 (.region [
 ⟨(some 64), none, .bin .eql (.t 16) (.c (.int .i64 15))⟩,
 ⟨(some 63), none, .mv (.t 64)⟩] false)
 (.cond (.t 63)
 (.region [
 ⟨(some 65), none, .mv (.t 0)⟩,
 ⟨(some 66), none, .mv (.t 5)⟩,
 ⟨(some 67), none, .bin .neq (.t 66) (.c (.int .i64 0))⟩,
 ⟨(some 68), none, .mv (.t 67)⟩,
 ⟨(some 69), (some (68, true)), .mv (.t 4)⟩,
 ⟨(some 70), (some (68, true)), .bin .neq (.t 69) (.c (.int .i64 0))⟩,
 ⟨(some 71), none, .pick (.t 68) (.t 70) (.c (.bool false))⟩,
 ⟨(some 72), none, .call 102 [(.t 65), (.t 71)]⟩] false)
 (.seq
 (.region [
 ⟨(some 74), none, .bin .eql (.t 16) (.c (.int .i64 16))⟩,
 ⟨(some 73), none, .mv (.t 74)⟩] false)
 (.cond (.t 73)
 (.region [
 ⟨(some 75), none, .mv (.t 0)⟩,
 ⟨(some 76), none, .mv (.t 5)⟩,
 ⟨(some 77), none, .bin .neq (.t 76) (.c (.int .i64 0))⟩,
 ⟨(some 78), none, .mv (.t 77)⟩,
 ⟨(some 79), (some (78, false)), .mv (.t 4)⟩,
 ⟨(some 80), (some (78, false)), .bin .neq (.t 79) (.c (.int .i64 0))⟩,
 ⟨(some 81), none, .pick (.t 78) (.c (.bool true)) (.t 80)⟩,
 ⟨(some 82), none, .call 102 [(.t 75), (.t 81)]⟩] false)
 (.block 1
 (.seq
 (.region [
 ⟨(some 23), none, .mv (.t 4)⟩,
 ⟨(some 24), none, .bin .eql (.t 23) (.c (.int .i64 0))⟩,
 ⟨(some 22), none, .mv (.t 24)⟩] false)
 (.cond (.t 22)
 (.region [
 ⟨(some 25), none, .mv (.t 0)⟩,
 ⟨(some 26), none, .call 98 [(.t 25), (.c (.int .i64 0))]⟩] false)
 (.seq
 (.region [
 ⟨(some 28), none, .mv (.t 1)⟩,
 ⟨(some 29), none, .bin .eql (.t 28) (.c (.int .i64 9))⟩,
 ⟨(some 27), none, .mv (.t 29)⟩] false)
 (.cond (.t 27)
 (.region [
 ⟨(some 30), none, .mv (.t 0)⟩,
 ⟨(some 31), none, .mv (.t 5)⟩,
 ⟨(some 32), none, .mv (.t 4)⟩,
 ⟨(some 33), none, .bin .quo (.t 31) (.t 32)⟩,
 ⟨(some 34), none, .call 98 [(.t 30), (.t 33)]⟩] false)
 (.region [
 ⟨(some 17), none, .mv (.t 0)⟩,
 ⟨(some 18), none, .mv (.t 5)⟩,
 ⟨(some 19), none, .mv (.t 4)⟩,
 ⟨(some 20), none, .bin .rem (.t 18) (.t 19)⟩,
 ⟨(some 21), none, .call 98 [(.t 17), (.t 20)]⟩] false)))))))))))))))))))))))
def r103 : List ERes := []

theorem c103 : chkF Try.prog Try.f103 2 e103 r103 = true := by kernel_rfl

def e63 : EC :=
 (.seq
 (.region [
 ⟨(some 4), none, .box 27 (.t 1)⟩,
 ⟨(some 6), none, .mv (.c (.int .i64 0))⟩] false)
 (.seq
 (.region [
 ⟨(some 20), none, .faddr 5 (.t 4)⟩,
 ⟨(some 21), none, .load false 1 (.t 20)⟩,
 ⟨(some 22), none, .mv (.t 2)⟩,
 ⟨(some 23), none, .iaddr 3 (.t 21) (.t 22)⟩,
 ⟨(some 24), none, .load true 3 (.t 23)⟩,
 ⟨(some 7), none, .alloc 68 [.int .i64 0, .int .i64 0, .str []]⟩,
 ⟨none, none, .store 3 (.t 7) (.t 24)⟩] false)
 (.seq
 (.seq
 (.region [
 ⟨(some 25), none, .faddr 0 (.t 7)⟩,
 ⟨(some 26), none, .load false 1 (.t 25)⟩] false)
 (.block 0
 (.seq
 (.region [
 ⟨(some 32), none, .bin .eql (.t 26) (.c (.int .i64 1))⟩,
 ⟨(some 31), none, .mv (.t 32)⟩] false)
 (.cond (.t 31)
 (.region [
 ⟨(some 33), none, .mv (.t 0)⟩,
 ⟨(some 34), none, .faddr 1 (.t 7)⟩,
 ⟨(some 35), none, .load false 1 (.t 34)⟩,
 ⟨(some 36), none, .call 98 [(.t 33), (.t 35)]⟩] false)
 (.seq
 (.region [
 ⟨(some 38), none, .bin .eql (.t 26) (.c (.int .i64 2))⟩,
 ⟨(some 37), none, .mv (.t 38)⟩] false)
 (.cond (.t 37)
 (.region [
 ⟨(some 39), none, .mv (.t 0)⟩,
 ⟨(some 40), none, .faddr 2 (.t 7)⟩,
 ⟨(some 41), none, .load false 1 (.t 40)⟩,
 ⟨(some 42), none, .call 31 [(.t 41)]⟩,
 ⟨(some 43), none, .call 99 [(.t 39), (.t 42)]⟩] false)
 (.seq
 (.region [
 ⟨(some 45), none, .bin .eql (.t 26) (.c (.int .i64 3))⟩,
 ⟨(some 44), none, .mv (.t 45)⟩] false)
 (.cond (.t 44)
 (.region [
 ⟨(some 46), none, .mv (.t 0)⟩,
 ⟨(some 47), none, .mv (.t 0)⟩,
 ⟨(some 48), none, .nilck (.t 47)⟩,
 ⟨(some 49), none, .faddr 1 (.t 48)⟩,
 ⟨(some 50), none, .load false 1 (.t 49)⟩,
 ⟨(some 51), none, .faddr 1 (.t 7)⟩,
 ⟨(some 52), none, .load false 1 (.t 51)⟩,
 ⟨(some 53), none, .iaddrM 3 (.t 50) (.t 52)⟩,
 ⟨(some 54), none, .loadM true 3 (.t 53)⟩,
 ⟨(some 55), none, .call 99 [(.t 46), (.t 54)]⟩] true)
 (.seq
 (.region [
 ⟨(some 57), none, .bin .eql (.t 26) (.c (.int .i64 4))⟩,
 ⟨(some 56), none, .mv (.t 57)⟩] false)
 (.cond (.t 56)
 (.seq
 (.seq
 (.region [
 ⟨(some 58), none, .faddr 1 (.t 7)⟩,
 ⟨(some 59), none, .load false 1 (.t 58)⟩,
 ⟨(some 60), none, .mv (.t 0)⟩,
 ⟨(some 61), none, .nilck (.t 60)⟩,
 ⟨(some 62), none, .faddr 2 (.t 61)⟩,
 ⟨(some 63), none, .load false 1 (.t 62)⟩,
 ⟨(some 64), none, .len (.t 63)⟩,
 ⟨(some 65), none, .bin .geq (.t 59) (.t 64)⟩] true)
 (.cond (.t 65)
 (.seq
 (.region [
 ⟨(some 66), none, .mv (.t 0)⟩,
 ⟨(some 67), none, .nilck (.t 66)⟩,
 ⟨(some 68), none, .faddr 4 (.t 67)⟩,
 ⟨none, none, .store 1 (.t 68) (.c (.bool true))⟩] false)
 (.seq
 (.region [
 ⟨(some 69), none, .mv (.t 2)⟩,
 ⟨(some 6), none, .mv (.t 69)⟩] false)
 .ret))
 .skip))
 (.region [
 ⟨(some 70), none, .mv (.t 0)⟩,
 ⟨(some 71), none, .mv (.t 0)⟩,
 ⟨(some 72), none, .nilck (.t 71)⟩,
 ⟨(some 73), none, .faddr 2 (.t 72)⟩,
 ⟨(some 74), none, .load false 1 (.t 73)⟩,
 ⟨(some 75), none, .faddr 1 (.t 7)⟩,
 ⟨(some 76), none, .load false 1 (.t 75)⟩,
 ⟨(some 77), none, .iaddr 3 (.t 74) (.t 76)⟩,
 ⟨(some 78), none, .load true 3 (.t 77)⟩,
 ⟨(some 79), none, .call 99 [(.t 70), (.t 78)]⟩] true))
 (.seq
 (.region [
 ⟨(some 81), none, .bin .eql (.t 26) (.c (.int .i64 5))⟩,
 ⟨(some 80), none, .mv (.t 81)⟩] false)
 (.cond (.t 80)
 (.seq
 (.region [
 ⟨(some 82), none, .faddr 2 (.t 4)⟩,
 ⟨(some 83), none, .load false 1 (.t 82)⟩,
 ⟨(some 84), none, .faddr 1 (.t 7)⟩,
 ⟨(some 85), none, .load false 1 (.t 84)⟩,
 ⟨(some 86), none, .iaddr 7 (.t 83) (.t 85)⟩,
 ⟨(some 87), none, .faddr 1 (.t 86)⟩,
 ⟨(some 88), none, .load true 3 (.t 87)⟩,
 ⟨(some 8), none, .alloc 85 [.int .i64 0, .int .i64 0, .int .i64 0]⟩,
 ⟨none, none, .store 3 (.t 8) (.t 88)⟩] false)
 (.seq
 (.region [
 ⟨(some 89), none, .mv (.t 0)⟩,
 ⟨(some 90), none, .faddr 0 (.t 8)⟩,
 ⟨(some 91), none, .load false 1 (.t 90)⟩,
 ⟨(some 92), none, .call 100 [(.t 89), (.t 91)]⟩,
 ⟨(some 9), none, .alloc 70 [.int .i64 0, .int .i64 0, .str []]⟩,
 ⟨none, none, .store 3 (.t 9) (.t 92)⟩] false)
 (.seq
 (.region [
 ⟨(some 93), none, .mv (.t 0)⟩,
 ⟨(some 94), none, .nilck (.t 93)⟩,
 ⟨(some 95), none, .faddr 4 (.t 94)⟩,
 ⟨(some 96), none, .load false 1 (.t 95)⟩,
 ⟨(some 97), none, .not (.t 96)⟩] false)
 (.cond (.t 97)
 (.region [
 ⟨(some 98), none, .mv (.t 0)⟩,
 ⟨(some 99), none, .nilck (.t 98)⟩,
 ⟨(some 100), none, .faddr 1 (.t 99)⟩,
 ⟨(some 101), none, .load false 1 (.t 100)⟩,
 ⟨(some 102), none, .faddr 1 (.t 7)⟩,
 ⟨(some 103), none, .load false 1 (.t 102)⟩,
 ⟨(some 104), none, .load true 3 (.t 8)⟩,
 ⟨(some 105), none, .load true 3 (.t 9)⟩,
 ⟨(some 106), none, .pcall 101 [(.t 104), (.t 105)]⟩,
 ⟨(some 107), none, .iaddrM 3 (.t 101) (.t 103)⟩,
 ⟨none, none, .store 3 (.t 107) (.t 106)⟩] true)
 .skip))))
 (.seq
 (.region [
 ⟨(some 109), none, .bin .eql (.t 26) (.c (.int .i64 11))⟩,
 ⟨(some 108), none, .mv (.t 109)⟩] false)
 (.cond (.t 108)
 (.seq
 (.region [
 ⟨(some 110), none, .mv (.t 0)⟩,
 ⟨(some 111), none, .call 100 [(.t 110), (.c (.int .i64 1))]⟩,
 ⟨(some 10), none, .alloc 70 [.int .i64 0, .int .i64 0, .str []]⟩,
 ⟨none, none, .store 3 (.t 10) (.t 111)⟩] false)
 (.seq
 (.region [
 ⟨(some 112), none, .mv (.t 0)⟩,
 ⟨(some 113), none, .nilck (.t 112)⟩,
 ⟨(some 114), none, .faddr 4 (.t 113)⟩,
 ⟨(some 115), none, .load false 1 (.t 114)⟩,
 ⟨(some 116), none, .not (.t 115)⟩] false)
 (.cond (.t 116)
 (.region [
 ⟨(some 117), none, .mv (.t 0)⟩,
 ⟨(some 118), none, .faddr 1 (.t 10)⟩,
 ⟨(some 119), none, .load false 1 (.t 118)⟩,
 ⟨(some 120), none, .neg (.t 119)⟩,
 ⟨(some 121), none, .call 98 [(.t 117), (.t 120)]⟩] false)
 .skip)))
 (.seq
 (.region [
 ⟨(some 123), none, .bin .eql (.t 26) (.c (.int .i64 14))⟩,
 ⟨(some 122), none, .mv (.t 123)⟩] false)
 (.cond (.t 122)
 (.seq
 (.region [
 ⟨(some 124), none, .mv (.t 0)⟩,
 ⟨(some 125), none, .call 100 [(.t 124), (.c (.int .i64 1))]⟩,
 ⟨(some 11), none, .alloc 70 [.int .i64 0, .int .i64 0, .str []]⟩,
 ⟨none, none, .store 3 (.t 11) (.t 125)⟩] false)
 (.seq
 (.region [
 ⟨(some 126), none, .mv (.t 0)⟩,
 ⟨(some 127), none, .nilck (.t 126)⟩,
 ⟨(some 128), none, .faddr 4 (.t 127)⟩,
 ⟨(some 129), none, .load false 1 (.t 128)⟩,
 ⟨(some 130), none, .not (.t 129)⟩] false)
 (.cond (.t 130)
 (.region [
 ⟨(some 131), none, .mv (.t 0)⟩,
 ⟨(some 132), none, .faddr 1 (.t 11)⟩,
 ⟨(some 133), none, .load false 1 (.t 132)⟩,
 ⟨(some 134), none, .bin .eql (.t 133) (.c (.int .i64 0))⟩,
 ⟨(some 135), none, .call 102 [(.t 131), (.t 134)]⟩] false)
 .skip)))
 (.seq
 (.region [
 ⟨(some 137), none, .bin .eql (.t 26) (.c (.int .i64 12))⟩,
 ⟨(some 136), none, .mv (.t 137)⟩] false)
 (.cond (.t 136)
 (.seq
 (.region [
 ⟨(some 138), none, .mv (.t 0)⟩,
 ⟨(some 139), none, .call 100 [(.t 138), (.c (.int .i64 0))]⟩,
 ⟨(some 12), none, .alloc 70 [.int .i64 0, .int .i64 0, .str []]⟩,
 ⟨none, none, .store 3 (.t 12) (.t 139)⟩] false)
 (.seq
 (.region [
 ⟨(some 140), none, .mv (.t 0)⟩,
 ⟨(some 141), none, .faddr 0 (.t 12)⟩,
 ⟨(some 142), none, .load false 1 (.t 141)⟩,
 ⟨(some 143), none, .call 100 [(.t 140), (.t 142)]⟩,
 ⟨(some 13), none, .alloc 70 [.int .i64 0, .int .i64 0, .str []]⟩,
 ⟨none, none, .store 3 (.t 13) (.t 143)⟩] false)
 (.seq
 (.region [
 ⟨(some 144), none, .mv (.t 0)⟩,
 ⟨(some 145), none, .nilck (.t 144)⟩,
 ⟨(some 146), none, .faddr 4 (.t 145)⟩,
 ⟨(some 147), none, .load false 1 (.t 146)⟩,
 ⟨(some 148), none, .not (.t 147)⟩] false)
 (.cond (.t 148)
 (.region [
 ⟨(some 149), none, .mv (.t 0)⟩,
 ⟨(some 150), none, .load true 3 (.t 13)⟩,
 ⟨(some 151), none, .load true 3 (.t 12)⟩,
 ⟨(some 152), none, .eqA false 70 [.i .i64, .i .i64, .s] (.t 150) (.t 151)⟩,
 ⟨(some 153), none, .call 102 [(.t 149), (.t 152)]⟩] false)
 .skip))))
 (.seq
 (.region [
 ⟨(some 155), none, .bin .eql (.t 26) (.c (.int .i64 17))⟩,
 ⟨(some 154), none, .mv (.t 155)⟩] false)
 (.cond (.t 154)
 (.seq
 (.region [
 ⟨(some 156), none, .mv (.t 0)⟩,
 ⟨(some 157), none, .call 100 [(.t 156), (.c (.int .i64 2))]⟩,
 ⟨(some 14), none, .alloc 70 [.int .i64 0, .int .i64 0, .str []]⟩,
 ⟨none, none, .store 3 (.t 14) (.t 157)⟩] false)
 (.seq
 (.region [
 ⟨(some 158), none, .mv (.t 0)⟩,
 ⟨(some 159), none, .call 100 [(.t 158), (.c (.int .i64 2))]⟩,
 ⟨(some 15), none, .alloc 70 [.int .i64 0, .int .i64 0, .str []]⟩,
 ⟨none, none, .store 3 (.t 15) (.t 159)⟩] false)
 (.seq
 (.region [
 ⟨(some 160), none, .faddr 2 (.t 15)⟩,
 ⟨(some 161), none, .load false 1 (.t 160)⟩,
 ⟨(some 162), none, .faddr 2 (.t 14)⟩,
 ⟨(some 163), none, .load false 1 (.t 162)⟩,
 ⟨(some 164), none, .bin .add (.t 161) (.t 163)⟩,
 ⟨(some 16), none, .mv (.t 164)⟩] false)
 (.seq
 (.region [
 ⟨(some 165), none, .mv (.t 0)⟩,
 ⟨(some 166), none, .nilck (.t 165)⟩,
 ⟨(some 167), none, .faddr 4 (.t 166)⟩,
 ⟨(some 168), none, .load false 1 (.t 167)⟩,
 ⟨(some 169), none, .not (.t 168)⟩] false)
 (.cond (.t 169)
 (.region [
 ⟨(some 170), none, .mv (.t 0)⟩,
 ⟨(some 171), none, .mv (.t 16)⟩,
 ⟨(some 172), none, .mv (.t 16)⟩,
 ⟨(some 173), none, .lenS (.t 172)⟩,
 ⟨(some 174), none, .minmax false [(.t 173), (.c (.int .i64 40))]⟩,
 ⟨(some 175), none, .slS (.t 171) none (some (.t 174))⟩,
 ⟨(some 176), none, .call 31 [(.t 175)]⟩,
 ⟨(some 177), none, .call 99 [(.t 170), (.t 176)]⟩] false)
 .skip)))))
 (.seq
 (.region [
 ⟨(some 179), none, .bin .eql (.t 26) (.c (.int .i64 18))⟩,
 ⟨(some 178), none, .mv (.t 179)⟩] false)
 (.cond (.t 178)
 (.seq
 (.region [
 ⟨(some 180), none, .mv (.t 0)⟩,
 ⟨(some 181), none, .call 100 [(.t 180), (.c (.int .i64 2))]⟩,
 ⟨(some 17), none, .alloc 70 [.int .i64 0, .int .i64 0, .str []]⟩,
 ⟨none, none, .store 3 (.t 17) (.t 181)⟩] false)
 (.seq
 (.region [
 ⟨(some 182), none, .mv (.t 0)⟩,
 ⟨(some 183), none, .nilck (.t 182)⟩,
 ⟨(some 184), none, .faddr 4 (.t 183)⟩,
 ⟨(some 185), none, .load false 1 (.t 184)⟩,
 ⟨(some 186), none, .not (.t 185)⟩] false)
 (.cond (.t 186)
 (.region [
 ⟨(some 187), none, .mv (.t 0)⟩,
 ⟨(some 188), none, .faddr 2 (.t 17)⟩,
 ⟨(some 189), none, .load false 1 (.t 188)⟩,
 ⟨(some 190), none, .lenS (.t 189)⟩,
 ⟨(some 191), none, .call 98 [(.t 187), (.t 190)]⟩] false)
 .skip)))
 (.seq
 (.region [
 ⟨(some 193), none, .bin .eql (.t 26) (.c (.int .i64 19))⟩,
 ⟨(some 192), none, .mv (.t 193)⟩] false)
 (.cond (.t 192)
 (.seq
 (.region [
 ⟨(some 194), none, .faddr 1 (.t 7)⟩,
 ⟨(some 195), none, .load false 1 (.t 194)⟩,
 ⟨(some 6), none, .mv (.t 195)⟩] false)
 .ret)
 (.seq
 (.region [
 ⟨(some 197), none, .bin .eql (.t 26) (.c (.int .i64 20))⟩,
 ⟨(some 196), none, .mv (.t 197)⟩] false)
 (.cond (.t 196)
 (.seq
 (.region [
 ⟨(some 198), none, .mv (.t 0)⟩,
 ⟨(some 199), none, .call 100 [(.t 198), (.c (.int .i64 1))]⟩,
 ⟨(some 18), none, .alloc 70 [.int .i64 0, .int .i64 0, .str []]⟩,
 ⟨none, none, .store 3 (.t 18) (.t 199)⟩] false)
 (.seq
 (.region [
 ⟨(some 200), none, .mv (.t 0)⟩,
 ⟨(some 201), none, .nilck (.t 200)⟩,
 ⟨(some 202), none, .faddr 4 (.t 201)⟩,
 ⟨(some 203), none, .load false 1 (.t 202)⟩,
 ⟨(some 204), none, .not (.t 203)⟩,
 ⟨(some 205), none, .mv (.t 204)⟩,
 ⟨(some 206), (some (205, true)), .faddr 1 (.t 18)⟩,
 ⟨(some 207), (some (205, true)), .load false 1 (.t 206)⟩,
 ⟨(some 208), (some (205, true)), .bin .eql (.t 207) (.c (.int .i64 0))⟩,
 ⟨(some 209), none, .pick (.t 205) (.t 208) (.c (.bool false))⟩] false)
 (.cond (.t 209)
 (.seq
 (.region [
 ⟨(some 210), none, .faddr 1 (.t 7)⟩,
 ⟨(some 211), none, .load false 1 (.t 210)⟩,
 ⟨(some 6), none, .mv (.t 211)⟩] false)
 .ret)
 .skip)))
 (.seq
 (.region [
 ⟨(some 213), none, .bin .eql (.t 26) (.c (.int .i64 21))⟩,
 ⟨(some 212), none, .mv (.t 213)⟩] false)
 (.cond (.t 212)
 (.seq
 (.seq
 (.region [
 ⟨(some 214), none, .mv (.t 0)⟩,
 ⟨(some 215), none, .nilck (.t 214)⟩,
 ⟨(some 216), none, .faddr 3 (.t 215)⟩,
 ⟨(some 217), none, .load false 1 (.t 216)⟩,
 ⟨(some 218), none, .lenM (.t 217)⟩,
 ⟨(some 219), none, .bin .eql (.t 218) (.c (.int .i64 4))⟩] false)
 (.cond (.t 219)
 (.seq
 (.region [
 ⟨(some 220), none, .mv (.t 0)⟩,
 ⟨(some 221), none, .nilck (.t 220)⟩,
 ⟨(some 222), none, .faddr 4 (.t 221)⟩,
 ⟨none, none, .store 1 (.t 222) (.c (.bool true))⟩] false)
 (.seq
 (.region [
 ⟨(some 223), none, .mv (.t 2)⟩,
 ⟨(some 6), none, .mv (.t 223)⟩] false)
 .ret))
 .skip))
 (.region [
 ⟨(some 224), none, .mv (.t 0)⟩,
 ⟨(some 225), none, .mv (.t 0)⟩,
 ⟨(some 226), none, .nilck (.t 225)⟩,
 ⟨(some 227), none, .faddr 3 (.t 226)⟩,
 ⟨(some 228), none, .load false 1 (.t 227)⟩,
 ⟨(some 229), none, .faddr 1 (.t 7)⟩,
 ⟨(some 230), none, .load false 1 (.t 229)⟩,
 ⟨(some 231), none, .bslice 3 1 1 [.int .i64 0] [(0, (.t 230))]⟩,
 ⟨(some 232), none, .appendM 3 1 8 (.t 228) (.t 231)⟩,
 ⟨(some 233), none, .nilck (.t 224)⟩,
 ⟨(some 234), none, .faddr 3 (.t 233)⟩,
 ⟨none, none, .store 1 (.t 234) (.t 232)⟩] true))
 (.seq
 (.seq
 (.region [
 ⟨(some 236), none, .bin .eql (.t 26) (.c (.int .i64 22))⟩,
 ⟨(some 235), none, .mv (.t 236)⟩] false)
 (.cond (.t 235)
 .skip
 (.region [
 ⟨(some 237), none, .bin .eql (.t 26) (.c (.int .i64 23))⟩,
 ⟨(some 235), none, .mv (.t 237)⟩] false)))
 (.cond (.t 235)
 (.seq
 (.region [
 ⟨(some 238), none, .mv (.t 0)⟩,
 ⟨(some 239), none, .nilck (.t 238)⟩,
 ⟨(some 240), none, .faddr 3 (.t 239)⟩,
 ⟨(some 241), none, .load false 1 (.t 240)⟩,
 ⟨(some 242), none, .lenM (.t 241)⟩,
 ⟨(some 19), none, .mv (.t 242)⟩] false)
 (.seq
 (.seq
 (.region [
 ⟨(some 243), none, .mv (.t 19)⟩,
 ⟨(some 244), none, .bin .eql (.t 243) (.c (.int .i64 0))⟩] false)
 (.cond (.t 244)
 (.seq
 (.region [
 ⟨(some 245), none, .mv (.t 0)⟩,
 ⟨(some 246), none, .nilck (.t 245)⟩,
 ⟨(some 247), none, .faddr 4 (.t 246)⟩,
 ⟨none, none, .store 1 (.t 247) (.c (.bool true))⟩] false)
 (.seq
 (.region [
 ⟨(some 248), none, .mv (.t 2)⟩,
 ⟨(some 6), none, .mv (.t 248)⟩] false)
 .ret))
 .skip))
 (.seq
 (.seq
 (.region [
 ⟨(some 249), none, .faddr 0 (.t 7)⟩,
 ⟨(some 250), none, .load false 1 (.t 249)⟩,
 ⟨(some 251), none, .bin .eql (.t 250) (.c (.int .i64 23))⟩] false)
 (.cond (.t 251)
 (.seq
 (.region [
 ⟨(some 252), none, .mv (.t 0)⟩,
 ⟨(some 253), none, .mv (.t 0)⟩,
 ⟨(some 254), none, .nilck (.t 253)⟩,
 ⟨(some 255), none, .faddr 3 (.t 254)⟩,
 ⟨(some 256), none, .load false 1 (.t 255)⟩,
 ⟨(some 257), none, .mv (.t 19)⟩,
 ⟨(some 258), none, .bin .sub (.t 257) (.c (.int .i64 1))⟩,
 ⟨(some 259), none, .slM 1 (.t 256) none (some (.t 258))⟩,
 ⟨(some 260), none, .nilck (.t 252)⟩,
 ⟨(some 261), none, .faddr 3 (.t 260)⟩,
 ⟨none, none, .store 1 (.t 261) (.t 259)⟩] false)
 (.seq
 (.region [
 ⟨(some 262), none, .mv (.t 2)⟩,
 ⟨(some 263), none, .bin .add (.t 262) (.c (.int .i64 1))⟩,
 ⟨(some 6), none, .mv (.t 263)⟩] false)
 .ret))
 .skip))
 (.seq
 (.region [
 ⟨(some 264), none, .mv (.t 0)⟩,
 ⟨(some 265), none, .nilck (.t 264)⟩,
 ⟨(some 266), none, .faddr 3 (.t 265)⟩,
 ⟨(some 267), none, .load false 1 (.t 266)⟩,
 ⟨(some 268), none, .mv (.t 19)⟩,
 ⟨(some 269), none, .bin .sub (.t 268) (.c (.int .i64 1))⟩,
 ⟨(some 270), none, .iaddrM 1 (.t 267) (.t 269)⟩,
 ⟨(some 271), none, .loadM false 1 (.t 270)⟩,
 ⟨(some 272), none, .bin .sub (.t 271) (.c (.int .i64 1))⟩,
 ⟨(some 273), none, .iaddrM 1 (.t 267) (.t 269)⟩,
 ⟨none, none, .store 1 (.t 273) (.t 272)⟩] false)
 (.seq
 (.region [
 ⟨(some 274), none, .mv (.t 0)⟩,
 ⟨(some 275), none, .nilck (.t 274)⟩,
 ⟨(some 276), none, .faddr 3 (.t 275)⟩,
 ⟨(some 277), none, .load false 1 (.t 276)⟩,
 ⟨(some 278), none, .mv (.t 19)⟩,
 ⟨(some 279), none, .bin .sub (.t 278) (.c (.int .i64 1))⟩,
 ⟨(some 280), none, .iaddrM 1 (.t 277) (.t 279)⟩,
 ⟨(some 281), none, .loadM false 1 (.t 280)⟩,
 ⟨(some 282), none, .bin .gtr (.t 281) (.c (.int .i64 0))⟩] false)
 (.cond (.t 282)
 (.seq
 (.region [
 ⟨(some 283), none, .faddr 1 (.t 7)⟩,
 ⟨(some 284), none, .load false 1 (.t 283)⟩,
 ⟨(some 6), none, .mv (.t 284)⟩] false)
 .ret)
 .skip))))))
 (.region [
 ⟨(some 27), none, .mv (.t 0)⟩,
 ⟨(some 28), none, .faddr 0 (.t 7)⟩,
 ⟨(some 29), none, .load false 1 (.t 28)⟩,
 ⟨(some 30), none, .call 103 [(.t 27), (.t 29)]⟩] false)))))))))))))))))))))))))))))))
 (.seq
 (.region [
 ⟨(some 285), none, .mv (.t 2)⟩,
 ⟨(some 286), none, .bin .add (.t 285) (.c (.int .i64 1))⟩,
 ⟨(some 6), none, .mv (.t 286)⟩] false)
 .ret))))
def r63 : List ERes := [.t 6]

theorem c63 : chkF Try.prog Try.f63 3 e63 r63 = true := by kernel_rfl

def e33 : EC :=
 (.seq
 (.region [
 ⟨(some 5), none, .box 27 (.t 0)⟩,
 ⟨(some 10), none, .alloc 64 [.nilS, .nilS, .int .i64 0]⟩,
 ⟨(some 11), none, .mv (.c (.int .i64 0))⟩] false)
 (.seq
 (.seq
 (.region [
 ⟨(some 16), none, .load true 6 (.t 5)⟩,
 ⟨(some 17), none, .mv (.t 2)⟩,
 ⟨(some 18), none, .call 37 [(.t 16), (.t 17)]⟩,
 ⟨(some 19), none, .not (.t 18)⟩,
 ⟨(some 20), none, .mv (.t 19)⟩,
 ⟨(some 21), (some (20, false)), .mv (.t 1)⟩,
 ⟨(some 22), (some (20, false)), .bin .lss (.t 21) (.c (.int .i64 0))⟩,
 ⟨(some 23), none, .pick (.t 20) (.c (.bool true)) (.t 22)⟩,
 ⟨(some 24), none, .mv (.t 23)⟩,
 ⟨(some 25), (some (24, false)), .mv (.t 1)⟩,
 ⟨(some 26), (some (24, false)), .faddr 5 (.t 5)⟩,
 ⟨(some 27), (some (24, false)), .load false 1 (.t 26)⟩,
 ⟨(some 28), (some (24, false)), .len (.t 27)⟩,
 ⟨(some 29), (some (24, false)), .bin .geq (.t 25) (.t 28)⟩,
 ⟨(some 30), none, .pick (.t 24) (.c (.bool true)) (.t 29)⟩,
 ⟨(some 31), none, .mv (.t 30)⟩,
 ⟨(some 32), (some (31, false)), .mv (.t 3)⟩,
 ⟨(some 33), (some (31, false)), .len (.t 32)⟩,
 ⟨(some 34), (some (31, false)), .bin .gtr (.t 33) (.c (.int .i64 4))⟩,
 ⟨(some 35), none, .pick (.t 31) (.c (.bool true)) (.t 34)⟩] false)
 (.cond (.t 35)
 (.seq
 (.region [
 ⟨(some 36), none, .build [.nilS, .nilS, .int .i64 0] []⟩,
 ⟨none, none, .store 3 (.t 10) (.t 36)⟩,
 ⟨(some 11), none, .mv (.c (.int .i64 1))⟩] false)
 .ret)
 .skip))
 (.seq
 (.seq
 (.region [
 ⟨(some 12), none, .mv (.c (.int .i64 0))⟩] false)
 (.block 0
 (.loop
 (.seq
 (.seq
 (.region [
 ⟨(some 37), none, .mv (.t 12)⟩,
 ⟨(some 38), none, .mv (.t 3)⟩,
 ⟨(some 39), none, .len (.t 38)⟩,
 ⟨(some 40), none, .bin .lss (.t 37) (.t 39)⟩] false)
 (.cond (.t 40)
 .skip
 (.exit 0)))
 (.seq
 (.block 1
 (.seq
 (.region [
 ⟨(some 43), none, .mv (.t 3)⟩,
 ⟨(some 44), none, .mv (.t 12)⟩,
 ⟨(some 45), none, .iaddr 3 (.t 43) (.t 44)⟩,
 ⟨(some 46), none, .load true 3 (.t 45)⟩,
 ⟨(some 47), none, .call 32 [(.t 46)]⟩,
 ⟨(some 48), none, .not (.t 47)⟩] false)
 (.cond (.t 48)
 (.seq
 (.region [
 ⟨(some 49), none, .build [.nilS, .nilS, .int .i64 0] []⟩,
 ⟨none, none, .store 3 (.t 10) (.t 49)⟩,
 ⟨(some 11), none, .mv (.c (.int .i64 1))⟩] false)
 .ret)
 .skip)))
 (.region [
 ⟨(some 41), none, .mv (.t 12)⟩,
 ⟨(some 42), none, .bin .add (.t 41) (.c (.int .i64 1))⟩,
 ⟨(some 12), none, .mv (.t 42)⟩] false))))))
 (.seq
 (.region [
 ⟨(some 50), none, .bsliceM 70 3 0 [.int .i64 0, .int .i64 0, .str []] []⟩,
 ⟨(some 51), none, .mv (.t 2)⟩,
 ⟨(some 52), none, .appendM 70 3 32 (.t 50) (.t 51)⟩,
 ⟨(some 53), none, .mv (.t 3)⟩,
 ⟨(some 54), none, .build [.nilS, .nilS, .nilS, .nilS, .bool false] [(1, 1, (.t 52)), (2, 1, (.t 53))]⟩,
 ⟨(some 55), none, .box 155 (.t 54)⟩,
 ⟨(some 13), none, .mv (.t 55)⟩] false)
 (.seq
 (.region [
 ⟨(some 56), none, .mv (.t 1)⟩,
 ⟨(some 14), none, .mv (.t 56)⟩] false)
 (.seq
 (.region [
 ⟨(some 15), none, .mv (.c (.int .i64 0))⟩] false)
 (.block 2
 (.loop
 (.seq
 (.block 3
 (.seq
 (.block 4
 (.seq
 (.region [
 ⟨(some 60), none, .mv (.t 13)⟩,
 ⟨(some 61), none, .nilck (.t 60)⟩,
 ⟨(some 62), none, .faddr 4 (.t 61)⟩,
 ⟨(some 63), none, .load false 1 (.t 62)⟩,
 ⟨(some 64), none, .mv (.t 63)⟩,
 ⟨(some 65), (some (64, false)), .mv (.t 14)⟩,
 ⟨(some 66), (some (64, false)), .faddr 5 (.t 5)⟩,
 ⟨(some 67), (some (64, false)), .load false 1 (.t 66)⟩,
 ⟨(some 68), (some (64, false)), .len (.t 67)⟩,
 ⟨(some 69), (some (64, false)), .bin .geq (.t 65) (.t 68)⟩,
 ⟨(some 70), none, .pick (.t 64) (.c (.bool true)) (.t 69)⟩,
 ⟨(some 59), none, .mv (.t 70)⟩] false)
 (.cond (.t 59)
 (.seq
 (.region [
 ⟨(some 71), none, .build [.nilS, .nilS, .int .i64 0] []⟩,
 ⟨none, none, .store 3 (.t 10) (.t 71)⟩,
 ⟨(some 11), none, .mv (.c (.int .i64 25))⟩] false)
 .ret)
 (.seq
 (.region [
 ⟨(some 73), none, .mv (.t 15)⟩,
 ⟨(some 74), none, .mv (.t 4)⟩,
 ⟨(some 75), none, .bin .geq (.t 73) (.t 74)⟩,
 ⟨(some 72), none, .mv (.t 75)⟩] false)
 (.cond (.t 72)
 (.seq
 (.region [
 ⟨(some 76), none, .build [.nilS, .nilS, .int .i64 0] []⟩,
 ⟨none, none, .store 3 (.t 10) (.t 76)⟩,
 ⟨(some 11), none, .mv (.c (.int .i64 26))⟩] false)
 .ret)
 (.seq
 (.region [
 ⟨(some 78), none, .faddr 5 (.t 5)⟩,
 ⟨(some 79), none, .load false 1 (.t 78)⟩,
 ⟨(some 80), none, .mv (.t 14)⟩,
 ⟨(some 81), none, .iaddr 3 (.t 79) (.t 80)⟩,
 ⟨(some 82), none, .faddr 0 (.t 81)⟩,
 ⟨(some 83), none, .load false 1 (.t 82)⟩,
 ⟨(some 84), none, .bin .eql (.t 83) (.c (.int .i64 24))⟩,
 ⟨(some 77), none, .mv (.t 84)⟩] false)
 (.cond (.t 77)
 (.seq
 (.region [
 ⟨(some 85), none, .mv (.t 13)⟩,
 ⟨(some 86), none, .nilck (.t 85)⟩,
 ⟨(some 87), none, .faddr 0 (.t 86)⟩,
 ⟨(some 88), none, .load false 1 (.t 87)⟩,
 ⟨(some 89), none, .mv (.t 13)⟩,
 ⟨(some 90), none, .nilck (.t 89)⟩,
 ⟨(some 91), none, .faddr 1 (.t 90)⟩,
 ⟨(some 92), none, .load false 1 (.t 91)⟩,
 ⟨(some 93), none, .mv (.t 15)⟩,
 ⟨(some 94), none, .bin .add (.t 93) (.c (.int .i64 1))⟩,
 ⟨(some 95), none, .build [.nilS, .nilS, .int .i64 0] [(0, 1, (.t 88)), (1, 1, (.t 92)), (2, 1, (.t 94))]⟩,
 ⟨none, none, .store 3 (.t 10) (.t 95)⟩,
 ⟨(some 11), none, .mv (.c (.int .i64 0))⟩] true)
 .ret)
 .skip)))))))
 (.region [
 ⟨(some 96), none, .mv (.t 13)⟩,
 ⟨(some 97), none, .load true 6 (.t 5)⟩,
 ⟨(some 98), none, .mv (.t 14)⟩,
 ⟨(some 99), none, .call 63 [(.t 96), (.t 97), (.t 98)]⟩,
 ⟨(some 14), none, .mv (.t 99)⟩] false)))
 (.region [
 ⟨(some 57), none, .mv (.t 15)⟩,
 ⟨(some 58), none, .bin .add (.t 57) (.c (.int .i64 1))⟩,
 ⟨(some 15), none, .mv (.t 58)⟩] false))))))))))
def r33 : List ERes := [.cell true 3 10, .t 11]

theorem c33 : chkF Try.prog Try.f33 5 e33 r33 = true := by kernel_rfl

def e34 : EC :=
 (.seq
 (.region [
 ⟨(some 1), none, .box 41 (.t 0)⟩,
 ⟨(some 2), none, .mv (.c (.nilS))⟩,
 ⟨(some 3), none, .mv (.c (.int .i64 0))⟩] false)
 (.seq
 (.seq
 (.region [
 ⟨(some 7), none, .load true 6 (.t 1)⟩,
 ⟨(some 8), none, .call 43 [(.t 7)]⟩,
 ⟨(some 9), none, .not (.t 8)⟩] false)
 (.cond (.t 9)
 (.seq
 (.region [
 ⟨(some 2), none, .mv (.c (.nilS))⟩,
 ⟨(some 3), none, .mv (.c (.int .i64 1))⟩] false)
 .ret)
 .skip))
 (.seq
 (.region [
 ⟨(some 4), none, .mv (.c (.nilS))⟩] false)
 (.seq
 (.seq
 (.region [
 ⟨(some 10), none, .faddr 2 (.t 1)⟩,
 ⟨(some 11), none, .load false 1 (.t 10)⟩,
 ⟨(some 12), none, .len (.t 11)⟩,
 ⟨(some 13), none, .mv (.c (.int .i64 0))⟩] false)
 (.block 0
 (.loop
 (.seq
 (.region [
 ⟨(some 14), none, .bin .lss (.t 13) (.t 12)⟩] false)
 (.seq
 (.cond (.t 14)
 .skip
 (.exit 0))
 (.seq
 (.block 1
 (.seq
 (.region [
 ⟨(some 15), none, .iaddr 7 (.t 11) (.t 13)⟩,
 ⟨(some 16), none, .load true 7 (.t 15)⟩,
 ⟨(some 6), none, .alloc 87 [.str [], .int .i64 0, .int .i64 0, .int .i64 0, .int .i64 0, .int .i64 0, .str []]⟩,
 ⟨none, none, .store 7 (.t 6) (.t 16)⟩] false)
 (.region [
 ⟨(some 17), none, .mv (.t 4)⟩,
 ⟨(some 18), none, .faddr 4 (.t 6)⟩,
 ⟨(some 19), none, .load true 3 (.t 18)⟩,
 ⟨(some 20), none, .bslice 70 3 1 [.int .i64 0, .int .i64 0, .str []] [(0, (.t 19))]⟩,
 ⟨(some 21), none, .append 70 3 32 (.t 17) (.t 20)⟩,
 ⟨(some 4), none, .mv (.t 21)⟩] false)))
 (.region [
 ⟨(some 22), none, .bin .add (.t 13) (.c (.int .i64 1))⟩,
 ⟨(some 13), none, .mv (.t 22)⟩] false)))))))
 (.seq
 (.region [
 ⟨(some 23), none, .mv (.t 4)⟩,
 ⟨(some 2), none, .mv (.t 23)⟩,
 ⟨(some 3), none, .mv (.c (.int .i64 0))⟩] false)
 .ret)))))
def r34 : List ERes := [.t 2, .t 3]

theorem c34 : chkF Try.prog Try.f34 1 e34 r34 = true := by kernel_rfl

def e35 : EC :=
 (.seq
 (.region [
 ⟨(some 1), none, .box 27 (.t 0)⟩,
 ⟨(some 2), none, .mv (.c (.nilS))⟩,
 ⟨(some 3), none, .mv (.c (.int .i64 0))⟩] false)
 (.seq
 (.seq
 (.region [
 ⟨(some 6), none, .load true 6 (.t 1)⟩,
 ⟨(some 7), none, .call 22 [(.t 6)]⟩,
 ⟨(some 8), none, .not (.t 7)⟩] false)
 (.cond (.t 8)
 (.seq
 (.region [
 ⟨(some 2), none, .mv (.c (.nilS))⟩,
 ⟨(some 3), none, .mv (.c (.int .i64 1))⟩] false)
 .ret)
 .skip))
 (.seq
 (.region [
 ⟨(some 4), none, .mv (.c (.nilS))⟩] false)
 (.seq
 (.seq
 (.region [
 ⟨(some 5), none, .mv (.c (.int .i64 0))⟩] false)
 (.block 0
 (.loop
 (.seq
 (.seq
 (.region [
 ⟨(some 9), none, .mv (.t 5)⟩,
 ⟨(some 10), none, .faddr 2 (.t 1)⟩,
 ⟨(some 11), none, .load false 1 (.t 10)⟩,
 ⟨(some 12), none, .len (.t 11)⟩,
 ⟨(some 13), none, .bin .lss (.t 9) (.t 12)⟩] false)
 (.cond (.t 13)
 .skip
 (.exit 0)))
 (.seq
 (.block 1
 (.region [
 ⟨(some 16), none, .mv (.t 4)⟩,
 ⟨(some 17), none, .faddr 2 (.t 1)⟩,
 ⟨(some 18), none, .load false 1 (.t 17)⟩,
 ⟨(some 19), none, .mv (.t 5)⟩,
 ⟨(some 20), none, .iaddr 7 (.t 18) (.t 19)⟩,
 ⟨(some 21), none, .faddr 4 (.t 20)⟩,
 ⟨(some 22), none, .load true 3 (.t 21)⟩,
 ⟨(some 23), none, .bslice 70 3 1 [.int .i64 0, .int .i64 0, .str []] [(0, (.t 22))]⟩,
 ⟨(some 24), none, .append 70 3 32 (.t 16) (.t 23)⟩,
 ⟨(some 4), none, .mv (.t 24)⟩] false))
 (.region [
 ⟨(some 14), none, .mv (.t 5)⟩,
 ⟨(some 15), none, .bin .add (.t 14) (.c (.int .i64 1))⟩,
 ⟨(some 5), none, .mv (.t 15)⟩] false))))))
 (.seq
 (.region [
 ⟨(some 25), none, .mv (.t 4)⟩,
 ⟨(some 2), none, .mv (.t 25)⟩,
 ⟨(some 3), none, .mv (.c (.int .i64 0))⟩] false)
 .ret)))))
def r35 : List ERes := [.t 2, .t 3]

theorem c35 : chkF Try.prog Try.f35 1 e35 r35 = true := by kernel_rfl

def e37 : EC :=
 (.seq
 (.region [
 ⟨(some 2), none, .box 27 (.t 0)⟩,
 ⟨(some 4), none, .mv (.c (.bool false))⟩] false)
 (.seq
 (.seq
 (.region [
 ⟨(some 6), none, .load true 6 (.t 2)⟩,
 ⟨(some 7), none, .call 22 [(.t 6)]⟩,
 ⟨(some 8), none, .not (.t 7)⟩,
 ⟨(some 9), none, .mv (.t 8)⟩,
 ⟨(some 10), (some (9, false)), .mv (.t 1)⟩,
 ⟨(some 11), (some (9, false)), .len (.t 10)⟩,
 ⟨(some 12), (some (9, false)), .faddr 2 (.t 2)⟩,
 ⟨(some 13), (some (9, false)), .load false 1 (.t 12)⟩,
 ⟨(some 14), (some (9, false)), .len (.t 13)⟩,
 ⟨(some 15), (some (9, false)), .bin .neq (.t 11) (.t 14)⟩,
 ⟨(some 16), none, .pick (.t 9) (.c (.bool true)) (.t 15)⟩] false)
 (.cond (.t 16)
 (.seq
 (.region [
 ⟨(some 4), none, .mv (.c (.bool false))⟩] false)
 .ret)
 .skip))
 (.seq
 (.seq
 (.region [
 ⟨(some 5), none, .mv (.c (.int .i64 0))⟩] false)
 (.block 0
 (.loop
 (.seq
 (.seq
 (.region [
 ⟨(some 17), none, .mv (.t 5)⟩,
 ⟨(some 18), none, .mv (.t 1)⟩,
 ⟨(some 19), none, .len (.t 18)⟩,
 ⟨(some 20), none, .bin .lss (.t 17) (.t 19)⟩] false)
 (.cond (.t 20)
 .skip
 (.exit 0)))
 (.seq
 (.block 1
 (.seq
 (.region [
 ⟨(some 23), none, .faddr 2 (.t 2)⟩,
 ⟨(some 24), none, .load false 1 (.t 23)⟩,
 ⟨(some 25), none, .mv (.t 5)⟩,
 ⟨(some 26), none, .iaddr 7 (.t 24) (.t 25)⟩,
 ⟨(some 27), none, .faddr 1 (.t 26)⟩,
 ⟨(some 28), none, .load true 3 (.t 27)⟩,
 ⟨(some 29), none, .mv (.t 1)⟩,
 ⟨(some 30), none, .mv (.t 5)⟩,
 ⟨(some 31), none, .iaddr 3 (.t 29) (.t 30)⟩,
 ⟨(some 32), none, .load true 3 (.t 31)⟩,
 ⟨(some 33), none, .pcall 64 [(.t 28), (.t 32)]⟩,
 ⟨(some 34), none, .not (.t 33)⟩] true)
 (.cond (.t 34)
 (.seq
 (.region [
 ⟨(some 4), none, .mv (.c (.bool false))⟩] false)
 .ret)
 .skip)))
 (.region [
 ⟨(some 21), none, .mv (.t 5)⟩,
 ⟨(some 22), none, .bin .add (.t 21) (.c (.int .i64 1))⟩,
 ⟨(some 5), none, .mv (.t 22)⟩] false))))))
 (.seq
 (.region [
 ⟨(some 4), none, .mv (.c (.bool true))⟩] false)
 .ret))))
def r37 : List ERes := [.t 4]

theorem c37 : chkF Try.prog Try.f37 2 e37 r37 = true := by kernel_rfl

def e22 : EC :=
 (.seq
 (.region [
 ⟨(some 1), none, .box 27 (.t 0)⟩,
 ⟨(some 2), none, .mv (.c (.bool false))⟩] false)
 (.seq
 (.region [
 ⟨(some 11), none, .faddr 5 (.t 1)⟩,
 ⟨(some 12), none, .load false 1 (.t 11)⟩,
 ⟨(some 13), none, .len (.t 12)⟩,
 ⟨(some 3), none, .mv (.t 13)⟩] false)
 (.seq
 (.seq
 (.region [
 ⟨(some 14), none, .faddr 0 (.t 1)⟩,
 ⟨(some 15), none, .load false 1 (.t 14)⟩,
 ⟨(some 16), none, .call 48 [(.t 15)]⟩,
 ⟨(some 17), none, .not (.t 16)⟩,
 ⟨(some 18), none, .mv (.t 17)⟩,
 ⟨(some 19), (some (18, false)), .faddr 1 (.t 1)⟩,
 ⟨(some 20), (some (18, false)), .load false 1 (.t 19)⟩,
 ⟨(some 21), (some (18, false)), .bin .lss (.t 20) (.c (.int .i64 0))⟩,
 ⟨(some 22), none, .pick (.t 18) (.c (.bool true)) (.t 21)⟩,
 ⟨(some 23), none, .mv (.t 22)⟩,
 ⟨(some 24), (some (23, false)), .faddr 1 (.t 1)⟩,
 ⟨(some 25), (some (23, false)), .load false 1 (.t 24)⟩,
 ⟨(some 26), (some (23, false)), .bin .geq (.t 25) (.c (.int .i64 6))⟩,
 ⟨(some 27), none, .pick (.t 23) (.c (.bool true)) (.t 26)⟩,
 ⟨(some 28), none, .mv (.t 27)⟩,
 ⟨(some 29), (some (28, false)), .faddr 2 (.t 1)⟩,
 ⟨(some 30), (some (28, false)), .load false 1 (.t 29)⟩,
 ⟨(some 31), (some (28, false)), .call 49 [(.t 30)]⟩,
 ⟨(some 32), (some (28, false)), .not (.t 31)⟩,
 ⟨(some 33), none, .pick (.t 28) (.c (.bool true)) (.t 32)⟩,
 ⟨(some 34), none, .mv (.t 33)⟩,
 ⟨(some 35), (some (34, false)), .faddr 3 (.t 1)⟩,
 ⟨(some 36), (some (34, false)), .load false 1 (.t 35)⟩,
 ⟨(some 37), (some (34, false)), .len (.t 36)⟩,
 ⟨(some 38), (some (34, false)), .bin .gtr (.t 37) (.c (.int .i64 40))⟩,
 ⟨(some 39), none, .pick (.t 34) (.c (.bool true)) (.t 38)⟩,
 ⟨(some 40), none, .mv (.t 39)⟩,
 ⟨(some 41), (some (40, false)), .faddr 4 (.t 1)⟩,
 ⟨(some 42), (some (40, false)), .load false 1 (.t 41)⟩,
 ⟨(some 43), (some (40, false)), .len (.t 42)⟩,
 ⟨(some 44), (some (40, false)), .bin .gtr (.t 43) (.c (.int .i64 40))⟩,
 ⟨(some 45), none, .pick (.t 40) (.c (.bool true)) (.t 44)⟩,
 ⟨(some 46), none, .mv (.t 45)⟩,
 ⟨(some 47), (some (46, false)), .mv (.t 3)⟩,
 ⟨(some 48), (some (46, false)), .bin .lss (.t 47) (.c (.int .i64 1))⟩,
 ⟨(some 49), none, .pick (.t 46) (.c (.bool true)) (.t 48)⟩,
 ⟨(some 50), none, .mv (.t 49)⟩,
 ⟨(some 51), (some (50, false)), .mv (.t 3)⟩,
 ⟨(some 52), (some (50, false)), .bin .gtr (.t 51) (.c (.int .i64 1000))⟩,
 ⟨(some 53), none, .pick (.t 50) (.c (.bool true)) (.t 52)⟩] false)
 (.cond (.t 53)
 (.seq
 (.region [
 ⟨(some 2), none, .mv (.c (.bool false))⟩] false)
 .ret)
 .skip))
 (.seq
 (.seq
 (.region [
 ⟨(some 4), none, .mv (.c (.int .i64 0))⟩] false)
 (.block 0
 (.loop
 (.seq
 (.seq
 (.region [
 ⟨(some 54), none, .mv (.t 4)⟩,
 ⟨(some 55), none, .faddr 3 (.t 1)⟩,
 ⟨(some 56), none, .load false 1 (.t 55)⟩,
 ⟨(some 57), none, .len (.t 56)⟩,
 ⟨(some 58), none, .bin .lss (.t 54) (.t 57)⟩] false)
 (.cond (.t 58)
 .skip
 (.exit 0)))
 (.seq
 (.block 1
 (.seq
 (.region [
 ⟨(some 61), none, .faddr 3 (.t 1)⟩,
 ⟨(some 62), none, .load false 1 (.t 61)⟩,
 ⟨(some 63), none, .mv (.t 4)⟩,
 ⟨(some 64), none, .iaddr 3 (.t 62) (.t 63)⟩,
 ⟨(some 65), none, .load true 3 (.t 64)⟩,
 ⟨(some 5), none, .alloc 129 [.int .i64 0, .int .i64 0, .int .i64 0]⟩,
 ⟨none, none, .store 3 (.t 5) (.t 65)⟩] false)
 (.seq
 (.seq
 (.region [
 ⟨(some 66), none, .faddr 0 (.t 5)⟩,
 ⟨(some 67), none, .load false 1 (.t 66)⟩,
 ⟨(some 68), none, .faddr 1 (.t 5)⟩,
 ⟨(some 69), none, .load false 1 (.t 68)⟩,
 ⟨(some 70), none, .faddr 1 (.t 1)⟩,
 ⟨(some 71), none, .load false 1 (.t 70)⟩,
 ⟨(some 72), none, .call 50 [(.t 67), (.t 69), (.t 71)]⟩,
 ⟨(some 73), none, .not (.t 72)⟩,
 ⟨(some 74), none, .mv (.t 73)⟩,
 ⟨(some 75), (some (74, false)), .faddr 2 (.t 5)⟩,
 ⟨(some 76), (some (74, false)), .load false 1 (.t 75)⟩,
 ⟨(some 77), (some (74, false)), .bin .lss (.t 76) (.c (.int .i64 0))⟩,
 ⟨(some 78), none, .pick (.t 74) (.c (.bool true)) (.t 77)⟩,
 ⟨(some 79), none, .mv (.t 78)⟩,
 ⟨(some 80), (some (79, false)), .faddr 2 (.t 5)⟩,
 ⟨(some 81), (some (79, false)), .load false 1 (.t 80)⟩,
 ⟨(some 82), (some (79, false)), .mv (.t 3)⟩,
 ⟨(some 83), (some (79, false)), .bin .geq (.t 81) (.t 82)⟩,
 ⟨(some 84), none, .pick (.t 79) (.c (.bool true)) (.t 83)⟩] false)
 (.cond (.t 84)
 (.seq
 (.region [
 ⟨(some 2), none, .mv (.c (.bool false))⟩] false)
 .ret)
 .skip))
 (.seq
 (.region [
 ⟨(some 6), none, .mv (.c (.int .i64 0))⟩] false)
 (.block 2
 (.loop
 (.seq
 (.seq
 (.region [
 ⟨(some 85), none, .mv (.t 6)⟩,
 ⟨(some 86), none, .mv (.t 4)⟩,
 ⟨(some 87), none, .bin .lss (.t 85) (.t 86)⟩] false)
 (.cond (.t 87)
 .skip
 (.exit 2)))
 (.seq
 (.block 3
 (.seq
 (.region [
 ⟨(some 90), none, .faddr 3 (.t 1)⟩,
 ⟨(some 91), none, .load false 1 (.t 90)⟩,
 ⟨(some 92), none, .mv (.t 6)⟩,
 ⟨(some 93), none, .iaddr 3 (.t 91) (.t 92)⟩,
 ⟨(some 94), none, .faddr 0 (.t 93)⟩,
 ⟨(some 95), none, .load false 1 (.t 94)⟩,
 ⟨(some 96), none, .faddr 0 (.t 5)⟩,
 ⟨(some 97), none, .load false 1 (.t 96)⟩,
 ⟨(some 98), none, .bin .eql (.t 95) (.t 97)⟩,
 ⟨(some 99), none, .mv (.t 98)⟩,
 ⟨(some 100), (some (99, true)), .faddr 3 (.t 1)⟩,
 ⟨(some 101), (some (99, true)), .load false 1 (.t 100)⟩,
 ⟨(some 102), (some (99, true)), .mv (.t 6)⟩,
 ⟨(some 103), (some (99, true)), .iaddr 3 (.t 101) (.t 102)⟩,
 ⟨(some 104), (some (99, true)), .faddr 1 (.t 103)⟩,
 ⟨(some 105), (some (99, true)), .load false 1 (.t 104)⟩,
 ⟨(some 106), (some (99, true)), .faddr 1 (.t 5)⟩,
 ⟨(some 107), (some (99, true)), .load false 1 (.t 106)⟩,
 ⟨(some 108), (some (99, true)), .bin .eql (.t 105) (.t 107)⟩,
 ⟨(some 109), none, .pick (.t 99) (.t 108) (.c (.bool false))⟩] true)
 (.cond (.t 109)
 (.seq
 (.region [
 ⟨(some 2), none, .mv (.c (.bool false))⟩] false)
 .ret)
 .skip)))
 (.region [
 ⟨(some 88), none, .mv (.t 6)⟩,
 ⟨(some 89), none, .bin .add (.t 88) (.c (.int .i64 1))⟩,
 ⟨(some 6), none, .mv (.t 89)⟩] false)))))))))
 (.region [
 ⟨(some 59), none, .mv (.t 4)⟩,
 ⟨(some 60), none, .bin .add (.t 59) (.c (.int .i64 1))⟩,
 ⟨(some 4), none, .mv (.t 60)⟩] false))))))
 (.seq
 (.seq
 (.region [
 ⟨(some 7), none, .mv (.c (.int .i64 0))⟩] false)
 (.block 4
 (.loop
 (.seq
 (.seq
 (.region [
 ⟨(some 110), none, .mv (.t 7)⟩,
 ⟨(some 111), none, .faddr 4 (.t 1)⟩,
 ⟨(some 112), none, .load false 1 (.t 111)⟩,
 ⟨(some 113), none, .len (.t 112)⟩,
 ⟨(some 114), none, .bin .lss (.t 110) (.t 113)⟩] false)
 (.cond (.t 114)
 .skip
 (.exit 4)))
 (.seq
 (.block 5
 (.seq
 (.region [
 ⟨(some 117), none, .faddr 4 (.t 1)⟩,
 ⟨(some 118), none, .load false 1 (.t 117)⟩,
 ⟨(some 119), none, .mv (.t 7)⟩,
 ⟨(some 120), none, .iaddr 4 (.t 118) (.t 119)⟩,
 ⟨(some 121), none, .load true 4 (.t 120)⟩,
 ⟨(some 8), none, .alloc 130 [.int .i64 0, .int .i64 0, .int .i64 0, .int .i64 0]⟩,
 ⟨none, none, .store 4 (.t 8) (.t 121)⟩] false)
 (.seq
 (.region [
 ⟨(some 122), none, .faddr 0 (.t 8)⟩,
 ⟨(some 123), none, .load false 1 (.t 122)⟩,
 ⟨(some 124), none, .faddr 1 (.t 8)⟩,
 ⟨(some 125), none, .load false 1 (.t 124)⟩,
 ⟨(some 126), none, .faddr 1 (.t 1)⟩,
 ⟨(some 127), none, .load false 1 (.t 126)⟩,
 ⟨(some 128), none, .call 50 [(.t 123), (.t 125), (.t 127)]⟩,
 ⟨(some 129), none, .not (.t 128)⟩,
 ⟨(some 130), none, .mv (.t 129)⟩,
 ⟨(some 131), (some (130, false)), .faddr 2 (.t 8)⟩,
 ⟨(some 132), (some (130, false)), .load false 1 (.t 131)⟩,
 ⟨(some 133), (some (130, false)), .bin .lss (.t 132) (.c (.int .i64 (-1)))⟩,
 ⟨(some 134), none, .pick (.t 130) (.c (.bool true)) (.t 133)⟩,
 ⟨(some 135), none, .mv (.t 134)⟩,
 ⟨(some 136), (some (135, false)), .faddr 2 (.t 8)⟩,
 ⟨(some 137), (some (135, false)), .load false 1 (.t 136)⟩,
 ⟨(some 138), (some (135, false)), .mv (.t 3)⟩,
 ⟨(some 139), (some (135, false)), .bin .geq (.t 137) (.t 138)⟩,
 ⟨(some 140), none, .pick (.t 135) (.c (.bool true)) (.t 139)⟩,
 ⟨(some 141), none, .mv (.t 140)⟩,
 ⟨(some 142), (some (141, false)), .faddr 3 (.t 8)⟩,
 ⟨(some 143), (some (141, false)), .load false 1 (.t 142)⟩,
 ⟨(some 144), (some (141, false)), .bin .lss (.t 143) (.c (.int .i64 0))⟩,
 ⟨(some 145), none, .pick (.t 141) (.c (.bool true)) (.t 144)⟩,
 ⟨(some 146), none, .mv (.t 145)⟩,
 ⟨(some 147), (some (146, false)), .faddr 3 (.t 8)⟩,
 ⟨(some 148), (some (146, false)), .load false 1 (.t 147)⟩,
 ⟨(some 149), (some (146, false)), .mv (.t 3)⟩,
 ⟨(some 150), (some (146, false)), .bin .geq (.t 148) (.t 149)⟩,
 ⟨(some 151), none, .pick (.t 146) (.c (.bool true)) (.t 150)⟩] false)
 (.cond (.t 151)
 (.seq
 (.region [
 ⟨(some 2), none, .mv (.c (.bool false))⟩] false)
 .ret)
 .skip))))
 (.region [
 ⟨(some 115), none, .mv (.t 7)⟩,
 ⟨(some 116), none, .bin .add (.t 115) (.c (.int .i64 1))⟩,
 ⟨(some 7), none, .mv (.t 116)⟩] false))))))
 (.seq
 (.seq
 (.region [
 ⟨(some 9), none, .mv (.c (.int .i64 0))⟩] false)
 (.block 6
 (.loop
 (.seq
 (.seq
 (.region [
 ⟨(some 152), none, .mv (.t 9)⟩,
 ⟨(some 153), none, .mv (.t 3)⟩,
 ⟨(some 154), none, .bin .lss (.t 152) (.t 153)⟩] false)
 (.cond (.t 154)
 .skip
 (.exit 6)))
 (.seq
 (.block 7
 (.seq
 (.region [
 ⟨(some 157), none, .faddr 5 (.t 1)⟩,
 ⟨(some 158), none, .load false 1 (.t 157)⟩,
 ⟨(some 159), none, .mv (.t 9)⟩,
 ⟨(some 160), none, .iaddr 3 (.t 158) (.t 159)⟩,
 ⟨(some 161), none, .load true 3 (.t 160)⟩,
 ⟨(some 10), none, .alloc 68 [.int .i64 0, .int .i64 0, .str []]⟩,
 ⟨none, none, .store 3 (.t 10) (.t 161)⟩] false)
 (.seq
 (.region [
 ⟨(some 162), none, .load true 3 (.t 10)⟩,
 ⟨(some 163), none, .call 51 [(.t 162)]⟩,
 ⟨(some 164), none, .not (.t 163)⟩,
 ⟨(some 165), none, .mv (.t 164)⟩,
 ⟨(some 166), (some (165, false)), .faddr 0 (.t 10)⟩,
 ⟨(some 167), (some (165, false)), .load false 1 (.t 166)⟩,
 ⟨(some 168), (some (165, false)), .call 42 [(.t 167)]⟩,
 ⟨(some 169), (some (165, false)), .mv (.t 168)⟩,
 ⟨(some 170), (some (169, true)), .faddr 1 (.t 10)⟩,
 ⟨(some 171), (some (169, true)), .load false 1 (.t 170)⟩,
 ⟨(some 172), (some (169, true)), .mv (.t 3)⟩,
 ⟨(some 173), (some (169, true)), .bin .geq (.t 171) (.t 172)⟩,
 ⟨(some 174), (some (165, false)), .pick (.t 169) (.t 173) (.c (.bool false))⟩,
 ⟨(some 175), none, .pick (.t 165) (.c (.bool true)) (.t 174)⟩,
 ⟨(some 176), none, .mv (.t 175)⟩,
 ⟨(some 177), (some (176, false)), .faddr 0 (.t 10)⟩,
 ⟨(some 178), (some (176, false)), .load false 1 (.t 177)⟩,
 ⟨(some 179), (some (176, false)), .bin .eql (.t 178) (.c (.int .i64 3))⟩,
 ⟨(some 180), (some (176, false)), .mv (.t 179)⟩,
 ⟨(some 181), (some (180, false)), .faddr 0 (.t 10)⟩,
 ⟨(some 182), (some (180, false)), .load false 1 (.t 181)⟩,
 ⟨(some 183), (some (180, false)), .bin .eql (.t 182) (.c (.int .i64 5))⟩,
 ⟨(some 184), (some (176, false)), .pick (.t 180) (.c (.bool true)) (.t 183)⟩,
 ⟨(some 185), (some (176, false)), .mv (.t 184)⟩,
 ⟨(some 186), (some (185, true)), .faddr 1 (.t 10)⟩,
 ⟨(some 187), (some (185, true)), .load false 1 (.t 186)⟩,
 ⟨(some 188), (some (185, true)), .faddr 2 (.t 1)⟩,
 ⟨(some 189), (some (185, true)), .load false 1 (.t 188)⟩,
 ⟨(some 190), (some (185, true)), .len (.t 189)⟩,
 ⟨(some 191), (some (185, true)), .bin .geq (.t 187) (.t 190)⟩,
 ⟨(some 192), (some (176, false)), .pick (.t 185) (.t 191) (.c (.bool false))⟩,
 ⟨(some 193), none, .pick (.t 176) (.c (.bool true)) (.t 192)⟩] false)
 (.cond (.t 193)
 (.seq
 (.region [
 ⟨(some 2), none, .mv (.c (.bool false))⟩] false)
 .ret)
 .skip))))
 (.region [
 ⟨(some 155), none, .mv (.t 9)⟩,
 ⟨(some 156), none, .bin .add (.t 155) (.c (.int .i64 1))⟩,
 ⟨(some 9), none, .mv (.t 156)⟩] false))))))
 (.seq
 (.region [
 ⟨(some 2), none, .mv (.c (.bool true))⟩] false)
 .ret)))))))
def r22 : List ERes := [.t 2]

theorem c22 : chkF Try.prog Try.f22 1 e22 r22 = true := by kernel_rfl

def e42 : EC :=
 (.seq
 (.region [
 ⟨(some 2), none, .mv (.c (.bool false))⟩] false)
 (.seq
 (.region [
 ⟨(some 3), none, .mv (.t 0)⟩,
 ⟨(some 4), none, .bin .eql (.t 3) (.c (.int .i64 19))⟩,
 ⟨(some 5), none, .mv (.t 4)⟩,
 ⟨(some 6), (some (5, false)), .mv (.t 0)⟩,
 ⟨(some 7), (some (5, false)), .bin .eql (.t 6) (.c (.int .i64 20))⟩,
 ⟨(some 8), none, .pick (.t 5) (.c (.bool true)) (.t 7)⟩,
 ⟨(some 9), none, .mv (.t 8)⟩,
 ⟨(some 10), (some (9, false)), .mv (.t 0)⟩,
 ⟨(some 11), (some (9, false)), .bin .eql (.t 10) (.c (.int .i64 22))⟩,
 ⟨(some 12), none, .pick (.t 9) (.c (.bool true)) (.t 11)⟩,
 ⟨(some 2), none, .mv (.t 12)⟩] false)
 .ret))
def r42 : List ERes := [.t 2]

theorem c42 : chkF Try.prog Try.f42 1 e42 r42 = true := by kernel_rfl

def e48 : EC :=
 (.seq
 (.region [
 ⟨(some 2), none, .mv (.c (.bool false))⟩] false)
 (.seq
 (.seq
 (.region [
 ⟨(some 4), none, .mv (.t 0)⟩,
 ⟨(some 5), none, .bin .eql (.t 4) (.c (.str []))⟩,
 ⟨(some 6), none, .mv (.t 5)⟩,
 ⟨(some 7), (some (6, false)), .mv (.t 0)⟩,
 ⟨(some 8), (some (6, false)), .idxS (.t 7) (.c (.int .i64 0))⟩,
 ⟨(some 9), (some (6, false)), .call 82 [(.t 8)]⟩,
 ⟨(some 10), (some (6, false)), .not (.t 9)⟩,
 ⟨(some 11), none, .pick (.t 6) (.c (.bool true)) (.t 10)⟩,
 ⟨(some 12), none, .mv (.t 11)⟩,
 ⟨(some 13), (some (12, false)), .mv (.t 0)⟩,
 ⟨(some 14), (some (12, false)), .lenS (.t 13)⟩,
 ⟨(some 15), (some (12, false)), .bin .gtr (.t 14) (.c (.int .i64 16))⟩,
 ⟨(some 16), none, .pick (.t 12) (.c (.bool true)) (.t 15)⟩] false)
 (.cond (.t 16)
 (.seq
 (.region [
 ⟨(some 2), none, .mv (.c (.bool false))⟩] false)
 .ret)
 .skip))
 (.seq
 (.seq
 (.region [
 ⟨(some 3), none, .mv (.c (.int .i64 0))⟩] false)
 (.block 0
 (.loop
 (.seq
 (.seq
 (.region [
 ⟨(some 17), none, .mv (.t 3)⟩,
 ⟨(some 18), none, .mv (.t 0)⟩,
 ⟨(some 19), none, .lenS (.t 18)⟩,
 ⟨(some 20), none, .bin .lss (.t 17) (.t 19)⟩] false)
 (.cond (.t 20)
 .skip
 (.exit 0)))
 (.seq
 (.block 1
 (.seq
 (.region [
 ⟨(some 23), none, .mv (.t 0)⟩,
 ⟨(some 24), none, .mv (.t 3)⟩,
 ⟨(some 25), none, .idxS (.t 23) (.t 24)⟩,
 ⟨(some 26), none, .call 83 [(.t 25)]⟩,
 ⟨(some 27), none, .not (.t 26)⟩] false)
 (.cond (.t 27)
 (.seq
 (.region [
 ⟨(some 2), none, .mv (.c (.bool false))⟩] false)
 .ret)
 .skip)))
 (.region [
 ⟨(some 21), none, .mv (.t 3)⟩,
 ⟨(some 22), none, .bin .add (.t 21) (.c (.int .i64 1))⟩,
 ⟨(some 3), none, .mv (.t 22)⟩] false))))))
 (.seq
 (.region [
 ⟨(some 2), none, .mv (.c (.bool true))⟩] false)
 .ret))))
def r48 : List ERes := [.t 2]

theorem c48 : chkF Try.prog Try.f48 1 e48 r48 = true := by kernel_rfl

def e49 : EC :=
 (.seq
 (.region [
 ⟨(some 2), none, .mv (.c (.bool false))⟩] false)
 (.seq
 (.seq
 (.region [
 ⟨(some 3), none, .mv (.c (.int .i64 0))⟩] false)
 (.block 0
 (.loop
 (.seq
 (.seq
 (.region [
 ⟨(some 5), none, .mv (.t 3)⟩,
 ⟨(some 6), none, .mv (.t 0)⟩,
 ⟨(some 7), none, .len (.t 6)⟩,
 ⟨(some 8), none, .bin .lss (.t 5) (.t 7)⟩] false)
 (.cond (.t 8)
 .skip
 (.exit 0)))
 (.seq
 (.block 1
 (.seq
 (.seq
 (.region [
 ⟨(some 11), none, .mv (.t 0)⟩,
 ⟨(some 12), none, .mv (.t 3)⟩,
 ⟨(some 13), none, .iaddr 7 (.t 11) (.t 12)⟩,
 ⟨(some 14), none, .faddr 0 (.t 13)⟩,
 ⟨(some 15), none, .load false 1 (.t 14)⟩,
 ⟨(some 16), none, .pcall 48 [(.t 15)]⟩,
 ⟨(some 17), none, .not (.t 16)⟩,
 ⟨(some 18), none, .mv (.t 17)⟩,
 ⟨(some 19), (some (18, false)), .mv (.t 0)⟩,
 ⟨(some 20), (some (18, false)), .mv (.t 3)⟩,
 ⟨(some 21), (some (18, false)), .iaddr 7 (.t 19) (.t 20)⟩,
 ⟨(some 22), (some (18, false)), .faddr 1 (.t 21)⟩,
 ⟨(some 23), (some (18, false)), .load true 3 (.t 22)⟩,
 ⟨(some 24), (some (18, false)), .mv (.t 0)⟩,
 ⟨(some 25), (some (18, false)), .mv (.t 3)⟩,
 ⟨(some 26), (some (18, false)), .iaddr 7 (.t 24) (.t 25)⟩,
 ⟨(some 27), (some (18, false)), .faddr 4 (.t 26)⟩,
 ⟨(some 28), (some (18, false)), .load true 3 (.t 27)⟩,
 ⟨(some 29), (some (18, false)), .pcall 64 [(.t 23), (.t 28)]⟩,
 ⟨(some 30), (some (18, false)), .not (.t 29)⟩,
 ⟨(some 31), none, .pick (.t 18) (.c (.bool true)) (.t 30)⟩] true)
 (.cond (.t 31)
 (.seq
 (.region [
 ⟨(some 2), none, .mv (.c (.bool false))⟩] false)
 .ret)
 .skip))
 (.seq
 (.region [
 ⟨(some 4), none, .mv (.c (.int .i64 0))⟩] false)
 (.block 2
 (.loop
 (.seq
 (.seq
 (.region [
 ⟨(some 32), none, .mv (.t 4)⟩,
 ⟨(some 33), none, .mv (.t 3)⟩,
 ⟨(some 34), none, .bin .lss (.t 32) (.t 33)⟩] false)
 (.cond (.t 34)
 .skip
 (.exit 2)))
 (.seq
 (.block 3
 (.seq
 (.region [
 ⟨(some 37), none, .mv (.t 0)⟩,
 ⟨(some 38), none, .mv (.t 4)⟩,
 ⟨(some 39), none, .iaddr 7 (.t 37) (.t 38)⟩,
 ⟨(some 40), none, .faddr 0 (.t 39)⟩,
 ⟨(some 41), none, .load false 1 (.t 40)⟩,
 ⟨(some 42), none, .mv (.t 0)⟩,
 ⟨(some 43), none, .mv (.t 3)⟩,
 ⟨(some 44), none, .iaddr 7 (.t 42) (.t 43)⟩,
 ⟨(some 45), none, .faddr 0 (.t 44)⟩,
 ⟨(some 46), none, .load false 1 (.t 45)⟩,
 ⟨(some 47), none, .bin .eql (.t 41) (.t 46)⟩] true)
 (.cond (.t 47)
 (.seq
 (.region [
 ⟨(some 2), none, .mv (.c (.bool false))⟩] false)
 .ret)
 .skip)))
 (.region [
 ⟨(some 35), none, .mv (.t 4)⟩,
 ⟨(some 36), none, .bin .add (.t 35) (.c (.int .i64 1))⟩,
 ⟨(some 4), none, .mv (.t 36)⟩] false))))))))
 (.region [
 ⟨(some 9), none, .mv (.t 3)⟩,
 ⟨(some 10), none, .bin .add (.t 9) (.c (.int .i64 1))⟩,
 ⟨(some 3), none, .mv (.t 10)⟩] false))))))
 (.seq
 (.region [
 ⟨(some 48), none, .mv (.t 0)⟩,
 ⟨(some 49), none, .len (.t 48)⟩,
 ⟨(some 50), none, .bin .leq (.t 49) (.c (.int .i64 12))⟩,
 ⟨(some 2), none, .mv (.t 50)⟩] false)
 .ret)))
def r49 : List ERes := [.t 2]

theorem c49 : chkF Try.prog Try.f49 1 e49 r49 = true := by kernel_rfl

def e50 : EC :=
 (.seq
 (.region [
 ⟨(some 6), none, .mv (.c (.bool false))⟩] false)
 (.seq
 (.region [
 ⟨(some 7), none, .mv (.t 0)⟩,
 ⟨(some 8), none, .bin .geq (.t 7) (.c (.int .i64 0))⟩,
 ⟨(some 9), none, .mv (.t 8)⟩,
 ⟨(some 10), (some (9, true)), .mv (.t 0)⟩,
 ⟨(some 11), (some (9, true)), .bin .lss (.t 10) (.c (.int .i64 6))⟩,
 ⟨(some 12), none, .pick (.t 9) (.t 11) (.c (.bool false))⟩,
 ⟨(some 13), none, .mv (.t 12)⟩,
 ⟨(some 14), (some (13, true)), .mv (.t 0)⟩,
 ⟨(some 15), (some (13, true)), .mv (.t 2)⟩,
 ⟨(some 16), (some (13, true)), .bin .neq (.t 14) (.t 15)⟩,
 ⟨(some 17), none, .pick (.t 13) (.t 16) (.c (.bool false))⟩,
 ⟨(some 18), none, .mv (.t 17)⟩,
 ⟨(some 19), (some (18, true)), .mv (.t 1)⟩,
 ⟨(some 20), (some (18, true)), .bin .geq (.t 19) (.c (.int .i64 0))⟩,
 ⟨(some 21), none, .pick (.t 18) (.t 20) (.c (.bool false))⟩,
 ⟨(some 22), none, .mv (.t 21)⟩,
 ⟨(some 23), (some (22, true)), .mv (.t 1)⟩,
 ⟨(some 24), (some (22, true)), .bin .lss (.t 23) (.c (.int .i64 40))⟩,
 ⟨(some 25), none, .pick (.t 22) (.t 24) (.c (.bool false))⟩,
 ⟨(some 6), none, .mv (.t 25)⟩] false)
 .ret))
def r50 : List ERes := [.t 6]

theorem c50 : chkF Try.prog Try.f50 3 e50 r50 = true := by kernel_rfl

def e51 : EC :=
 (.seq
 (.region [
 ⟨(some 1), none, .box 68 (.t 0)⟩,
 ⟨(some 2), none, .mv (.c (.bool false))⟩] false)
 (.seq
 (.seq
 (.region [
 ⟨(some 5), none, .faddr 0 (.t 1)⟩,
 ⟨(some 6), none, .load false 1 (.t 5)⟩,
 ⟨(some 7), none, .bin .lss (.t 6) (.c (.int .i64 1))⟩,
 ⟨(some 8), none, .mv (.t 7)⟩,
 ⟨(some 9), (some (8, false)), .faddr 0 (.t 1)⟩,
 ⟨(some 10), (some (8, false)), .load false 1 (.t 9)⟩,
 ⟨(some 11), (some (8, false)), .bin .gtr (.t 10) (.c (.int .i64 24))⟩,
 ⟨(some 12), none, .pick (.t 8) (.c (.bool true)) (.t 11)⟩] false)
 (.cond (.t 12)
 (.seq
 (.region [
 ⟨(some 2), none, .mv (.c (.bool false))⟩] false)
 .ret)
 .skip))
 (.seq
 (.region [
 ⟨(some 14), none, .faddr 0 (.t 1)⟩,
 ⟨(some 15), none, .load false 1 (.t 14)⟩,
 ⟨(some 16), none, .call 84 [(.t 15)]⟩,
 ⟨(some 13), none, .mv (.t 16)⟩,
 ⟨(some 17), none, .extract 0 (.t 13)⟩,
 ⟨(some 18), none, .extract 1 (.t 13)⟩,
 ⟨(some 3), none, .mv (.t 17)⟩,
 ⟨(some 4), none, .mv (.t 18)⟩] false)
 (.seq
 (.seq
 (.region [
 ⟨(some 19), none, .faddr 1 (.t 1)⟩,
 ⟨(some 20), none, .load false 1 (.t 19)⟩,
 ⟨(some 21), none, .mv (.t 3)⟩,
 ⟨(some 22), none, .bin .lss (.t 20) (.t 21)⟩,
 ⟨(some 23), none, .mv (.t 22)⟩,
 ⟨(some 24), (some (23, false)), .faddr 1 (.t 1)⟩,
 ⟨(some 25), (some (23, false)), .load false 1 (.t 24)⟩,
 ⟨(some 26), (some (23, false)), .mv (.t 4)⟩,
 ⟨(some 27), (some (23, false)), .bin .gtr (.t 25) (.t 26)⟩,
 ⟨(some 28), none, .pick (.t 23) (.c (.bool true)) (.t 27)⟩] false)
 (.cond (.t 28)
 (.seq
 (.region [
 ⟨(some 2), none, .mv (.c (.bool false))⟩] false)
 .ret)
 .skip))
 (.seq
 (.seq
 (.region [
 ⟨(some 29), none, .faddr 0 (.t 1)⟩,
 ⟨(some 30), none, .load false 1 (.t 29)⟩,
 ⟨(some 31), none, .bin .eql (.t 30) (.c (.int .i64 2))⟩] false)
 (.cond (.t 31)
 (.seq
 (.region [
 ⟨(some 32), none, .faddr 2 (.t 1)⟩,
 ⟨(some 33), none, .load false 1 (.t 32)⟩,
 ⟨(some 34), none, .call 31 [(.t 33)]⟩,
 ⟨(some 35), none, .call 32 [(.t 34)]⟩,
 ⟨(some 2), none, .mv (.t 35)⟩] false)
 .ret)
 .skip))
 (.seq
 (.region [
 ⟨(some 36), none, .faddr 2 (.t 1)⟩,
 ⟨(some 37), none, .load false 1 (.t 36)⟩,
 ⟨(some 38), none, .bin .eql (.t 37) (.c (.str []))⟩,
 ⟨(some 2), none, .mv (.t 38)⟩] false)
 .ret))))))
def r51 : List ERes := [.t 2]

theorem c51 : chkF Try.prog Try.f51 1 e51 r51 = true := by kernel_rfl

def e82 : EC :=
 (.seq
 (.region [
 ⟨(some 2), none, .mv (.c (.bool false))⟩] false)
 (.seq
 (.region [
 ⟨(some 3), none, .mv (.t 0)⟩,
 ⟨(some 4), none, .bin .geq (.t 3) (.c (.int .u8 97))⟩,
 ⟨(some 5), none, .mv (.t 4)⟩,
 ⟨(some 6), (some (5, true)), .mv (.t 0)⟩,
 ⟨(some 7), (some (5, true)), .bin .leq (.t 6) (.c (.int .u8 122))⟩,
 ⟨(some 8), none, .pick (.t 5) (.t 7) (.c (.bool false))⟩,
 ⟨(some 9), none, .mv (.t 8)⟩,
 ⟨(some 10), (some (9, false)), .mv (.t 0)⟩,
 ⟨(some 11), (some (9, false)), .bin .geq (.t 10) (.c (.int .u8 65))⟩,
 ⟨(some 12), (some (9, false)), .mv (.t 11)⟩,
 ⟨(some 13), (some (12, true)), .mv (.t 0)⟩,
 ⟨(some 14), (some (12, true)), .bin .leq (.t 13) (.c (.int .u8 90))⟩,
 ⟨(some 15), (some (9, false)), .pick (.t 12) (.t 14) (.c (.bool false))⟩,
 ⟨(some 16), none, .pick (.t 9) (.c (.bool true)) (.t 15)⟩,
 ⟨(some 2), none, .mv (.t 16)⟩] false)
 .ret))
def r82 : List ERes := [.t 2]

theorem c82 : chkF Try.prog Try.f82 1 e82 r82 = true := by kernel_rfl

def e83 : EC :=
 (.seq
 (.region [
 ⟨(some 2), none, .mv (.c (.bool false))⟩] false)
 (.seq
 (.region [
 ⟨(some 3), none, .mv (.t 0)⟩,
 ⟨(some 4), none, .call 82 [(.t 3)]⟩,
 ⟨(some 5), none, .mv (.t 4)⟩,
 ⟨(some 6), (some (5, false)), .mv (.t 0)⟩,
 ⟨(some 7), (some (5, false)), .call 120 [(.t 6)]⟩,
 ⟨(some 8), none, .pick (.t 5) (.c (.bool true)) (.t 7)⟩,
 ⟨(some 9), none, .mv (.t 8)⟩,
 ⟨(some 10), (some (9, false)), .mv (.t 0)⟩,
 ⟨(some 11), (some (9, false)), .bin .eql (.t 10) (.c (.int .u8 95))⟩,
 ⟨(some 12), none, .pick (.t 9) (.c (.bool true)) (.t 11)⟩,
 ⟨(some 2), none, .mv (.t 12)⟩] false)
 .ret))
def r83 : List ERes := [.t 2]

theorem c83 : chkF Try.prog Try.f83 1 e83 r83 = true := by kernel_rfl

def e84 : EC :=
 (.seq
 (.region [
 ⟨(some 2), none, .mv (.c (.int .i64 0))⟩,
 ⟨(some 3), none, .mv (.c (.int .i64 0))⟩] false)
 (.seq
 (.seq
 (.region [
 ⟨(some 4), none, .mv (.t 0)⟩] false)
 (.block 0
 (.seq
 (.region [
 ⟨(some 6), none, .bin .eql (.t 4) (.c (.int .i64 1))⟩,
 ⟨(some 5), none, .mv (.t 6)⟩] false)
 (.cond (.t 5)
 (.seq
 (.region [
 ⟨(some 2), none, .mv (.c (.int .i64 (-1000)))⟩,
 ⟨(some 3), none, .mv (.c (.int .i64 1000))⟩] false)
 .ret)
 (.seq
 (.seq
 (.region [
 ⟨(some 8), none, .bin .eql (.t 4) (.c (.int .i64 3))⟩,
 ⟨(some 7), none, .mv (.t 8)⟩] false)
 (.cond (.t 7)
 .skip
 (.region [
 ⟨(some 9), none, .bin .eql (.t 4) (.c (.int .i64 5))⟩,
 ⟨(some 7), none, .mv (.t 9)⟩] false)))
 (.cond (.t 7)
 (.seq
 (.region [
 ⟨(some 2), none, .mv (.c (.int .i64 0))⟩,
 ⟨(some 3), none, .mv (.c (.int .i64 11))⟩] false)
 .ret)
 (.seq
 (.region [
 ⟨(some 11), none, .bin .eql (.t 4) (.c (.int .i64 4))⟩,
 ⟨(some 10), none, .mv (.t 11)⟩] false)
 (.cond (.t 10)
 (.seq
 (.region [
 ⟨(some 2), none, .mv (.c (.int .i64 0))⟩,
 ⟨(some 3), none, .mv (.c (.int .i64 3))⟩] false)
 .ret)
 (.seq
 (.seq
 (.region [
 ⟨(some 13), none, .bin .eql (.t 4) (.c (.int .i64 19))⟩,
 ⟨(some 12), none, .mv (.t 13)⟩] false)
 (.cond (.t 12)
 .skip
 (.seq
 (.region [
 ⟨(some 14), none, .bin .eql (.t 4) (.c (.int .i64 20))⟩,
 ⟨(some 12), none, .mv (.t 14)⟩] false)
 (.cond (.t 12)
 .skip
 (.region [
 ⟨(some 15), none, .bin .eql (.t 4) (.c (.int .i64 22))⟩,
 ⟨(some 12), none, .mv (.t 15)⟩] false)))))
 (.cond (.t 12)
 (.seq
 (.region [
 ⟨(some 2), none, .mv (.c (.int .i64 0))⟩,
 ⟨(some 3), none, .mv (.c (.int .i64 999))⟩] false)
 .ret)
 (.seq
 (.region [
 ⟨(some 17), none, .bin .eql (.t 4) (.c (.int .i64 21))⟩,
 ⟨(some 16), none, .mv (.t 17)⟩] false)
 (.cond (.t 16)
 (.seq
 (.region [
 ⟨(some 2), none, .mv (.c (.int .i64 1))⟩,
 ⟨(some 3), none, .mv (.c (.int .i64 50))⟩] false)
 .ret)
 .skip))))))))))))
 (.seq
 (.region [
 ⟨(some 2), none, .mv (.c (.int .i64 0))⟩,
 ⟨(some 3), none, .mv (.c (.int .i64 0))⟩] false)
 .ret)))
def r84 : List ERes := [.t 2, .t 3]

theorem c84 : chkF Try.prog Try.f84 1 e84 r84 = true := by kernel_rfl

def e120 : EC :=
 (.seq
 (.region [
 ⟨(some 2), none, .mv (.c (.bool false))⟩] false)
 (.seq
 (.region [
 ⟨(some 3), none, .mv (.t 0)⟩,
 ⟨(some 4), none, .bin .geq (.t 3) (.c (.int .u8 48))⟩,
 ⟨(some 5), none, .mv (.t 4)⟩,
 ⟨(some 6), (some (5, true)), .mv (.t 0)⟩,
 ⟨(some 7), (some (5, true)), .bin .leq (.t 6) (.c (.int .u8 57))⟩,
 ⟨(some 8), none, .pick (.t 5) (.t 7) (.c (.bool false))⟩,
 ⟨(some 2), none, .mv (.t 8)⟩] false)
 .ret))
def r120 : List ERes := [.t 2]

theorem c120 : chkF Try.prog Try.f120 1 e120 r120 = true := by kernel_rfl

def e32 : EC :=
 (.seq
 (.region [
 ⟨(some 1), none, .box 70 (.t 0)⟩,
 ⟨(some 2), none, .mv (.c (.bool false))⟩] false)
 (.seq
 (.seq
 (.region [
 ⟨(some 3), none, .faddr 0 (.t 1)⟩,
 ⟨(some 4), none, .load false 1 (.t 3)⟩] false)
 (.block 0
 (.seq
 (.region [
 ⟨(some 6), none, .bin .eql (.t 4) (.c (.int .i64 1))⟩,
 ⟨(some 5), none, .mv (.t 6)⟩] false)
 (.cond (.t 5)
 (.seq
 (.region [
 ⟨(some 7), none, .faddr 1 (.t 1)⟩,
 ⟨(some 8), none, .load false 1 (.t 7)⟩,
 ⟨(some 9), none, .bin .geq (.t 8) (.c (.int .i64 (-1000)))⟩,
 ⟨(some 10), none, .mv (.t 9)⟩,
 ⟨(some 11), (some (10, true)), .faddr 1 (.t 1)⟩,
 ⟨(some 12), (some (10, true)), .load false 1 (.t 11)⟩,
 ⟨(some 13), (some (10, true)), .bin .leq (.t 12) (.c (.int .i64 1000))⟩,
 ⟨(some 14), none, .pick (.t 10) (.t 13) (.c (.bool false))⟩,
 ⟨(some 15), none, .mv (.t 14)⟩,
 ⟨(some 16), (some (15, true)), .faddr 2 (.t 1)⟩,
 ⟨(some 17), (some (15, true)), .load false 1 (.t 16)⟩,
 ⟨(some 18), (some (15, true)), .bin .eql (.t 17) (.c (.str []))⟩,
 ⟨(some 19), none, .pick (.t 15) (.t 18) (.c (.bool false))⟩,
 ⟨(some 2), none, .mv (.t 19)⟩] false)
 .ret)
 (.seq
 (.region [
 ⟨(some 21), none, .bin .eql (.t 4) (.c (.int .i64 2))⟩,
 ⟨(some 20), none, .mv (.t 21)⟩] false)
 (.cond (.t 20)
 (.seq
 (.region [
 ⟨(some 22), none, .faddr 1 (.t 1)⟩,
 ⟨(some 23), none, .load false 1 (.t 22)⟩,
 ⟨(some 24), none, .bin .eql (.t 23) (.c (.int .i64 0))⟩,
 ⟨(some 25), none, .mv (.t 24)⟩,
 ⟨(some 26), (some (25, true)), .faddr 2 (.t 1)⟩,
 ⟨(some 27), (some (25, true)), .load false 1 (.t 26)⟩,
 ⟨(some 28), (some (25, true)), .lenS (.t 27)⟩,
 ⟨(some 29), (some (25, true)), .bin .leq (.t 28) (.c (.int .i64 40))⟩,
 ⟨(some 30), none, .pick (.t 25) (.t 29) (.c (.bool false))⟩,
 ⟨(some 31), none, .mv (.t 30)⟩,
 ⟨(some 32), (some (31, true)), .faddr 2 (.t 1)⟩,
 ⟨(some 33), (some (31, true)), .load false 1 (.t 32)⟩,
 ⟨(some 34), (some (31, true)), .call 62 [(.t 33)]⟩,
 ⟨(some 35), none, .pick (.t 31) (.t 34) (.c (.bool false))⟩,
 ⟨(some 2), none, .mv (.t 35)⟩] false)
 .ret)
 .skip))))))
 (.seq
 (.region [
 ⟨(some 2), none, .mv (.c (.bool false))⟩] false)
 .ret)))
def r32 : List ERes := [.t 2]

theorem c32 : chkF Try.prog Try.f32 1 e32 r32 = true := by kernel_rfl

def e38 : EC :=
 (.seq
 (.region [
 ⟨(some 1), none, .box 85 (.t 0)⟩,
 ⟨(some 2), none, .mv (.c (.bool false))⟩] false)
 (.seq
 (.seq
 (.region [
 ⟨(some 3), none, .faddr 0 (.t 1)⟩,
 ⟨(some 4), none, .load false 1 (.t 3)⟩] false)
 (.block 0
 (.seq
 (.region [
 ⟨(some 6), none, .bin .eql (.t 4) (.c (.int .i64 1))⟩,
 ⟨(some 5), none, .mv (.t 6)⟩] false)
 (.cond (.t 5)
 (.seq
 (.region [
 ⟨(some 7), none, .faddr 1 (.t 1)⟩,
 ⟨(some 8), none, .load false 1 (.t 7)⟩,
 ⟨(some 9), none, .bin .leq (.c (.int .i64 (-1000))) (.t 8)⟩,
 ⟨(some 10), none, .mv (.t 9)⟩,
 ⟨(some 11), (some (10, true)), .faddr 1 (.t 1)⟩,
 ⟨(some 12), (some (10, true)), .load false 1 (.t 11)⟩,
 ⟨(some 13), (some (10, true)), .faddr 2 (.t 1)⟩,
 ⟨(some 14), (some (10, true)), .load false 1 (.t 13)⟩,
 ⟨(some 15), (some (10, true)), .bin .leq (.t 12) (.t 14)⟩,
 ⟨(some 16), none, .pick (.t 10) (.t 15) (.c (.bool false))⟩,
 ⟨(some 17), none, .mv (.t 16)⟩,
 ⟨(some 18), (some (17, true)), .faddr 2 (.t 1)⟩,
 ⟨(some 19), (some (17, true)), .load false 1 (.t 18)⟩,
 ⟨(some 20), (some (17, true)), .bin .leq (.t 19) (.c (.int .i64 1000))⟩,
 ⟨(some 21), none, .pick (.t 17) (.t 20) (.c (.bool false))⟩,
 ⟨(some 2), none, .mv (.t 21)⟩] false)
 .ret)
 (.seq
 (.region [
 ⟨(some 23), none, .bin .eql (.t 4) (.c (.int .i64 2))⟩,
 ⟨(some 22), none, .mv (.t 23)⟩] false)
 (.cond (.t 22)
 (.seq
 (.region [
 ⟨(some 24), none, .faddr 1 (.t 1)⟩,
 ⟨(some 25), none, .load false 1 (.t 24)⟩,
 ⟨(some 26), none, .bin .leq (.c (.int .i64 0)) (.t 25)⟩,
 ⟨(some 27), none, .mv (.t 26)⟩,
 ⟨(some 28), (some (27, true)), .faddr 1 (.t 1)⟩,
 ⟨(some 29), (some (27, true)), .load false 1 (.t 28)⟩,
 ⟨(some 30), (some (27, true)), .faddr 2 (.t 1)⟩,
 ⟨(some 31), (some (27, true)), .load false 1 (.t 30)⟩,
 ⟨(some 32), (some (27, true)), .bin .leq (.t 29) (.t 31)⟩,
 ⟨(some 33), none, .pick (.t 27) (.t 32) (.c (.bool false))⟩,
 ⟨(some 34), none, .mv (.t 33)⟩,
 ⟨(some 35), (some (34, true)), .faddr 2 (.t 1)⟩,
 ⟨(some 36), (some (34, true)), .load false 1 (.t 35)⟩,
 ⟨(some 37), (some (34, true)), .bin .leq (.t 36) (.c (.int .i64 40))⟩,
 ⟨(some 38), none, .pick (.t 34) (.t 37) (.c (.bool false))⟩,
 ⟨(some 2), none, .mv (.t 38)⟩] false)
 .ret)
 .skip))))))
 (.seq
 (.region [
 ⟨(some 2), none, .mv (.c (.bool false))⟩] false)
 .ret)))
def r38 : List ERes := [.t 2]

theorem c38 : chkF Try.prog Try.f38 1 e38 r38 = true := by kernel_rfl

def e62 : EC :=
 (.seq
 (.region [
 ⟨(some 2), none, .mv (.c (.bool false))⟩] false)
 (.seq
 (.seq
 (.region [
 ⟨(some 3), none, .mv (.c (.int .i64 0))⟩] false)
 (.block 0
 (.loop
 (.seq
 (.seq
 (.region [
 ⟨(some 4), none, .mv (.t 3)⟩,
 ⟨(some 5), none, .mv (.t 0)⟩,
 ⟨(some 6), none, .lenS (.t 5)⟩,
 ⟨(some 7), none, .bin .lss (.t 4) (.t 6)⟩] false)
 (.cond (.t 7)
 .skip
 (.exit 0)))
 (.seq
 (.block 1
 (.seq
 (.region [
 ⟨(some 10), none, .mv (.t 0)⟩,
 ⟨(some 11), none, .mv (.t 3)⟩,
 ⟨(some 12), none, .idxS (.t 10) (.t 11)⟩,
 ⟨(some 13), none, .bin .lss (.t 12) (.c (.int .u8 32))⟩,
 ⟨(some 14), none, .mv (.t 13)⟩,
 ⟨(some 15), (some (14, false)), .mv (.t 0)⟩,
 ⟨(some 16), (some (14, false)), .mv (.t 3)⟩,
 ⟨(some 17), (some (14, false)), .idxS (.t 15) (.t 16)⟩,
 ⟨(some 18), (some (14, false)), .bin .gtr (.t 17) (.c (.int .u8 126))⟩,
 ⟨(some 19), none, .pick (.t 14) (.c (.bool true)) (.t 18)⟩] false)
 (.cond (.t 19)
 (.seq
 (.region [
 ⟨(some 2), none, .mv (.c (.bool false))⟩] false)
 .ret)
 .skip)))
 (.region [
 ⟨(some 8), none, .mv (.t 3)⟩,
 ⟨(some 9), none, .bin .add (.t 8) (.c (.int .i64 1))⟩,
 ⟨(some 3), none, .mv (.t 9)⟩] false))))))
 (.seq
 (.region [
 ⟨(some 2), none, .mv (.c (.bool true))⟩] false)
 .ret)))
def r62 : List ERes := [.t 2]

theorem c62 : chkF Try.prog Try.f62 1 e62 r62 = true := by kernel_rfl

def e64 : EC :=
 (.seq
 (.region [
 ⟨(some 2), none, .box 85 (.t 0)⟩,
 ⟨(some 3), none, .box 70 (.t 1)⟩,
 ⟨(some 4), none, .mv (.c (.bool false))⟩] false)
 (.seq
 (.region [
 ⟨(some 5), none, .load true 3 (.t 2)⟩,
 ⟨(some 6), none, .pcall 38 [(.t 5)]⟩,
 ⟨(some 7), none, .mv (.t 6)⟩,
 ⟨(some 8), (some (7, true)), .load true 3 (.t 3)⟩,
 ⟨(some 9), (some (7, true)), .pcall 32 [(.t 8)]⟩,
 ⟨(some 10), none, .pick (.t 7) (.t 9) (.c (.bool false))⟩,
 ⟨(some 11), none, .mv (.t 10)⟩,
 ⟨(some 12), (some (11, true)), .faddr 0 (.t 2)⟩,
 ⟨(some 13), (some (11, true)), .load false 1 (.t 12)⟩,
 ⟨(some 14), (some (11, true)), .faddr 0 (.t 3)⟩,
 ⟨(some 15), (some (11, true)), .load false 1 (.t 14)⟩,
 ⟨(some 16), (some (11, true)), .bin .eql (.t 13) (.t 15)⟩,
 ⟨(some 17), none, .pick (.t 11) (.t 16) (.c (.bool false))⟩,
 ⟨(some 18), none, .mv (.t 17)⟩,
 ⟨(some 19), (some (18, true)), .load true 3 (.t 3)⟩,
 ⟨(some 20), (some (18, true)), .pcall 104 [(.t 19)]⟩,
 ⟨(some 21), (some (18, true)), .faddr 1 (.t 2)⟩,
 ⟨(some 22), (some (18, true)), .load false 1 (.t 21)⟩,
 ⟨(some 23), (some (18, true)), .bin .geq (.t 20) (.t 22)⟩,
 ⟨(some 24), none, .pick (.t 18) (.t 23) (.c (.bool false))⟩,
 ⟨(some 25), none, .mv (.t 24)⟩,
 ⟨(some 26), (some (25, true)), .load true 3 (.t 3)⟩,
 ⟨(some 27), (some (25, true)), .pcall 104 [(.t 26)]⟩,
 ⟨(some 28), (some (25, true)), .faddr 2 (.t 2)⟩,
 ⟨(some 29), (some (25, true)), .load false 1 (.t 28)⟩,
 ⟨(some 30), (some (25, true)), .bin .leq (.t 27) (.t 29)⟩,
 ⟨(some 31), none, .pick (.t 25) (.t 30) (.c (.bool false))⟩,
 ⟨(some 4), none, .mv (.t 31)⟩] true)
 .ret))
def r64 : List ERes := [.t 4]

theorem c64 : chkF Try.prog Try.f64 2 e64 r64 = true := by kernel_rfl

def e65 : EC :=
 (.seq
 (.region [
 ⟨(some 2), none, .box 85 (.t 0)⟩,
 ⟨(some 3), none, .box 70 (.t 1)⟩,
 ⟨(some 4), none, .alloc 70 [.int .i64 0, .int .i64 0, .str []]⟩,
 ⟨(some 5), none, .mv (.c (.int .i64 0))⟩] false)
 (.seq
 (.block 0
 (.seq
 (.region [
 ⟨(some 7), none, .load true 3 (.t 2)⟩,
 ⟨(some 8), none, .call 38 [(.t 7)]⟩,
 ⟨(some 9), none, .not (.t 8)⟩,
 ⟨(some 10), none, .mv (.t 9)⟩,
 ⟨(some 11), (some (10, false)), .load true 3 (.t 3)⟩,
 ⟨(some 12), (some (10, false)), .call 32 [(.t 11)]⟩,
 ⟨(some 13), (some (10, false)), .not (.t 12)⟩,
 ⟨(some 14), none, .pick (.t 10) (.c (.bool true)) (.t 13)⟩,
 ⟨(some 6), none, .mv (.t 14)⟩] false)
 (.cond (.t 6)
 (.seq
 (.region [
 ⟨(some 15), none, .build [.int .i64 0, .int .i64 0, .str []] []⟩,
 ⟨none, none, .store 3 (.t 4) (.t 15)⟩,
 ⟨(some 5), none, .mv (.c (.int .i64 1))⟩] false)
 .ret)
 (.seq
 (.region [
 ⟨(some 17), none, .faddr 0 (.t 2)⟩,
 ⟨(some 18), none, .load false 1 (.t 17)⟩,
 ⟨(some 19), none, .faddr 0 (.t 3)⟩,
 ⟨(some 20), none, .load false 1 (.t 19)⟩,
 ⟨(some 21), none, .bin .neq (.t 18) (.t 20)⟩,
 ⟨(some 16), none, .mv (.t 21)⟩] false)
 (.cond (.t 16)
 (.seq
 (.region [
 ⟨(some 22), none, .build [.int .i64 0, .int .i64 0, .str []] []⟩,
 ⟨none, none, .store 3 (.t 4) (.t 22)⟩,
 ⟨(some 5), none, .mv (.c (.int .i64 11))⟩] false)
 .ret)
 (.seq
 (.region [
 ⟨(some 24), none, .faddr 0 (.t 3)⟩,
 ⟨(some 25), none, .load false 1 (.t 24)⟩,
 ⟨(some 26), none, .bin .eql (.t 25) (.c (.int .i64 1))⟩,
 ⟨(some 23), none, .mv (.t 26)⟩] false)
 (.cond (.t 23)
 (.seq
 (.region [
 ⟨(some 27), none, .faddr 1 (.t 3)⟩,
 ⟨(some 28), none, .load false 1 (.t 27)⟩,
 ⟨(some 29), none, .faddr 1 (.t 2)⟩,
 ⟨(some 30), none, .load false 1 (.t 29)⟩,
 ⟨(some 31), none, .minmax true [(.t 28), (.t 30)]⟩,
 ⟨(some 32), none, .faddr 2 (.t 2)⟩,
 ⟨(some 33), none, .load false 1 (.t 32)⟩,
 ⟨(some 34), none, .minmax false [(.t 31), (.t 33)]⟩,
 ⟨(some 35), none, .call 29 [(.t 34)]⟩,
 ⟨none, none, .store 3 (.t 4) (.t 35)⟩,
 ⟨(some 5), none, .mv (.c (.int .i64 0))⟩] false)
 .ret)
 (.seq
 (.region [
 ⟨(some 37), none, .faddr 2 (.t 3)⟩,
 ⟨(some 38), none, .load false 1 (.t 37)⟩,
 ⟨(some 39), none, .lenS (.t 38)⟩,
 ⟨(some 40), none, .faddr 2 (.t 2)⟩,
 ⟨(some 41), none, .load false 1 (.t 40)⟩,
 ⟨(some 42), none, .bin .gtr (.t 39) (.t 41)⟩,
 ⟨(some 36), none, .mv (.t 42)⟩] false)
 (.cond (.t 36)
 (.seq
 (.region [
 ⟨(some 43), none, .faddr 2 (.t 3)⟩,
 ⟨(some 44), none, .load false 1 (.t 43)⟩,
 ⟨(some 45), none, .faddr 2 (.t 2)⟩,
 ⟨(some 46), none, .load false 1 (.t 45)⟩,
 ⟨(some 47), none, .slS (.t 44) none (some (.t 46))⟩,
 ⟨(some 48), none, .call 31 [(.t 47)]⟩,
 ⟨none, none, .store 3 (.t 4) (.t 48)⟩,
 ⟨(some 5), none, .mv (.c (.int .i64 0))⟩] false)
 .ret)
 .skip)))))))))
 (.seq
 (.region [
 ⟨(some 49), none, .faddr 2 (.t 3)⟩,
 ⟨(some 50), none, .load false 1 (.t 49)⟩,
 ⟨(some 51), none, .faddr 1 (.t 2)⟩,
 ⟨(some 52), none, .load false 1 (.t 51)⟩,
 ⟨(some 53), none, .faddr 2 (.t 3)⟩,
 ⟨(some 54), none, .load false 1 (.t 53)⟩,
 ⟨(some 55), none, .lenS (.t 54)⟩,
 ⟨(some 56), none, .bin .sub (.t 52) (.t 55)⟩,
 ⟨(some 57), none, .pcall 105 [(.t 56)]⟩,
 ⟨(some 58), none, .bin .add (.t 50) (.t 57)⟩,
 ⟨(some 59), none, .pcall 31 [(.t 58)]⟩,
 ⟨none, none, .store 3 (.t 4) (.t 59)⟩,
 ⟨(some 5), none, .mv (.c (.int .i64 0))⟩] true)
 .ret)))
def r65 : List ERes := [.cell true 3 4, .t 5]

theorem c65 : chkF Try.prog Try.f65 2 e65 r65 = true := by kernel_rfl

def e104 : EC :=
 (.seq
 (.region [
 ⟨(some 1), none, .box 70 (.t 0)⟩,
 ⟨(some 2), none, .mv (.c (.int .i64 0))⟩] false)
 (.seq
 (.seq
 (.region [
 ⟨(some 3), none, .faddr 0 (.t 1)⟩,
 ⟨(some 4), none, .load false 1 (.t 3)⟩] false)
 (.block 0
 (.seq
 (.region [
 ⟨(some 6), none, .bin .eql (.t 4) (.c (.int .i64 1))⟩,
 ⟨(some 5), none, .mv (.t 6)⟩] false)
 (.cond (.t 5)
 (.seq
 (.region [
 ⟨(some 7), none, .faddr 1 (.t 1)⟩,
 ⟨(some 8), none, .load false 1 (.t 7)⟩,
 ⟨(some 2), none, .mv (.t 8)⟩] false)
 .ret)
 (.seq
 (.region [
 ⟨(some 10), none, .bin .eql (.t 4) (.c (.int .i64 2))⟩,
 ⟨(some 9), none, .mv (.t 10)⟩] false)
 (.cond (.t 9)
 (.seq
 (.region [
 ⟨(some 11), none, .faddr 2 (.t 1)⟩,
 ⟨(some 12), none, .load false 1 (.t 11)⟩,
 ⟨(some 13), none, .lenS (.t 12)⟩,
 ⟨(some 2), none, .mv (.t 13)⟩] false)
 .ret)
 .skip))))))
 (.seq
 (.region [
 ⟨(some 2), none, .mv (.c (.int .i64 0))⟩] false)
 .ret)))
def r104 : List ERes := [.t 2]

theorem c104 : chkF Try.prog Try.f104 1 e104 r104 = true := by kernel_rfl

def e105 : EC :=
 (.seq
 (.region [
 ⟨(some 2), none, .mv (.c (.str []))⟩] false)
 (.seq
 (.region [
 ⟨(some 3), none, .mv (.c (.str []))⟩] false)
 (.seq
 (.seq
 (.region [
 ⟨(some 4), none, .mv (.c (.int .i64 0))⟩] false)
 (.block 0
 (.loop
 (.seq
 (.seq
 (.region [
 ⟨(some 5), none, .mv (.t 4)⟩,
 ⟨(some 6), none, .mv (.t 0)⟩,
 ⟨(some 7), none, .bin .lss (.t 5) (.t 6)⟩] false)
 (.cond (.t 7)
 .skip
 (.exit 0)))
 (.seq
 (.block 1
 (.region [
 ⟨(some 10), none, .mv (.t 3)⟩,
 ⟨(some 11), none, .bin .add (.t 10) (.c (.str [97]))⟩,
 ⟨(some 3), none, .mv (.t 11)⟩] false))
 (.region [
 ⟨(some 8), none, .mv (.t 4)⟩,
 ⟨(some 9), none, .bin .add (.t 8) (.c (.int .i64 1))⟩,
 ⟨(some 4), none, .mv (.t 9)⟩] false))))))
 (.seq
 (.region [
 ⟨(some 12), none, .mv (.t 3)⟩,
 ⟨(some 2), none, .mv (.t 12)⟩] false)
 .ret))))
def r105 : List ERes := [.t 2]

theorem c105 : chkF Try.prog Try.f105 1 e105 r105 = true := by kernel_rfl

def e11 : EC :=
 (.seq
 (.region [
 ⟨(some 2), none, .box 27 (.t 0)⟩,
 ⟨(some 3), none, .box 56 (.t 1)⟩,
 ⟨(some 4), none, .mv (.c (.bool false))⟩] false)
 (.seq
 (.seq
 (.region [
 ⟨(some 14), none, .call 24 []⟩,
 ⟨(some 15), none, .not (.t 14)⟩] false)
 (.cond (.t 15)
 (.seq
 (.region [
 ⟨(some 4), none, .mv (.c (.bool false))⟩] false)
 .ret)
 .skip))
 (.seq
 (.seq
 (.region [
 ⟨(some 16), none, .load true 6 (.t 2)⟩,
 ⟨(some 17), none, .call 16 [(.t 16)]⟩,
 ⟨(some 18), none, .not (.t 17)⟩,
 ⟨(some 19), none, .mv (.t 18)⟩,
 ⟨(some 20), (some (19, false)), .load true 4 (.t 3)⟩,
 ⟨(some 21), (some (19, false)), .call 25 [(.t 20)]⟩,
 ⟨(some 22), (some (19, false)), .not (.t 21)⟩,
 ⟨(some 23), none, .pick (.t 19) (.c (.bool true)) (.t 22)⟩] false)
 (.cond (.t 23)
 (.seq
 (.region [
 ⟨(some 4), none, .mv (.c (.bool true))⟩] false)
 .ret)
 .skip))
 (.seq
 (.region [
 ⟨(some 24), none, .load true 6 (.t 2)⟩,
 ⟨(some 25), none, .call 18 [(.t 24)]⟩,
 ⟨(some 5), none, .alloc 41 [.str [], .int .i64 0, .nilS, .nilS, .nilS, .nilS]⟩,
 ⟨none, none, .store 6 (.t 5) (.t 25)⟩] false)
 (.seq
 (.region [
 ⟨(some 27), none, .load true 6 (.t 5)⟩,
 ⟨(some 28), none, .faddr 0 (.t 3)⟩,
 ⟨(some 29), none, .load false 1 (.t 28)⟩,
 ⟨(some 30), none, .faddr 1 (.t 3)⟩,
 ⟨(some 31), none, .load false 1 (.t 30)⟩,
 ⟨(some 32), none, .faddr 2 (.t 3)⟩,
 ⟨(some 33), none, .load false 1 (.t 32)⟩,
 ⟨(some 34), none, .faddr 3 (.t 3)⟩,
 ⟨(some 35), none, .load false 1 (.t 34)⟩,
 ⟨(some 36), none, .call 26 [(.t 27), (.t 29), (.t 31), (.t 33), (.t 35)]⟩,
 ⟨(some 26), none, .mv (.t 36)⟩,
 ⟨(some 37), none, .extract 0 (.t 26)⟩,
 ⟨(some 38), none, .extract 1 (.t 26)⟩,
 ⟨(some 6), none, .alloc 60 [.nilS, .nilS, .int .i64 0]⟩,
 ⟨none, none, .store 3 (.t 6) (.t 37)⟩,
 ⟨(some 7), none, .mv (.t 38)⟩] false)
 (.seq
 (.region [
 ⟨(some 40), none, .load true 6 (.t 2)⟩,
 ⟨(some 41), none, .faddr 0 (.t 3)⟩,
 ⟨(some 42), none, .load false 1 (.t 41)⟩,
 ⟨(some 43), none, .faddr 1 (.t 3)⟩,
 ⟨(some 44), none, .load false 1 (.t 43)⟩,
 ⟨(some 45), none, .faddr 2 (.t 3)⟩,
 ⟨(some 46), none, .load false 1 (.t 45)⟩,
 ⟨(some 47), none, .faddr 3 (.t 3)⟩,
 ⟨(some 48), none, .load false 1 (.t 47)⟩,
 ⟨(some 49), none, .call 33 [(.t 40), (.t 42), (.t 44), (.t 46), (.t 48)]⟩,
 ⟨(some 39), none, .mv (.t 49)⟩,
 ⟨(some 50), none, .extract 0 (.t 39)⟩,
 ⟨(some 51), none, .extract 1 (.t 39)⟩,
 ⟨(some 8), none, .alloc 64 [.nilS, .nilS, .int .i64 0]⟩,
 ⟨none, none, .store 3 (.t 8) (.t 50)⟩,
 ⟨(some 9), none, .mv (.t 51)⟩] false)
 (.seq
 (.region [
 ⟨(some 53), none, .load true 6 (.t 5)⟩,
 ⟨(some 54), none, .call 34 [(.t 53)]⟩,
 ⟨(some 52), none, .mv (.t 54)⟩,
 ⟨(some 55), none, .extract 0 (.t 52)⟩,
 ⟨(some 56), none, .extract 1 (.t 52)⟩,
 ⟨(some 10), none, .mv (.t 55)⟩,
 ⟨(some 11), none, .mv (.t 56)⟩] false)
 (.seq
 (.region [
 ⟨(some 58), none, .load true 6 (.t 2)⟩,
 ⟨(some 59), none, .call 35 [(.t 58)]⟩,
 ⟨(some 57), none, .mv (.t 59)⟩,
 ⟨(some 60), none, .extract 0 (.t 57)⟩,
 ⟨(some 61), none, .extract 1 (.t 57)⟩,
 ⟨(some 12), none, .mv (.t 60)⟩,
 ⟨(some 13), none, .mv (.t 61)⟩] false)
 (.seq
 (.region [
 ⟨(some 62), none, .load true 3 (.t 6)⟩,
 ⟨(some 63), none, .load true 3 (.t 8)⟩,
 ⟨(some 64), none, .pcall 27 [(.t 62), (.t 63)]⟩,
 ⟨(some 65), none, .mv (.t 64)⟩,
 ⟨(some 66), (some (65, true)), .mv (.t 7)⟩,
 ⟨(some 67), (some (65, true)), .mv (.t 9)⟩,
 ⟨(some 68), (some (65, true)), .bin .eql (.t 66) (.t 67)⟩,
 ⟨(some 69), none, .pick (.t 65) (.t 68) (.c (.bool false))⟩,
 ⟨(some 70), none, .mv (.t 69)⟩,
 ⟨(some 71), (some (70, true)), .mv (.t 10)⟩,
 ⟨(some 72), (some (70, true)), .mv (.t 12)⟩,
 ⟨(some 73), (some (70, true)), .pcall 36 [(.t 71), (.t 72)]⟩,
 ⟨(some 74), none, .pick (.t 70) (.t 73) (.c (.bool false))⟩,
 ⟨(some 75), none, .mv (.t 74)⟩,
 ⟨(some 76), (some (75, true)), .mv (.t 11)⟩,
 ⟨(some 77), (some (75, true)), .mv (.t 13)⟩,
 ⟨(some 78), (some (75, true)), .bin .eql (.t 76) (.t 77)⟩,
 ⟨(some 79), none, .pick (.t 75) (.t 78) (.c (.bool false))⟩,
 ⟨(some 80), none, .mv (.t 79)⟩,
 ⟨(some 81), (some (80, true)), .load true 6 (.t 5)⟩,
 ⟨(some 82), (some (80, true)), .faddr 1 (.t 3)⟩,
 ⟨(some 83), (some (80, true)), .load false 1 (.t 82)⟩,
 ⟨(some 84), (some (80, true)), .pcall 28 [(.t 81), (.t 83)]⟩,
 ⟨(some 85), (some (80, true)), .load true 6 (.t 2)⟩,
 ⟨(some 86), (some (80, true)), .faddr 1 (.t 3)⟩,
 ⟨(some 87), (some (80, true)), .load false 1 (.t 86)⟩,
 ⟨(some 88), (some (80, true)), .pcall 37 [(.t 85), (.t 87)]⟩,
 ⟨(some 89), (some (80, true)), .binB .eql (.t 84) (.t 88)⟩,
 ⟨(some 90), none, .pick (.t 80) (.t 89) (.c (.bool false))⟩,
 ⟨(some 4), none, .mv (.t 90)⟩] true)
 .ret)))))))))
def r11 : List ERes := [.t 4]

theorem c11 : chkF Try.prog Try.f11 2 e11 r11 = true := by kernel_rfl

end Go.Aw.T
