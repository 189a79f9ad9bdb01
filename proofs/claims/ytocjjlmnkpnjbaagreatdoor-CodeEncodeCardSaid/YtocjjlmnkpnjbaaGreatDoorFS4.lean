/- Part of a proof; own work. -/
import Derived.Test.YtocjjlmnkpnjbaaGreatDoorProg
import Derived.Test.YtocjjlmnkpnjbaaGreatDoorFS3
namespace Go.Aw.T.N
open Go Go.Aw Go.Proofs
set_option maxRecDepth 1000000
def e12 : EC :=
 (.seq
 (.region [iI 1 (.box 27 (.t 0)),iI 2 (.alloc 36 [.str [], .int .i64 0, .nilS, .nilS, .nilS, .nilS])] false)
 (.seq
 (.region [iI 8 (.faddr 0 (.t 1)),iI 9 (.load false 1 (.t 8)),iI 10 (.faddr 1 (.t 1)),iI 11 (.load false 1 (.t 10)),iI 12 (.build [.str [], .int .i64 0, .nilS, .nilS, .nilS, .nilS] [(0, 1, (.t 9)), (1, 1, (.t 11))]),iI 3 (.alloc 36 [.str [], .int .i64 0, .nilS, .nilS, .nilS, .nilS]),iN (.store 6 (.t 3) (.t 12))] false)
 (.seq
 (.seq
 (.region [iI 4 (.mv (.c (.int .i64 0)))] false)
 (.block 0
 (.loop
 (.seq
 (.seq
 (.region [iI 13 (.mv (.t 4)),iI 14 (.faddr 2 (.t 1)),iI 15 (.load false 1 (.t 14)),iI 16 (.len (.t 15)),iI 17 (.bin .lss (.t 13) (.t 16))] false)
 (.cond (.t 17)
 .skip
 (.exit 0)))
 (.seq
 (.block 1
 (.region [iI 20 (.faddr 2 (.t 3)),iI 21 (.load false 1 (.t 20)),iI 22 (.faddr 2 (.t 1)),iI 23 (.load false 1 (.t 22)),iI 24 (.mv (.t 4)),iI 25 (.iaddr 7 (.t 23) (.t 24)),iI 26 (.load true 7 (.t 25)),iI 27 (.bslice 73 7 1 [.str [], .int .i64 0, .int .i64 0, .int .i64 0, .int .i64 0, .int .i64 0, .str []] [(0, (.t 26))]),iI 28 (.append 73 7 72 (.t 21) (.t 27)),iI 29 (.faddr 2 (.t 3)),iN (.store 1 (.t 29) (.t 28))] true))
 (.region [iI 18 (.mv (.t 4)),iI 19 (.bin .add (.t 18) (.c (.int .i64 1))),iI 4 (.mv (.t 19))] false))))))
 (.seq
 (.seq
 (.region [iI 5 (.mv (.c (.int .i64 0)))] false)
 (.block 2
 (.loop
 (.seq
 (.seq
 (.region [iI 30 (.mv (.t 5)),iI 31 (.faddr 3 (.t 1)),iI 32 (.load false 1 (.t 31)),iI 33 (.len (.t 32)),iI 34 (.bin .lss (.t 30) (.t 33))] false)
 (.cond (.t 34)
 .skip
 (.exit 2)))
 (.seq
 (.block 3
 (.region [iI 37 (.faddr 3 (.t 3)),iI 38 (.load false 1 (.t 37)),iI 39 (.faddr 3 (.t 1)),iI 40 (.load false 1 (.t 39)),iI 41 (.mv (.t 5)),iI 42 (.iaddr 3 (.t 40) (.t 41)),iI 43 (.load true 3 (.t 42)),iI 44 (.bslice 75 3 1 [.int .i64 0, .int .i64 0, .int .i64 0] [(0, (.t 43))]),iI 45 (.append 75 3 24 (.t 38) (.t 44)),iI 46 (.faddr 3 (.t 3)),iN (.store 1 (.t 46) (.t 45))] true))
 (.region [iI 35 (.mv (.t 5)),iI 36 (.bin .add (.t 35) (.c (.int .i64 1))),iI 5 (.mv (.t 36))] false))))))
 (.seq
 (.seq
 (.region [iI 6 (.mv (.c (.int .i64 0)))] false)
 (.block 4
 (.loop
 (.seq
 (.seq
 (.region [iI 47 (.mv (.t 6)),iI 48 (.faddr 4 (.t 1)),iI 49 (.load false 1 (.t 48)),iI 50 (.len (.t 49)),iI 51 (.bin .lss (.t 47) (.t 50))] false)
 (.cond (.t 51)
 .skip
 (.exit 4)))
 (.seq
 (.block 5
 (.region [iI 54 (.faddr 4 (.t 3)),iI 55 (.load false 1 (.t 54)),iI 56 (.faddr 4 (.t 1)),iI 57 (.load false 1 (.t 56)),iI 58 (.mv (.t 6)),iI 59 (.iaddr 4 (.t 57) (.t 58)),iI 60 (.load true 4 (.t 59)),iI 61 (.bslice 78 4 1 [.int .i64 0, .int .i64 0, .int .i64 0, .int .i64 0] [(0, (.t 60))]),iI 62 (.append 78 4 32 (.t 55) (.t 61)),iI 63 (.faddr 4 (.t 3)),iN (.store 1 (.t 63) (.t 62))] true))
 (.region [iI 52 (.mv (.t 6)),iI 53 (.bin .add (.t 52) (.c (.int .i64 1))),iI 6 (.mv (.t 53))] false))))))
 (.seq
 (.seq
 (.region [iI 7 (.mv (.c (.int .i64 0)))] false)
 (.block 6
 (.loop
 (.seq
 (.seq
 (.region [iI 64 (.mv (.t 7)),iI 65 (.faddr 5 (.t 1)),iI 66 (.load false 1 (.t 65)),iI 67 (.len (.t 66)),iI 68 (.bin .lss (.t 64) (.t 67))] false)
 (.cond (.t 68)
 .skip
 (.exit 6)))
 (.seq
 (.block 7
 (.region [iI 71 (.faddr 5 (.t 3)),iI 72 (.load false 1 (.t 71)),iI 73 (.faddr 5 (.t 1)),iI 74 (.load false 1 (.t 73)),iI 75 (.mv (.t 7)),iI 76 (.iaddr 3 (.t 74) (.t 75)),iI 77 (.load true 3 (.t 76)),iI 78 (.bslice 43 3 1 [.int .i64 0, .int .i64 0, .str []] [(0, (.t 77))]),iI 79 (.append 43 3 32 (.t 72) (.t 78)),iI 80 (.faddr 5 (.t 3)),iN (.store 1 (.t 80) (.t 79))] true))
 (.region [iI 69 (.mv (.t 7)),iI 70 (.bin .add (.t 69) (.c (.int .i64 1))),iI 7 (.mv (.t 70))] false))))))
 (.seq
 (.region [iI 81 (.load true 6 (.t 3)),iN (.store 6 (.t 2) (.t 81))] false)
 .ret)))))))
def r12 : List ERes := [.cell true 6 2]
theorem c12 : chkF Tryz.prog Tryz.f12 1 e12 r12 = true := by kernel_rfl
def e24 : EC :=
 (.seq
 (.region [iI 1 (.box 36 (.t 0)),iI 2 (.alloc 27 [.str [], .int .i64 0, .nilS, .nilS, .nilS, .nilS])] false)
 (.seq
 (.region [iI 8 (.faddr 0 (.t 1)),iI 9 (.load false 1 (.t 8)),iI 10 (.faddr 1 (.t 1)),iI 11 (.load false 1 (.t 10)),iI 12 (.build [.str [], .int .i64 0, .nilS, .nilS, .nilS, .nilS] [(0, 1, (.t 9)), (1, 1, (.t 11))]),iI 3 (.alloc 27 [.str [], .int .i64 0, .nilS, .nilS, .nilS, .nilS]),iN (.store 6 (.t 3) (.t 12))] false)
 (.seq
 (.seq
 (.region [iI 4 (.mv (.c (.int .i64 0)))] false)
 (.block 0
 (.loop
 (.seq
 (.seq
 (.region [iI 13 (.mv (.t 4)),iI 14 (.faddr 2 (.t 1)),iI 15 (.load false 1 (.t 14)),iI 16 (.len (.t 15)),iI 17 (.bin .lss (.t 13) (.t 16))] false)
 (.cond (.t 17)
 .skip
 (.exit 0)))
 (.seq
 (.block 1
 (.region [iI 20 (.faddr 2 (.t 3)),iI 21 (.load false 1 (.t 20)),iI 22 (.faddr 2 (.t 1)),iI 23 (.load false 1 (.t 22)),iI 24 (.mv (.t 4)),iI 25 (.iaddr 7 (.t 23) (.t 24)),iI 26 (.load true 7 (.t 25)),iI 27 (.bslice 68 7 1 [.str [], .int .i64 0, .int .i64 0, .int .i64 0, .int .i64 0, .int .i64 0, .str []] [(0, (.t 26))]),iI 28 (.append 68 7 72 (.t 21) (.t 27)),iI 29 (.faddr 2 (.t 3)),iN (.store 1 (.t 29) (.t 28))] true))
 (.region [iI 18 (.mv (.t 4)),iI 19 (.bin .add (.t 18) (.c (.int .i64 1))),iI 4 (.mv (.t 19))] false))))))
 (.seq
 (.seq
 (.region [iI 5 (.mv (.c (.int .i64 0)))] false)
 (.block 2
 (.loop
 (.seq
 (.seq
 (.region [iI 30 (.mv (.t 5)),iI 31 (.faddr 3 (.t 1)),iI 32 (.load false 1 (.t 31)),iI 33 (.len (.t 32)),iI 34 (.bin .lss (.t 30) (.t 33))] false)
 (.cond (.t 34)
 .skip
 (.exit 2)))
 (.seq
 (.block 3
 (.region [iI 37 (.faddr 3 (.t 3)),iI 38 (.load false 1 (.t 37)),iI 39 (.faddr 3 (.t 1)),iI 40 (.load false 1 (.t 39)),iI 41 (.mv (.t 5)),iI 42 (.iaddr 3 (.t 40) (.t 41)),iI 43 (.load true 3 (.t 42)),iI 44 (.bslice 76 3 1 [.int .i64 0, .int .i64 0, .int .i64 0] [(0, (.t 43))]),iI 45 (.append 76 3 24 (.t 38) (.t 44)),iI 46 (.faddr 3 (.t 3)),iN (.store 1 (.t 46) (.t 45))] true))
 (.region [iI 35 (.mv (.t 5)),iI 36 (.bin .add (.t 35) (.c (.int .i64 1))),iI 5 (.mv (.t 36))] false))))))
 (.seq
 (.seq
 (.region [iI 6 (.mv (.c (.int .i64 0)))] false)
 (.block 4
 (.loop
 (.seq
 (.seq
 (.region [iI 47 (.mv (.t 6)),iI 48 (.faddr 4 (.t 1)),iI 49 (.load false 1 (.t 48)),iI 50 (.len (.t 49)),iI 51 (.bin .lss (.t 47) (.t 50))] false)
 (.cond (.t 51)
 .skip
 (.exit 4)))
 (.seq
 (.block 5
 (.region [iI 54 (.faddr 4 (.t 3)),iI 55 (.load false 1 (.t 54)),iI 56 (.faddr 4 (.t 1)),iI 57 (.load false 1 (.t 56)),iI 58 (.mv (.t 6)),iI 59 (.iaddr 4 (.t 57) (.t 58)),iI 60 (.load true 4 (.t 59)),iI 61 (.bslice 79 4 1 [.int .i64 0, .int .i64 0, .int .i64 0, .int .i64 0] [(0, (.t 60))]),iI 62 (.append 79 4 32 (.t 55) (.t 61)),iI 63 (.faddr 4 (.t 3)),iN (.store 1 (.t 63) (.t 62))] true))
 (.region [iI 52 (.mv (.t 6)),iI 53 (.bin .add (.t 52) (.c (.int .i64 1))),iI 6 (.mv (.t 53))] false))))))
 (.seq
 (.seq
 (.region [iI 7 (.mv (.c (.int .i64 0)))] false)
 (.block 6
 (.loop
 (.seq
 (.seq
 (.region [iI 64 (.mv (.t 7)),iI 65 (.faddr 5 (.t 1)),iI 66 (.load false 1 (.t 65)),iI 67 (.len (.t 66)),iI 68 (.bin .lss (.t 64) (.t 67))] false)
 (.cond (.t 68)
 .skip
 (.exit 6)))
 (.seq
 (.block 7
 (.region [iI 71 (.faddr 5 (.t 3)),iI 72 (.load false 1 (.t 71)),iI 73 (.faddr 5 (.t 1)),iI 74 (.load false 1 (.t 73)),iI 75 (.mv (.t 7)),iI 76 (.iaddr 3 (.t 74) (.t 75)),iI 77 (.load true 3 (.t 76)),iI 78 (.bslice 41 3 1 [.int .i64 0, .int .i64 0, .str []] [(0, (.t 77))]),iI 79 (.append 41 3 32 (.t 72) (.t 78)),iI 80 (.faddr 5 (.t 3)),iN (.store 1 (.t 80) (.t 79))] true))
 (.region [iI 69 (.mv (.t 7)),iI 70 (.bin .add (.t 69) (.c (.int .i64 1))),iI 7 (.mv (.t 70))] false))))))
 (.seq
 (.region [iI 81 (.load true 6 (.t 3)),iN (.store 6 (.t 2) (.t 81))] false)
 .ret)))))))
def r24 : List ERes := [.cell true 6 2]
theorem c24 : chkF Tryz.prog Tryz.f24 1 e24 r24 = true := by kernel_rfl
end Go.Aw.T.N
