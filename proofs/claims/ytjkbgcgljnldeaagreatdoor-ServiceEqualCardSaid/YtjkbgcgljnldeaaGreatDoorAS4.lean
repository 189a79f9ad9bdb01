/- Part of a proof; own work. -/
import Derived.Test.YtjkbgcgljnldeaaGreatDoorProg
import Derived.Test.YtjkbgcgljnldeaaGreatDoorAS3
namespace Go.Aw.T.N
open Go Go.Aw Go.Proofs
set_option maxRecDepth 1000000
def e85 : EC :=
  (.seq
   (.region [
     ⟨(some 4), none, .mv (.t 0)⟩,
     ⟨(some 5), none, .mv (.t 1)⟩,
     ⟨(some 6), none, .call 87 [(.t 4), (.t 5)]⟩,
     ⟨(some 7), none, .not (.t 6)⟩] false)
   (.cond (.t 7)
    (.region [
      ⟨(some 8), none, .mv (.t 0)⟩,
      ⟨(some 9), none, .call 91 [(.t 8), (.c (.int .i64 3))]⟩] false)
    .skip))
def r85 : List ERes := []
theorem c85 : chkF Tryz.prog Tryz.f85 2 e85 r85 = true := by kernel_rfl
def e86 : EC :=
  (.seq
   (.region [
     ⟨(some 2), none, .mv (.c (.str []))⟩] false)
   (.seq
    (.seq
     (.region [
       ⟨(some 3), none, .mv (.t 0)⟩,
       ⟨(some 4), none, .call 150 [(.t 3)]⟩,
       ⟨(some 5), none, .not (.t 4)⟩] false)
     (.cond (.t 5)
      (.region [
        ⟨(some 6), none, .mv (.t 0)⟩,
        ⟨(some 7), none, .call 91 [(.t 6), (.c (.int .i64 3))]⟩] false)
      .skip))
    (.seq
     (.region [
       ⟨(some 8), none, .mv (.t 0)⟩,
       ⟨(some 9), none, .call 151 [(.t 8), (.c (.int .i64 1))]⟩,
       ⟨(some 10), none, .field false 1 1 (.t 9)⟩,
       ⟨(some 2), none, .mv (.t 10)⟩] false)
     .ret)))
def r86 : List ERes := [.t 2]
theorem c86 : chkF Tryz.prog Tryz.f86 1 e86 r86 = true := by kernel_rfl
def e87 : EC :=
  (.seq
   (.region [
     ⟨(some 4), none, .mv (.c (.bool false))⟩] false)
   (.seq
    (.region [
      ⟨(some 6), none, .mv (.t 0)⟩,
      ⟨(some 7), none, .mv (.t 1)⟩,
      ⟨(some 8), none, .call 152 [(.t 6), (.t 7)]⟩,
      ⟨(some 5), none, .mv (.t 8)⟩] false)
    (.seq
     (.seq
      (.region [
        ⟨(some 9), none, .mv (.t 5)⟩] false)
      (.cond (.t 9)
       (.region [
         ⟨(some 10), none, .mv (.t 0)⟩,
         ⟨(some 11), none, .mv (.t 0)⟩,
         ⟨(some 12), none, .nilck (.t 11)⟩,
         ⟨(some 13), none, .faddr 0 (.t 12)⟩,
         ⟨(some 14), none, .load false 1 (.t 13)⟩,
         ⟨(some 15), none, .slV 4 (.t 14) (some (.c (.int .i64 1))) none none⟩,
         ⟨(some 16), none, .nilck (.t 10)⟩,
         ⟨(some 17), none, .faddr 0 (.t 16)⟩,
         ⟨none, none, .store 1 (.t 17) (.t 15)⟩] false)
       .skip))
     (.seq
      (.region [
        ⟨(some 18), none, .mv (.t 5)⟩,
        ⟨(some 4), none, .mv (.t 18)⟩] false)
      .ret))))
def r87 : List ERes := [.t 4]
theorem c87 : chkF Tryz.prog Tryz.f87 2 e87 r87 = true := by kernel_rfl
def e88 : EC :=
  (.seq
   (.region [
     ⟨(some 2), none, .alloc 106 [.str [], .int .i64 0, .int .i64 0, .int .i64 0, .int .i64 0, .int .i64 0, .str []]⟩] false)
   (.seq
    (.region [
      ⟨(some 4), none, .mv (.t 0)⟩,
      ⟨(some 5), none, .call 86 [(.t 4)]⟩,
      ⟨(some 6), none, .build [.str [], .int .i64 0, .int .i64 0, .int .i64 0, .int .i64 0, .int .i64 0, .str []] [(0, 1, (.t 5))]⟩,
      ⟨(some 3), none, .alloc 106 [.str [], .int .i64 0, .int .i64 0, .int .i64 0, .int .i64 0, .int .i64 0, .str []]⟩,
      ⟨none, none, .store 7 (.t 3) (.t 6)⟩] false)
    (.seq
     (.region [
       ⟨(some 7), none, .mv (.t 0)⟩,
       ⟨(some 8), none, .call 85 [(.t 7), (.c (.str [58]))]⟩] false)
     (.seq
      (.seq
       (.region [
         ⟨(some 9), none, .mv (.t 0)⟩,
         ⟨(some 10), none, .call 87 [(.t 9), (.c (.str [116, 101, 120, 116]))]⟩] false)
       (.cond (.t 10)
        (.seq
         (.region [
           ⟨(some 11), none, .mv (.t 0)⟩,
           ⟨(some 12), none, .call 151 [(.t 11), (.c (.int .i64 2))]⟩,
           ⟨(some 13), none, .field false 2 1 (.t 12)⟩,
           ⟨(some 14), none, .build [.int .i64 0, .int .i64 0, .int .i64 0] [(0, 1, (.c (.int .i64 2))), (1, 1, (.t 13))]⟩,
           ⟨(some 15), none, .faddr 1 (.t 3)⟩,
           ⟨none, none, .store 3 (.t 15) (.t 14)⟩] false)
         (.seq
          (.region [
            ⟨(some 16), none, .mv (.t 0)⟩,
            ⟨(some 17), none, .call 85 [(.t 16), (.c (.str [46, 46]))]⟩] false)
          (.region [
            ⟨(some 18), none, .mv (.t 0)⟩,
            ⟨(some 19), none, .call 151 [(.t 18), (.c (.int .i64 2))]⟩,
            ⟨(some 20), none, .field false 2 1 (.t 19)⟩,
            ⟨(some 21), none, .faddr 1 (.t 3)⟩,
            ⟨(some 22), none, .faddr 2 (.t 21)⟩,
            ⟨none, none, .store 1 (.t 22) (.t 20)⟩] false)))
        (.seq
         (.region [
           ⟨(some 23), none, .mv (.t 0)⟩,
           ⟨(some 24), none, .call 85 [(.t 23), (.c (.str [105, 110, 116]))]⟩] false)
         (.seq
          (.region [
            ⟨(some 25), none, .mv (.t 0)⟩,
            ⟨(some 26), none, .call 153 [(.t 25)]⟩,
            ⟨(some 27), none, .build [.int .i64 0, .int .i64 0, .int .i64 0] [(0, 1, (.c (.int .i64 1))), (1, 1, (.t 26))]⟩,
            ⟨(some 28), none, .faddr 1 (.t 3)⟩,
            ⟨none, none, .store 3 (.t 28) (.t 27)⟩] false)
          (.seq
           (.region [
             ⟨(some 29), none, .mv (.t 0)⟩,
             ⟨(some 30), none, .call 85 [(.t 29), (.c (.str [46, 46]))]⟩] false)
           (.region [
             ⟨(some 31), none, .mv (.t 0)⟩,
             ⟨(some 32), none, .call 153 [(.t 31)]⟩,
             ⟨(some 33), none, .faddr 1 (.t 3)⟩,
             ⟨(some 34), none, .faddr 2 (.t 33)⟩,
             ⟨none, none, .store 1 (.t 34) (.t 32)⟩] false))))))
      (.seq
       (.region [
         ⟨(some 35), none, .mv (.t 0)⟩,
         ⟨(some 36), none, .call 85 [(.t 35), (.c (.str [61]))]⟩] false)
       (.seq
        (.seq
         (.region [
           ⟨(some 37), none, .mv (.t 0)⟩,
           ⟨(some 38), none, .nilck (.t 37)⟩,
           ⟨(some 39), none, .faddr 0 (.t 38)⟩,
           ⟨(some 40), none, .load false 1 (.t 39)⟩,
           ⟨(some 41), none, .len (.t 40)⟩,
           ⟨(some 42), none, .bin .gtr (.t 41) (.c (.int .i64 0))⟩,
           ⟨(some 43), none, .mv (.t 42)⟩,
           ⟨(some 44), (some (43, true)), .mv (.t 0)⟩,
           ⟨(some 45), (some (43, true)), .nilck (.t 44)⟩,
           ⟨(some 46), (some (43, true)), .faddr 0 (.t 45)⟩,
           ⟨(some 47), (some (43, true)), .load false 1 (.t 46)⟩,
           ⟨(some 48), (some (43, true)), .iaddr 4 (.t 47) (.c (.int .i64 0))⟩,
           ⟨(some 49), (some (43, true)), .faddr 0 (.t 48)⟩,
           ⟨(some 50), (some (43, true)), .load false 1 (.t 49)⟩,
           ⟨(some 51), (some (43, true)), .bin .eql (.t 50) (.c (.int .i64 3))⟩,
           ⟨(some 52), none, .pick (.t 43) (.t 51) (.c (.bool false))⟩] false)
         (.cond (.t 52)
          (.region [
            ⟨(some 53), none, .mv (.t 0)⟩,
            ⟨(some 54), none, .call 151 [(.t 53), (.c (.int .i64 3))]⟩,
            ⟨(some 55), none, .field false 1 1 (.t 54)⟩,
            ⟨(some 56), none, .build [.int .i64 0, .int .i64 0, .str []] [(0, 1, (.c (.int .i64 2))), (2, 1, (.t 55))]⟩,
            ⟨(some 57), none, .faddr 4 (.t 3)⟩,
            ⟨none, none, .store 3 (.t 57) (.t 56)⟩] false)
          (.region [
            ⟨(some 58), none, .mv (.t 0)⟩,
            ⟨(some 59), none, .call 153 [(.t 58)]⟩,
            ⟨(some 60), none, .build [.int .i64 0, .int .i64 0, .str []] [(0, 1, (.c (.int .i64 1))), (1, 1, (.t 59))]⟩,
            ⟨(some 61), none, .faddr 4 (.t 3)⟩,
            ⟨none, none, .store 3 (.t 61) (.t 60)⟩] false)))
        (.seq
         (.region [
           ⟨(some 62), none, .mv (.t 0)⟩,
           ⟨(some 63), none, .call 85 [(.t 62), (.c (.str [59]))]⟩] false)
         (.seq
          (.region [
            ⟨(some 64), none, .load true 7 (.t 3)⟩,
            ⟨none, none, .store 7 (.t 2) (.t 64)⟩] false)
          .ret))))))))
def r88 : List ERes := [.cell true 7 2]
theorem c88 : chkF Tryz.prog Tryz.f88 1 e88 r88 = true := by kernel_rfl
def e89 : EC :=
  (.seq
   (.region [
     ⟨(some 2), none, .alloc 109 [.str [], .str [], .nilS, .nilS]⟩] false)
   (.seq
    (.region [
      ⟨(some 4), none, .mv (.t 0)⟩,
      ⟨(some 5), none, .call 154 [(.t 4)]⟩,
      ⟨(some 6), none, .build [.str [], .str [], .nilS, .nilS] [(0, 1, (.t 5))]⟩,
      ⟨(some 3), none, .alloc 109 [.str [], .str [], .nilS, .nilS]⟩,
      ⟨none, none, .store 4 (.t 3) (.t 6)⟩] false)
    (.seq
     (.region [
       ⟨(some 7), none, .mv (.t 0)⟩,
       ⟨(some 8), none, .call 85 [(.t 7), (.c (.str [40]))]⟩] false)
     (.seq
      (.seq
       (.region [
         ⟨(some 9), none, .mv (.t 0)⟩,
         ⟨(some 10), none, .call 87 [(.t 9), (.c (.str [41]))]⟩,
         ⟨(some 11), none, .not (.t 10)⟩] false)
       (.cond (.t 11)
        (.seq
         (.region [
           ⟨(some 12), none, .faddr 2 (.t 3)⟩,
           ⟨(some 13), none, .loadD 3 false 1 (.t 12)⟩,
           ⟨(some 14), none, .mv (.t 0)⟩,
           ⟨(some 15), none, .callD [3] 86 [(.t 14)]⟩,
           ⟨(some 16), none, .bslice 9 1 1 [.str []] [(0, (.t 15))]⟩,
           ⟨(some 17), none, .append 9 1 16 (.t 13) (.t 16)⟩,
           ⟨(some 18), none, .faddr 2 (.t 3)⟩,
           ⟨none, none, .store 1 (.t 18) (.t 17)⟩] true)
         (.seq
          (.block 0
           (.loop
            (.seq
             (.seq
              (.region [
                ⟨(some 19), none, .mv (.t 0)⟩,
                ⟨(some 20), none, .call 87 [(.t 19), (.c (.str [44]))]⟩] false)
              (.cond (.t 20)
               .skip
               (.exit 0)))
             (.block 1
              (.region [
                ⟨(some 21), none, .faddr 2 (.t 3)⟩,
                ⟨(some 22), none, .loadD 3 false 1 (.t 21)⟩,
                ⟨(some 23), none, .mv (.t 0)⟩,
                ⟨(some 24), none, .callD [3] 86 [(.t 23)]⟩,
                ⟨(some 25), none, .bslice 9 1 1 [.str []] [(0, (.t 24))]⟩,
                ⟨(some 26), none, .append 9 1 16 (.t 22) (.t 25)⟩,
                ⟨(some 27), none, .faddr 2 (.t 3)⟩,
                ⟨none, none, .store 1 (.t 27) (.t 26)⟩] true)))))
          (.region [
            ⟨(some 28), none, .mv (.t 0)⟩,
            ⟨(some 29), none, .call 85 [(.t 28), (.c (.str [41]))]⟩] false)))
        .skip))
      (.seq
       (.region [
         ⟨(some 30), none, .mv (.t 0)⟩,
         ⟨(some 31), none, .call 85 [(.t 30), (.c (.str [102, 114, 111, 109]))]⟩] false)
       (.seq
        (.region [
          ⟨(some 32), none, .mv (.t 0)⟩,
          ⟨(some 33), none, .call 86 [(.t 32)]⟩,
          ⟨(some 34), none, .faddr 1 (.t 3)⟩,
          ⟨none, none, .store 1 (.t 34) (.t 33)⟩] false)
        (.seq
         (.region [
           ⟨(some 35), none, .mv (.t 0)⟩,
           ⟨(some 36), none, .call 155 [(.t 35)]⟩,
           ⟨(some 37), none, .faddr 3 (.t 3)⟩,
           ⟨none, none, .store 1 (.t 37) (.t 36)⟩] false)
         (.seq
          (.region [
            ⟨(some 38), none, .load true 4 (.t 3)⟩,
            ⟨none, none, .store 4 (.t 2) (.t 38)⟩] false)
          .ret))))))))
def r89 : List ERes := [.cell true 4 2]
theorem c89 : chkF Tryz.prog Tryz.f89 1 e89 r89 = true := by kernel_rfl
def e90 : EC :=
  (.seq
   (.region [
     ⟨(some 2), none, .alloc 74 [.str [], .str [], .nilS, .nilS]⟩] false)
   (.seq
    (.region [
      ⟨(some 4), none, .mv (.t 0)⟩,
      ⟨(some 5), none, .call 154 [(.t 4)]⟩,
      ⟨(some 6), none, .build [.str [], .str [], .nilS, .nilS] [(0, 1, (.t 5))]⟩,
      ⟨(some 3), none, .alloc 74 [.str [], .str [], .nilS, .nilS]⟩,
      ⟨none, none, .store 4 (.t 3) (.t 6)⟩] false)
    (.seq
     (.region [
       ⟨(some 7), none, .mv (.t 0)⟩,
       ⟨(some 8), none, .call 85 [(.t 7), (.c (.str [40]))]⟩] false)
     (.seq
      (.seq
       (.region [
         ⟨(some 9), none, .mv (.t 0)⟩,
         ⟨(some 10), none, .call 87 [(.t 9), (.c (.str [41]))]⟩,
         ⟨(some 11), none, .not (.t 10)⟩] false)
       (.cond (.t 11)
        (.seq
         (.region [
           ⟨(some 12), none, .faddr 2 (.t 3)⟩,
           ⟨(some 13), none, .loadD 3 false 1 (.t 12)⟩,
           ⟨(some 14), none, .mv (.t 0)⟩,
           ⟨(some 15), none, .callD [3] 156 [(.t 14), (.c (.int .i64 1))]⟩,
           ⟨(some 16), none, .bslice 131 6 1 [.int .i64 0, .str [], .str [], .str [], .int .i64 0, .nilS] [(0, (.t 15))]⟩,
           ⟨(some 17), none, .append 131 6 88 (.t 13) (.t 16)⟩,
           ⟨(some 18), none, .faddr 2 (.t 3)⟩,
           ⟨none, none, .store 1 (.t 18) (.t 17)⟩] true)
         (.seq
          (.block 0
           (.loop
            (.seq
             (.seq
              (.region [
                ⟨(some 19), none, .mv (.t 0)⟩,
                ⟨(some 20), none, .call 87 [(.t 19), (.c (.str [44]))]⟩] false)
              (.cond (.t 20)
               .skip
               (.exit 0)))
             (.block 1
              (.region [
                ⟨(some 21), none, .faddr 2 (.t 3)⟩,
                ⟨(some 22), none, .loadD 3 false 1 (.t 21)⟩,
                ⟨(some 23), none, .mv (.t 0)⟩,
                ⟨(some 24), none, .callD [3] 156 [(.t 23), (.c (.int .i64 1))]⟩,
                ⟨(some 25), none, .bslice 131 6 1 [.int .i64 0, .str [], .str [], .str [], .int .i64 0, .nilS] [(0, (.t 24))]⟩,
                ⟨(some 26), none, .append 131 6 88 (.t 22) (.t 25)⟩,
                ⟨(some 27), none, .faddr 2 (.t 3)⟩,
                ⟨none, none, .store 1 (.t 27) (.t 26)⟩] true)))))
          (.region [
            ⟨(some 28), none, .mv (.t 0)⟩,
            ⟨(some 29), none, .call 85 [(.t 28), (.c (.str [41]))]⟩] false)))
        .skip))
      (.seq
       (.region [
         ⟨(some 30), none, .mv (.t 0)⟩,
         ⟨(some 31), none, .call 85 [(.t 30), (.c (.str [116, 111]))]⟩] false)
       (.seq
        (.region [
          ⟨(some 32), none, .mv (.t 0)⟩,
          ⟨(some 33), none, .call 86 [(.t 32)]⟩,
          ⟨(some 34), none, .faddr 1 (.t 3)⟩,
          ⟨none, none, .store 1 (.t 34) (.t 33)⟩] false)
        (.seq
         (.seq
          (.region [
            ⟨(some 35), none, .mv (.t 0)⟩,
            ⟨(some 36), none, .call 87 [(.t 35), (.c (.str [119, 104, 101, 114, 101]))]⟩] false)
          (.cond (.t 36)
           (.region [
             ⟨(some 37), none, .mv (.t 0)⟩,
             ⟨(some 38), none, .call 156 [(.t 37), (.c (.int .i64 1))]⟩,
             ⟨(some 39), none, .bslice 131 6 1 [.int .i64 0, .str [], .str [], .str [], .int .i64 0, .nilS] [(0, (.t 38))]⟩,
             ⟨(some 40), none, .faddr 3 (.t 3)⟩,
             ⟨none, none, .store 1 (.t 40) (.t 39)⟩] false)
           .skip))
         (.seq
          (.region [
            ⟨(some 41), none, .mv (.t 0)⟩,
            ⟨(some 42), none, .call 85 [(.t 41), (.c (.str [59]))]⟩] false)
          (.seq
           (.region [
             ⟨(some 43), none, .load true 4 (.t 3)⟩,
             ⟨none, none, .store 4 (.t 2) (.t 43)⟩] false)
           .ret)))))))))
def r90 : List ERes := [.cell true 4 2]
theorem c90 : chkF Tryz.prog Tryz.f90 1 e90 r90 = true := by kernel_rfl
def e91 : EC :=
  (.seq
   (.region [
     ⟨(some 5), none, .mv (.t 0)⟩,
     ⟨(some 6), none, .nilck (.t 5)⟩,
     ⟨(some 7), none, .faddr 1 (.t 6)⟩,
     ⟨(some 8), none, .load false 1 (.t 7)⟩,
     ⟨(some 4), none, .mv (.t 8)⟩] false)
   (.seq
    (.seq
     (.region [
       ⟨(some 9), none, .mv (.t 0)⟩,
       ⟨(some 10), none, .nilck (.t 9)⟩,
       ⟨(some 11), none, .faddr 0 (.t 10)⟩,
       ⟨(some 12), none, .load false 1 (.t 11)⟩,
       ⟨(some 13), none, .len (.t 12)⟩,
       ⟨(some 14), none, .bin .gtr (.t 13) (.c (.int .i64 0))⟩] false)
     (.cond (.t 14)
      (.region [
        ⟨(some 15), none, .mv (.t 0)⟩,
        ⟨(some 16), none, .nilck (.t 15)⟩,
        ⟨(some 17), none, .faddr 0 (.t 16)⟩,
        ⟨(some 18), none, .load false 1 (.t 17)⟩,
        ⟨(some 19), none, .iaddr 4 (.t 18) (.c (.int .i64 0))⟩,
        ⟨(some 20), none, .faddr 3 (.t 19)⟩,
        ⟨(some 21), none, .load false 1 (.t 20)⟩,
        ⟨(some 4), none, .mv (.t 21)⟩] false)
      .skip))
    (.region [
      ⟨(some 22), none, .mv (.t 4)⟩,
      ⟨(some 23), none, .mv (.t 1)⟩,
      ⟨(some 24), none, .build [.int .i64 0, .int .i64 0] [(0, 1, (.t 22)), (1, 1, (.t 23))]⟩,
      ⟨(some 25), none, .mkif 79 (.t 24)⟩,
      ⟨none, none, .panic (.t 25)⟩] false)))
def r91 : List ERes := []
theorem c91 : chkF Tryz.prog Tryz.f91 2 e91 r91 = true := by kernel_rfl
def e103 : EC :=
  (.seq
   (.region [
     ⟨(some 4), none, .mv (.c (.bool false))⟩] false)
   (.seq
    (.region [
      ⟨(some 5), none, .mv (.t 0)⟩,
      ⟨(some 6), none, .mv (.t 1)⟩,
      ⟨(some 7), none, .call 160 [(.t 5), (.t 6)]⟩,
      ⟨(some 8), none, .bin .geq (.t 7) (.c (.int .i64 0))⟩,
      ⟨(some 4), none, .mv (.t 8)⟩] false)
    .ret))
def r103 : List ERes := [.t 4]
theorem c103 : chkF Tryz.prog Tryz.f103 2 e103 r103 = true := by kernel_rfl
def e104 : EC :=
  (.seq
   (.region [
     ⟨(some 2), none, .box 106 (.t 0)⟩,
     ⟨(some 3), none, .mv (.c (.bool false))⟩] false)
   (.seq
    (.region [
      ⟨(some 4), none, .load false 1 (.t 1)⟩,
      ⟨(some 5), none, .load true 7 (.t 2)⟩,
      ⟨(some 6), none, .callv (.t 4) [(.t 5)]⟩,
      ⟨(some 7), none, .not (.t 6)⟩,
      ⟨(some 3), none, .mv (.t 7)⟩] false)
    .ret))
def r104 : List ERes := [.t 3]
theorem c104 : chkF Tryz.prog Tryz.f104 1 e104 r104 = true := by kernel_rfl
def e105 : EC :=
  (.seq
   (.region [
     ⟨(some 2), none, .mv (.c (.bool false))⟩] false)
   (.seq
    (.region [
      ⟨(some 3), none, .mv (.t 0)⟩,
      ⟨(some 4), none, .bin .geq (.t 3) (.c (.int .i64 (-999999)))⟩,
      ⟨(some 5), none, .mv (.t 4)⟩,
      ⟨(some 6), (some (5, true)), .mv (.t 0)⟩,
      ⟨(some 7), (some (5, true)), .bin .leq (.t 6) (.c (.int .i64 999999))⟩,
      ⟨(some 8), none, .pick (.t 5) (.t 7) (.c (.bool false))⟩,
      ⟨(some 2), none, .mv (.t 8)⟩] false)
    .ret))
def r105 : List ERes := [.t 2]
theorem c105 : chkF Tryz.prog Tryz.f105 1 e105 r105 = true := by kernel_rfl
def e106 : EC :=
  (.seq
   (.region [
     ⟨(some 2), none, .mv (.c (.bool false))⟩] false)
   (.seq
    (.region [
      ⟨(some 3), none, .mv (.t 0)⟩,
      ⟨(some 4), none, .lenS (.t 3)⟩,
      ⟨(some 5), none, .bin .leq (.t 4) (.c (.int .i64 40))⟩,
      ⟨(some 6), none, .mv (.t 5)⟩,
      ⟨(some 7), (some (6, true)), .mv (.t 0)⟩,
      ⟨(some 8), (some (6, true)), .call 161 [(.t 7), (.c (.fn 162 []))]⟩,
      ⟨(some 9), (some (6, true)), .not (.t 8)⟩,
      ⟨(some 10), none, .pick (.t 6) (.t 9) (.c (.bool false))⟩,
      ⟨(some 2), none, .mv (.t 10)⟩] false)
    .ret))
def r106 : List ERes := [.t 2]
theorem c106 : chkF Tryz.prog Tryz.f106 1 e106 r106 = true := by kernel_rfl
def e107 : EC :=
  (.seq
   (.region [
     ⟨(some 4), none, .mv (.c (.bool false))⟩] false)
   (.seq
    (.region [
      ⟨(some 5), none, .mv (.t 0)⟩,
      ⟨(some 6), none, .mv (.t 1)⟩,
      ⟨(some 7), none, .call 163 [(.t 5), (.t 6)]⟩,
      ⟨(some 8), none, .bin .geq (.t 7) (.c (.int .i64 0))⟩,
      ⟨(some 4), none, .mv (.t 8)⟩] false)
    .ret))
def r107 : List ERes := [.t 4]
theorem c107 : chkF Tryz.prog Tryz.f107 2 e107 r107 = true := by kernel_rfl
def e108 : EC :=
  (.seq
   (.region [
     ⟨(some 2), none, .box 109 (.t 0)⟩,
     ⟨(some 3), none, .mv (.c (.bool false))⟩] false)
   (.seq
    (.region [
      ⟨(some 4), none, .load false 1 (.t 1)⟩,
      ⟨(some 5), none, .load true 4 (.t 2)⟩,
      ⟨(some 6), none, .callv (.t 4) [(.t 5)]⟩,
      ⟨(some 7), none, .not (.t 6)⟩,
      ⟨(some 3), none, .mv (.t 7)⟩] false)
    .ret))
def r108 : List ERes := [.t 3]
theorem c108 : chkF Tryz.prog Tryz.f108 1 e108 r108 = true := by kernel_rfl
def e109 : EC :=
  (.seq
   (.region [
     ⟨(some 1), none, .box 133 (.t 0)⟩,
     ⟨(some 2), none, .mv (.c (.bool false))⟩] false)
   (.seq
    (.region [
      ⟨(some 3), none, .load true 11 (.t 1)⟩,
      ⟨(some 4), none, .call 110 [(.t 3)]⟩,
      ⟨(some 5), none, .bin .leq (.t 4) (.c (.int .i64 10))⟩,
      ⟨(some 2), none, .mv (.t 5)⟩] false)
    .ret))
def r109 : List ERes := [.t 2]
theorem c109 : chkF Tryz.prog Tryz.f109 1 e109 r109 = true := by kernel_rfl
def e110 : EC :=
  (.seq
   (.region [
     ⟨(some 1), none, .box 133 (.t 0)⟩,
     ⟨(some 2), none, .mv (.c (.int .i64 0))⟩] false)
   (.seq
    (.region [
      ⟨(some 6), none, .faddr 2 (.t 1)⟩,
      ⟨(some 7), none, .load true 6 (.t 6)⟩,
      ⟨(some 8), none, .call 118 [(.t 7)]⟩,
      ⟨(some 3), none, .mv (.t 8)⟩] false)
    (.seq
     (.seq
      (.region [
        ⟨(some 9), none, .faddr 9 (.t 1)⟩,
        ⟨(some 10), none, .load false 1 (.t 9)⟩,
        ⟨(some 11), none, .faddr 10 (.t 1)⟩,
        ⟨(some 12), none, .load false 1 (.t 11)⟩,
        ⟨(some 13), none, .bslice 107 1 2 [.nilS] [(0, (.t 10)), (1, (.t 12))]⟩,
        ⟨(some 14), none, .call 164 [(.t 13)]⟩,
        ⟨(some 15), none, .len (.t 14)⟩,
        ⟨(some 16), none, .mv (.c (.int .i64 0))⟩] false)
      (.block 0
       (.loop
        (.seq
         (.region [
           ⟨(some 17), none, .bin .lss (.t 16) (.t 15)⟩] false)
         (.seq
          (.cond (.t 17)
           .skip
           (.exit 0))
          (.seq
           (.block 1
            (.seq
             (.region [
               ⟨(some 18), none, .iaddr 11 (.t 14) (.t 16)⟩,
               ⟨(some 19), none, .load true 11 (.t 18)⟩,
               ⟨(some 5), none, .alloc 133 [.int .i64 0, .str [], .int .i64 0, .str [], .str [], .str [], .int .i64 0, .nilS, .int .i64 0, .nilS, .nilS]⟩,
               ⟨none, none, .store 11 (.t 5) (.t 19)⟩] false)
             (.region [
               ⟨(some 20), none, .mv (.t 3)⟩,
               ⟨(some 21), none, .load true 11 (.t 5)⟩,
               ⟨(some 22), none, .call 110 [(.t 21)]⟩,
               ⟨(some 23), none, .minmax true [(.t 20), (.t 22)]⟩,
               ⟨(some 3), none, .mv (.t 23)⟩] false)))
           (.region [
             ⟨(some 24), none, .bin .add (.t 16) (.c (.int .i64 1))⟩,
             ⟨(some 16), none, .mv (.t 24)⟩] false)))))))
     (.seq
      (.region [
        ⟨(some 25), none, .mv (.t 3)⟩,
        ⟨(some 26), none, .bin .add (.c (.int .i64 1)) (.t 25)⟩,
        ⟨(some 2), none, .mv (.t 26)⟩] false)
      .ret))))
def r110 : List ERes := [.t 2]
theorem c110 : chkF Tryz.prog Tryz.f110 1 e110 r110 = true := by kernel_rfl
def e111 : EC :=
  (.seq
   (.region [
     ⟨(some 2), none, .mv (.c (.bool false))⟩] false)
   (.seq
    (.region [
      ⟨(some 3), none, .mv (.t 0)⟩,
      ⟨(some 4), none, .lenS (.t 3)⟩,
      ⟨(some 5), none, .bin .leq (.t 4) (.c (.int .i64 50))⟩,
      ⟨(some 6), none, .mv (.t 5)⟩,
      ⟨(some 7), (some (6, true)), .mv (.t 0)⟩,
      ⟨(some 8), (some (6, true)), .call 166 [(.t 7), (.c (.str [46]))]⟩,
      ⟨(some 9), (some (6, true)), .call 165 [(.t 8), (.c (.fn 167 []))]⟩,
      ⟨(some 10), (some (6, true)), .not (.t 9)⟩,
      ⟨(some 11), none, .pick (.t 6) (.t 10) (.c (.bool false))⟩,
      ⟨(some 2), none, .mv (.t 11)⟩] false)
    .ret))
def r111 : List ERes := [.t 2]
theorem c111 : chkF Tryz.prog Tryz.f111 1 e111 r111 = true := by kernel_rfl
def e112 : EC :=
  (.seq
   (.region [
     ⟨(some 3), none, .box 41 (.t 1)⟩,
     ⟨(some 4), none, .mv (.c (.bool false))⟩] false)
   (.seq
    (.region [
      ⟨(some 5), none, .mv (.t 0)⟩,
      ⟨(some 6), none, .mkfn 168 [(.t 3)]⟩,
      ⟨(some 7), none, .call 165 [(.t 5), (.t 6)]⟩,
      ⟨(some 8), none, .not (.t 7)⟩,
      ⟨(some 4), none, .mv (.t 8)⟩] false)
    .ret))
def r112 : List ERes := [.t 4]
theorem c112 : chkF Tryz.prog Tryz.f112 2 e112 r112 = true := by kernel_rfl
def e113 : EC :=
  (.seq
   (.region [
     ⟨(some 3), none, .box 170 (.t 1)⟩,
     ⟨(some 4), none, .mv (.c (.bool false))⟩] false)
   (.seq
    (.region [
      ⟨(some 5), none, .mv (.t 0)⟩,
      ⟨(some 6), none, .mkfn 170 [(.t 3)]⟩,
      ⟨(some 7), none, .call 169 [(.t 5), (.t 6)]⟩,
      ⟨(some 8), none, .not (.t 7)⟩,
      ⟨(some 4), none, .mv (.t 8)⟩] false)
    .ret))
def r113 : List ERes := [.t 4]
theorem c113 : chkF Tryz.prog Tryz.f113 2 e113 r113 = true := by kernel_rfl
def e114 : EC :=
  (.seq
   (.region [
     ⟨(some 1), none, .box 133 (.t 0)⟩,
     ⟨(some 2), none, .mv (.c (.bool false))⟩] false)
   (.seq
    (.seq
     (.region [
       ⟨(some 3), none, .faddr 0 (.t 1)⟩,
       ⟨(some 4), none, .load false 1 (.t 3)⟩] false)
     (.block 0
      (.seq
       (.region [
         ⟨(some 6), none, .bin .eql (.t 4) (.c (.int .i64 1))⟩,
         ⟨(some 5), none, .mv (.t 6)⟩] false)
       (.cond (.t 5)
        (.seq
         (.region [
           ⟨(some 7), none, .faddr 1 (.t 1)⟩,
           ⟨(some 8), none, .load false 1 (.t 7)⟩,
           ⟨(some 9), none, .call 45 [(.t 8)]⟩,
           ⟨(some 10), none, .not (.t 9)⟩,
           ⟨(some 11), none, .mv (.t 10)⟩,
           ⟨(some 12), (some (11, false)), .faddr 8 (.t 1)⟩,
           ⟨(some 13), (some (11, false)), .load false 1 (.t 12)⟩,
           ⟨(some 14), (some (11, false)), .bin .neq (.t 13) (.c (.int .i64 0))⟩,
           ⟨(some 15), none, .pick (.t 11) (.c (.bool true)) (.t 14)⟩,
           ⟨(some 16), none, .mv (.t 15)⟩,
           ⟨(some 17), (some (16, false)), .faddr 9 (.t 1)⟩,
           ⟨(some 18), (some (16, false)), .load false 1 (.t 17)⟩,
           ⟨(some 19), (some (16, false)), .len (.t 18)⟩,
           ⟨(some 20), (some (16, false)), .bin .gtr (.t 19) (.c (.int .i64 0))⟩,
           ⟨(some 21), none, .pick (.t 16) (.c (.bool true)) (.t 20)⟩,
           ⟨(some 22), none, .mv (.t 21)⟩,
           ⟨(some 23), (some (22, false)), .faddr 10 (.t 1)⟩,
           ⟨(some 24), (some (22, false)), .load false 1 (.t 23)⟩,
           ⟨(some 25), (some (22, false)), .len (.t 24)⟩,
           ⟨(some 26), (some (22, false)), .bin .gtr (.t 25) (.c (.int .i64 0))⟩,
           ⟨(some 27), none, .pick (.t 22) (.c (.bool true)) (.t 26)⟩] false)
         (.cond (.t 27)
          (.seq
           (.region [
             ⟨(some 2), none, .mv (.c (.bool false))⟩] false)
           .ret)
          .skip))
        (.seq
         (.region [
           ⟨(some 29), none, .bin .eql (.t 4) (.c (.int .i64 2))⟩,
           ⟨(some 28), none, .mv (.t 29)⟩] false)
         (.cond (.t 28)
          (.seq
           (.region [
             ⟨(some 30), none, .faddr 1 (.t 1)⟩,
             ⟨(some 31), none, .load false 1 (.t 30)⟩,
             ⟨(some 32), none, .bin .neq (.t 31) (.c (.str []))⟩,
             ⟨(some 33), none, .mv (.t 32)⟩,
             ⟨(some 34), (some (33, false)), .faddr 8 (.t 1)⟩,
             ⟨(some 35), (some (33, false)), .load false 1 (.t 34)⟩,
             ⟨(some 36), (some (33, false)), .bin .neq (.t 35) (.c (.int .i64 0))⟩,
             ⟨(some 37), none, .pick (.t 33) (.c (.bool true)) (.t 36)⟩] false)
           (.cond (.t 37)
            (.seq
             (.region [
               ⟨(some 2), none, .mv (.c (.bool false))⟩] false)
             .ret)
            .skip))
          (.seq
           (.region [
             ⟨(some 39), none, .bin .eql (.t 4) (.c (.int .i64 3))⟩,
             ⟨(some 38), none, .mv (.t 39)⟩] false)
           (.cond (.t 38)
            (.seq
             (.region [
               ⟨(some 40), none, .faddr 1 (.t 1)⟩,
               ⟨(some 41), none, .load false 1 (.t 40)⟩,
               ⟨(some 42), none, .bin .neq (.t 41) (.c (.str []))⟩,
               ⟨(some 43), none, .mv (.t 42)⟩,
               ⟨(some 44), (some (43, false)), .faddr 8 (.t 1)⟩,
               ⟨(some 45), (some (43, false)), .load false 1 (.t 44)⟩,
               ⟨(some 46), (some (43, false)), .bin .lss (.t 45) (.c (.int .i64 1))⟩,
               ⟨(some 47), none, .pick (.t 43) (.c (.bool true)) (.t 46)⟩,
               ⟨(some 48), none, .mv (.t 47)⟩,
               ⟨(some 49), (some (48, false)), .faddr 8 (.t 1)⟩,
               ⟨(some 50), (some (48, false)), .load false 1 (.t 49)⟩,
               ⟨(some 51), (some (48, false)), .bin .gtr (.t 50) (.c (.int .i64 50))⟩,
               ⟨(some 52), none, .pick (.t 48) (.c (.bool true)) (.t 51)⟩,
               ⟨(some 53), none, .mv (.t 52)⟩,
               ⟨(some 54), (some (53, false)), .faddr 10 (.t 1)⟩,
               ⟨(some 55), (some (53, false)), .load false 1 (.t 54)⟩,
               ⟨(some 56), (some (53, false)), .len (.t 55)⟩,
               ⟨(some 57), (some (53, false)), .bin .gtr (.t 56) (.c (.int .i64 0))⟩,
               ⟨(some 58), none, .pick (.t 53) (.c (.bool true)) (.t 57)⟩] false)
             (.cond (.t 58)
              (.seq
               (.region [
                 ⟨(some 2), none, .mv (.c (.bool false))⟩] false)
               .ret)
              .skip))
            (.seq
             (.region [
               ⟨(some 2), none, .mv (.c (.bool false))⟩] false)
             .ret)))))))))
    (.seq
     (.region [
       ⟨(some 59), none, .faddr 2 (.t 1)⟩,
       ⟨(some 60), none, .load true 6 (.t 59)⟩,
       ⟨(some 61), none, .call 121 [(.t 60)]⟩,
       ⟨(some 62), none, .mv (.t 61)⟩,
       ⟨(some 63), (some (62, true)), .faddr 9 (.t 1)⟩,
       ⟨(some 64), (some (62, true)), .load false 1 (.t 63)⟩,
       ⟨(some 65), (some (62, true)), .call 113 [(.t 64), (.c (.fn 114 []))]⟩,
       ⟨(some 66), none, .pick (.t 62) (.t 65) (.c (.bool false))⟩,
       ⟨(some 67), none, .mv (.t 66)⟩,
       ⟨(some 68), (some (67, true)), .faddr 10 (.t 1)⟩,
       ⟨(some 69), (some (67, true)), .load false 1 (.t 68)⟩,
       ⟨(some 70), (some (67, true)), .call 113 [(.t 69), (.c (.fn 114 []))]⟩,
       ⟨(some 71), none, .pick (.t 67) (.t 70) (.c (.bool false))⟩,
       ⟨(some 2), none, .mv (.t 71)⟩] false)
     .ret)))
def r114 : List ERes := [.t 2]
theorem c114 : chkF Tryz.prog Tryz.f114 1 e114 r114 = true := by kernel_rfl
def e115 : EC :=
  (.seq
   (.region [
     ⟨(some 4), none, .mv (.c (.bool false))⟩] false)
   (.seq
    (.region [
      ⟨(some 5), none, .mv (.t 0)⟩,
      ⟨(some 6), none, .mv (.t 1)⟩,
      ⟨(some 7), none, .call 171 [(.t 5), (.t 6)]⟩,
      ⟨(some 8), none, .bin .geq (.t 7) (.c (.int .i64 0))⟩,
      ⟨(some 4), none, .mv (.t 8)⟩] false)
    .ret))
def r115 : List ERes := [.t 4]
theorem c115 : chkF Tryz.prog Tryz.f115 2 e115 r115 = true := by kernel_rfl
def e116 : EC :=
  (.seq
   (.region [
     ⟨(some 2), none, .box 74 (.t 0)⟩,
     ⟨(some 3), none, .mv (.c (.bool false))⟩] false)
   (.seq
    (.region [
      ⟨(some 4), none, .load false 1 (.t 1)⟩,
      ⟨(some 5), none, .load true 4 (.t 2)⟩,
      ⟨(some 6), none, .callv (.t 4) [(.t 5)]⟩,
      ⟨(some 7), none, .not (.t 6)⟩,
      ⟨(some 3), none, .mv (.t 7)⟩] false)
    .ret))
def r116 : List ERes := [.t 3]
theorem c116 : chkF Tryz.prog Tryz.f116 1 e116 r116 = true := by kernel_rfl
def e117 : EC :=
  (.seq
   (.region [
     ⟨(some 1), none, .box 131 (.t 0)⟩,
     ⟨(some 2), none, .mv (.c (.bool false))⟩] false)
   (.seq
    (.region [
      ⟨(some 3), none, .load true 6 (.t 1)⟩,
      ⟨(some 4), none, .call 118 [(.t 3)]⟩,
      ⟨(some 5), none, .bin .leq (.t 4) (.c (.int .i64 10))⟩,
      ⟨(some 2), none, .mv (.t 5)⟩] false)
    .ret))
def r117 : List ERes := [.t 2]
theorem c117 : chkF Tryz.prog Tryz.f117 1 e117 r117 = true := by kernel_rfl
def e118 : EC :=
  (.seq
   (.region [
     ⟨(some 1), none, .box 131 (.t 0)⟩,
     ⟨(some 2), none, .mv (.c (.int .i64 0))⟩] false)
   (.seq
    (.region [
      ⟨(some 3), none, .mv (.c (.int .i64 0))⟩] false)
    (.seq
     (.seq
      (.region [
        ⟨(some 6), none, .faddr 5 (.t 1)⟩,
        ⟨(some 7), none, .load false 1 (.t 6)⟩,
        ⟨(some 8), none, .len (.t 7)⟩,
        ⟨(some 9), none, .mv (.c (.int .i64 0))⟩] false)
      (.block 0
       (.loop
        (.seq
         (.region [
           ⟨(some 10), none, .bin .lss (.t 9) (.t 8)⟩] false)
         (.seq
          (.cond (.t 10)
           .skip
           (.exit 0))
          (.seq
           (.block 1
            (.seq
             (.region [
               ⟨(some 11), none, .iaddr 6 (.t 7) (.t 9)⟩,
               ⟨(some 12), none, .load true 6 (.t 11)⟩,
               ⟨(some 5), none, .alloc 131 [.int .i64 0, .str [], .str [], .str [], .int .i64 0, .nilS]⟩,
               ⟨none, none, .store 6 (.t 5) (.t 12)⟩] false)
             (.region [
               ⟨(some 13), none, .mv (.t 3)⟩,
               ⟨(some 14), none, .load true 6 (.t 5)⟩,
               ⟨(some 15), none, .call 118 [(.t 14)]⟩,
               ⟨(some 16), none, .minmax true [(.t 13), (.t 15)]⟩,
               ⟨(some 3), none, .mv (.t 16)⟩] false)))
           (.region [
             ⟨(some 17), none, .bin .add (.t 9) (.c (.int .i64 1))⟩,
             ⟨(some 9), none, .mv (.t 17)⟩] false)))))))
     (.seq
      (.region [
        ⟨(some 18), none, .mv (.t 3)⟩,
        ⟨(some 19), none, .bin .add (.c (.int .i64 1)) (.t 18)⟩,
        ⟨(some 2), none, .mv (.t 19)⟩] false)
      .ret))))
def r118 : List ERes := [.t 2]
theorem c118 : chkF Tryz.prog Tryz.f118 1 e118 r118 = true := by kernel_rfl
def e119 : EC :=
  (.seq
   (.region [
     ⟨(some 2), none, .mv (.c (.nilS))⟩] false)
   (.seq
    (.region [
      ⟨(some 3), none, .mv (.c (.int .i64 0))⟩] false)
    (.seq
     (.seq
      (.region [
        ⟨(some 9), none, .mv (.t 0)⟩,
        ⟨(some 10), none, .len (.t 9)⟩,
        ⟨(some 11), none, .mv (.c (.int .i64 0))⟩] false)
      (.block 0
       (.loop
        (.seq
         (.region [
           ⟨(some 12), none, .bin .lss (.t 11) (.t 10)⟩] false)
         (.seq
          (.cond (.t 12)
           .skip
           (.exit 0))
          (.seq
           (.block 1
            (.seq
             (.region [
               ⟨(some 13), none, .iaddr 1 (.t 9) (.t 11)⟩,
               ⟨(some 14), none, .load false 1 (.t 13)⟩,
               ⟨(some 5), none, .mv (.t 14)⟩] false)
             (.seq
              (.region [
                ⟨(some 15), none, .mv (.t 3)⟩,
                ⟨(some 16), none, .mv (.t 5)⟩,
                ⟨(some 17), none, .len (.t 16)⟩,
                ⟨(some 18), none, .bin .add (.t 15) (.t 17)⟩,
                ⟨(some 3), none, .mv (.t 18)⟩] false)
              (.seq
               (.region [
                 ⟨(some 19), none, .mv (.t 3)⟩,
                 ⟨(some 20), none, .bin .lss (.t 19) (.c (.int .i64 0))⟩] false)
               (.cond (.t 20)
                (.region [
                  ⟨(some 21), none, .mkif 9 (.c (.str [108, 101, 110, 32, 111, 117, 116, 32, 111, 102, 32, 114, 97, 110, 103, 101]))⟩,
                  ⟨none, none, .panic (.t 21)⟩] false)
                .skip)))))
           (.region [
             ⟨(some 22), none, .bin .add (.t 11) (.c (.int .i64 1))⟩,
             ⟨(some 11), none, .mv (.t 22)⟩] false)))))))
     (.seq
      (.region [
        ⟨(some 23), none, .mv (.t 3)⟩,
        ⟨(some 24), none, .call 172 [(.c (.nilS)), (.t 23)]⟩,
        ⟨(some 6), none, .mv (.t 24)⟩] false)
      (.seq
       (.seq
        (.region [
          ⟨(some 25), none, .mv (.t 0)⟩,
          ⟨(some 26), none, .len (.t 25)⟩,
          ⟨(some 27), none, .mv (.c (.int .i64 0))⟩] false)
        (.block 2
         (.loop
          (.seq
           (.region [
             ⟨(some 28), none, .bin .lss (.t 27) (.t 26)⟩] false)
           (.seq
            (.cond (.t 28)
             .skip
             (.exit 2))
            (.seq
             (.block 3
              (.seq
               (.region [
                 ⟨(some 29), none, .iaddr 1 (.t 25) (.t 27)⟩,
                 ⟨(some 30), none, .load false 1 (.t 29)⟩,
                 ⟨(some 8), none, .mv (.t 30)⟩] false)
               (.region [
                 ⟨(some 31), none, .mv (.t 6)⟩,
                 ⟨(some 32), none, .mv (.t 8)⟩,
                 ⟨(some 33), none, .append 131 6 88 (.t 31) (.t 32)⟩,
                 ⟨(some 6), none, .mv (.t 33)⟩] false)))
             (.region [
               ⟨(some 34), none, .bin .add (.t 27) (.c (.int .i64 1))⟩,
               ⟨(some 27), none, .mv (.t 34)⟩] false)))))))
       (.seq
        (.region [
          ⟨(some 35), none, .mv (.t 6)⟩,
          ⟨(some 2), none, .mv (.t 35)⟩] false)
        .ret))))))
def r119 : List ERes := [.t 2]
theorem c119 : chkF Tryz.prog Tryz.f119 1 e119 r119 = true := by kernel_rfl
def e120 : EC :=
  (.seq
   (.region [
     ⟨(some 3), none, .box 174 (.t 1)⟩,
     ⟨(some 4), none, .mv (.c (.bool false))⟩] false)
   (.seq
    (.region [
      ⟨(some 5), none, .mv (.t 0)⟩,
      ⟨(some 6), none, .mkfn 174 [(.t 3)]⟩,
      ⟨(some 7), none, .call 173 [(.t 5), (.t 6)]⟩,
      ⟨(some 8), none, .not (.t 7)⟩,
      ⟨(some 4), none, .mv (.t 8)⟩] false)
    .ret))
def r120 : List ERes := [.t 4]
theorem c120 : chkF Tryz.prog Tryz.f120 2 e120 r120 = true := by kernel_rfl
def e121 : EC :=
  (.seq
   (.region [
     ⟨(some 1), none, .box 131 (.t 0)⟩,
     ⟨(some 2), none, .mv (.c (.bool false))⟩] false)
   (.seq
    (.region [
      ⟨(some 5), none, .faddr 0 (.t 1)⟩,
      ⟨(some 6), none, .load false 1 (.t 5)⟩,
      ⟨(some 7), none, .faddr 5 (.t 1)⟩,
      ⟨(some 8), none, .load false 1 (.t 7)⟩,
      ⟨(some 9), none, .build [.int .i64 0, .str [], .str [], .str [], .int .i64 0, .nilS] [(0, 1, (.t 6)), (5, 1, (.t 8))]⟩,
      ⟨(some 3), none, .alloc 131 [.int .i64 0, .str [], .str [], .str [], .int .i64 0, .nilS]⟩,
      ⟨none, none, .store 6 (.t 3) (.t 9)⟩] false)
    (.seq
     (.region [
       ⟨(some 4), none, .mv (.c (.int .i64 0))⟩] false)
     (.seq
      (.seq
       (.region [
         ⟨(some 10), none, .faddr 0 (.t 1)⟩,
         ⟨(some 11), none, .load false 1 (.t 10)⟩] false)
       (.block 0
        (.seq
         (.region [
           ⟨(some 13), none, .bin .eql (.t 11) (.c (.int .i64 1))⟩,
           ⟨(some 12), none, .mv (.t 13)⟩] false)
         (.cond (.t 12)
          (.seq
           (.region [
             ⟨(some 14), none, .faddr 4 (.t 1)⟩,
             ⟨(some 15), none, .load false 1 (.t 14)⟩,
             ⟨(some 16), none, .faddr 4 (.t 3)⟩,
             ⟨none, none, .store 1 (.t 16) (.t 15)⟩] false)
           (.seq
            (.region [
              ⟨(some 17), none, .faddr 4 (.t 1)⟩,
              ⟨(some 18), none, .load false 1 (.t 17)⟩,
              ⟨(some 19), none, .bin .lss (.t 18) (.c (.int .i64 0))⟩,
              ⟨(some 20), none, .mv (.t 19)⟩,
              ⟨(some 21), (some (20, false)), .faddr 4 (.t 1)⟩,
              ⟨(some 22), (some (20, false)), .load false 1 (.t 21)⟩,
              ⟨(some 23), (some (20, false)), .bin .gtr (.t 22) (.c (.int .i64 1000))⟩,
              ⟨(some 24), none, .pick (.t 20) (.c (.bool true)) (.t 23)⟩] false)
            (.cond (.t 24)
             (.seq
              (.region [
                ⟨(some 2), none, .mv (.c (.bool false))⟩] false)
              .ret)
             .skip)))
          (.seq
           (.region [
             ⟨(some 26), none, .bin .eql (.t 11) (.c (.int .i64 2))⟩,
             ⟨(some 25), none, .mv (.t 26)⟩] false)
           (.cond (.t 25)
            (.seq
             (.region [
               ⟨(some 27), none, .faddr 3 (.t 1)⟩,
               ⟨(some 28), none, .load false 1 (.t 27)⟩,
               ⟨(some 29), none, .faddr 3 (.t 3)⟩,
               ⟨none, none, .store 1 (.t 29) (.t 28)⟩] false)
             (.seq
              (.region [
                ⟨(some 30), none, .faddr 3 (.t 1)⟩,
                ⟨(some 31), none, .load false 1 (.t 30)⟩,
                ⟨(some 32), none, .call 106 [(.t 31)]⟩,
                ⟨(some 33), none, .not (.t 32)⟩] false)
              (.cond (.t 33)
               (.seq
                (.region [
                  ⟨(some 2), none, .mv (.c (.bool false))⟩] false)
                .ret)
               .skip)))
            (.seq
             (.region [
               ⟨(some 35), none, .bin .eql (.t 11) (.c (.int .i64 3))⟩,
               ⟨(some 34), none, .mv (.t 35)⟩] false)
             (.cond (.t 34)
              (.seq
               (.region [
                 ⟨(some 36), none, .faddr 2 (.t 1)⟩,
                 ⟨(some 37), none, .load false 1 (.t 36)⟩,
                 ⟨(some 38), none, .faddr 2 (.t 3)⟩,
                 ⟨none, none, .store 1 (.t 38) (.t 37)⟩] false)
               (.seq
                (.region [
                  ⟨(some 39), none, .faddr 2 (.t 1)⟩,
                  ⟨(some 40), none, .load false 1 (.t 39)⟩,
                  ⟨(some 41), none, .call 45 [(.t 40)]⟩,
                  ⟨(some 42), none, .not (.t 41)⟩] false)
                (.cond (.t 42)
                 (.seq
                  (.region [
                    ⟨(some 2), none, .mv (.c (.bool false))⟩] false)
                  .ret)
                 .skip)))
              (.seq
               (.region [
                 ⟨(some 44), none, .bin .eql (.t 11) (.c (.int .i64 4))⟩,
                 ⟨(some 43), none, .mv (.t 44)⟩] false)
               (.cond (.t 43)
                (.region [
                  ⟨(some 4), none, .mv (.c (.int .i64 1))⟩] false)
                (.seq
                 (.region [
                   ⟨(some 46), none, .bin .eql (.t 11) (.c (.int .i64 5))⟩,
                   ⟨(some 45), none, .mv (.t 46)⟩] false)
                 (.cond (.t 45)
                  (.seq
                   (.region [
                     ⟨(some 47), none, .faddr 1 (.t 1)⟩,
                     ⟨(some 48), none, .load false 1 (.t 47)⟩,
                     ⟨(some 49), none, .faddr 1 (.t 3)⟩,
                     ⟨none, none, .store 1 (.t 49) (.t 48)⟩,
                     ⟨(some 4), none, .mv (.c (.int .i64 1))⟩] false)
                   (.seq
                    (.region [
                      ⟨(some 50), none, .faddr 1 (.t 1)⟩,
                      ⟨(some 51), none, .load false 1 (.t 50)⟩,
                      ⟨(some 52), none, .bin .neq (.t 51) (.c (.str [45]))⟩,
                      ⟨(some 53), none, .mv (.t 52)⟩,
                      ⟨(some 54), (some (53, true)), .faddr 1 (.t 1)⟩,
                      ⟨(some 55), (some (53, true)), .load false 1 (.t 54)⟩,
                      ⟨(some 56), (some (53, true)), .bin .neq (.t 55) (.c (.str [33]))⟩,
                      ⟨(some 57), none, .pick (.t 53) (.t 56) (.c (.bool false))⟩] false)
                    (.cond (.t 57)
                     (.seq
                      (.region [
                        ⟨(some 2), none, .mv (.c (.bool false))⟩] false)
                      .ret)
                     .skip)))
                  (.seq
                   (.region [
                     ⟨(some 59), none, .bin .eql (.t 11) (.c (.int .i64 6))⟩,
                     ⟨(some 58), none, .mv (.t 59)⟩] false)
                   (.cond (.t 58)
                    (.seq
                     (.region [
                       ⟨(some 60), none, .faddr 1 (.t 1)⟩,
                       ⟨(some 61), none, .load false 1 (.t 60)⟩,
                       ⟨(some 62), none, .faddr 1 (.t 3)⟩,
                       ⟨none, none, .store 1 (.t 62) (.t 61)⟩,
                       ⟨(some 4), none, .mv (.c (.int .i64 2))⟩] false)
                     (.seq
                      (.region [
                        ⟨(some 63), none, .faddr 1 (.t 1)⟩,
                        ⟨(some 64), none, .load false 1 (.t 63)⟩,
                        ⟨(some 65), none, .call 175 [(.t 64)]⟩,
                        ⟨(some 66), none, .bin .eql (.t 65) (.c (.int .i64 0))⟩] false)
                      (.cond (.t 66)
                       (.seq
                        (.region [
                          ⟨(some 2), none, .mv (.c (.bool false))⟩] false)
                        .ret)
                       .skip)))
                    (.seq
                     (.region [
                       ⟨(some 2), none, .mv (.c (.bool false))⟩] false)
                     .ret)))))))))))))))
      (.seq
       (.region [
         ⟨(some 67), none, .faddr 5 (.t 1)⟩,
         ⟨(some 68), none, .load false 1 (.t 67)⟩,
         ⟨(some 69), none, .len (.t 68)⟩,
         ⟨(some 70), none, .mv (.t 4)⟩,
         ⟨(some 71), none, .bin .eql (.t 69) (.t 70)⟩,
         ⟨(some 72), none, .mv (.t 71)⟩,
         ⟨(some 73), (some (72, true)), .faddr 1 (.t 1)⟩,
         ⟨(some 74), (some (72, true)), .load false 1 (.t 73)⟩,
         ⟨(some 75), (some (72, true)), .faddr 1 (.t 3)⟩,
         ⟨(some 76), (some (72, true)), .load false 1 (.t 75)⟩,
         ⟨(some 77), (some (72, true)), .bin .eql (.t 74) (.t 76)⟩,
         ⟨(some 78), none, .pick (.t 72) (.t 77) (.c (.bool false))⟩,
         ⟨(some 79), none, .mv (.t 78)⟩,
         ⟨(some 80), (some (79, true)), .faddr 2 (.t 1)⟩,
         ⟨(some 81), (some (79, true)), .load false 1 (.t 80)⟩,
         ⟨(some 82), (some (79, true)), .faddr 2 (.t 3)⟩,
         ⟨(some 83), (some (79, true)), .load false 1 (.t 82)⟩,
         ⟨(some 84), (some (79, true)), .bin .eql (.t 81) (.t 83)⟩,
         ⟨(some 85), none, .pick (.t 79) (.t 84) (.c (.bool false))⟩,
         ⟨(some 86), none, .mv (.t 85)⟩,
         ⟨(some 87), (some (86, true)), .faddr 3 (.t 1)⟩,
         ⟨(some 88), (some (86, true)), .load false 1 (.t 87)⟩,
         ⟨(some 89), (some (86, true)), .faddr 3 (.t 3)⟩,
         ⟨(some 90), (some (86, true)), .load false 1 (.t 89)⟩,
         ⟨(some 91), (some (86, true)), .bin .eql (.t 88) (.t 90)⟩,
         ⟨(some 92), none, .pick (.t 86) (.t 91) (.c (.bool false))⟩,
         ⟨(some 93), none, .mv (.t 92)⟩,
         ⟨(some 94), (some (93, true)), .faddr 4 (.t 1)⟩,
         ⟨(some 95), (some (93, true)), .load false 1 (.t 94)⟩,
         ⟨(some 96), (some (93, true)), .faddr 4 (.t 3)⟩,
         ⟨(some 97), (some (93, true)), .load false 1 (.t 96)⟩,
         ⟨(some 98), (some (93, true)), .bin .eql (.t 95) (.t 97)⟩,
         ⟨(some 99), none, .pick (.t 93) (.t 98) (.c (.bool false))⟩,
         ⟨(some 100), none, .mv (.t 99)⟩,
         ⟨(some 101), (some (100, true)), .faddr 5 (.t 1)⟩,
         ⟨(some 102), (some (100, true)), .load false 1 (.t 101)⟩,
         ⟨(some 103), (some (100, true)), .call 120 [(.t 102), (.c (.fn 121 []))]⟩,
         ⟨(some 104), none, .pick (.t 100) (.t 103) (.c (.bool false))⟩,
         ⟨(some 2), none, .mv (.t 104)⟩] false)
       .ret)))))
def r121 : List ERes := [.t 2]
theorem c121 : chkF Tryz.prog Tryz.f121 1 e121 r121 = true := by kernel_rfl
def e122 : EC :=
  (.seq
   (.region [
     ⟨(some 6), none, .mv (.t 0)⟩,
     ⟨(some 7), none, .nilck (.t 6)⟩,
     ⟨(some 8), none, .faddr 0 (.t 7)⟩,
     ⟨(some 9), none, .mv (.t 0)⟩,
     ⟨(some 10), none, .nilck (.t 9)⟩,
     ⟨(some 11), none, .faddr 2 (.t 10)⟩,
     ⟨(some 12), none, .load false 1 (.t 11)⟩,
     ⟨(some 13), none, .pcall 177 [(.c (.str [9])), (.t 12)]⟩,
     ⟨(some 14), none, .call 176 [(.t 8), (.t 13)]⟩] true)
   (.seq
    (.seq
     (.region [
       ⟨(some 15), none, .mv (.t 1)⟩,
       ⟨(some 16), none, .len (.t 15)⟩,
       ⟨(some 17), none, .mv (.c (.int .i64 0))⟩] false)
     (.block 0
      (.loop
       (.seq
        (.region [
          ⟨(some 18), none, .bin .lss (.t 17) (.t 16)⟩] false)
        (.seq
         (.cond (.t 18)
          .skip
          (.exit 0))
         (.seq
          (.block 1
           (.seq
            (.region [
              ⟨(some 19), none, .iaddr 1 (.t 15) (.t 17)⟩,
              ⟨(some 20), none, .load false 1 (.t 19)⟩,
              ⟨(some 5), none, .mv (.t 20)⟩] false)
            (.region [
              ⟨(some 21), none, .mv (.t 0)⟩,
              ⟨(some 22), none, .nilck (.t 21)⟩,
              ⟨(some 23), none, .faddr 0 (.t 22)⟩,
              ⟨(some 24), none, .mv (.t 5)⟩,
              ⟨(some 25), none, .call 176 [(.t 23), (.t 24)]⟩] false)))
          (.region [
            ⟨(some 26), none, .bin .add (.t 17) (.c (.int .i64 1))⟩,
            ⟨(some 17), none, .mv (.t 26)⟩] false)))))))
    (.region [
      ⟨(some 27), none, .mv (.t 0)⟩,
      ⟨(some 28), none, .nilck (.t 27)⟩,
      ⟨(some 29), none, .faddr 0 (.t 28)⟩,
      ⟨(some 30), none, .call 178 [(.t 29), (.c (.int .u8 10))]⟩] false)))
def r122 : List ERes := []
theorem c122 : chkF Tryz.prog Tryz.f122 2 e122 r122 = true := by kernel_rfl
def e124 : EC :=
  (.seq
   (.region [
     ⟨(some 1), none, .box 93 (.t 0)⟩,
     ⟨(some 2), none, .mv (.c (.str []))⟩] false)
   (.seq
    (.seq
     (.region [
       ⟨(some 3), none, .faddr 0 (.t 1)⟩,
       ⟨(some 4), none, .load false 1 (.t 3)⟩,
       ⟨(some 5), none, .bin .eql (.t 4) (.c (.int .i64 2))⟩] false)
     (.cond (.t 5)
      (.seq
       (.region [
         ⟨(some 6), none, .faddr 2 (.t 1)⟩,
         ⟨(some 7), none, .load false 1 (.t 6)⟩,
         ⟨(some 8), none, .call 180 [(.t 7)]⟩,
         ⟨(some 2), none, .mv (.t 8)⟩] false)
       .ret)
      .skip))
    (.seq
     (.region [
       ⟨(some 9), none, .faddr 1 (.t 1)⟩,
       ⟨(some 10), none, .load false 1 (.t 9)⟩,
       ⟨(some 11), none, .call 123 [(.t 10)]⟩,
       ⟨(some 2), none, .mv (.t 11)⟩] false)
     .ret)))
def r124 : List ERes := [.t 2]
theorem c124 : chkF Tryz.prog Tryz.f124 1 e124 r124 = true := by kernel_rfl
def e126 : EC :=
  (.seq
   (.region [
     ⟨(some 6), none, .mv (.t 0)⟩,
     ⟨(some 7), none, .nilck (.t 6)⟩,
     ⟨(some 8), none, .faddr 2 (.t 7)⟩,
     ⟨(some 9), none, .load false 1 (.t 8)⟩,
     ⟨(some 10), none, .bin .add (.t 9) (.c (.int .i64 1))⟩,
     ⟨(some 11), none, .nilck (.t 6)⟩,
     ⟨(some 12), none, .faddr 2 (.t 11)⟩,
     ⟨none, none, .store 1 (.t 12) (.t 10)⟩] false)
   (.seq
    (.seq
     (.region [
       ⟨(some 13), none, .mv (.t 1)⟩,
       ⟨(some 14), none, .len (.t 13)⟩,
       ⟨(some 15), none, .mv (.c (.int .i64 0))⟩] false)
     (.block 0
      (.loop
       (.seq
        (.region [
          ⟨(some 16), none, .bin .lss (.t 15) (.t 14)⟩] false)
        (.seq
         (.cond (.t 16)
          .skip
          (.exit 0))
         (.seq
          (.block 1
           (.seq
            (.region [
              ⟨(some 17), none, .iaddr 11 (.t 13) (.t 15)⟩,
              ⟨(some 18), none, .load true 11 (.t 17)⟩,
              ⟨(some 5), none, .alloc 133 [.int .i64 0, .str [], .int .i64 0, .str [], .str [], .str [], .int .i64 0, .nilS, .int .i64 0, .nilS, .nilS]⟩,
              ⟨none, none, .store 11 (.t 5) (.t 18)⟩] false)
            (.region [
              ⟨(some 19), none, .mv (.t 0)⟩,
              ⟨(some 20), none, .load true 11 (.t 5)⟩,
              ⟨(some 21), none, .call 182 [(.t 19), (.t 20)]⟩] false)))
          (.region [
            ⟨(some 22), none, .bin .add (.t 15) (.c (.int .i64 1))⟩,
            ⟨(some 15), none, .mv (.t 22)⟩] false)))))))
    (.region [
      ⟨(some 23), none, .mv (.t 0)⟩,
      ⟨(some 24), none, .nilck (.t 23)⟩,
      ⟨(some 25), none, .faddr 2 (.t 24)⟩,
      ⟨(some 26), none, .load false 1 (.t 25)⟩,
      ⟨(some 27), none, .bin .sub (.t 26) (.c (.int .i64 1))⟩,
      ⟨(some 28), none, .nilck (.t 23)⟩,
      ⟨(some 29), none, .faddr 2 (.t 28)⟩,
      ⟨none, none, .store 1 (.t 29) (.t 27)⟩] false)))
def r126 : List ERes := []
theorem c126 : chkF Tryz.prog Tryz.f126 2 e126 r126 = true := by kernel_rfl
def e127 : EC :=
  (.seq
   (.region [
     ⟨(some 1), none, .box 131 (.t 0)⟩,
     ⟨(some 2), none, .mv (.c (.str []))⟩] false)
   (.seq
    (.seq
     (.region [
       ⟨(some 4), none, .faddr 0 (.t 1)⟩,
       ⟨(some 5), none, .load false 1 (.t 4)⟩] false)
     (.block 0
      (.seq
       (.region [
         ⟨(some 7), none, .bin .eql (.t 5) (.c (.int .i64 1))⟩,
         ⟨(some 6), none, .mv (.t 7)⟩] false)
       (.cond (.t 6)
        (.seq
         (.region [
           ⟨(some 8), none, .faddr 4 (.t 1)⟩,
           ⟨(some 9), none, .load false 1 (.t 8)⟩,
           ⟨(some 10), none, .call 123 [(.t 9)]⟩,
           ⟨(some 2), none, .mv (.t 10)⟩] false)
         .ret)
        (.seq
         (.region [
           ⟨(some 12), none, .bin .eql (.t 5) (.c (.int .i64 2))⟩,
           ⟨(some 11), none, .mv (.t 12)⟩] false)
         (.cond (.t 11)
          (.seq
           (.region [
             ⟨(some 13), none, .faddr 3 (.t 1)⟩,
             ⟨(some 14), none, .load false 1 (.t 13)⟩,
             ⟨(some 15), none, .call 180 [(.t 14)]⟩,
             ⟨(some 2), none, .mv (.t 15)⟩] false)
           .ret)
          (.seq
           (.region [
             ⟨(some 17), none, .bin .eql (.t 5) (.c (.int .i64 3))⟩,
             ⟨(some 16), none, .mv (.t 17)⟩] false)
           (.cond (.t 16)
            (.seq
             (.region [
               ⟨(some 18), none, .faddr 2 (.t 1)⟩,
               ⟨(some 19), none, .load false 1 (.t 18)⟩,
               ⟨(some 2), none, .mv (.t 19)⟩] false)
             .ret)
            (.seq
             (.region [
               ⟨(some 21), none, .bin .eql (.t 5) (.c (.int .i64 4))⟩,
               ⟨(some 20), none, .mv (.t 21)⟩] false)
             (.cond (.t 20)
              (.seq
               (.region [
                 ⟨(some 22), none, .faddr 5 (.t 1)⟩,
                 ⟨(some 23), none, .load false 1 (.t 22)⟩,
                 ⟨(some 24), none, .iaddr 6 (.t 23) (.c (.int .i64 0))⟩,
                 ⟨(some 25), none, .load true 6 (.t 24)⟩,
                 ⟨(some 26), none, .call 127 [(.t 25)]⟩,
                 ⟨(some 27), none, .bin .add (.c (.str [108, 101, 110, 40])) (.t 26)⟩,
                 ⟨(some 28), none, .bin .add (.t 27) (.c (.str [41]))⟩,
                 ⟨(some 2), none, .mv (.t 28)⟩] false)
               .ret)
              (.seq
               (.region [
                 ⟨(some 30), none, .bin .eql (.t 5) (.c (.int .i64 5))⟩,
                 ⟨(some 29), none, .mv (.t 30)⟩] false)
               (.cond (.t 29)
                (.seq
                 (.region [
                   ⟨(some 31), none, .faddr 1 (.t 1)⟩,
                   ⟨(some 32), none, .load false 1 (.t 31)⟩,
                   ⟨(some 33), none, .faddr 5 (.t 1)⟩,
                   ⟨(some 34), none, .load false 1 (.t 33)⟩,
                   ⟨(some 35), none, .iaddr 6 (.t 34) (.c (.int .i64 0))⟩,
                   ⟨(some 36), none, .load true 6 (.t 35)⟩,
                   ⟨(some 37), none, .pcall 183 [(.t 36), (.c (.int .i64 7))]⟩,
                   ⟨(some 38), none, .bin .add (.t 32) (.t 37)⟩,
                   ⟨(some 2), none, .mv (.t 38)⟩] true)
                 .ret)
                .skip))))))))))))
    (.seq
     (.region [
       ⟨(some 39), none, .faddr 1 (.t 1)⟩,
       ⟨(some 40), none, .load false 1 (.t 39)⟩,
       ⟨(some 41), none, .call 175 [(.t 40)]⟩,
       ⟨(some 3), none, .mv (.t 41)⟩] false)
     (.seq
      (.region [
        ⟨(some 42), none, .faddr 5 (.t 1)⟩,
        ⟨(some 43), none, .load false 1 (.t 42)⟩,
        ⟨(some 44), none, .iaddr 6 (.t 43) (.c (.int .i64 0))⟩,
        ⟨(some 45), none, .load true 6 (.t 44)⟩,
        ⟨(some 46), none, .mv (.t 3)⟩,
        ⟨(some 47), none, .pcall 183 [(.t 45), (.t 46)]⟩,
        ⟨(some 48), none, .bin .add (.t 47) (.c (.str [32]))⟩,
        ⟨(some 49), none, .faddr 1 (.t 1)⟩,
        ⟨(some 50), none, .load false 1 (.t 49)⟩,
        ⟨(some 51), none, .bin .add (.t 48) (.t 50)⟩,
        ⟨(some 52), none, .bin .add (.t 51) (.c (.str [32]))⟩,
        ⟨(some 53), none, .faddr 5 (.t 1)⟩,
        ⟨(some 54), none, .load false 1 (.t 53)⟩,
        ⟨(some 55), none, .iaddr 6 (.t 54) (.c (.int .i64 1))⟩,
        ⟨(some 56), none, .load true 6 (.t 55)⟩,
        ⟨(some 57), none, .mv (.t 3)⟩,
        ⟨(some 58), none, .bin .add (.t 57) (.c (.int .i64 1))⟩,
        ⟨(some 59), none, .pcall 183 [(.t 56), (.t 58)]⟩,
        ⟨(some 60), none, .bin .add (.t 52) (.t 59)⟩,
        ⟨(some 2), none, .mv (.t 60)⟩] true)
      .ret))))
def r127 : List ERes := [.t 2]
theorem c127 : chkF Tryz.prog Tryz.f127 1 e127 r127 = true := by kernel_rfl
def e128 : EC :=
  (.seq
   (.region [
     ⟨(some 2), none, .mv (.c (.str []))⟩] false)
   (.seq
    (.region [
      ⟨(some 3), none, .mv (.c (.nilS))⟩] false)
    (.seq
     (.seq
      (.region [
        ⟨(some 6), none, .mv (.t 0)⟩,
        ⟨(some 7), none, .len (.t 6)⟩,
        ⟨(some 8), none, .mv (.c (.int .i64 0))⟩] false)
      (.block 0
       (.loop
        (.seq
         (.region [
           ⟨(some 9), none, .bin .lss (.t 8) (.t 7)⟩] false)
         (.seq
          (.cond (.t 9)
           .skip
           (.exit 0))
          (.seq
           (.block 1
            (.seq
             (.region [
               ⟨(some 10), none, .iaddr 6 (.t 6) (.t 8)⟩,
               ⟨(some 11), none, .load true 6 (.t 10)⟩,
               ⟨(some 5), none, .alloc 131 [.int .i64 0, .str [], .str [], .str [], .int .i64 0, .nilS]⟩,
               ⟨none, none, .store 6 (.t 5) (.t 11)⟩] false)
             (.region [
               ⟨(some 12), none, .mv (.t 3)⟩,
               ⟨(some 13), none, .load true 6 (.t 5)⟩,
               ⟨(some 14), none, .call 127 [(.t 13)]⟩,
               ⟨(some 15), none, .bslice 9 1 1 [.str []] [(0, (.t 14))]⟩,
               ⟨(some 16), none, .append 9 1 16 (.t 12) (.t 15)⟩,
               ⟨(some 3), none, .mv (.t 16)⟩] false)))
           (.region [
             ⟨(some 17), none, .bin .add (.t 8) (.c (.int .i64 1))⟩,
             ⟨(some 8), none, .mv (.t 17)⟩] false)))))))
     (.seq
      (.region [
        ⟨(some 18), none, .mv (.t 3)⟩,
        ⟨(some 19), none, .call 125 [(.t 18), (.c (.str [44, 32]))]⟩,
        ⟨(some 2), none, .mv (.t 19)⟩] false)
      .ret))))
def r128 : List ERes := [.t 2]
theorem c128 : chkF Tryz.prog Tryz.f128 1 e128 r128 = true := by kernel_rfl
def e148 : EC :=
  (.seq
   (.region [
     ⟨(some 4), none, .mv (.c (.str []))⟩] false)
   (.seq
    (.region [
      ⟨(some 6), none, .mv (.t 0)⟩,
      ⟨(some 7), none, .nilck (.t 6)⟩,
      ⟨(some 8), none, .faddr 1 (.t 7)⟩,
      ⟨(some 9), none, .load false 1 (.t 8)⟩,
      ⟨(some 5), none, .mv (.t 9)⟩] false)
    (.seq
     (.block 0
      (.loop
       (.seq
        (.seq
         (.region [
           ⟨(some 10), none, .mv (.t 0)⟩,
           ⟨(some 11), none, .nilck (.t 10)⟩,
           ⟨(some 12), none, .faddr 1 (.t 11)⟩,
           ⟨(some 13), none, .load false 1 (.t 12)⟩,
           ⟨(some 14), none, .mv (.t 0)⟩,
           ⟨(some 15), none, .nilck (.t 14)⟩,
           ⟨(some 16), none, .faddr 0 (.t 15)⟩,
           ⟨(some 17), none, .load false 1 (.t 16)⟩,
           ⟨(some 18), none, .lenS (.t 17)⟩,
           ⟨(some 19), none, .bin .lss (.t 13) (.t 18)⟩,
           ⟨(some 20), none, .mv (.t 19)⟩,
           ⟨(some 21), (some (20, true)), .mv (.t 1)⟩,
           ⟨(some 22), (some (20, true)), .mv (.t 0)⟩,
           ⟨(some 23), (some (20, true)), .nilck (.t 22)⟩,
           ⟨(some 24), (some (20, true)), .faddr 0 (.t 23)⟩,
           ⟨(some 25), (some (20, true)), .load false 1 (.t 24)⟩,
           ⟨(some 26), (some (20, true)), .mv (.t 0)⟩,
           ⟨(some 27), (some (20, true)), .nilck (.t 26)⟩,
           ⟨(some 28), (some (20, true)), .faddr 1 (.t 27)⟩,
           ⟨(some 29), (some (20, true)), .load false 1 (.t 28)⟩,
           ⟨(some 30), (some (20, true)), .idxS (.t 25) (.t 29)⟩,
           ⟨(some 31), (some (20, true)), .pcallv (.t 21) [(.t 30)]⟩,
           ⟨(some 32), none, .pick (.t 20) (.t 31) (.c (.bool false))⟩] true)
         (.cond (.t 32)
          .skip
          (.exit 0)))
        (.block 1
         (.region [
           ⟨(some 33), none, .mv (.t 0)⟩,
           ⟨(some 34), none, .nilck (.t 33)⟩,
           ⟨(some 35), none, .faddr 1 (.t 34)⟩,
           ⟨(some 36), none, .load false 1 (.t 35)⟩,
           ⟨(some 37), none, .bin .add (.t 36) (.c (.int .i64 1))⟩,
           ⟨(some 38), none, .nilck (.t 33)⟩,
           ⟨(some 39), none, .faddr 1 (.t 38)⟩,
           ⟨none, none, .store 1 (.t 39) (.t 37)⟩] false)))))
     (.seq
      (.region [
        ⟨(some 40), none, .mv (.t 0)⟩,
        ⟨(some 41), none, .nilck (.t 40)⟩,
        ⟨(some 42), none, .faddr 0 (.t 41)⟩,
        ⟨(some 43), none, .load false 1 (.t 42)⟩,
        ⟨(some 44), none, .mv (.t 5)⟩,
        ⟨(some 45), none, .mv (.t 0)⟩,
        ⟨(some 46), none, .nilck (.t 45)⟩,
        ⟨(some 47), none, .faddr 1 (.t 46)⟩,
        ⟨(some 48), none, .load false 1 (.t 47)⟩,
        ⟨(some 49), none, .slS (.t 43) (some (.t 44)) (some (.t 48))⟩,
        ⟨(some 4), none, .mv (.t 49)⟩] true)
      .ret))))
def r148 : List ERes := [.t 4]
theorem c148 : chkF Tryz.prog Tryz.f148 2 e148 r148 = true := by kernel_rfl
def e149 : EC :=
  (.seq
   (.region [
     ⟨(some 2), none, .mv (.c (.bool false))⟩] false)
   (.seq
    (.region [
      ⟨(some 3), none, .mv (.t 0)⟩,
      ⟨(some 4), none, .call 80 [(.t 3)]⟩,
      ⟨(some 5), none, .mv (.t 4)⟩,
      ⟨(some 6), (some (5, false)), .mv (.t 0)⟩,
      ⟨(some 7), (some (5, false)), .call 82 [(.t 6)]⟩,
      ⟨(some 8), none, .pick (.t 5) (.c (.bool true)) (.t 7)⟩,
      ⟨(some 9), none, .mv (.t 8)⟩,
      ⟨(some 10), (some (9, false)), .mv (.t 0)⟩,
      ⟨(some 11), (some (9, false)), .bin .eql (.t 10) (.c (.int .u8 95))⟩,
      ⟨(some 12), none, .pick (.t 9) (.c (.bool true)) (.t 11)⟩,
      ⟨(some 2), none, .mv (.t 12)⟩] false)
    .ret))
def r149 : List ERes := [.t 2]
theorem c149 : chkF Tryz.prog Tryz.f149 1 e149 r149 = true := by kernel_rfl
def e150 : EC :=
  (.seq
   (.region [
     ⟨(some 2), none, .mv (.c (.bool false))⟩] false)
   (.seq
    (.region [
      ⟨(some 3), none, .mv (.t 0)⟩,
      ⟨(some 4), none, .nilck (.t 3)⟩,
      ⟨(some 5), none, .faddr 0 (.t 4)⟩,
      ⟨(some 6), none, .load false 1 (.t 5)⟩,
      ⟨(some 7), none, .len (.t 6)⟩,
      ⟨(some 8), none, .bin .gtr (.t 7) (.c (.int .i64 0))⟩,
      ⟨(some 9), none, .mv (.t 8)⟩,
      ⟨(some 10), (some (9, true)), .mv (.t 0)⟩,
      ⟨(some 11), (some (9, true)), .nilck (.t 10)⟩,
      ⟨(some 12), (some (9, true)), .faddr 0 (.t 11)⟩,
      ⟨(some 13), (some (9, true)), .load false 1 (.t 12)⟩,
      ⟨(some 14), (some (9, true)), .iaddr 4 (.t 13) (.c (.int .i64 0))⟩,
      ⟨(some 15), (some (9, true)), .faddr 0 (.t 14)⟩,
      ⟨(some 16), (some (9, true)), .load false 1 (.t 15)⟩,
      ⟨(some 17), (some (9, true)), .bin .eql (.t 16) (.c (.int .i64 1))⟩,
      ⟨(some 18), none, .pick (.t 9) (.t 17) (.c (.bool false))⟩,
      ⟨(some 19), none, .mv (.t 18)⟩,
      ⟨(some 20), (some (19, true)), .mv (.t 0)⟩,
      ⟨(some 21), (some (19, true)), .nilck (.t 20)⟩,
      ⟨(some 22), (some (19, true)), .faddr 0 (.t 21)⟩,
      ⟨(some 23), (some (19, true)), .load false 1 (.t 22)⟩,
      ⟨(some 24), (some (19, true)), .iaddr 4 (.t 23) (.c (.int .i64 0))⟩,
      ⟨(some 25), (some (19, true)), .faddr 1 (.t 24)⟩,
      ⟨(some 26), (some (19, true)), .load false 1 (.t 25)⟩,
      ⟨(some 27), (some (19, true)), .call 45 [(.t 26)]⟩,
      ⟨(some 28), none, .pick (.t 19) (.t 27) (.c (.bool false))⟩,
      ⟨(some 2), none, .mv (.t 28)⟩] false)
    .ret))
def r150 : List ERes := [.t 2]
theorem c150 : chkF Tryz.prog Tryz.f150 1 e150 r150 = true := by kernel_rfl
def e151 : EC :=
  (.seq
   (.region [
     ⟨(some 4), none, .alloc 152 [.int .i64 0, .str [], .int .i64 0, .int .i64 0]⟩] false)
   (.seq
    (.seq
     (.region [
       ⟨(some 6), none, .mv (.t 0)⟩,
       ⟨(some 7), none, .nilck (.t 6)⟩,
       ⟨(some 8), none, .faddr 0 (.t 7)⟩,
       ⟨(some 9), none, .load false 1 (.t 8)⟩,
       ⟨(some 10), none, .len (.t 9)⟩,
       ⟨(some 11), none, .bin .eql (.t 10) (.c (.int .i64 0))⟩,
       ⟨(some 12), none, .mv (.t 11)⟩,
       ⟨(some 13), (some (12, false)), .mv (.t 0)⟩,
       ⟨(some 14), (some (12, false)), .nilck (.t 13)⟩,
       ⟨(some 15), (some (12, false)), .faddr 0 (.t 14)⟩,
       ⟨(some 16), (some (12, false)), .load false 1 (.t 15)⟩,
       ⟨(some 17), (some (12, false)), .iaddr 4 (.t 16) (.c (.int .i64 0))⟩,
       ⟨(some 18), (some (12, false)), .faddr 0 (.t 17)⟩,
       ⟨(some 19), (some (12, false)), .load false 1 (.t 18)⟩,
       ⟨(some 20), (some (12, false)), .mv (.t 1)⟩,
       ⟨(some 21), (some (12, false)), .bin .neq (.t 19) (.t 20)⟩,
       ⟨(some 22), none, .pick (.t 12) (.c (.bool true)) (.t 21)⟩] false)
     (.cond (.t 22)
      (.region [
        ⟨(some 23), none, .mv (.t 0)⟩,
        ⟨(some 24), none, .call 91 [(.t 23), (.c (.int .i64 3))]⟩] false)
      .skip))
    (.seq
     (.region [
       ⟨(some 25), none, .mv (.t 0)⟩,
       ⟨(some 26), none, .nilck (.t 25)⟩,
       ⟨(some 27), none, .faddr 0 (.t 26)⟩,
       ⟨(some 28), none, .load false 1 (.t 27)⟩,
       ⟨(some 29), none, .iaddr 4 (.t 28) (.c (.int .i64 0))⟩,
       ⟨(some 30), none, .load true 4 (.t 29)⟩,
       ⟨(some 5), none, .alloc 152 [.int .i64 0, .str [], .int .i64 0, .int .i64 0]⟩,
       ⟨none, none, .store 4 (.t 5) (.t 30)⟩] false)
     (.seq
      (.region [
        ⟨(some 31), none, .mv (.t 0)⟩,
        ⟨(some 32), none, .mv (.t 0)⟩,
        ⟨(some 33), none, .nilck (.t 32)⟩,
        ⟨(some 34), none, .faddr 0 (.t 33)⟩,
        ⟨(some 35), none, .load false 1 (.t 34)⟩,
        ⟨(some 36), none, .slV 4 (.t 35) (some (.c (.int .i64 1))) none none⟩,
        ⟨(some 37), none, .nilck (.t 31)⟩,
        ⟨(some 38), none, .faddr 0 (.t 37)⟩,
        ⟨none, none, .store 1 (.t 38) (.t 36)⟩] false)
      (.seq
       (.region [
         ⟨(some 39), none, .load true 4 (.t 5)⟩,
         ⟨none, none, .store 4 (.t 4) (.t 39)⟩] false)
       .ret)))))
def r151 : List ERes := [.cell true 4 4]
theorem c151 : chkF Tryz.prog Tryz.f151 2 e151 r151 = true := by kernel_rfl
def e152 : EC :=
  (.seq
   (.region [
     ⟨(some 4), none, .mv (.c (.bool false))⟩] false)
   (.seq
    (.region [
      ⟨(some 5), none, .mv (.t 0)⟩,
      ⟨(some 6), none, .nilck (.t 5)⟩,
      ⟨(some 7), none, .faddr 0 (.t 6)⟩,
      ⟨(some 8), none, .load false 1 (.t 7)⟩,
      ⟨(some 9), none, .len (.t 8)⟩,
      ⟨(some 10), none, .bin .gtr (.t 9) (.c (.int .i64 0))⟩,
      ⟨(some 11), none, .mv (.t 10)⟩,
      ⟨(some 12), (some (11, true)), .mv (.t 0)⟩,
      ⟨(some 13), (some (11, true)), .nilck (.t 12)⟩,
      ⟨(some 14), (some (11, true)), .faddr 0 (.t 13)⟩,
      ⟨(some 15), (some (11, true)), .load false 1 (.t 14)⟩,
      ⟨(some 16), (some (11, true)), .iaddr 4 (.t 15) (.c (.int .i64 0))⟩,
      ⟨(some 17), (some (11, true)), .faddr 1 (.t 16)⟩,
      ⟨(some 18), (some (11, true)), .load false 1 (.t 17)⟩,
      ⟨(some 19), (some (11, true)), .mv (.t 1)⟩,
      ⟨(some 20), (some (11, true)), .bin .eql (.t 18) (.t 19)⟩,
      ⟨(some 21), none, .pick (.t 11) (.t 20) (.c (.bool false))⟩,
      ⟨(some 22), none, .mv (.t 21)⟩,
      ⟨(some 23), (some (22, true)), .mv (.t 0)⟩,
      ⟨(some 24), (some (22, true)), .nilck (.t 23)⟩,
      ⟨(some 25), (some (22, true)), .faddr 0 (.t 24)⟩,
      ⟨(some 26), (some (22, true)), .load false 1 (.t 25)⟩,
      ⟨(some 27), (some (22, true)), .iaddr 4 (.t 26) (.c (.int .i64 0))⟩,
      ⟨(some 28), (some (22, true)), .faddr 0 (.t 27)⟩,
      ⟨(some 29), (some (22, true)), .load false 1 (.t 28)⟩,
      ⟨(some 30), (some (22, true)), .bin .eql (.t 29) (.c (.int .i64 4))⟩,
      ⟨(some 31), (some (22, true)), .mv (.t 30)⟩,
      ⟨(some 32), (some (31, false)), .mv (.t 0)⟩,
      ⟨(some 33), (some (31, false)), .nilck (.t 32)⟩,
      ⟨(some 34), (some (31, false)), .faddr 0 (.t 33)⟩,
      ⟨(some 35), (some (31, false)), .load false 1 (.t 34)⟩,
      ⟨(some 36), (some (31, false)), .iaddr 4 (.t 35) (.c (.int .i64 0))⟩,
      ⟨(some 37), (some (31, false)), .faddr 0 (.t 36)⟩,
      ⟨(some 38), (some (31, false)), .load false 1 (.t 37)⟩,
      ⟨(some 39), (some (31, false)), .bin .eql (.t 38) (.c (.int .i64 1))⟩,
      ⟨(some 40), (some (22, true)), .pick (.t 31) (.c (.bool true)) (.t 39)⟩,
      ⟨(some 41), none, .pick (.t 22) (.t 40) (.c (.bool false))⟩,
      ⟨(some 4), none, .mv (.t 41)⟩] false)
    .ret))
def r152 : List ERes := [.t 4]
theorem c152 : chkF Tryz.prog Tryz.f152 2 e152 r152 = true := by kernel_rfl
def e153 : EC :=
  (.seq
   (.region [
     ⟨(some 2), none, .mv (.c (.int .i64 0))⟩] false)
   (.seq
    (.seq
     (.region [
       ⟨(some 3), none, .mv (.t 0)⟩,
       ⟨(some 4), none, .call 87 [(.t 3), (.c (.str [45]))]⟩] false)
     (.cond (.t 4)
      (.seq
       (.region [
         ⟨(some 5), none, .mv (.t 0)⟩,
         ⟨(some 6), none, .call 151 [(.t 5), (.c (.int .i64 2))]⟩,
         ⟨(some 7), none, .field false 2 1 (.t 6)⟩,
         ⟨(some 8), none, .neg (.t 7)⟩,
         ⟨(some 2), none, .mv (.t 8)⟩] false)
       .ret)
      .skip))
    (.seq
     (.region [
       ⟨(some 9), none, .mv (.t 0)⟩,
       ⟨(some 10), none, .call 151 [(.t 9), (.c (.int .i64 2))]⟩,
       ⟨(some 11), none, .field false 2 1 (.t 10)⟩,
       ⟨(some 2), none, .mv (.t 11)⟩] false)
     .ret)))
def r153 : List ERes := [.t 2]
theorem c153 : chkF Tryz.prog Tryz.f153 1 e153 r153 = true := by kernel_rfl
def e154 : EC :=
  (.seq
   (.region [
     ⟨(some 2), none, .mv (.c (.str []))⟩] false)
   (.seq
    (.region [
      ⟨(some 4), none, .mv (.t 0)⟩,
      ⟨(some 5), none, .call 86 [(.t 4)]⟩,
      ⟨(some 3), none, .mv (.t 5)⟩] false)
    (.seq
     (.block 0
      (.loop
       (.seq
        (.seq
         (.region [
           ⟨(some 6), none, .mv (.t 0)⟩,
           ⟨(some 7), none, .call 87 [(.t 6), (.c (.str [46]))]⟩] false)
         (.cond (.t 7)
          .skip
          (.exit 0)))
        (.block 1
         (.region [
           ⟨(some 8), none, .mv (.t 3)⟩,
           ⟨(some 9), none, .mv (.t 0)⟩,
           ⟨(some 10), none, .call 86 [(.t 9)]⟩,
           ⟨(some 11), none, .bin .add (.c (.str [46])) (.t 10)⟩,
           ⟨(some 12), none, .bin .add (.t 8) (.t 11)⟩,
           ⟨(some 3), none, .mv (.t 12)⟩] false)))))
     (.seq
      (.region [
        ⟨(some 13), none, .mv (.t 3)⟩,
        ⟨(some 2), none, .mv (.t 13)⟩] false)
      .ret))))
def r154 : List ERes := [.t 2]
theorem c154 : chkF Tryz.prog Tryz.f154 1 e154 r154 = true := by kernel_rfl
def e155 : EC :=
  (.seq
   (.region [
     ⟨(some 2), none, .mv (.c (.nilS))⟩] false)
   (.seq
    (.region [
      ⟨(some 4), none, .mv (.t 0)⟩,
      ⟨(some 5), none, .call 85 [(.t 4), (.c (.str [123]))]⟩] false)
    (.seq
     (.region [
       ⟨(some 3), none, .mv (.c (.nilS))⟩] false)
     (.seq
      (.block 0
       (.loop
        (.seq
         (.seq
          (.region [
            ⟨(some 6), none, .mv (.t 0)⟩,
            ⟨(some 7), none, .call 87 [(.t 6), (.c (.str [125]))]⟩,
            ⟨(some 8), none, .not (.t 7)⟩] false)
          (.cond (.t 8)
           .skip
           (.exit 0)))
         (.block 1
          (.region [
            ⟨(some 9), none, .mv (.t 3)⟩,
            ⟨(some 10), none, .mv (.t 0)⟩,
            ⟨(some 11), none, .call 190 [(.t 10)]⟩,
            ⟨(some 12), none, .bslice 133 11 1 [.int .i64 0, .str [], .int .i64 0, .str [], .str [], .str [], .int .i64 0, .nilS, .int .i64 0, .nilS, .nilS] [(0, (.t 11))]⟩,
            ⟨(some 13), none, .append 133 11 168 (.t 9) (.t 12)⟩,
            ⟨(some 3), none, .mv (.t 13)⟩] false)))))
      (.seq
       (.region [
         ⟨(some 14), none, .mv (.t 3)⟩,
         ⟨(some 2), none, .mv (.t 14)⟩] false)
       .ret)))))
def r155 : List ERes := [.t 2]
theorem c155 : chkF Tryz.prog Tryz.f155 1 e155 r155 = true := by kernel_rfl
def e156 : EC :=
  (.seq
   (.region [
     ⟨(some 4), none, .alloc 131 [.int .i64 0, .str [], .str [], .str [], .int .i64 0, .nilS]⟩] false)
   (.seq
    (.region [
      ⟨(some 8), none, .mv (.t 0)⟩,
      ⟨(some 9), none, .call 191 [(.t 8)]⟩,
      ⟨(some 5), none, .alloc 131 [.int .i64 0, .str [], .str [], .str [], .int .i64 0, .nilS]⟩,
      ⟨none, none, .store 6 (.t 5) (.t 9)⟩] false)
    (.seq
     (.block 0
      (.loop
       (.seq
        (.seq
         (.region [
           ⟨(some 10), none, .mv (.t 0)⟩,
           ⟨(some 11), none, .nilck (.t 10)⟩,
           ⟨(some 12), none, .faddr 0 (.t 11)⟩,
           ⟨(some 13), none, .load false 1 (.t 12)⟩,
           ⟨(some 14), none, .len (.t 13)⟩,
           ⟨(some 15), none, .bin .gtr (.t 14) (.c (.int .i64 0))⟩,
           ⟨(some 16), none, .mv (.t 15)⟩,
           ⟨(some 17), (some (16, true)), .mv (.t 0)⟩,
           ⟨(some 18), (some (16, true)), .nilck (.t 17)⟩,
           ⟨(some 19), (some (16, true)), .faddr 0 (.t 18)⟩,
           ⟨(some 20), (some (16, true)), .load false 1 (.t 19)⟩,
           ⟨(some 21), (some (16, true)), .iaddr 4 (.t 20) (.c (.int .i64 0))⟩,
           ⟨(some 22), (some (16, true)), .faddr 0 (.t 21)⟩,
           ⟨(some 23), (some (16, true)), .load false 1 (.t 22)⟩,
           ⟨(some 24), (some (16, true)), .bin .eql (.t 23) (.c (.int .i64 4))⟩,
           ⟨(some 25), none, .pick (.t 16) (.t 24) (.c (.bool false))⟩] false)
         (.cond (.t 25)
          .skip
          (.exit 0)))
        (.block 1
         (.seq
          (.region [
            ⟨(some 26), none, .mv (.t 0)⟩,
            ⟨(some 27), none, .nilck (.t 26)⟩,
            ⟨(some 28), none, .faddr 0 (.t 27)⟩,
            ⟨(some 29), none, .load false 1 (.t 28)⟩,
            ⟨(some 30), none, .iaddr 4 (.t 29) (.c (.int .i64 0))⟩,
            ⟨(some 31), none, .faddr 1 (.t 30)⟩,
            ⟨(some 32), none, .load false 1 (.t 31)⟩,
            ⟨(some 6), none, .mv (.t 32)⟩] false)
          (.seq
           (.region [
             ⟨(some 33), none, .mv (.t 6)⟩,
             ⟨(some 34), none, .call 175 [(.t 33)]⟩,
             ⟨(some 7), none, .mv (.t 34)⟩] false)
           (.seq
            (.seq
             (.region [
               ⟨(some 35), none, .mv (.t 7)⟩,
               ⟨(some 36), none, .mv (.t 1)⟩,
               ⟨(some 37), none, .bin .lss (.t 35) (.t 36)⟩] false)
             (.cond (.t 37)
              (.exit 0)
              .skip))
            (.seq
             (.region [
               ⟨(some 38), none, .mv (.t 0)⟩,
               ⟨(some 39), none, .mv (.t 6)⟩,
               ⟨(some 40), none, .call 85 [(.t 38), (.t 39)]⟩] false)
             (.region [
               ⟨(some 41), none, .mv (.t 6)⟩,
               ⟨(some 42), none, .loadD 5 true 6 (.t 5)⟩,
               ⟨(some 43), none, .mv (.t 0)⟩,
               ⟨(some 44), none, .mv (.t 7)⟩,
               ⟨(some 45), none, .bin .add (.t 44) (.c (.int .i64 1))⟩,
               ⟨(some 46), none, .callD [5] 156 [(.t 43), (.t 45)]⟩,
               ⟨(some 47), none, .bslice 131 6 2 [.int .i64 0, .str [], .str [], .str [], .int .i64 0, .nilS] [(0, (.t 42)), (1, (.t 46))]⟩,
               ⟨(some 48), none, .build [.int .i64 0, .str [], .str [], .str [], .int .i64 0, .nilS] [(0, 1, (.c (.int .i64 6))), (1, 1, (.t 41)), (5, 1, (.t 47))]⟩,
               ⟨none, none, .store 6 (.t 5) (.t 48)⟩] true)))))))))
     (.seq
      (.region [
        ⟨(some 49), none, .loadD 5 true 6 (.t 5)⟩,
        ⟨none, none, .store 6 (.t 4) (.t 49)⟩] false)
      .ret))))
def r156 : List ERes := [.cell true 6 4]
theorem c156 : chkF Tryz.prog Tryz.f156 2 e156 r156 = true := by kernel_rfl
def e160 : EC :=
  (.seq
   (.region [
     ⟨(some 4), none, .mv (.c (.int .i64 0))⟩] false)
   (.seq
    (.seq
     (.region [
       ⟨(some 6), none, .mv (.t 0)⟩,
       ⟨(some 7), none, .len (.t 6)⟩,
       ⟨(some 8), none, .mv (.c (.int .i64 0))⟩] false)
     (.block 0
      (.loop
       (.seq
        (.region [
          ⟨(some 9), none, .bin .lss (.t 8) (.t 7)⟩] false)
        (.seq
         (.cond (.t 9)
          .skip
          (.exit 0))
         (.seq
          (.block 1
           (.seq
            (.region [
              ⟨(some 10), none, .mv (.t 8)⟩,
              ⟨(some 5), none, .mv (.t 10)⟩] false)
            (.seq
             (.region [
               ⟨(some 11), none, .mv (.t 1)⟩,
               ⟨(some 12), none, .mv (.t 0)⟩,
               ⟨(some 13), none, .mv (.t 5)⟩,
               ⟨(some 14), none, .iaddr 7 (.t 12) (.t 13)⟩,
               ⟨(some 15), none, .load true 7 (.t 14)⟩,
               ⟨(some 16), none, .callv (.t 11) [(.t 15)]⟩] false)
             (.cond (.t 16)
              (.seq
               (.region [
                 ⟨(some 17), none, .mv (.t 5)⟩,
                 ⟨(some 4), none, .mv (.t 17)⟩] false)
               .ret)
              .skip))))
          (.region [
            ⟨(some 18), none, .bin .add (.t 8) (.c (.int .i64 1))⟩,
            ⟨(some 8), none, .mv (.t 18)⟩] false)))))))
    (.seq
     (.region [
       ⟨(some 4), none, .mv (.c (.int .i64 (-1)))⟩] false)
     .ret)))
def r160 : List ERes := [.t 4]
theorem c160 : chkF Tryz.prog Tryz.f160 2 e160 r160 = true := by kernel_rfl
def e163 : EC :=
  (.seq
   (.region [
     ⟨(some 4), none, .mv (.c (.int .i64 0))⟩] false)
   (.seq
    (.seq
     (.region [
       ⟨(some 6), none, .mv (.t 0)⟩,
       ⟨(some 7), none, .len (.t 6)⟩,
       ⟨(some 8), none, .mv (.c (.int .i64 0))⟩] false)
     (.block 0
      (.loop
       (.seq
        (.region [
          ⟨(some 9), none, .bin .lss (.t 8) (.t 7)⟩] false)
        (.seq
         (.cond (.t 9)
          .skip
          (.exit 0))
         (.seq
          (.block 1
           (.seq
            (.region [
              ⟨(some 10), none, .mv (.t 8)⟩,
              ⟨(some 5), none, .mv (.t 10)⟩] false)
            (.seq
             (.region [
               ⟨(some 11), none, .mv (.t 1)⟩,
               ⟨(some 12), none, .mv (.t 0)⟩,
               ⟨(some 13), none, .mv (.t 5)⟩,
               ⟨(some 14), none, .iaddr 4 (.t 12) (.t 13)⟩,
               ⟨(some 15), none, .load true 4 (.t 14)⟩,
               ⟨(some 16), none, .callv (.t 11) [(.t 15)]⟩] false)
             (.cond (.t 16)
              (.seq
               (.region [
                 ⟨(some 17), none, .mv (.t 5)⟩,
                 ⟨(some 4), none, .mv (.t 17)⟩] false)
               .ret)
              .skip))))
          (.region [
            ⟨(some 18), none, .bin .add (.t 8) (.c (.int .i64 1))⟩,
            ⟨(some 8), none, .mv (.t 18)⟩] false)))))))
    (.seq
     (.region [
       ⟨(some 4), none, .mv (.c (.int .i64 (-1)))⟩] false)
     .ret)))
def r163 : List ERes := [.t 4]
theorem c163 : chkF Tryz.prog Tryz.f163 2 e163 r163 = true := by kernel_rfl
def e164 : EC :=
  (.seq
   (.region [
     ⟨(some 2), none, .mv (.c (.nilS))⟩] false)
   (.seq
    (.region [
      ⟨(some 3), none, .mv (.c (.int .i64 0))⟩] false)
    (.seq
     (.seq
      (.region [
        ⟨(some 9), none, .mv (.t 0)⟩,
        ⟨(some 10), none, .len (.t 9)⟩,
        ⟨(some 11), none, .mv (.c (.int .i64 0))⟩] false)
      (.block 0
       (.loop
        (.seq
         (.region [
           ⟨(some 12), none, .bin .lss (.t 11) (.t 10)⟩] false)
         (.seq
          (.cond (.t 12)
           .skip
           (.exit 0))
          (.seq
           (.block 1
            (.seq
             (.region [
               ⟨(some 13), none, .iaddr 1 (.t 9) (.t 11)⟩,
               ⟨(some 14), none, .load false 1 (.t 13)⟩,
               ⟨(some 5), none, .mv (.t 14)⟩] false)
             (.seq
              (.region [
                ⟨(some 15), none, .mv (.t 3)⟩,
                ⟨(some 16), none, .mv (.t 5)⟩,
                ⟨(some 17), none, .len (.t 16)⟩,
                ⟨(some 18), none, .bin .add (.t 15) (.t 17)⟩,
                ⟨(some 3), none, .mv (.t 18)⟩] false)
              (.seq
               (.region [
                 ⟨(some 19), none, .mv (.t 3)⟩,
                 ⟨(some 20), none, .bin .lss (.t 19) (.c (.int .i64 0))⟩] false)
               (.cond (.t 20)
                (.region [
                  ⟨(some 21), none, .mkif 9 (.c (.str [108, 101, 110, 32, 111, 117, 116, 32, 111, 102, 32, 114, 97, 110, 103, 101]))⟩,
                  ⟨none, none, .panic (.t 21)⟩] false)
                .skip)))))
           (.region [
             ⟨(some 22), none, .bin .add (.t 11) (.c (.int .i64 1))⟩,
             ⟨(some 11), none, .mv (.t 22)⟩] false)))))))
     (.seq
      (.region [
        ⟨(some 23), none, .mv (.t 3)⟩,
        ⟨(some 24), none, .call 194 [(.c (.nilS)), (.t 23)]⟩,
        ⟨(some 6), none, .mv (.t 24)⟩] false)
      (.seq
       (.seq
        (.region [
          ⟨(some 25), none, .mv (.t 0)⟩,
          ⟨(some 26), none, .len (.t 25)⟩,
          ⟨(some 27), none, .mv (.c (.int .i64 0))⟩] false)
        (.block 2
         (.loop
          (.seq
           (.region [
             ⟨(some 28), none, .bin .lss (.t 27) (.t 26)⟩] false)
           (.seq
            (.cond (.t 28)
             .skip
             (.exit 2))
            (.seq
             (.block 3
              (.seq
               (.region [
                 ⟨(some 29), none, .iaddr 1 (.t 25) (.t 27)⟩,
                 ⟨(some 30), none, .load false 1 (.t 29)⟩,
                 ⟨(some 8), none, .mv (.t 30)⟩] false)
               (.region [
                 ⟨(some 31), none, .mv (.t 6)⟩,
                 ⟨(some 32), none, .mv (.t 8)⟩,
                 ⟨(some 33), none, .append 133 11 168 (.t 31) (.t 32)⟩,
                 ⟨(some 6), none, .mv (.t 33)⟩] false)))
             (.region [
               ⟨(some 34), none, .bin .add (.t 27) (.c (.int .i64 1))⟩,
               ⟨(some 27), none, .mv (.t 34)⟩] false)))))))
       (.seq
        (.region [
          ⟨(some 35), none, .mv (.t 6)⟩,
          ⟨(some 2), none, .mv (.t 35)⟩] false)
        .ret))))))
def r164 : List ERes := [.t 2]
theorem c164 : chkF Tryz.prog Tryz.f164 1 e164 r164 = true := by kernel_rfl
def e165 : EC :=
  (.seq
   (.region [
     ⟨(some 4), none, .mv (.c (.bool false))⟩] false)
   (.seq
    (.region [
      ⟨(some 5), none, .mv (.t 0)⟩,
      ⟨(some 6), none, .mv (.t 1)⟩,
      ⟨(some 7), none, .call 195 [(.t 5), (.t 6)]⟩,
      ⟨(some 8), none, .bin .geq (.t 7) (.c (.int .i64 0))⟩,
      ⟨(some 4), none, .mv (.t 8)⟩] false)
    .ret))
def r165 : List ERes := [.t 4]
theorem c165 : chkF Tryz.prog Tryz.f165 2 e165 r165 = true := by kernel_rfl
def e167 : EC :=
  (.seq
   (.region [
     ⟨(some 2), none, .mv (.c (.bool false))⟩] false)
   (.seq
    (.region [
      ⟨(some 3), none, .mv (.t 0)⟩,
      ⟨(some 4), none, .call 45 [(.t 3)]⟩,
      ⟨(some 5), none, .not (.t 4)⟩,
      ⟨(some 2), none, .mv (.t 5)⟩] false)
    .ret))
def r167 : List ERes := [.t 2]
theorem c167 : chkF Tryz.prog Tryz.f167 1 e167 r167 = true := by kernel_rfl
def e168 : EC :=
  (.seq
   (.region [
     ⟨(some 3), none, .mv (.c (.bool false))⟩] false)
   (.seq
    (.region [
      ⟨(some 4), none, .load false 1 (.t 1)⟩,
      ⟨(some 5), none, .mv (.t 0)⟩,
      ⟨(some 6), none, .callv (.t 4) [(.t 5)]⟩,
      ⟨(some 7), none, .not (.t 6)⟩,
      ⟨(some 3), none, .mv (.t 7)⟩] false)
    .ret))
def r168 : List ERes := [.t 3]
theorem c168 : chkF Tryz.prog Tryz.f168 1 e168 r168 = true := by kernel_rfl
def e169 : EC :=
  (.seq
   (.region [
     ⟨(some 4), none, .mv (.c (.bool false))⟩] false)
   (.seq
    (.region [
      ⟨(some 5), none, .mv (.t 0)⟩,
      ⟨(some 6), none, .mv (.t 1)⟩,
      ⟨(some 7), none, .call 197 [(.t 5), (.t 6)]⟩,
      ⟨(some 8), none, .bin .geq (.t 7) (.c (.int .i64 0))⟩,
      ⟨(some 4), none, .mv (.t 8)⟩] false)
    .ret))
def r169 : List ERes := [.t 4]
theorem c169 : chkF Tryz.prog Tryz.f169 2 e169 r169 = true := by kernel_rfl
def e170 : EC :=
  (.seq
   (.region [
     ⟨(some 2), none, .box 133 (.t 0)⟩,
     ⟨(some 3), none, .mv (.c (.bool false))⟩] false)
   (.seq
    (.region [
      ⟨(some 4), none, .load false 1 (.t 1)⟩,
      ⟨(some 5), none, .load true 11 (.t 2)⟩,
      ⟨(some 6), none, .callv (.t 4) [(.t 5)]⟩,
      ⟨(some 7), none, .not (.t 6)⟩,
      ⟨(some 3), none, .mv (.t 7)⟩] false)
    .ret))
def r170 : List ERes := [.t 3]
theorem c170 : chkF Tryz.prog Tryz.f170 1 e170 r170 = true := by kernel_rfl
def e171 : EC :=
  (.seq
   (.region [
     ⟨(some 4), none, .mv (.c (.int .i64 0))⟩] false)
   (.seq
    (.seq
     (.region [
       ⟨(some 6), none, .mv (.t 0)⟩,
       ⟨(some 7), none, .len (.t 6)⟩,
       ⟨(some 8), none, .mv (.c (.int .i64 0))⟩] false)
     (.block 0
      (.loop
       (.seq
        (.region [
          ⟨(some 9), none, .bin .lss (.t 8) (.t 7)⟩] false)
        (.seq
         (.cond (.t 9)
          .skip
          (.exit 0))
         (.seq
          (.block 1
           (.seq
            (.region [
              ⟨(some 10), none, .mv (.t 8)⟩,
              ⟨(some 5), none, .mv (.t 10)⟩] false)
            (.seq
             (.region [
               ⟨(some 11), none, .mv (.t 1)⟩,
               ⟨(some 12), none, .mv (.t 0)⟩,
               ⟨(some 13), none, .mv (.t 5)⟩,
               ⟨(some 14), none, .iaddr 4 (.t 12) (.t 13)⟩,
               ⟨(some 15), none, .load true 4 (.t 14)⟩,
               ⟨(some 16), none, .callv (.t 11) [(.t 15)]⟩] false)
             (.cond (.t 16)
              (.seq
               (.region [
                 ⟨(some 17), none, .mv (.t 5)⟩,
                 ⟨(some 4), none, .mv (.t 17)⟩] false)
               .ret)
              .skip))))
          (.region [
            ⟨(some 18), none, .bin .add (.t 8) (.c (.int .i64 1))⟩,
            ⟨(some 8), none, .mv (.t 18)⟩] false)))))))
    (.seq
     (.region [
       ⟨(some 4), none, .mv (.c (.int .i64 (-1)))⟩] false)
     .ret)))
def r171 : List ERes := [.t 4]
theorem c171 : chkF Tryz.prog Tryz.f171 2 e171 r171 = true := by kernel_rfl
def e173 : EC :=
  (.seq
   (.region [
     ⟨(some 4), none, .mv (.c (.bool false))⟩] false)
   (.seq
    (.region [
      ⟨(some 5), none, .mv (.t 0)⟩,
      ⟨(some 6), none, .mv (.t 1)⟩,
      ⟨(some 7), none, .call 198 [(.t 5), (.t 6)]⟩,
      ⟨(some 8), none, .bin .geq (.t 7) (.c (.int .i64 0))⟩,
      ⟨(some 4), none, .mv (.t 8)⟩] false)
    .ret))
def r173 : List ERes := [.t 4]
theorem c173 : chkF Tryz.prog Tryz.f173 2 e173 r173 = true := by kernel_rfl
def e174 : EC :=
  (.seq
   (.region [
     ⟨(some 2), none, .box 131 (.t 0)⟩,
     ⟨(some 3), none, .mv (.c (.bool false))⟩] false)
   (.seq
    (.region [
      ⟨(some 4), none, .load false 1 (.t 1)⟩,
      ⟨(some 5), none, .load true 6 (.t 2)⟩,
      ⟨(some 6), none, .callv (.t 4) [(.t 5)]⟩,
      ⟨(some 7), none, .not (.t 6)⟩,
      ⟨(some 3), none, .mv (.t 7)⟩] false)
    .ret))
def r174 : List ERes := [.t 3]
theorem c174 : chkF Tryz.prog Tryz.f174 1 e174 r174 = true := by kernel_rfl
def e175 : EC :=
  (.seq
   (.region [
     ⟨(some 2), none, .mv (.c (.int .i64 0))⟩] false)
   (.seq
    (.seq
     (.region [
       ⟨(some 3), none, .mv (.t 0)⟩] false)
     (.block 0
      (.seq
       (.region [
         ⟨(some 5), none, .bin .eql (.t 3) (.c (.str [124, 124]))⟩,
         ⟨(some 4), none, .mv (.t 5)⟩] false)
       (.cond (.t 4)
        (.seq
         (.region [
           ⟨(some 2), none, .mv (.c (.int .i64 1))⟩] false)
         .ret)
        (.seq
         (.region [
           ⟨(some 7), none, .bin .eql (.t 3) (.c (.str [38, 38]))⟩,
           ⟨(some 6), none, .mv (.t 7)⟩] false)
         (.cond (.t 6)
          (.seq
           (.region [
             ⟨(some 2), none, .mv (.c (.int .i64 2))⟩] false)
           .ret)
          (.seq
           (.seq
            (.region [
              ⟨(some 9), none, .bin .eql (.t 3) (.c (.str [61, 61]))⟩,
              ⟨(some 8), none, .mv (.t 9)⟩] false)
            (.cond (.t 8)
             .skip
             (.region [
               ⟨(some 10), none, .bin .eql (.t 3) (.c (.str [33, 61]))⟩,
               ⟨(some 8), none, .mv (.t 10)⟩] false)))
           (.cond (.t 8)
            (.seq
             (.region [
               ⟨(some 2), none, .mv (.c (.int .i64 3))⟩] false)
             .ret)
            (.seq
             (.seq
              (.region [
                ⟨(some 12), none, .bin .eql (.t 3) (.c (.str [60]))⟩,
                ⟨(some 11), none, .mv (.t 12)⟩] false)
              (.cond (.t 11)
               .skip
               (.seq
                (.region [
                  ⟨(some 13), none, .bin .eql (.t 3) (.c (.str [60, 61]))⟩,
                  ⟨(some 11), none, .mv (.t 13)⟩] false)
                (.cond (.t 11)
                 .skip
                 (.seq
                  (.region [
                    ⟨(some 14), none, .bin .eql (.t 3) (.c (.str [62]))⟩,
                    ⟨(some 11), none, .mv (.t 14)⟩] false)
                  (.cond (.t 11)
                   .skip
                   (.region [
                     ⟨(some 15), none, .bin .eql (.t 3) (.c (.str [62, 61]))⟩,
                     ⟨(some 11), none, .mv (.t 15)⟩] false)))))))
             (.cond (.t 11)
              (.seq
               (.region [
                 ⟨(some 2), none, .mv (.c (.int .i64 4))⟩] false)
               .ret)
              (.seq
               (.seq
                (.region [
                  ⟨(some 17), none, .bin .eql (.t 3) (.c (.str [43]))⟩,
                  ⟨(some 16), none, .mv (.t 17)⟩] false)
                (.cond (.t 16)
                 .skip
                 (.region [
                   ⟨(some 18), none, .bin .eql (.t 3) (.c (.str [45]))⟩,
                   ⟨(some 16), none, .mv (.t 18)⟩] false)))
               (.cond (.t 16)
                (.seq
                 (.region [
                   ⟨(some 2), none, .mv (.c (.int .i64 5))⟩] false)
                 .ret)
                (.seq
                 (.seq
                  (.region [
                    ⟨(some 20), none, .bin .eql (.t 3) (.c (.str [42]))⟩,
                    ⟨(some 19), none, .mv (.t 20)⟩] false)
                  (.cond (.t 19)
                   .skip
                   (.seq
                    (.region [
                      ⟨(some 21), none, .bin .eql (.t 3) (.c (.str [47]))⟩,
                      ⟨(some 19), none, .mv (.t 21)⟩] false)
                    (.cond (.t 19)
                     .skip
                     (.region [
                       ⟨(some 22), none, .bin .eql (.t 3) (.c (.str [37]))⟩,
                       ⟨(some 19), none, .mv (.t 22)⟩] false)))))
                 (.cond (.t 19)
                  (.seq
                   (.region [
                     ⟨(some 2), none, .mv (.c (.int .i64 6))⟩] false)
                   .ret)
                  .skip))))))))))))))
    (.seq
     (.region [
       ⟨(some 2), none, .mv (.c (.int .i64 0))⟩] false)
     .ret)))
def r175 : List ERes := [.t 2]
theorem c175 : chkF Tryz.prog Tryz.f175 1 e175 r175 = true := by kernel_rfl
def e176 : EC :=
  (.seq
   (.region [
     ⟨(some 4), none, .mv (.c (.int .i64 0))⟩,
     ⟨(some 5), none, .mv (.c (.raw .nilIface))⟩] false)
   (.seq
    (.region [
      ⟨(some 6), none, .mv (.t 0)⟩,
      ⟨(some 7), none, .call 199 [(.t 6)]⟩] false)
    (.seq
     (.region [
       ⟨(some 8), none, .mv (.t 0)⟩,
       ⟨(some 9), none, .mv (.t 0)⟩,
       ⟨(some 10), none, .nilck (.t 9)⟩,
       ⟨(some 11), none, .faddr 1 (.t 10)⟩,
       ⟨(some 12), none, .load false 1 (.t 11)⟩,
       ⟨(some 13), none, .mv (.t 1)⟩,
       ⟨(some 14), none, .append 5 1 1 (.t 12) (.t 13)⟩,
       ⟨(some 15), none, .nilck (.t 8)⟩,
       ⟨(some 16), none, .faddr 1 (.t 15)⟩,
       ⟨none, none, .store 1 (.t 16) (.t 14)⟩] false)
     (.seq
      (.region [
        ⟨(some 17), none, .mv (.t 1)⟩,
        ⟨(some 18), none, .lenS (.t 17)⟩,
        ⟨(some 4), none, .mv (.t 18)⟩,
        ⟨(some 5), none, .mv (.c (.raw .nilIface))⟩] false)
      .ret))))
def r176 : List ERes := [.t 4, .t 5]
theorem c176 : chkF Tryz.prog Tryz.f176 2 e176 r176 = true := by kernel_rfl
def e178 : EC :=
  (.seq
   (.region [
     ⟨(some 4), none, .mv (.c (.raw .nilIface))⟩] false)
   (.seq
    (.region [
      ⟨(some 5), none, .mv (.t 0)⟩,
      ⟨(some 6), none, .call 199 [(.t 5)]⟩] false)
    (.seq
     (.region [
       ⟨(some 7), none, .mv (.t 0)⟩,
       ⟨(some 8), none, .mv (.t 0)⟩,
       ⟨(some 9), none, .nilck (.t 8)⟩,
       ⟨(some 10), none, .faddr 1 (.t 9)⟩,
       ⟨(some 11), none, .load false 1 (.t 10)⟩,
       ⟨(some 12), none, .mv (.t 1)⟩,
       ⟨(some 13), none, .bslice 5 1 1 [.int .u8 0] [(0, (.t 12))]⟩,
       ⟨(some 14), none, .append 5 1 1 (.t 11) (.t 13)⟩,
       ⟨(some 15), none, .nilck (.t 7)⟩,
       ⟨(some 16), none, .faddr 1 (.t 15)⟩,
       ⟨none, none, .store 1 (.t 16) (.t 14)⟩] false)
     (.seq
      (.region [
        ⟨(some 4), none, .mv (.c (.raw .nilIface))⟩] false)
      .ret))))
def r178 : List ERes := [.t 4]
theorem c178 : chkF Tryz.prog Tryz.f178 2 e178 r178 = true := by kernel_rfl
def e182 : EC :=
  (.seq
   (.region [
     ⟨(some 3), none, .box 133 (.t 1)⟩] false)
   (.seq
    (.region [
      ⟨(some 5), none, .faddr 0 (.t 3)⟩,
      ⟨(some 6), none, .load false 1 (.t 5)⟩] false)
    (.block 0
     (.seq
      (.region [
        ⟨(some 49), none, .bin .eql (.t 6) (.c (.int .i64 1))⟩,
        ⟨(some 48), none, .mv (.t 49)⟩] false)
      (.cond (.t 48)
       (.region [
         ⟨(some 50), none, .mv (.t 0)⟩,
         ⟨(some 51), none, .faddr 1 (.t 3)⟩,
         ⟨(some 52), none, .load false 1 (.t 51)⟩,
         ⟨(some 53), none, .faddr 2 (.t 3)⟩,
         ⟨(some 54), none, .load true 6 (.t 53)⟩,
         ⟨(some 55), none, .pcall 127 [(.t 54)]⟩,
         ⟨(some 56), none, .bslice 9 1 4 [.str []] [(0, (.t 52)), (1, (.c (.str [32, 61, 32]))), (2, (.t 55)), (3, (.c (.str [59])))]⟩,
         ⟨(some 57), none, .call 122 [(.t 50), (.t 56)]⟩] true)
       (.seq
        (.region [
          ⟨(some 59), none, .bin .eql (.t 6) (.c (.int .i64 3))⟩,
          ⟨(some 58), none, .mv (.t 59)⟩] false)
        (.cond (.t 58)
         (.seq
          (.region [
            ⟨(some 60), none, .mv (.t 0)⟩,
            ⟨(some 61), none, .faddr 2 (.t 3)⟩,
            ⟨(some 62), none, .load true 6 (.t 61)⟩,
            ⟨(some 63), none, .pcall 127 [(.t 62)]⟩,
            ⟨(some 64), none, .faddr 8 (.t 3)⟩,
            ⟨(some 65), none, .load false 1 (.t 64)⟩,
            ⟨(some 66), none, .pcall 123 [(.t 65)]⟩,
            ⟨(some 67), none, .bslice 9 1 5 [.str []] [(0, (.c (.str [119, 104, 105, 108, 101, 32]))), (1, (.t 63)), (2, (.c (.str [32, 116, 105, 109, 101, 115, 32]))), (3, (.t 66)), (4, (.c (.str [32, 123])))]⟩,
            ⟨(some 68), none, .call 122 [(.t 60), (.t 67)]⟩] true)
          (.seq
           (.region [
             ⟨(some 69), none, .mv (.t 0)⟩,
             ⟨(some 70), none, .faddr 9 (.t 3)⟩,
             ⟨(some 71), none, .load false 1 (.t 70)⟩,
             ⟨(some 72), none, .call 126 [(.t 69), (.t 71)]⟩] false)
           (.region [
             ⟨(some 73), none, .mv (.t 0)⟩,
             ⟨(some 74), none, .bslice 9 1 1 [.str []] [(0, (.c (.str [125])))]⟩,
             ⟨(some 75), none, .call 122 [(.t 73), (.t 74)]⟩] false)))
         (.seq
          (.region [
            ⟨(some 4), none, .mv (.c (.str [105, 102, 32]))⟩] false)
          (.seq
           (.block 1
            (.loop
             (.block 2
              (.seq
               (.region [
                 ⟨(some 7), none, .mv (.t 0)⟩,
                 ⟨(some 8), none, .mv (.t 4)⟩,
                 ⟨(some 9), none, .faddr 2 (.t 3)⟩,
                 ⟨(some 10), none, .load true 6 (.t 9)⟩,
                 ⟨(some 11), none, .call 127 [(.t 10)]⟩,
                 ⟨(some 12), none, .bslice 9 1 3 [.str []] [(0, (.t 8)), (1, (.t 11)), (2, (.c (.str [32, 123])))]⟩,
                 ⟨(some 13), none, .call 122 [(.t 7), (.t 12)]⟩] false)
               (.seq
                (.region [
                  ⟨(some 14), none, .mv (.t 0)⟩,
                  ⟨(some 15), none, .faddr 9 (.t 3)⟩,
                  ⟨(some 16), none, .load false 1 (.t 15)⟩,
                  ⟨(some 17), none, .call 126 [(.t 14), (.t 16)]⟩] false)
                (.seq
                 (.seq
                  (.region [
                    ⟨(some 18), none, .faddr 10 (.t 3)⟩,
                    ⟨(some 19), none, .load false 1 (.t 18)⟩,
                    ⟨(some 20), none, .len (.t 19)⟩,
                    ⟨(some 21), none, .bin .neq (.t 20) (.c (.int .i64 1))⟩,
                    ⟨(some 22), none, .mv (.t 21)⟩,
                    ⟨(some 23), (some (22, false)), .faddr 10 (.t 3)⟩,
                    ⟨(some 24), (some (22, false)), .load false 1 (.t 23)⟩,
                    ⟨(some 25), (some (22, false)), .iaddr 11 (.t 24) (.c (.int .i64 0))⟩,
                    ⟨(some 26), (some (22, false)), .faddr 0 (.t 25)⟩,
                    ⟨(some 27), (some (22, false)), .load false 1 (.t 26)⟩,
                    ⟨(some 28), (some (22, false)), .bin .neq (.t 27) (.c (.int .i64 2))⟩,
                    ⟨(some 29), none, .pick (.t 22) (.c (.bool true)) (.t 28)⟩] false)
                  (.cond (.t 29)
                   (.exit 1)
                   .skip))
                 (.region [
                   ⟨(some 30), none, .faddr 10 (.t 3)⟩,
                   ⟨(some 31), none, .load false 1 (.t 30)⟩,
                   ⟨(some 32), none, .iaddr 11 (.t 31) (.c (.int .i64 0))⟩,
                   ⟨(some 33), none, .load true 11 (.t 32)⟩,
                   ⟨none, none, .store 11 (.t 3) (.t 33)⟩,
                   ⟨(some 4), none, .mv (.c (.str [125, 32, 101, 108, 115, 101, 32, 105, 102, 32]))⟩] false)))))))
           (.seq
            (.seq
             (.region [
               ⟨(some 34), none, .faddr 10 (.t 3)⟩,
               ⟨(some 35), none, .load false 1 (.t 34)⟩,
               ⟨(some 36), none, .len (.t 35)⟩,
               ⟨(some 37), none, .bin .gtr (.t 36) (.c (.int .i64 0))⟩] false)
             (.cond (.t 37)
              (.seq
               (.region [
                 ⟨(some 38), none, .mv (.t 0)⟩,
                 ⟨(some 39), none, .bslice 9 1 1 [.str []] [(0, (.c (.str [125, 32, 101, 108, 115, 101, 32, 123])))]⟩,
                 ⟨(some 40), none, .call 122 [(.t 38), (.t 39)]⟩] false)
               (.region [
                 ⟨(some 41), none, .mv (.t 0)⟩,
                 ⟨(some 42), none, .faddr 10 (.t 3)⟩,
                 ⟨(some 43), none, .load false 1 (.t 42)⟩,
                 ⟨(some 44), none, .call 126 [(.t 41), (.t 43)]⟩] false))
              .skip))
            (.region [
              ⟨(some 45), none, .mv (.t 0)⟩,
              ⟨(some 46), none, .bslice 9 1 1 [.str []] [(0, (.c (.str [125])))]⟩,
              ⟨(some 47), none, .call 122 [(.t 45), (.t 46)]⟩] false)))))))))))
def r182 : List ERes := []
theorem c182 : chkF Tryz.prog Tryz.f182 2 e182 r182 = true := by kernel_rfl
def e183 : EC :=
  (.seq
   (.region [
     ⟨(some 2), none, .box 131 (.t 0)⟩,
     ⟨(some 4), none, .mv (.c (.str []))⟩] false)
   (.seq
    (.seq
     (.region [
       ⟨(some 5), none, .faddr 0 (.t 2)⟩,
       ⟨(some 6), none, .load false 1 (.t 5)⟩,
       ⟨(some 7), none, .bin .eql (.t 6) (.c (.int .i64 6))⟩,
       ⟨(some 8), none, .mv (.t 7)⟩,
       ⟨(some 9), (some (8, true)), .faddr 1 (.t 2)⟩,
       ⟨(some 10), (some (8, true)), .load false 1 (.t 9)⟩,
       ⟨(some 11), (some (8, true)), .call 175 [(.t 10)]⟩,
       ⟨(some 12), (some (8, true)), .mv (.t 1)⟩,
       ⟨(some 13), (some (8, true)), .bin .lss (.t 11) (.t 12)⟩,
       ⟨(some 14), none, .pick (.t 8) (.t 13) (.c (.bool false))⟩] false)
     (.cond (.t 14)
      (.seq
       (.region [
         ⟨(some 15), none, .load true 6 (.t 2)⟩,
         ⟨(some 16), none, .call 127 [(.t 15)]⟩,
         ⟨(some 17), none, .bin .add (.c (.str [40])) (.t 16)⟩,
         ⟨(some 18), none, .bin .add (.t 17) (.c (.str [41]))⟩,
         ⟨(some 4), none, .mv (.t 18)⟩] false)
       .ret)
      .skip))
    (.seq
     (.region [
       ⟨(some 19), none, .load true 6 (.t 2)⟩,
       ⟨(some 20), none, .call 127 [(.t 19)]⟩,
       ⟨(some 4), none, .mv (.t 20)⟩] false)
     .ret)))
def r183 : List ERes := [.t 4]
theorem c183 : chkF Tryz.prog Tryz.f183 2 e183 r183 = true := by kernel_rfl
def e190 : EC :=
  (.seq
   (.region [
     ⟨(some 2), none, .alloc 133 [.int .i64 0, .str [], .int .i64 0, .str [], .str [], .str [], .int .i64 0, .nilS, .int .i64 0, .nilS, .nilS]⟩] false)
   (.seq
    (.block 0
     (.seq
      (.region [
        ⟨(some 6), none, .mv (.t 0)⟩,
        ⟨(some 7), none, .call 87 [(.t 6), (.c (.str [105, 102]))]⟩,
        ⟨(some 5), none, .mv (.t 7)⟩] false)
      (.cond (.t 5)
       (.seq
        (.region [
          ⟨(some 8), none, .mv (.t 0)⟩,
          ⟨(some 9), none, .call 209 [(.t 8)]⟩,
          ⟨none, none, .store 11 (.t 2) (.t 9)⟩] false)
        .ret)
       (.seq
        (.region [
          ⟨(some 11), none, .mv (.t 0)⟩,
          ⟨(some 12), none, .call 87 [(.t 11), (.c (.str [119, 104, 105, 108, 101]))]⟩,
          ⟨(some 10), none, .mv (.t 12)⟩] false)
        (.cond (.t 10)
         (.seq
          (.region [
            ⟨(some 13), none, .mv (.t 0)⟩,
            ⟨(some 14), none, .call 156 [(.t 13), (.c (.int .i64 1))]⟩,
            ⟨(some 15), none, .build [.int .i64 0, .str [], .int .i64 0, .str [], .str [], .str [], .int .i64 0, .nilS, .int .i64 0, .nilS, .nilS] [(0, 1, (.c (.int .i64 3))), (2, 6, (.t 14))]⟩,
            ⟨(some 3), none, .alloc 133 [.int .i64 0, .str [], .int .i64 0, .str [], .str [], .str [], .int .i64 0, .nilS, .int .i64 0, .nilS, .nilS]⟩,
            ⟨none, none, .store 11 (.t 3) (.t 15)⟩] false)
          (.seq
           (.region [
             ⟨(some 16), none, .mv (.t 0)⟩,
             ⟨(some 17), none, .call 85 [(.t 16), (.c (.str [116, 105, 109, 101, 115]))]⟩] false)
           (.seq
            (.seq
             (.region [
               ⟨(some 18), none, .mv (.t 0)⟩,
               ⟨(some 19), none, .nilck (.t 18)⟩,
               ⟨(some 20), none, .faddr 0 (.t 19)⟩,
               ⟨(some 21), none, .load false 1 (.t 20)⟩,
               ⟨(some 22), none, .len (.t 21)⟩,
               ⟨(some 23), none, .bin .gtr (.t 22) (.c (.int .i64 0))⟩,
               ⟨(some 24), none, .mv (.t 23)⟩,
               ⟨(some 25), (some (24, true)), .mv (.t 0)⟩,
               ⟨(some 26), (some (24, true)), .nilck (.t 25)⟩,
               ⟨(some 27), (some (24, true)), .faddr 0 (.t 26)⟩,
               ⟨(some 28), (some (24, true)), .load false 1 (.t 27)⟩,
               ⟨(some 29), (some (24, true)), .iaddr 4 (.t 28) (.c (.int .i64 0))⟩,
               ⟨(some 30), (some (24, true)), .faddr 0 (.t 29)⟩,
               ⟨(some 31), (some (24, true)), .load false 1 (.t 30)⟩,
               ⟨(some 32), (some (24, true)), .bin .eql (.t 31) (.c (.int .i64 2))⟩,
               ⟨(some 33), none, .pick (.t 24) (.t 32) (.c (.bool false))⟩,
               ⟨(some 34), none, .mv (.t 33)⟩,
               ⟨(some 35), (some (34, true)), .mv (.t 0)⟩,
               ⟨(some 36), (some (34, true)), .nilck (.t 35)⟩,
               ⟨(some 37), (some (34, true)), .faddr 0 (.t 36)⟩,
               ⟨(some 38), (some (34, true)), .load false 1 (.t 37)⟩,
               ⟨(some 39), (some (34, true)), .iaddr 4 (.t 38) (.c (.int .i64 0))⟩,
               ⟨(some 40), (some (34, true)), .faddr 2 (.t 39)⟩,
               ⟨(some 41), (some (34, true)), .load false 1 (.t 40)⟩,
               ⟨(some 42), (some (34, true)), .bin .lss (.t 41) (.c (.int .i64 1))⟩,
               ⟨(some 43), (some (34, true)), .mv (.t 42)⟩,
               ⟨(some 44), (some (43, false)), .mv (.t 0)⟩,
               ⟨(some 45), (some (43, false)), .nilck (.t 44)⟩,
               ⟨(some 46), (some (43, false)), .faddr 0 (.t 45)⟩,
               ⟨(some 47), (some (43, false)), .load false 1 (.t 46)⟩,
               ⟨(some 48), (some (43, false)), .iaddr 4 (.t 47) (.c (.int .i64 0))⟩,
               ⟨(some 49), (some (43, false)), .faddr 2 (.t 48)⟩,
               ⟨(some 50), (some (43, false)), .load false 1 (.t 49)⟩,
               ⟨(some 51), (some (43, false)), .bin .gtr (.t 50) (.c (.int .i64 50))⟩,
               ⟨(some 52), (some (34, true)), .pick (.t 43) (.c (.bool true)) (.t 51)⟩,
               ⟨(some 53), none, .pick (.t 34) (.t 52) (.c (.bool false))⟩] false)
             (.cond (.t 53)
              (.region [
                ⟨(some 54), none, .mv (.t 0)⟩,
                ⟨(some 55), none, .call 91 [(.t 54), (.c (.int .i64 2))]⟩] false)
              .skip))
            (.seq
             (.region [
               ⟨(some 56), none, .mv (.t 0)⟩,
               ⟨(some 57), none, .call 151 [(.t 56), (.c (.int .i64 2))]⟩,
               ⟨(some 58), none, .field false 2 1 (.t 57)⟩,
               ⟨(some 59), none, .faddr 8 (.t 3)⟩,
               ⟨none, none, .store 1 (.t 59) (.t 58)⟩] false)
             (.seq
              (.region [
                ⟨(some 60), none, .mv (.t 0)⟩,
                ⟨(some 61), none, .call 155 [(.t 60)]⟩,
                ⟨(some 62), none, .faddr 9 (.t 3)⟩,
                ⟨none, none, .store 1 (.t 62) (.t 61)⟩] false)
              (.seq
               (.region [
                 ⟨(some 63), none, .load true 11 (.t 3)⟩,
                 ⟨none, none, .store 11 (.t 2) (.t 63)⟩] false)
               .ret))))))
         .skip)))))
    (.seq
     (.region [
       ⟨(some 64), none, .mv (.t 0)⟩,
       ⟨(some 65), none, .call 86 [(.t 64)]⟩,
       ⟨(some 66), none, .build [.int .i64 0, .str [], .int .i64 0, .str [], .str [], .str [], .int .i64 0, .nilS, .int .i64 0, .nilS, .nilS] [(0, 1, (.c (.int .i64 1))), (1, 1, (.t 65))]⟩,
       ⟨(some 4), none, .alloc 133 [.int .i64 0, .str [], .int .i64 0, .str [], .str [], .str [], .int .i64 0, .nilS, .int .i64 0, .nilS, .nilS]⟩,
       ⟨none, none, .store 11 (.t 4) (.t 66)⟩] false)
     (.seq
      (.region [
        ⟨(some 67), none, .mv (.t 0)⟩,
        ⟨(some 68), none, .call 85 [(.t 67), (.c (.str [61]))]⟩] false)
      (.seq
       (.region [
         ⟨(some 69), none, .mv (.t 0)⟩,
         ⟨(some 70), none, .call 156 [(.t 69), (.c (.int .i64 1))]⟩,
         ⟨(some 71), none, .faddr 2 (.t 4)⟩,
         ⟨none, none, .store 6 (.t 71) (.t 70)⟩] false)
       (.seq
        (.region [
          ⟨(some 72), none, .mv (.t 0)⟩,
          ⟨(some 73), none, .call 85 [(.t 72), (.c (.str [59]))]⟩] false)
        (.seq
         (.region [
           ⟨(some 74), none, .load true 11 (.t 4)⟩,
           ⟨none, none, .store 11 (.t 2) (.t 74)⟩] false)
         .ret)))))))
def r190 : List ERes := [.cell true 11 2]
theorem c190 : chkF Tryz.prog Tryz.f190 1 e190 r190 = true := by kernel_rfl
def e191 : EC :=
  (.seq
   (.region [
     ⟨(some 2), none, .alloc 131 [.int .i64 0, .str [], .str [], .str [], .int .i64 0, .nilS]⟩] false)
   (.seq
    (.block 0
     (.seq
      (.region [
        ⟨(some 6), none, .mv (.t 0)⟩,
        ⟨(some 7), none, .call 87 [(.t 6), (.c (.str [40]))]⟩,
        ⟨(some 5), none, .mv (.t 7)⟩] false)
      (.cond (.t 5)
       (.seq
        (.region [
          ⟨(some 8), none, .mv (.t 0)⟩,
          ⟨(some 9), none, .call 156 [(.t 8), (.c (.int .i64 1))]⟩,
          ⟨(some 3), none, .alloc 131 [.int .i64 0, .str [], .str [], .str [], .int .i64 0, .nilS]⟩,
          ⟨none, none, .store 6 (.t 3) (.t 9)⟩] false)
        (.seq
         (.region [
           ⟨(some 10), none, .mv (.t 0)⟩,
           ⟨(some 11), none, .call 85 [(.t 10), (.c (.str [41]))]⟩] false)
         (.seq
          (.region [
            ⟨(some 12), none, .load true 6 (.t 3)⟩,
            ⟨none, none, .store 6 (.t 2) (.t 12)⟩] false)
          .ret)))
       (.seq
        (.region [
          ⟨(some 14), none, .mv (.t 0)⟩,
          ⟨(some 15), none, .call 87 [(.t 14), (.c (.str [108, 101, 110]))]⟩,
          ⟨(some 13), none, .mv (.t 15)⟩] false)
        (.cond (.t 13)
         (.seq
          (.region [
            ⟨(some 16), none, .mv (.t 0)⟩,
            ⟨(some 17), none, .call 85 [(.t 16), (.c (.str [40]))]⟩] false)
          (.seq
           (.region [
             ⟨(some 18), none, .mv (.t 0)⟩,
             ⟨(some 19), none, .call 156 [(.t 18), (.c (.int .i64 1))]⟩,
             ⟨(some 20), none, .bslice 131 6 1 [.int .i64 0, .str [], .str [], .str [], .int .i64 0, .nilS] [(0, (.t 19))]⟩,
             ⟨(some 21), none, .build [.int .i64 0, .str [], .str [], .str [], .int .i64 0, .nilS] [(0, 1, (.c (.int .i64 4))), (5, 1, (.t 20))]⟩,
             ⟨(some 4), none, .alloc 131 [.int .i64 0, .str [], .str [], .str [], .int .i64 0, .nilS]⟩,
             ⟨none, none, .store 6 (.t 4) (.t 21)⟩] false)
           (.seq
            (.region [
              ⟨(some 22), none, .mv (.t 0)⟩,
              ⟨(some 23), none, .call 85 [(.t 22), (.c (.str [41]))]⟩] false)
            (.seq
             (.region [
               ⟨(some 24), none, .load true 6 (.t 4)⟩,
               ⟨none, none, .store 6 (.t 2) (.t 24)⟩] false)
             .ret))))
         (.seq
          (.region [
            ⟨(some 26), none, .mv (.t 0)⟩,
            ⟨(some 27), none, .call 87 [(.t 26), (.c (.str [45]))]⟩,
            ⟨(some 25), none, .mv (.t 27)⟩] false)
          (.cond (.t 25)
           (.seq
            (.region [
              ⟨(some 28), none, .mv (.t 0)⟩,
              ⟨(some 29), none, .call 191 [(.t 28)]⟩,
              ⟨(some 30), none, .bslice 131 6 1 [.int .i64 0, .str [], .str [], .str [], .int .i64 0, .nilS] [(0, (.t 29))]⟩,
              ⟨(some 31), none, .build [.int .i64 0, .str [], .str [], .str [], .int .i64 0, .nilS] [(0, 1, (.c (.int .i64 5))), (1, 1, (.c (.str [45]))), (5, 1, (.t 30))]⟩,
              ⟨none, none, .store 6 (.t 2) (.t 31)⟩] false)
            .ret)
           (.seq
            (.region [
              ⟨(some 33), none, .mv (.t 0)⟩,
              ⟨(some 34), none, .call 87 [(.t 33), (.c (.str [33]))]⟩,
              ⟨(some 32), none, .mv (.t 34)⟩] false)
            (.cond (.t 32)
             (.seq
              (.region [
                ⟨(some 35), none, .mv (.t 0)⟩,
                ⟨(some 36), none, .call 191 [(.t 35)]⟩,
                ⟨(some 37), none, .bslice 131 6 1 [.int .i64 0, .str [], .str [], .str [], .int .i64 0, .nilS] [(0, (.t 36))]⟩,
                ⟨(some 38), none, .build [.int .i64 0, .str [], .str [], .str [], .int .i64 0, .nilS] [(0, 1, (.c (.int .i64 5))), (1, 1, (.c (.str [33]))), (5, 1, (.t 37))]⟩,
                ⟨none, none, .store 6 (.t 2) (.t 38)⟩] false)
              .ret)
             (.seq
              (.region [
                ⟨(some 40), none, .mv (.t 0)⟩,
                ⟨(some 41), none, .call 150 [(.t 40)]⟩,
                ⟨(some 39), none, .mv (.t 41)⟩] false)
              (.cond (.t 39)
               (.seq
                (.region [
                  ⟨(some 42), none, .mv (.t 0)⟩,
                  ⟨(some 43), none, .call 86 [(.t 42)]⟩,
                  ⟨(some 44), none, .build [.int .i64 0, .str [], .str [], .str [], .int .i64 0, .nilS] [(0, 1, (.c (.int .i64 3))), (2, 1, (.t 43))]⟩,
                  ⟨none, none, .store 6 (.t 2) (.t 44)⟩] false)
                .ret)
               (.seq
                (.region [
                  ⟨(some 46), none, .mv (.t 0)⟩,
                  ⟨(some 47), none, .nilck (.t 46)⟩,
                  ⟨(some 48), none, .faddr 0 (.t 47)⟩,
                  ⟨(some 49), none, .load false 1 (.t 48)⟩,
                  ⟨(some 50), none, .len (.t 49)⟩,
                  ⟨(some 51), none, .bin .gtr (.t 50) (.c (.int .i64 0))⟩,
                  ⟨(some 52), none, .mv (.t 51)⟩,
                  ⟨(some 53), (some (52, true)), .mv (.t 0)⟩,
                  ⟨(some 54), (some (52, true)), .nilck (.t 53)⟩,
                  ⟨(some 55), (some (52, true)), .faddr 0 (.t 54)⟩,
                  ⟨(some 56), (some (52, true)), .load false 1 (.t 55)⟩,
                  ⟨(some 57), (some (52, true)), .iaddr 4 (.t 56) (.c (.int .i64 0))⟩,
                  ⟨(some 58), (some (52, true)), .faddr 0 (.t 57)⟩,
                  ⟨(some 59), (some (52, true)), .load false 1 (.t 58)⟩,
                  ⟨(some 60), (some (52, true)), .bin .eql (.t 59) (.c (.int .i64 3))⟩,
                  ⟨(some 61), none, .pick (.t 52) (.t 60) (.c (.bool false))⟩,
                  ⟨(some 45), none, .mv (.t 61)⟩] false)
                (.cond (.t 45)
                 (.seq
                  (.region [
                    ⟨(some 62), none, .mv (.t 0)⟩,
                    ⟨(some 63), none, .call 151 [(.t 62), (.c (.int .i64 3))]⟩,
                    ⟨(some 64), none, .field false 1 1 (.t 63)⟩,
                    ⟨(some 65), none, .build [.int .i64 0, .str [], .str [], .str [], .int .i64 0, .nilS] [(0, 1, (.c (.int .i64 2))), (3, 1, (.t 64))]⟩,
                    ⟨none, none, .store 6 (.t 2) (.t 65)⟩] false)
                  .ret)
                 (.seq
                  (.region [
                    ⟨(some 67), none, .mv (.t 0)⟩,
                    ⟨(some 68), none, .nilck (.t 67)⟩,
                    ⟨(some 69), none, .faddr 0 (.t 68)⟩,
                    ⟨(some 70), none, .load false 1 (.t 69)⟩,
                    ⟨(some 71), none, .len (.t 70)⟩,
                    ⟨(some 72), none, .bin .gtr (.t 71) (.c (.int .i64 0))⟩,
                    ⟨(some 73), none, .mv (.t 72)⟩,
                    ⟨(some 74), (some (73, true)), .mv (.t 0)⟩,
                    ⟨(some 75), (some (73, true)), .nilck (.t 74)⟩,
                    ⟨(some 76), (some (73, true)), .faddr 0 (.t 75)⟩,
                    ⟨(some 77), (some (73, true)), .load false 1 (.t 76)⟩,
                    ⟨(some 78), (some (73, true)), .iaddr 4 (.t 77) (.c (.int .i64 0))⟩,
                    ⟨(some 79), (some (73, true)), .faddr 0 (.t 78)⟩,
                    ⟨(some 80), (some (73, true)), .load false 1 (.t 79)⟩,
                    ⟨(some 81), (some (73, true)), .bin .eql (.t 80) (.c (.int .i64 2))⟩,
                    ⟨(some 82), none, .pick (.t 73) (.t 81) (.c (.bool false))⟩,
                    ⟨(some 83), none, .mv (.t 82)⟩,
                    ⟨(some 84), (some (83, true)), .mv (.t 0)⟩,
                    ⟨(some 85), (some (83, true)), .nilck (.t 84)⟩,
                    ⟨(some 86), (some (83, true)), .faddr 0 (.t 85)⟩,
                    ⟨(some 87), (some (83, true)), .load false 1 (.t 86)⟩,
                    ⟨(some 88), (some (83, true)), .iaddr 4 (.t 87) (.c (.int .i64 0))⟩,
                    ⟨(some 89), (some (83, true)), .faddr 2 (.t 88)⟩,
                    ⟨(some 90), (some (83, true)), .load false 1 (.t 89)⟩,
                    ⟨(some 91), (some (83, true)), .bin .gtr (.t 90) (.c (.int .i64 1000))⟩,
                    ⟨(some 92), none, .pick (.t 83) (.t 91) (.c (.bool false))⟩,
                    ⟨(some 66), none, .mv (.t 92)⟩] false)
                  (.cond (.t 66)
                   (.region [
                     ⟨(some 93), none, .mv (.t 0)⟩,
                     ⟨(some 94), none, .call 91 [(.t 93), (.c (.int .i64 2))]⟩] false)
                   .skip)))))))))))))))
    (.seq
     (.region [
       ⟨(some 95), none, .mv (.t 0)⟩,
       ⟨(some 96), none, .call 151 [(.t 95), (.c (.int .i64 2))]⟩,
       ⟨(some 97), none, .field false 2 1 (.t 96)⟩,
       ⟨(some 98), none, .build [.int .i64 0, .str [], .str [], .str [], .int .i64 0, .nilS] [(0, 1, (.c (.int .i64 1))), (4, 1, (.t 97))]⟩,
       ⟨none, none, .store 6 (.t 2) (.t 98)⟩] false)
     .ret)))
def r191 : List ERes := [.cell true 6 2]
theorem c191 : chkF Tryz.prog Tryz.f191 1 e191 r191 = true := by kernel_rfl
def e195 : EC :=
  (.seq
   (.region [
     ⟨(some 4), none, .mv (.c (.int .i64 0))⟩] false)
   (.seq
    (.seq
     (.region [
       ⟨(some 6), none, .mv (.t 0)⟩,
       ⟨(some 7), none, .len (.t 6)⟩,
       ⟨(some 8), none, .mv (.c (.int .i64 0))⟩] false)
     (.block 0
      (.loop
       (.seq
        (.region [
          ⟨(some 9), none, .bin .lss (.t 8) (.t 7)⟩] false)
        (.seq
         (.cond (.t 9)
          .skip
          (.exit 0))
         (.seq
          (.block 1
           (.seq
            (.region [
              ⟨(some 10), none, .mv (.t 8)⟩,
              ⟨(some 5), none, .mv (.t 10)⟩] false)
            (.seq
             (.region [
               ⟨(some 11), none, .mv (.t 1)⟩,
               ⟨(some 12), none, .mv (.t 0)⟩,
               ⟨(some 13), none, .mv (.t 5)⟩,
               ⟨(some 14), none, .iaddr 1 (.t 12) (.t 13)⟩,
               ⟨(some 15), none, .load false 1 (.t 14)⟩,
               ⟨(some 16), none, .callv (.t 11) [(.t 15)]⟩] false)
             (.cond (.t 16)
              (.seq
               (.region [
                 ⟨(some 17), none, .mv (.t 5)⟩,
                 ⟨(some 4), none, .mv (.t 17)⟩] false)
               .ret)
              .skip))))
          (.region [
            ⟨(some 18), none, .bin .add (.t 8) (.c (.int .i64 1))⟩,
            ⟨(some 8), none, .mv (.t 18)⟩] false)))))))
    (.seq
     (.region [
       ⟨(some 4), none, .mv (.c (.int .i64 (-1)))⟩] false)
     .ret)))
def r195 : List ERes := [.t 4]
theorem c195 : chkF Tryz.prog Tryz.f195 2 e195 r195 = true := by kernel_rfl
def e197 : EC :=
  (.seq
   (.region [
     ⟨(some 4), none, .mv (.c (.int .i64 0))⟩] false)
   (.seq
    (.seq
     (.region [
       ⟨(some 6), none, .mv (.t 0)⟩,
       ⟨(some 7), none, .len (.t 6)⟩,
       ⟨(some 8), none, .mv (.c (.int .i64 0))⟩] false)
     (.block 0
      (.loop
       (.seq
        (.region [
          ⟨(some 9), none, .bin .lss (.t 8) (.t 7)⟩] false)
        (.seq
         (.cond (.t 9)
          .skip
          (.exit 0))
         (.seq
          (.block 1
           (.seq
            (.region [
              ⟨(some 10), none, .mv (.t 8)⟩,
              ⟨(some 5), none, .mv (.t 10)⟩] false)
            (.seq
             (.region [
               ⟨(some 11), none, .mv (.t 1)⟩,
               ⟨(some 12), none, .mv (.t 0)⟩,
               ⟨(some 13), none, .mv (.t 5)⟩,
               ⟨(some 14), none, .iaddr 11 (.t 12) (.t 13)⟩,
               ⟨(some 15), none, .load true 11 (.t 14)⟩,
               ⟨(some 16), none, .callv (.t 11) [(.t 15)]⟩] false)
             (.cond (.t 16)
              (.seq
               (.region [
                 ⟨(some 17), none, .mv (.t 5)⟩,
                 ⟨(some 4), none, .mv (.t 17)⟩] false)
               .ret)
              .skip))))
          (.region [
            ⟨(some 18), none, .bin .add (.t 8) (.c (.int .i64 1))⟩,
            ⟨(some 8), none, .mv (.t 18)⟩] false)))))))
    (.seq
     (.region [
       ⟨(some 4), none, .mv (.c (.int .i64 (-1)))⟩] false)
     .ret)))
def r197 : List ERes := [.t 4]
theorem c197 : chkF Tryz.prog Tryz.f197 2 e197 r197 = true := by kernel_rfl
def e198 : EC :=
  (.seq
   (.region [
     ⟨(some 4), none, .mv (.c (.int .i64 0))⟩] false)
   (.seq
    (.seq
     (.region [
       ⟨(some 6), none, .mv (.t 0)⟩,
       ⟨(some 7), none, .len (.t 6)⟩,
       ⟨(some 8), none, .mv (.c (.int .i64 0))⟩] false)
     (.block 0
      (.loop
       (.seq
        (.region [
          ⟨(some 9), none, .bin .lss (.t 8) (.t 7)⟩] false)
        (.seq
         (.cond (.t 9)
          .skip
          (.exit 0))
         (.seq
          (.block 1
           (.seq
            (.region [
              ⟨(some 10), none, .mv (.t 8)⟩,
              ⟨(some 5), none, .mv (.t 10)⟩] false)
            (.seq
             (.region [
               ⟨(some 11), none, .mv (.t 1)⟩,
               ⟨(some 12), none, .mv (.t 0)⟩,
               ⟨(some 13), none, .mv (.t 5)⟩,
               ⟨(some 14), none, .iaddr 6 (.t 12) (.t 13)⟩,
               ⟨(some 15), none, .load true 6 (.t 14)⟩,
               ⟨(some 16), none, .callv (.t 11) [(.t 15)]⟩] false)
             (.cond (.t 16)
              (.seq
               (.region [
                 ⟨(some 17), none, .mv (.t 5)⟩,
                 ⟨(some 4), none, .mv (.t 17)⟩] false)
               .ret)
              .skip))))
          (.region [
            ⟨(some 18), none, .bin .add (.t 8) (.c (.int .i64 1))⟩,
            ⟨(some 8), none, .mv (.t 18)⟩] false)))))))
    (.seq
     (.region [
       ⟨(some 4), none, .mv (.c (.int .i64 (-1)))⟩] false)
     .ret)))
def r198 : List ERes := [.t 4]
theorem c198 : chkF Tryz.prog Tryz.f198 2 e198 r198 = true := by kernel_rfl
def e209 : EC :=
  (.seq
   (.region [
     ⟨(some 2), none, .alloc 133 [.int .i64 0, .str [], .int .i64 0, .str [], .str [], .str [], .int .i64 0, .nilS, .int .i64 0, .nilS, .nilS]⟩] false)
   (.seq
    (.region [
      ⟨(some 4), none, .mv (.t 0)⟩,
      ⟨(some 5), none, .call 156 [(.t 4), (.c (.int .i64 1))]⟩,
      ⟨(some 6), none, .build [.int .i64 0, .str [], .int .i64 0, .str [], .str [], .str [], .int .i64 0, .nilS, .int .i64 0, .nilS, .nilS] [(0, 1, (.c (.int .i64 2))), (2, 6, (.t 5))]⟩,
      ⟨(some 3), none, .alloc 133 [.int .i64 0, .str [], .int .i64 0, .str [], .str [], .str [], .int .i64 0, .nilS, .int .i64 0, .nilS, .nilS]⟩,
      ⟨none, none, .store 11 (.t 3) (.t 6)⟩] false)
    (.seq
     (.region [
       ⟨(some 7), none, .mv (.t 0)⟩,
       ⟨(some 8), none, .call 155 [(.t 7)]⟩,
       ⟨(some 9), none, .faddr 9 (.t 3)⟩,
       ⟨none, none, .store 1 (.t 9) (.t 8)⟩] false)
     (.seq
      (.seq
       (.region [
         ⟨(some 10), none, .mv (.t 0)⟩,
         ⟨(some 11), none, .call 87 [(.t 10), (.c (.str [101, 108, 115, 101]))]⟩] false)
       (.cond (.t 11)
        (.seq
         (.region [
           ⟨(some 12), none, .mv (.t 0)⟩,
           ⟨(some 13), none, .call 87 [(.t 12), (.c (.str [105, 102]))]⟩] false)
         (.cond (.t 13)
          (.region [
            ⟨(some 14), none, .mv (.t 0)⟩,
            ⟨(some 15), none, .call 209 [(.t 14)]⟩,
            ⟨(some 16), none, .bslice 133 11 1 [.int .i64 0, .str [], .int .i64 0, .str [], .str [], .str [], .int .i64 0, .nilS, .int .i64 0, .nilS, .nilS] [(0, (.t 15))]⟩,
            ⟨(some 17), none, .faddr 10 (.t 3)⟩,
            ⟨none, none, .store 1 (.t 17) (.t 16)⟩] false)
          (.region [
            ⟨(some 18), none, .mv (.t 0)⟩,
            ⟨(some 19), none, .call 155 [(.t 18)]⟩,
            ⟨(some 20), none, .faddr 10 (.t 3)⟩,
            ⟨none, none, .store 1 (.t 20) (.t 19)⟩] false)))
        .skip))
      (.seq
       (.region [
         ⟨(some 21), none, .load true 11 (.t 3)⟩,
         ⟨none, none, .store 11 (.t 2) (.t 21)⟩] false)
       .ret)))))
def r209 : List ERes := [.cell true 11 2]
theorem c209 : chkF Tryz.prog Tryz.f209 1 e209 r209 = true := by kernel_rfl
def e45 : EC :=
  (.seq
   (.region [
     ⟨(some 2), none, .mv (.c (.bool false))⟩] false)
   (.seq
    (.region [
      ⟨(some 4), none, .build [.str [], .str [], .str [], .str [], .str [], .str [], .str [], .str [], .str [], .str [], .str [], .str [], .str [], .str [], .str [], .str [], .str [], .str [], .str [], .str [], .str [], .str [], .str [], .str [], .str [], .str [], .str [], .str []] [(0, 1, (.c (.str [97, 103, 97, 105, 110]))), (1, 1, (.c (.str [97, 110, 100]))), (2, 1, (.c (.str [97, 115]))), (3, 1, (.c (.str [97, 116]))), (4, 1, (.c (.str [99, 97, 108, 108]))), (5, 1, (.c (.str [99, 104, 111, 105, 99, 101]))), (6, 1, (.c (.str [101, 108, 115, 101]))), (7, 1, (.c (.str [102, 114, 111, 109]))), (8, 1, (.c (.str [105, 102]))), (9, 1, (.c (.str [105, 110, 116]))), (10, 1, (.c (.str [108, 101, 110]))), (11, 1, (.c (.str [108, 111, 111, 112]))), (12, 1, (.c (.str [109, 101, 115, 115, 97, 103, 101]))), (13, 1, (.c (.str [111, 102]))), (14, 1, (.c (.str [111, 102, 102, 101, 114]))), (15, 1, (.c (.str [111, 110]))), (16, 1, (.c (.str [111, 114]))), (17, 1, (.c (.str [112, 97, 114]))), (18, 1, (.c (.str [112, 108, 97, 121, 115]))), (19, 1, (.c (.str [112, 114, 111, 116, 111, 99, 111, 108]))), (20, 1, (.c (.str [115, 101, 114, 118, 105, 99, 101]))), (21, 1, (.c (.str [116, 101, 120, 116]))), (22, 1, (.c (.str [116, 105, 109, 101, 115]))), (23, 1, (.c (.str [116, 111]))), (24, 1, (.c (.str [118, 97, 114]))), (25, 1, (.c (.str [119, 104, 101, 114, 101]))), (26, 1, (.c (.str [119, 104, 105, 108, 101]))), (27, 1, (.c (.str [119, 105, 116, 104, 105, 110])))]⟩,
      ⟨(some 3), none, .alloc 166 [.str [], .str [], .str [], .str [], .str [], .str [], .str [], .str [], .str [], .str [], .str [], .str [], .str [], .str [], .str [], .str [], .str [], .str [], .str [], .str [], .str [], .str [], .str [], .str [], .str [], .str [], .str [], .str []]⟩,
      ⟨none, none, .store 28 (.t 3) (.t 4)⟩] false)
    (.seq
     (.region [
       ⟨(some 5), none, .mv (.t 0)⟩,
       ⟨(some 6), none, .call 101 [(.t 5)]⟩,
       ⟨(some 7), none, .mv (.t 6)⟩,
       ⟨(some 8), (some (7, true)), .slA 28 1 (.t 3)⟩,
       ⟨(some 9), (some (7, true)), .mv (.t 0)⟩,
       ⟨(some 10), (some (7, true)), .call 102 [(.t 8), (.t 9)]⟩,
       ⟨(some 11), (some (7, true)), .not (.t 10)⟩,
       ⟨(some 12), none, .pick (.t 7) (.t 11) (.c (.bool false))⟩,
       ⟨(some 2), none, .mv (.t 12)⟩] false)
     .ret)))
def r45 : List ERes := [.t 2]
theorem c45 : chkF Tryz.prog Tryz.f45 1 e45 r45 = true := by kernel_rfl
def e101 : EC :=
  (.seq
   (.region [
     ⟨(some 2), none, .mv (.c (.bool false))⟩] false)
   (.seq
    (.seq
     (.region [
       ⟨(some 4), none, .mv (.t 0)⟩,
       ⟨(some 5), none, .bin .eql (.t 4) (.c (.str []))⟩,
       ⟨(some 6), none, .mv (.t 5)⟩,
       ⟨(some 7), (some (6, false)), .mv (.t 0)⟩,
       ⟨(some 8), (some (6, false)), .lenS (.t 7)⟩,
       ⟨(some 9), (some (6, false)), .bin .gtr (.t 8) (.c (.int .i64 16))⟩,
       ⟨(some 10), none, .pick (.t 6) (.c (.bool true)) (.t 9)⟩,
       ⟨(some 11), none, .mv (.t 10)⟩,
       ⟨(some 12), (some (11, false)), .mv (.t 0)⟩,
       ⟨(some 13), (some (11, false)), .idxS (.t 12) (.c (.int .i64 0))⟩,
       ⟨(some 14), (some (11, false)), .call 80 [(.t 13)]⟩,
       ⟨(some 15), (some (11, false)), .not (.t 14)⟩,
       ⟨(some 16), none, .pick (.t 11) (.c (.bool true)) (.t 15)⟩] false)
     (.cond (.t 16)
      (.seq
       (.region [
         ⟨(some 2), none, .mv (.c (.bool false))⟩] false)
       .ret)
      .skip))
    (.seq
     (.seq
      (.region [
        ⟨(some 17), none, .mv (.t 0)⟩,
        ⟨(some 18), none, .lenS (.t 17)⟩,
        ⟨(some 19), none, .mv (.c (.int .i64 0))⟩] false)
      (.block 0
       (.loop
        (.seq
         (.region [
           ⟨(some 20), none, .bin .lss (.t 19) (.t 18)⟩] false)
         (.seq
          (.cond (.t 20)
           .skip
           (.exit 0))
          (.seq
           (.block 1
            (.seq
             (.region [
               ⟨(some 21), none, .mv (.t 19)⟩,
               ⟨(some 3), none, .mv (.t 21)⟩] false)
             (.seq
              (.region [
                ⟨(some 22), none, .mv (.t 0)⟩,
                ⟨(some 23), none, .mv (.t 3)⟩,
                ⟨(some 24), none, .idxS (.t 22) (.t 23)⟩,
                ⟨(some 25), none, .call 149 [(.t 24)]⟩,
                ⟨(some 26), none, .not (.t 25)⟩] false)
              (.cond (.t 26)
               (.seq
                (.region [
                  ⟨(some 2), none, .mv (.c (.bool false))⟩] false)
                .ret)
               .skip))))
           (.region [
             ⟨(some 27), none, .bin .add (.t 19) (.c (.int .i64 1))⟩,
             ⟨(some 19), none, .mv (.t 27)⟩] false)))))))
     (.seq
      (.region [
        ⟨(some 2), none, .mv (.c (.bool true))⟩] false)
      .ret))))
def r101 : List ERes := [.t 2]
theorem c101 : chkF Tryz.prog Tryz.f101 1 e101 r101 = true := by kernel_rfl
def e102 : EC :=
  (.seq
   (.region [
     ⟨(some 4), none, .mv (.c (.bool false))⟩] false)
   (.seq
    (.region [
      ⟨(some 5), none, .mv (.t 0)⟩,
      ⟨(some 6), none, .mv (.t 1)⟩,
      ⟨(some 7), none, .call 159 [(.t 5), (.t 6)]⟩,
      ⟨(some 8), none, .bin .geq (.t 7) (.c (.int .i64 0))⟩,
      ⟨(some 4), none, .mv (.t 8)⟩] false)
    .ret))
def r102 : List ERes := [.t 4]
theorem c102 : chkF Tryz.prog Tryz.f102 2 e102 r102 = true := by kernel_rfl
def e145 : EC :=
  (.seq
   (.region [
     ⟨(some 4), none, .mv (.c (.bool false))⟩] false)
   (.seq
    (.region [
      ⟨(some 5), none, .mv (.t 0)⟩,
      ⟨(some 6), none, .mv (.t 1)⟩,
      ⟨(some 7), none, .call 187 [(.t 5), (.t 6)]⟩,
      ⟨(some 4), none, .mv (.t 7)⟩] false)
    .ret))
def r145 : List ERes := [.t 4]
theorem c145 : chkF Tryz.prog Tryz.f145 2 e145 r145 = true := by kernel_rfl
def e159 : EC :=
  (.seq
   (.region [
     ⟨(some 4), none, .mv (.c (.int .i64 0))⟩] false)
   (.seq
    (.seq
     (.region [
       ⟨(some 6), none, .mv (.t 0)⟩,
       ⟨(some 7), none, .len (.t 6)⟩,
       ⟨(some 8), none, .mv (.c (.int .i64 0))⟩] false)
     (.block 0
      (.loop
       (.seq
        (.region [
          ⟨(some 9), none, .bin .lss (.t 8) (.t 7)⟩] false)
        (.seq
         (.cond (.t 9)
          .skip
          (.exit 0))
         (.seq
          (.block 1
           (.seq
            (.region [
              ⟨(some 10), none, .mv (.t 8)⟩,
              ⟨(some 5), none, .mv (.t 10)⟩] false)
            (.seq
             (.region [
               ⟨(some 11), none, .mv (.t 1)⟩,
               ⟨(some 12), none, .mv (.t 0)⟩,
               ⟨(some 13), none, .mv (.t 5)⟩,
               ⟨(some 14), none, .iaddr 1 (.t 12) (.t 13)⟩,
               ⟨(some 15), none, .load false 1 (.t 14)⟩,
               ⟨(some 16), none, .bin .eql (.t 11) (.t 15)⟩] false)
             (.cond (.t 16)
              (.seq
               (.region [
                 ⟨(some 17), none, .mv (.t 5)⟩,
                 ⟨(some 4), none, .mv (.t 17)⟩] false)
               .ret)
              .skip))))
          (.region [
            ⟨(some 18), none, .bin .add (.t 8) (.c (.int .i64 1))⟩,
            ⟨(some 8), none, .mv (.t 18)⟩] false)))))))
    (.seq
     (.region [
       ⟨(some 4), none, .mv (.c (.int .i64 (-1)))⟩] false)
     .ret)))
def r159 : List ERes := [.t 4]
theorem c159 : chkF Tryz.prog Tryz.f159 2 e159 r159 = true := by kernel_rfl
def e187 : EC :=
  (.seq
   (.region [
     ⟨(some 4), none, .mv (.c (.bool false))⟩] false)
   (.seq
    (.region [
      ⟨(some 5), none, .mv (.t 0)⟩,
      ⟨(some 6), none, .lenS (.t 5)⟩,
      ⟨(some 7), none, .mv (.t 1)⟩,
      ⟨(some 8), none, .lenS (.t 7)⟩,
      ⟨(some 9), none, .bin .geq (.t 6) (.t 8)⟩,
      ⟨(some 10), none, .mv (.t 9)⟩,
      ⟨(some 11), (some (10, true)), .mv (.t 0)⟩,
      ⟨(some 12), (some (10, true)), .mv (.t 1)⟩,
      ⟨(some 13), (some (10, true)), .lenS (.t 12)⟩,
      ⟨(some 14), (some (10, true)), .slS (.t 11) none (some (.t 13))⟩,
      ⟨(some 15), (some (10, true)), .mv (.t 1)⟩,
      ⟨(some 16), (some (10, true)), .bin .eql (.t 14) (.t 15)⟩,
      ⟨(some 17), none, .pick (.t 10) (.t 16) (.c (.bool false))⟩,
      ⟨(some 4), none, .mv (.t 17)⟩] false)
    .ret))
def r187 : List ERes := [.t 4]
theorem c187 : chkF Tryz.prog Tryz.f187 2 e187 r187 = true := by kernel_rfl
def e5 : EC :=
  (.seq
   (.region [
     ⟨(some 2), none, .box 35 (.t 0)⟩,
     ⟨(some 3), none, .box 35 (.t 1)⟩,
     ⟨(some 4), none, .mv (.c (.bool false))⟩] false)
   (.seq
    (.seq
     (.region [
       ⟨(some 5), none, .call 11 []⟩,
       ⟨(some 6), none, .not (.t 5)⟩] false)
     (.cond (.t 6)
      (.seq
       (.region [
         ⟨(some 4), none, .mv (.c (.bool false))⟩] false)
       .ret)
      .skip))
    (.seq
     (.region [
       ⟨(some 7), none, .load true 6 (.t 2)⟩,
       ⟨(some 8), none, .pcall 17 [(.t 7)]⟩,
       ⟨(some 9), none, .not (.t 8)⟩,
       ⟨(some 10), none, .mv (.t 9)⟩,
       ⟨(some 11), (some (10, false)), .load true 6 (.t 3)⟩,
       ⟨(some 12), (some (10, false)), .pcall 17 [(.t 11)]⟩,
       ⟨(some 13), (some (10, false)), .not (.t 12)⟩,
       ⟨(some 14), none, .pick (.t 10) (.c (.bool true)) (.t 13)⟩,
       ⟨(some 15), none, .mv (.t 14)⟩,
       ⟨(some 16), (some (15, false)), .load true 6 (.t 2)⟩,
       ⟨(some 17), (some (15, false)), .pcall 19 [(.t 16)]⟩,
       ⟨(some 18), (some (15, false)), .load true 6 (.t 3)⟩,
       ⟨(some 19), (some (15, false)), .pcall 19 [(.t 18)]⟩,
       ⟨(some 20), (some (15, false)), .pcall 22 [(.t 17), (.t 19)]⟩,
       ⟨(some 21), (some (15, false)), .load true 6 (.t 2)⟩,
       ⟨(some 22), (some (15, false)), .load true 6 (.t 3)⟩,
       ⟨(some 23), (some (15, false)), .pcall 14 [(.t 21), (.t 22)]⟩,
       ⟨(some 24), (some (15, false)), .binB .eql (.t 20) (.t 23)⟩,
       ⟨(some 25), (some (15, false)), .mv (.t 24)⟩,
       ⟨(some 26), (some (25, true)), .load true 6 (.t 2)⟩,
       ⟨(some 27), (some (25, true)), .pcall 19 [(.t 26)]⟩,
       ⟨(some 28), (some (25, true)), .load true 6 (.t 2)⟩,
       ⟨(some 29), (some (25, true)), .pcall 19 [(.t 28)]⟩,
       ⟨(some 30), (some (25, true)), .pcall 22 [(.t 27), (.t 29)]⟩,
       ⟨(some 31), (some (15, false)), .pick (.t 25) (.t 30) (.c (.bool false))⟩,
       ⟨(some 32), none, .pick (.t 15) (.c (.bool true)) (.t 31)⟩,
       ⟨(some 4), none, .mv (.t 32)⟩] true)
     .ret)))
def r5 : List ERes := [.t 4]
theorem c5 : chkF Tryz.prog Tryz.f5 2 e5 r5 = true := by kernel_rfl
def e14 : EC :=
  (.seq
   (.region [
     ⟨(some 2), none, .box 35 (.t 0)⟩,
     ⟨(some 3), none, .box 35 (.t 1)⟩,
     ⟨(some 4), none, .mv (.c (.bool false))⟩] false)
   (.seq
    (.seq
     (.region [
       ⟨(some 12), none, .faddr 0 (.t 2)⟩,
       ⟨(some 13), none, .load false 1 (.t 12)⟩,
       ⟨(some 14), none, .faddr 0 (.t 3)⟩,
       ⟨(some 15), none, .load false 1 (.t 14)⟩,
       ⟨(some 16), none, .bin .neq (.t 13) (.t 15)⟩,
       ⟨(some 17), none, .mv (.t 16)⟩,
       ⟨(some 18), (some (17, false)), .faddr 1 (.t 2)⟩,
       ⟨(some 19), (some (17, false)), .load false 1 (.t 18)⟩,
       ⟨(some 20), (some (17, false)), .faddr 1 (.t 3)⟩,
       ⟨(some 21), (some (17, false)), .load false 1 (.t 20)⟩,
       ⟨(some 22), (some (17, false)), .bin .neq (.t 19) (.t 21)⟩,
       ⟨(some 23), none, .pick (.t 17) (.c (.bool true)) (.t 22)⟩,
       ⟨(some 24), none, .mv (.t 23)⟩,
       ⟨(some 25), (some (24, false)), .faddr 2 (.t 2)⟩,
       ⟨(some 26), (some (24, false)), .load false 1 (.t 25)⟩,
       ⟨(some 27), (some (24, false)), .faddr 2 (.t 3)⟩,
       ⟨(some 28), (some (24, false)), .load false 1 (.t 27)⟩,
       ⟨(some 29), (some (24, false)), .bin .neq (.t 26) (.t 28)⟩,
       ⟨(some 30), none, .pick (.t 24) (.c (.bool true)) (.t 29)⟩,
       ⟨(some 31), none, .mv (.t 30)⟩,
       ⟨(some 32), (some (31, false)), .faddr 3 (.t 2)⟩,
       ⟨(some 33), (some (31, false)), .load false 1 (.t 32)⟩,
       ⟨(some 34), (some (31, false)), .len (.t 33)⟩,
       ⟨(some 35), (some (31, false)), .faddr 3 (.t 3)⟩,
       ⟨(some 36), (some (31, false)), .load false 1 (.t 35)⟩,
       ⟨(some 37), (some (31, false)), .len (.t 36)⟩,
       ⟨(some 38), (some (31, false)), .bin .neq (.t 34) (.t 37)⟩,
       ⟨(some 39), none, .pick (.t 31) (.c (.bool true)) (.t 38)⟩,
       ⟨(some 40), none, .mv (.t 39)⟩,
       ⟨(some 41), (some (40, false)), .faddr 4 (.t 2)⟩,
       ⟨(some 42), (some (40, false)), .load false 1 (.t 41)⟩,
       ⟨(some 43), (some (40, false)), .len (.t 42)⟩,
       ⟨(some 44), (some (40, false)), .faddr 4 (.t 3)⟩,
       ⟨(some 45), (some (40, false)), .load false 1 (.t 44)⟩,
       ⟨(some 46), (some (40, false)), .len (.t 45)⟩,
       ⟨(some 47), (some (40, false)), .bin .neq (.t 43) (.t 46)⟩,
       ⟨(some 48), none, .pick (.t 40) (.c (.bool true)) (.t 47)⟩,
       ⟨(some 49), none, .mv (.t 48)⟩,
       ⟨(some 50), (some (49, false)), .faddr 5 (.t 2)⟩,
       ⟨(some 51), (some (49, false)), .load false 1 (.t 50)⟩,
       ⟨(some 52), (some (49, false)), .len (.t 51)⟩,
       ⟨(some 53), (some (49, false)), .faddr 5 (.t 3)⟩,
       ⟨(some 54), (some (49, false)), .load false 1 (.t 53)⟩,
       ⟨(some 55), (some (49, false)), .len (.t 54)⟩,
       ⟨(some 56), (some (49, false)), .bin .neq (.t 52) (.t 55)⟩,
       ⟨(some 57), none, .pick (.t 49) (.c (.bool true)) (.t 56)⟩] false)
     (.cond (.t 57)
      (.seq
       (.region [
         ⟨(some 4), none, .mv (.c (.bool false))⟩] false)
       .ret)
      .skip))
    (.seq
     (.seq
      (.region [
        ⟨(some 5), none, .mv (.c (.int .i64 0))⟩] false)
      (.block 0
       (.loop
        (.seq
         (.seq
          (.region [
            ⟨(some 58), none, .mv (.t 5)⟩,
            ⟨(some 59), none, .faddr 3 (.t 2)⟩,
            ⟨(some 60), none, .load false 1 (.t 59)⟩,
            ⟨(some 61), none, .len (.t 60)⟩,
            ⟨(some 62), none, .bin .lss (.t 58) (.t 61)⟩] false)
          (.cond (.t 62)
           .skip
           (.exit 0)))
         (.seq
          (.block 1
           (.seq
            (.region [
              ⟨(some 65), none, .faddr 3 (.t 2)⟩,
              ⟨(some 66), none, .load false 1 (.t 65)⟩,
              ⟨(some 67), none, .mv (.t 5)⟩,
              ⟨(some 68), none, .iaddr 7 (.t 66) (.t 67)⟩,
              ⟨(some 69), none, .load true 7 (.t 68)⟩,
              ⟨(some 70), none, .faddr 3 (.t 3)⟩,
              ⟨(some 71), none, .load false 1 (.t 70)⟩,
              ⟨(some 72), none, .mv (.t 5)⟩,
              ⟨(some 73), none, .iaddr 7 (.t 71) (.t 72)⟩,
              ⟨(some 74), none, .load true 7 (.t 73)⟩,
              ⟨(some 75), none, .eqA true 95 [.s, .i .i64, .i .i64, .i .i64, .i .i64, .i .i64, .s] (.t 69) (.t 74)⟩] true)
            (.cond (.t 75)
             (.seq
              (.region [
                ⟨(some 4), none, .mv (.c (.bool false))⟩] false)
              .ret)
             .skip)))
          (.region [
            ⟨(some 63), none, .mv (.t 5)⟩,
            ⟨(some 64), none, .bin .add (.t 63) (.c (.int .i64 1))⟩,
            ⟨(some 5), none, .mv (.t 64)⟩] false))))))
     (.seq
      (.seq
       (.region [
         ⟨(some 6), none, .mv (.c (.int .i64 0))⟩] false)
       (.block 2
        (.loop
         (.seq
          (.seq
           (.region [
             ⟨(some 76), none, .mv (.t 6)⟩,
             ⟨(some 77), none, .faddr 4 (.t 2)⟩,
             ⟨(some 78), none, .load false 1 (.t 77)⟩,
             ⟨(some 79), none, .len (.t 78)⟩,
             ⟨(some 80), none, .bin .lss (.t 76) (.t 79)⟩] false)
           (.cond (.t 80)
            .skip
            (.exit 2)))
          (.seq
           (.block 3
            (.seq
             (.region [
               ⟨(some 83), none, .faddr 4 (.t 2)⟩,
               ⟨(some 84), none, .load false 1 (.t 83)⟩,
               ⟨(some 85), none, .mv (.t 6)⟩,
               ⟨(some 86), none, .iaddr 4 (.t 84) (.t 85)⟩,
               ⟨(some 87), none, .load true 4 (.t 86)⟩,
               ⟨(some 88), none, .faddr 4 (.t 3)⟩,
               ⟨(some 89), none, .loadD 3 false 1 (.t 88)⟩,
               ⟨(some 90), none, .mv (.t 6)⟩,
               ⟨(some 91), none, .iaddr 4 (.t 89) (.t 90)⟩,
               ⟨(some 92), none, .loadR true 4 (.t 91)⟩,
               ⟨(some 7), none, .alloc 99 [.str [], .str [], .nilS, .nilS]⟩,
               ⟨(some 8), none, .alloc 99 [.str [], .str [], .nilS, .nilS]⟩,
               ⟨none, none, .storeD 7 [3] 4 (.t 7) (.t 87)⟩,
               ⟨none, none, .store 4 (.t 8) (.t 92)⟩] true)
             (.seq
              (.region [
                ⟨(some 93), none, .faddr 0 (.t 7)⟩,
                ⟨(some 94), none, .load false 1 (.t 93)⟩,
                ⟨(some 95), none, .faddr 0 (.t 8)⟩,
                ⟨(some 96), none, .load false 1 (.t 95)⟩,
                ⟨(some 97), none, .bin .neq (.t 94) (.t 96)⟩,
                ⟨(some 98), none, .mv (.t 97)⟩,
                ⟨(some 99), (some (98, false)), .faddr 1 (.t 7)⟩,
                ⟨(some 100), (some (98, false)), .load false 1 (.t 99)⟩,
                ⟨(some 101), (some (98, false)), .faddr 1 (.t 8)⟩,
                ⟨(some 102), (some (98, false)), .load false 1 (.t 101)⟩,
                ⟨(some 103), (some (98, false)), .bin .neq (.t 100) (.t 102)⟩,
                ⟨(some 104), none, .pick (.t 98) (.c (.bool true)) (.t 103)⟩,
                ⟨(some 105), none, .mv (.t 104)⟩,
                ⟨(some 106), (some (105, false)), .faddr 2 (.t 7)⟩,
                ⟨(some 107), (some (105, false)), .load false 1 (.t 106)⟩,
                ⟨(some 108), (some (105, false)), .faddr 2 (.t 8)⟩,
                ⟨(some 109), (some (105, false)), .load false 1 (.t 108)⟩,
                ⟨(some 110), (some (105, false)), .call 40 [(.t 107), (.t 109)]⟩,
                ⟨(some 111), (some (105, false)), .not (.t 110)⟩,
                ⟨(some 112), none, .pick (.t 105) (.c (.bool true)) (.t 111)⟩,
                ⟨(some 113), none, .mv (.t 112)⟩,
                ⟨(some 114), (some (113, false)), .faddr 3 (.t 7)⟩,
                ⟨(some 115), (some (113, false)), .load false 1 (.t 114)⟩,
                ⟨(some 116), (some (113, false)), .faddr 3 (.t 8)⟩,
                ⟨(some 117), (some (113, false)), .load false 1 (.t 116)⟩,
                ⟨(some 118), (some (113, false)), .call 41 [(.t 115), (.t 117)]⟩,
                ⟨(some 119), (some (113, false)), .not (.t 118)⟩,
                ⟨(some 120), none, .pick (.t 113) (.c (.bool true)) (.t 119)⟩] false)
              (.cond (.t 120)
               (.seq
                (.region [
                  ⟨(some 4), none, .mv (.c (.bool false))⟩] false)
                .ret)
               .skip))))
           (.region [
             ⟨(some 81), none, .mv (.t 6)⟩,
             ⟨(some 82), none, .bin .add (.t 81) (.c (.int .i64 1))⟩,
             ⟨(some 6), none, .mv (.t 82)⟩] false))))))
      (.seq
       (.seq
        (.region [
          ⟨(some 9), none, .mv (.c (.int .i64 0))⟩] false)
        (.block 4
         (.loop
          (.seq
           (.seq
            (.region [
              ⟨(some 121), none, .mv (.t 9)⟩,
              ⟨(some 122), none, .faddr 5 (.t 2)⟩,
              ⟨(some 123), none, .load false 1 (.t 122)⟩,
              ⟨(some 124), none, .len (.t 123)⟩,
              ⟨(some 125), none, .bin .lss (.t 121) (.t 124)⟩] false)
            (.cond (.t 125)
             .skip
             (.exit 4)))
           (.seq
            (.block 5
             (.seq
              (.region [
                ⟨(some 128), none, .faddr 5 (.t 2)⟩,
                ⟨(some 129), none, .load false 1 (.t 128)⟩,
                ⟨(some 130), none, .mv (.t 9)⟩,
                ⟨(some 131), none, .iaddr 4 (.t 129) (.t 130)⟩,
                ⟨(some 132), none, .load true 4 (.t 131)⟩,
                ⟨(some 133), none, .faddr 5 (.t 3)⟩,
                ⟨(some 134), none, .loadD 3 false 1 (.t 133)⟩,
                ⟨(some 135), none, .mv (.t 9)⟩,
                ⟨(some 136), none, .iaddr 4 (.t 134) (.t 135)⟩,
                ⟨(some 137), none, .loadR true 4 (.t 136)⟩,
                ⟨(some 10), none, .alloc 66 [.str [], .str [], .nilS, .nilS]⟩,
                ⟨(some 11), none, .alloc 66 [.str [], .str [], .nilS, .nilS]⟩,
                ⟨none, none, .storeD 10 [3] 4 (.t 10) (.t 132)⟩,
                ⟨none, none, .store 4 (.t 11) (.t 137)⟩] true)
              (.seq
               (.region [
                 ⟨(some 138), none, .faddr 0 (.t 10)⟩,
                 ⟨(some 139), none, .load false 1 (.t 138)⟩,
                 ⟨(some 140), none, .faddr 0 (.t 11)⟩,
                 ⟨(some 141), none, .load false 1 (.t 140)⟩,
                 ⟨(some 142), none, .bin .neq (.t 139) (.t 141)⟩,
                 ⟨(some 143), none, .mv (.t 142)⟩,
                 ⟨(some 144), (some (143, false)), .faddr 1 (.t 10)⟩,
                 ⟨(some 145), (some (143, false)), .load false 1 (.t 144)⟩,
                 ⟨(some 146), (some (143, false)), .faddr 1 (.t 11)⟩,
                 ⟨(some 147), (some (143, false)), .load false 1 (.t 146)⟩,
                 ⟨(some 148), (some (143, false)), .bin .neq (.t 145) (.t 147)⟩,
                 ⟨(some 149), none, .pick (.t 143) (.c (.bool true)) (.t 148)⟩,
                 ⟨(some 150), none, .mv (.t 149)⟩,
                 ⟨(some 151), (some (150, false)), .faddr 2 (.t 10)⟩,
                 ⟨(some 152), (some (150, false)), .load false 1 (.t 151)⟩,
                 ⟨(some 153), (some (150, false)), .faddr 2 (.t 11)⟩,
                 ⟨(some 154), (some (150, false)), .load false 1 (.t 153)⟩,
                 ⟨(some 155), (some (150, false)), .call 42 [(.t 152), (.t 154)]⟩,
                 ⟨(some 156), (some (150, false)), .not (.t 155)⟩,
                 ⟨(some 157), none, .pick (.t 150) (.c (.bool true)) (.t 156)⟩,
                 ⟨(some 158), none, .mv (.t 157)⟩,
                 ⟨(some 159), (some (158, false)), .faddr 3 (.t 10)⟩,
                 ⟨(some 160), (some (158, false)), .load false 1 (.t 159)⟩,
                 ⟨(some 161), (some (158, false)), .faddr 3 (.t 11)⟩,
                 ⟨(some 162), (some (158, false)), .load false 1 (.t 161)⟩,
                 ⟨(some 163), (some (158, false)), .call 42 [(.t 160), (.t 162)]⟩,
                 ⟨(some 164), (some (158, false)), .not (.t 163)⟩,
                 ⟨(some 165), none, .pick (.t 158) (.c (.bool true)) (.t 164)⟩] false)
               (.cond (.t 165)
                (.seq
                 (.region [
                   ⟨(some 4), none, .mv (.c (.bool false))⟩] false)
                 .ret)
                .skip))))
            (.region [
              ⟨(some 126), none, .mv (.t 9)⟩,
              ⟨(some 127), none, .bin .add (.t 126) (.c (.int .i64 1))⟩,
              ⟨(some 9), none, .mv (.t 127)⟩] false))))))
       (.seq
        (.region [
          ⟨(some 4), none, .mv (.c (.bool true))⟩] false)
        .ret))))))
def r14 : List ERes := [.t 4]
theorem c14 : chkF Tryz.prog Tryz.f14 2 e14 r14 = true := by kernel_rfl
def e17 : EC :=
  (.seq
   (.region [
     ⟨(some 1), none, .box 35 (.t 0)⟩,
     ⟨(some 2), none, .mv (.c (.bool false))⟩] false)
   (.seq
    (.region [
      ⟨(some 3), none, .mv (.c (.int .i64 0))⟩] false)
    (.seq
     (.seq
      (.region [
        ⟨(some 4), none, .mv (.c (.int .i64 0))⟩] false)
      (.block 0
       (.loop
        (.seq
         (.seq
          (.region [
            ⟨(some 6), none, .mv (.t 4)⟩,
            ⟨(some 7), none, .faddr 4 (.t 1)⟩,
            ⟨(some 8), none, .load false 1 (.t 7)⟩,
            ⟨(some 9), none, .len (.t 8)⟩,
            ⟨(some 10), none, .bin .lss (.t 6) (.t 9)⟩] false)
          (.cond (.t 10)
           .skip
           (.exit 0)))
         (.seq
          (.block 1
           (.seq
            (.seq
             (.region [
               ⟨(some 13), none, .faddr 4 (.t 1)⟩,
               ⟨(some 14), none, .load false 1 (.t 13)⟩,
               ⟨(some 15), none, .mv (.t 4)⟩,
               ⟨(some 16), none, .iaddr 4 (.t 14) (.t 15)⟩,
               ⟨(some 17), none, .faddr 2 (.t 16)⟩,
               ⟨(some 18), none, .load false 1 (.t 17)⟩,
               ⟨(some 19), none, .len (.t 18)⟩,
               ⟨(some 20), none, .bin .gtr (.t 19) (.c (.int .i64 60))⟩] false)
             (.cond (.t 20)
              (.seq
               (.region [
                 ⟨(some 2), none, .mv (.c (.bool false))⟩] false)
               .ret)
              .skip))
            (.region [
              ⟨(some 21), none, .mv (.t 3)⟩,
              ⟨(some 22), none, .faddr 4 (.t 1)⟩,
              ⟨(some 23), none, .load false 1 (.t 22)⟩,
              ⟨(some 24), none, .mv (.t 4)⟩,
              ⟨(some 25), none, .iaddr 4 (.t 23) (.t 24)⟩,
              ⟨(some 26), none, .faddr 3 (.t 25)⟩,
              ⟨(some 27), none, .load false 1 (.t 26)⟩,
              ⟨(some 28), none, .call 53 [(.t 27)]⟩,
              ⟨(some 29), none, .bin .add (.t 21) (.t 28)⟩,
              ⟨(some 3), none, .mv (.t 29)⟩] false)))
          (.region [
            ⟨(some 11), none, .mv (.t 4)⟩,
            ⟨(some 12), none, .bin .add (.t 11) (.c (.int .i64 1))⟩,
            ⟨(some 4), none, .mv (.t 12)⟩] false))))))
     (.seq
      (.seq
       (.region [
         ⟨(some 5), none, .mv (.c (.int .i64 0))⟩] false)
       (.block 2
        (.loop
         (.seq
          (.seq
           (.region [
             ⟨(some 30), none, .mv (.t 5)⟩,
             ⟨(some 31), none, .faddr 5 (.t 1)⟩,
             ⟨(some 32), none, .load false 1 (.t 31)⟩,
             ⟨(some 33), none, .len (.t 32)⟩,
             ⟨(some 34), none, .bin .lss (.t 30) (.t 33)⟩] false)
           (.cond (.t 34)
            .skip
            (.exit 2)))
          (.seq
           (.block 3
            (.region [
              ⟨(some 37), none, .mv (.t 3)⟩,
              ⟨(some 38), none, .faddr 5 (.t 1)⟩,
              ⟨(some 39), none, .load false 1 (.t 38)⟩,
              ⟨(some 40), none, .mv (.t 5)⟩,
              ⟨(some 41), none, .iaddr 4 (.t 39) (.t 40)⟩,
              ⟨(some 42), none, .faddr 2 (.t 41)⟩,
              ⟨(some 43), none, .load false 1 (.t 42)⟩,
              ⟨(some 44), none, .pcall 54 [(.t 43)]⟩,
              ⟨(some 45), none, .faddr 5 (.t 1)⟩,
              ⟨(some 46), none, .load false 1 (.t 45)⟩,
              ⟨(some 47), none, .mv (.t 5)⟩,
              ⟨(some 48), none, .iaddr 4 (.t 46) (.t 47)⟩,
              ⟨(some 49), none, .faddr 3 (.t 48)⟩,
              ⟨(some 50), none, .load false 1 (.t 49)⟩,
              ⟨(some 51), none, .pcall 54 [(.t 50)]⟩,
              ⟨(some 52), none, .bin .add (.t 44) (.t 51)⟩,
              ⟨(some 53), none, .bin .add (.t 37) (.t 52)⟩,
              ⟨(some 3), none, .mv (.t 53)⟩] true))
           (.region [
             ⟨(some 35), none, .mv (.t 5)⟩,
             ⟨(some 36), none, .bin .add (.t 35) (.c (.int .i64 1))⟩,
             ⟨(some 5), none, .mv (.t 36)⟩] false))))))
      (.seq
       (.region [
         ⟨(some 54), none, .mv (.t 3)⟩,
         ⟨(some 55), none, .bin .leq (.t 54) (.c (.int .i64 500))⟩,
         ⟨(some 56), none, .mv (.t 55)⟩,
         ⟨(some 57), (some (56, true)), .faddr 3 (.t 1)⟩,
         ⟨(some 58), (some (56, true)), .load false 1 (.t 57)⟩,
         ⟨(some 59), (some (56, true)), .len (.t 58)⟩,
         ⟨(some 60), (some (56, true)), .bin .leq (.t 59) (.c (.int .i64 60))⟩,
         ⟨(some 61), none, .pick (.t 56) (.t 60) (.c (.bool false))⟩,
         ⟨(some 62), none, .mv (.t 61)⟩,
         ⟨(some 63), (some (62, true)), .faddr 4 (.t 1)⟩,
         ⟨(some 64), (some (62, true)), .load false 1 (.t 63)⟩,
         ⟨(some 65), (some (62, true)), .len (.t 64)⟩,
         ⟨(some 66), (some (62, true)), .bin .leq (.t 65) (.c (.int .i64 60))⟩,
         ⟨(some 67), none, .pick (.t 62) (.t 66) (.c (.bool false))⟩,
         ⟨(some 68), none, .mv (.t 67)⟩,
         ⟨(some 69), (some (68, true)), .faddr 5 (.t 1)⟩,
         ⟨(some 70), (some (68, true)), .load false 1 (.t 69)⟩,
         ⟨(some 71), (some (68, true)), .len (.t 70)⟩,
         ⟨(some 72), (some (68, true)), .bin .leq (.t 71) (.c (.int .i64 60))⟩,
         ⟨(some 73), none, .pick (.t 68) (.t 72) (.c (.bool false))⟩,
         ⟨(some 2), none, .mv (.t 73)⟩] false)
       .ret)))))
def r17 : List ERes := [.t 2]
theorem c17 : chkF Tryz.prog Tryz.f17 1 e17 r17 = true := by kernel_rfl
def e19 : EC :=
  (.seq
   (.region [
     ⟨(some 1), none, .box 35 (.t 0)⟩,
     ⟨(some 2), none, .alloc 27 [.str [], .str [], .str [], .nilS, .nilS, .nilS]⟩] false)
   (.seq
    (.region [
      ⟨(some 9), none, .faddr 0 (.t 1)⟩,
      ⟨(some 10), none, .load false 1 (.t 9)⟩,
      ⟨(some 11), none, .faddr 1 (.t 1)⟩,
      ⟨(some 12), none, .load false 1 (.t 11)⟩,
      ⟨(some 13), none, .faddr 2 (.t 1)⟩,
      ⟨(some 14), none, .load false 1 (.t 13)⟩,
      ⟨(some 15), none, .build [.str [], .str [], .str [], .nilS, .nilS, .nilS] [(0, 1, (.t 10)), (1, 1, (.t 12)), (2, 1, (.t 14))]⟩,
      ⟨(some 3), none, .alloc 27 [.str [], .str [], .str [], .nilS, .nilS, .nilS]⟩,
      ⟨none, none, .store 6 (.t 3) (.t 15)⟩] false)
    (.seq
     (.seq
      (.region [
        ⟨(some 4), none, .mv (.c (.int .i64 0))⟩] false)
      (.block 0
       (.loop
        (.seq
         (.seq
          (.region [
            ⟨(some 16), none, .mv (.t 4)⟩,
            ⟨(some 17), none, .faddr 3 (.t 1)⟩,
            ⟨(some 18), none, .load false 1 (.t 17)⟩,
            ⟨(some 19), none, .len (.t 18)⟩,
            ⟨(some 20), none, .bin .lss (.t 16) (.t 19)⟩] false)
          (.cond (.t 20)
           .skip
           (.exit 0)))
         (.seq
          (.block 1
           (.region [
             ⟨(some 23), none, .faddr 3 (.t 3)⟩,
             ⟨(some 24), none, .load false 1 (.t 23)⟩,
             ⟨(some 25), none, .faddr 3 (.t 1)⟩,
             ⟨(some 26), none, .load false 1 (.t 25)⟩,
             ⟨(some 27), none, .mv (.t 4)⟩,
             ⟨(some 28), none, .iaddr 7 (.t 26) (.t 27)⟩,
             ⟨(some 29), none, .load true 7 (.t 28)⟩,
             ⟨(some 30), none, .bslice 106 7 1 [.str [], .int .i64 0, .int .i64 0, .int .i64 0, .int .i64 0, .int .i64 0, .str []] [(0, (.t 29))]⟩,
             ⟨(some 31), none, .append 106 7 72 (.t 24) (.t 30)⟩,
             ⟨(some 32), none, .faddr 3 (.t 3)⟩,
             ⟨none, none, .store 1 (.t 32) (.t 31)⟩] true))
          (.region [
            ⟨(some 21), none, .mv (.t 4)⟩,
            ⟨(some 22), none, .bin .add (.t 21) (.c (.int .i64 1))⟩,
            ⟨(some 4), none, .mv (.t 22)⟩] false))))))
     (.seq
      (.seq
       (.region [
         ⟨(some 5), none, .mv (.c (.int .i64 0))⟩] false)
       (.block 2
        (.loop
         (.seq
          (.seq
           (.region [
             ⟨(some 33), none, .mv (.t 5)⟩,
             ⟨(some 34), none, .faddr 4 (.t 1)⟩,
             ⟨(some 35), none, .load false 1 (.t 34)⟩,
             ⟨(some 36), none, .len (.t 35)⟩,
             ⟨(some 37), none, .bin .lss (.t 33) (.t 36)⟩] false)
           (.cond (.t 37)
            .skip
            (.exit 2)))
          (.seq
           (.block 3
            (.seq
             (.region [
               ⟨(some 40), none, .faddr 4 (.t 1)⟩,
               ⟨(some 41), none, .load false 1 (.t 40)⟩,
               ⟨(some 42), none, .mv (.t 5)⟩,
               ⟨(some 43), none, .iaddr 4 (.t 41) (.t 42)⟩,
               ⟨(some 44), none, .load true 4 (.t 43)⟩,
               ⟨(some 6), none, .alloc 99 [.str [], .str [], .nilS, .nilS]⟩,
               ⟨none, none, .store 4 (.t 6) (.t 44)⟩] false)
             (.region [
               ⟨(some 45), none, .faddr 4 (.t 3)⟩,
               ⟨(some 46), none, .load false 1 (.t 45)⟩,
               ⟨(some 47), none, .faddr 0 (.t 6)⟩,
               ⟨(some 48), none, .load false 1 (.t 47)⟩,
               ⟨(some 49), none, .faddr 1 (.t 6)⟩,
               ⟨(some 50), none, .load false 1 (.t 49)⟩,
               ⟨(some 51), none, .faddr 2 (.t 6)⟩,
               ⟨(some 52), none, .load false 1 (.t 51)⟩,
               ⟨(some 53), none, .faddr 3 (.t 6)⟩,
               ⟨(some 54), none, .load false 1 (.t 53)⟩,
               ⟨(some 55), none, .pcall 55 [(.t 54)]⟩,
               ⟨(some 56), none, .build [.str [], .str [], .nilS, .nilS] [(0, 1, (.t 48)), (1, 1, (.t 50)), (2, 1, (.t 52)), (3, 1, (.t 55))]⟩,
               ⟨(some 57), none, .bslice 109 4 1 [.str [], .str [], .nilS, .nilS] [(0, (.t 56))]⟩,
               ⟨(some 58), none, .append 109 4 80 (.t 46) (.t 57)⟩,
               ⟨(some 59), none, .faddr 4 (.t 3)⟩,
               ⟨none, none, .store 1 (.t 59) (.t 58)⟩] true)))
           (.region [
             ⟨(some 38), none, .mv (.t 5)⟩,
             ⟨(some 39), none, .bin .add (.t 38) (.c (.int .i64 1))⟩,
             ⟨(some 5), none, .mv (.t 39)⟩] false))))))
      (.seq
       (.seq
        (.region [
          ⟨(some 7), none, .mv (.c (.int .i64 0))⟩] false)
        (.block 4
         (.loop
          (.seq
           (.seq
            (.region [
              ⟨(some 60), none, .mv (.t 7)⟩,
              ⟨(some 61), none, .faddr 5 (.t 1)⟩,
              ⟨(some 62), none, .load false 1 (.t 61)⟩,
              ⟨(some 63), none, .len (.t 62)⟩,
              ⟨(some 64), none, .bin .lss (.t 60) (.t 63)⟩] false)
            (.cond (.t 64)
             .skip
             (.exit 4)))
           (.seq
            (.block 5
             (.seq
              (.region [
                ⟨(some 67), none, .faddr 5 (.t 1)⟩,
                ⟨(some 68), none, .load false 1 (.t 67)⟩,
                ⟨(some 69), none, .mv (.t 7)⟩,
                ⟨(some 70), none, .iaddr 4 (.t 68) (.t 69)⟩,
                ⟨(some 71), none, .load true 4 (.t 70)⟩,
                ⟨(some 8), none, .alloc 66 [.str [], .str [], .nilS, .nilS]⟩,
                ⟨none, none, .store 4 (.t 8) (.t 71)⟩] false)
              (.region [
                ⟨(some 72), none, .faddr 5 (.t 3)⟩,
                ⟨(some 73), none, .load false 1 (.t 72)⟩,
                ⟨(some 74), none, .faddr 0 (.t 8)⟩,
                ⟨(some 75), none, .load false 1 (.t 74)⟩,
                ⟨(some 76), none, .faddr 1 (.t 8)⟩,
                ⟨(some 77), none, .load false 1 (.t 76)⟩,
                ⟨(some 78), none, .faddr 2 (.t 8)⟩,
                ⟨(some 79), none, .load false 1 (.t 78)⟩,
                ⟨(some 80), none, .pcall 56 [(.t 79)]⟩,
                ⟨(some 81), none, .faddr 3 (.t 8)⟩,
                ⟨(some 82), none, .load false 1 (.t 81)⟩,
                ⟨(some 83), none, .pcall 56 [(.t 82)]⟩,
                ⟨(some 84), none, .build [.str [], .str [], .nilS, .nilS] [(0, 1, (.t 75)), (1, 1, (.t 77)), (2, 1, (.t 80)), (3, 1, (.t 83))]⟩,
                ⟨(some 85), none, .bslice 74 4 1 [.str [], .str [], .nilS, .nilS] [(0, (.t 84))]⟩,
                ⟨(some 86), none, .append 74 4 80 (.t 73) (.t 85)⟩,
                ⟨(some 87), none, .faddr 5 (.t 3)⟩,
                ⟨none, none, .store 1 (.t 87) (.t 86)⟩] true)))
            (.region [
              ⟨(some 65), none, .mv (.t 7)⟩,
              ⟨(some 66), none, .bin .add (.t 65) (.c (.int .i64 1))⟩,
              ⟨(some 7), none, .mv (.t 66)⟩] false))))))
       (.seq
        (.region [
          ⟨(some 88), none, .load true 6 (.t 3)⟩,
          ⟨none, none, .store 6 (.t 2) (.t 88)⟩] false)
        .ret))))))
def r19 : List ERes := [.cell true 6 2]
theorem c19 : chkF Tryz.prog Tryz.f19 1 e19 r19 = true := by kernel_rfl
def e40 : EC :=
  (.seq
   (.region [
     ⟨(some 4), none, .mv (.c (.bool false))⟩] false)
   (.seq
    (.seq
     (.region [
       ⟨(some 6), none, .mv (.t 0)⟩,
       ⟨(some 7), none, .len (.t 6)⟩,
       ⟨(some 8), none, .mv (.t 1)⟩,
       ⟨(some 9), none, .len (.t 8)⟩,
       ⟨(some 10), none, .bin .neq (.t 7) (.t 9)⟩] false)
     (.cond (.t 10)
      (.seq
       (.region [
         ⟨(some 4), none, .mv (.c (.bool false))⟩] false)
       .ret)
      .skip))
    (.seq
     (.seq
      (.region [
        ⟨(some 5), none, .mv (.c (.int .i64 0))⟩] false)
      (.block 0
       (.loop
        (.seq
         (.seq
          (.region [
            ⟨(some 11), none, .mv (.t 5)⟩,
            ⟨(some 12), none, .mv (.t 0)⟩,
            ⟨(some 13), none, .len (.t 12)⟩,
            ⟨(some 14), none, .bin .lss (.t 11) (.t 13)⟩] false)
          (.cond (.t 14)
           .skip
           (.exit 0)))
         (.seq
          (.block 1
           (.seq
            (.region [
              ⟨(some 17), none, .mv (.t 0)⟩,
              ⟨(some 18), none, .mv (.t 5)⟩,
              ⟨(some 19), none, .iaddr 1 (.t 17) (.t 18)⟩,
              ⟨(some 20), none, .load false 1 (.t 19)⟩,
              ⟨(some 21), none, .mv (.t 1)⟩,
              ⟨(some 22), none, .mv (.t 5)⟩,
              ⟨(some 23), none, .iaddr 1 (.t 21) (.t 22)⟩,
              ⟨(some 24), none, .load false 1 (.t 23)⟩,
              ⟨(some 25), none, .bin .neq (.t 20) (.t 24)⟩] true)
            (.cond (.t 25)
             (.seq
              (.region [
                ⟨(some 4), none, .mv (.c (.bool false))⟩] false)
              .ret)
             .skip)))
          (.region [
            ⟨(some 15), none, .mv (.t 5)⟩,
            ⟨(some 16), none, .bin .add (.t 15) (.c (.int .i64 1))⟩,
            ⟨(some 5), none, .mv (.t 16)⟩] false))))))
     (.seq
      (.region [
        ⟨(some 4), none, .mv (.c (.bool true))⟩] false)
      .ret))))
def r40 : List ERes := [.t 4]
theorem c40 : chkF Tryz.prog Tryz.f40 2 e40 r40 = true := by kernel_rfl
def e41 : EC :=
  (.seq
   (.region [
     ⟨(some 4), none, .mv (.c (.bool false))⟩] false)
   (.seq
    (.seq
     (.region [
       ⟨(some 8), none, .mv (.t 0)⟩,
       ⟨(some 9), none, .len (.t 8)⟩,
       ⟨(some 10), none, .mv (.t 1)⟩,
       ⟨(some 11), none, .len (.t 10)⟩,
       ⟨(some 12), none, .bin .neq (.t 9) (.t 11)⟩] false)
     (.cond (.t 12)
      (.seq
       (.region [
         ⟨(some 4), none, .mv (.c (.bool false))⟩] false)
       .ret)
      .skip))
    (.seq
     (.seq
      (.region [
        ⟨(some 5), none, .mv (.c (.int .i64 0))⟩] false)
      (.block 0
       (.loop
        (.seq
         (.seq
          (.region [
            ⟨(some 13), none, .mv (.t 5)⟩,
            ⟨(some 14), none, .mv (.t 0)⟩,
            ⟨(some 15), none, .len (.t 14)⟩,
            ⟨(some 16), none, .bin .lss (.t 13) (.t 15)⟩] false)
          (.cond (.t 16)
           .skip
           (.exit 0)))
         (.seq
          (.block 1
           (.seq
            (.region [
              ⟨(some 19), none, .mv (.t 0)⟩,
              ⟨(some 20), none, .mv (.t 5)⟩,
              ⟨(some 21), none, .iaddr 11 (.t 19) (.t 20)⟩,
              ⟨(some 22), none, .loadR true 11 (.t 21)⟩,
              ⟨(some 23), none, .mv (.t 1)⟩,
              ⟨(some 24), none, .mv (.t 5)⟩,
              ⟨(some 25), none, .iaddr 11 (.t 23) (.t 24)⟩,
              ⟨(some 26), none, .loadR true 11 (.t 25)⟩,
              ⟨(some 6), none, .alloc 165 [.int .i64 0, .str [], .int .i64 0, .str [], .str [], .str [], .int .i64 0, .nilS, .int .i64 0, .nilS, .nilS]⟩,
              ⟨(some 7), none, .alloc 165 [.int .i64 0, .str [], .int .i64 0, .str [], .str [], .str [], .int .i64 0, .nilS, .int .i64 0, .nilS, .nilS]⟩,
              ⟨none, none, .store 11 (.t 6) (.t 22)⟩,
              ⟨none, none, .store 11 (.t 7) (.t 26)⟩] true)
            (.seq
             (.region [
               ⟨(some 27), none, .faddr 0 (.t 6)⟩,
               ⟨(some 28), none, .load false 1 (.t 27)⟩,
               ⟨(some 29), none, .faddr 0 (.t 7)⟩,
               ⟨(some 30), none, .load false 1 (.t 29)⟩,
               ⟨(some 31), none, .bin .neq (.t 28) (.t 30)⟩,
               ⟨(some 32), none, .mv (.t 31)⟩,
               ⟨(some 33), (some (32, false)), .faddr 1 (.t 6)⟩,
               ⟨(some 34), (some (32, false)), .load false 1 (.t 33)⟩,
               ⟨(some 35), (some (32, false)), .faddr 1 (.t 7)⟩,
               ⟨(some 36), (some (32, false)), .load false 1 (.t 35)⟩,
               ⟨(some 37), (some (32, false)), .bin .neq (.t 34) (.t 36)⟩,
               ⟨(some 38), none, .pick (.t 32) (.c (.bool true)) (.t 37)⟩,
               ⟨(some 39), none, .mv (.t 38)⟩,
               ⟨(some 40), (some (39, false)), .faddr 8 (.t 6)⟩,
               ⟨(some 41), (some (39, false)), .load false 1 (.t 40)⟩,
               ⟨(some 42), (some (39, false)), .faddr 8 (.t 7)⟩,
               ⟨(some 43), (some (39, false)), .load false 1 (.t 42)⟩,
               ⟨(some 44), (some (39, false)), .bin .neq (.t 41) (.t 43)⟩,
               ⟨(some 45), none, .pick (.t 39) (.c (.bool true)) (.t 44)⟩,
               ⟨(some 46), none, .mv (.t 45)⟩,
               ⟨(some 47), (some (46, false)), .faddr 2 (.t 6)⟩,
               ⟨(some 48), (some (46, false)), .load true 6 (.t 47)⟩,
               ⟨(some 49), (some (46, false)), .bslice 51 6 1 [.int .i64 0, .str [], .str [], .str [], .int .i64 0, .nilS] [(0, (.t 48))]⟩,
               ⟨(some 50), (some (46, false)), .faddr 2 (.t 7)⟩,
               ⟨(some 51), (some (46, false)), .load true 6 (.t 50)⟩,
               ⟨(some 52), (some (46, false)), .bslice 51 6 1 [.int .i64 0, .str [], .str [], .str [], .int .i64 0, .nilS] [(0, (.t 51))]⟩,
               ⟨(some 53), (some (46, false)), .call 42 [(.t 49), (.t 52)]⟩,
               ⟨(some 54), (some (46, false)), .not (.t 53)⟩,
               ⟨(some 55), none, .pick (.t 46) (.c (.bool true)) (.t 54)⟩,
               ⟨(some 56), none, .mv (.t 55)⟩,
               ⟨(some 57), (some (56, false)), .faddr 9 (.t 6)⟩,
               ⟨(some 58), (some (56, false)), .load false 1 (.t 57)⟩,
               ⟨(some 59), (some (56, false)), .faddr 9 (.t 7)⟩,
               ⟨(some 60), (some (56, false)), .load false 1 (.t 59)⟩,
               ⟨(some 61), (some (56, false)), .call 41 [(.t 58), (.t 60)]⟩,
               ⟨(some 62), (some (56, false)), .not (.t 61)⟩,
               ⟨(some 63), none, .pick (.t 56) (.c (.bool true)) (.t 62)⟩,
               ⟨(some 64), none, .mv (.t 63)⟩,
               ⟨(some 65), (some (64, false)), .faddr 10 (.t 6)⟩,
               ⟨(some 66), (some (64, false)), .load false 1 (.t 65)⟩,
               ⟨(some 67), (some (64, false)), .faddr 10 (.t 7)⟩,
               ⟨(some 68), (some (64, false)), .load false 1 (.t 67)⟩,
               ⟨(some 69), (some (64, false)), .call 41 [(.t 66), (.t 68)]⟩,
               ⟨(some 70), (some (64, false)), .not (.t 69)⟩,
               ⟨(some 71), none, .pick (.t 64) (.c (.bool true)) (.t 70)⟩] false)
             (.cond (.t 71)
              (.seq
               (.region [
                 ⟨(some 4), none, .mv (.c (.bool false))⟩] false)
               .ret)
              .skip))))
          (.region [
            ⟨(some 17), none, .mv (.t 5)⟩,
            ⟨(some 18), none, .bin .add (.t 17) (.c (.int .i64 1))⟩,
            ⟨(some 5), none, .mv (.t 18)⟩] false))))))
     (.seq
      (.region [
        ⟨(some 4), none, .mv (.c (.bool true))⟩] false)
      .ret))))
def r41 : List ERes := [.t 4]
theorem c41 : chkF Tryz.prog Tryz.f41 2 e41 r41 = true := by kernel_rfl
def e42 : EC :=
  (.seq
   (.region [
     ⟨(some 4), none, .mv (.c (.bool false))⟩] false)
   (.seq
    (.seq
     (.region [
       ⟨(some 8), none, .mv (.t 0)⟩,
       ⟨(some 9), none, .len (.t 8)⟩,
       ⟨(some 10), none, .mv (.t 1)⟩,
       ⟨(some 11), none, .len (.t 10)⟩,
       ⟨(some 12), none, .bin .neq (.t 9) (.t 11)⟩] false)
     (.cond (.t 12)
      (.seq
       (.region [
         ⟨(some 4), none, .mv (.c (.bool false))⟩] false)
       .ret)
      .skip))
    (.seq
     (.seq
      (.region [
        ⟨(some 5), none, .mv (.c (.int .i64 0))⟩] false)
      (.block 0
       (.loop
        (.seq
         (.seq
          (.region [
            ⟨(some 13), none, .mv (.t 5)⟩,
            ⟨(some 14), none, .mv (.t 0)⟩,
            ⟨(some 15), none, .len (.t 14)⟩,
            ⟨(some 16), none, .bin .lss (.t 13) (.t 15)⟩] false)
          (.cond (.t 16)
           .skip
           (.exit 0)))
         (.seq
          (.block 1
           (.seq
            (.region [
              ⟨(some 19), none, .mv (.t 0)⟩,
              ⟨(some 20), none, .mv (.t 5)⟩,
              ⟨(some 21), none, .iaddr 6 (.t 19) (.t 20)⟩,
              ⟨(some 22), none, .loadR true 6 (.t 21)⟩,
              ⟨(some 23), none, .mv (.t 1)⟩,
              ⟨(some 24), none, .mv (.t 5)⟩,
              ⟨(some 25), none, .iaddr 6 (.t 23) (.t 24)⟩,
              ⟨(some 26), none, .loadR true 6 (.t 25)⟩,
              ⟨(some 6), none, .alloc 51 [.int .i64 0, .str [], .str [], .str [], .int .i64 0, .nilS]⟩,
              ⟨(some 7), none, .alloc 51 [.int .i64 0, .str [], .str [], .str [], .int .i64 0, .nilS]⟩,
              ⟨none, none, .store 6 (.t 6) (.t 22)⟩,
              ⟨none, none, .store 6 (.t 7) (.t 26)⟩] true)
            (.seq
             (.region [
               ⟨(some 27), none, .faddr 0 (.t 6)⟩,
               ⟨(some 28), none, .load false 1 (.t 27)⟩,
               ⟨(some 29), none, .faddr 0 (.t 7)⟩,
               ⟨(some 30), none, .load false 1 (.t 29)⟩,
               ⟨(some 31), none, .bin .neq (.t 28) (.t 30)⟩,
               ⟨(some 32), none, .mv (.t 31)⟩,
               ⟨(some 33), (some (32, false)), .faddr 1 (.t 6)⟩,
               ⟨(some 34), (some (32, false)), .load false 1 (.t 33)⟩,
               ⟨(some 35), (some (32, false)), .faddr 1 (.t 7)⟩,
               ⟨(some 36), (some (32, false)), .load false 1 (.t 35)⟩,
               ⟨(some 37), (some (32, false)), .bin .neq (.t 34) (.t 36)⟩,
               ⟨(some 38), none, .pick (.t 32) (.c (.bool true)) (.t 37)⟩,
               ⟨(some 39), none, .mv (.t 38)⟩,
               ⟨(some 40), (some (39, false)), .faddr 2 (.t 6)⟩,
               ⟨(some 41), (some (39, false)), .load false 1 (.t 40)⟩,
               ⟨(some 42), (some (39, false)), .faddr 2 (.t 7)⟩,
               ⟨(some 43), (some (39, false)), .load false 1 (.t 42)⟩,
               ⟨(some 44), (some (39, false)), .bin .neq (.t 41) (.t 43)⟩,
               ⟨(some 45), none, .pick (.t 39) (.c (.bool true)) (.t 44)⟩,
               ⟨(some 46), none, .mv (.t 45)⟩,
               ⟨(some 47), (some (46, false)), .faddr 3 (.t 6)⟩,
               ⟨(some 48), (some (46, false)), .load false 1 (.t 47)⟩,
               ⟨(some 49), (some (46, false)), .faddr 3 (.t 7)⟩,
               ⟨(some 50), (some (46, false)), .load false 1 (.t 49)⟩,
               ⟨(some 51), (some (46, false)), .bin .neq (.t 48) (.t 50)⟩,
               ⟨(some 52), none, .pick (.t 46) (.c (.bool true)) (.t 51)⟩,
               ⟨(some 53), none, .mv (.t 52)⟩,
               ⟨(some 54), (some (53, false)), .faddr 4 (.t 6)⟩,
               ⟨(some 55), (some (53, false)), .load false 1 (.t 54)⟩,
               ⟨(some 56), (some (53, false)), .faddr 4 (.t 7)⟩,
               ⟨(some 57), (some (53, false)), .load false 1 (.t 56)⟩,
               ⟨(some 58), (some (53, false)), .bin .neq (.t 55) (.t 57)⟩,
               ⟨(some 59), none, .pick (.t 53) (.c (.bool true)) (.t 58)⟩,
               ⟨(some 60), none, .mv (.t 59)⟩,
               ⟨(some 61), (some (60, false)), .faddr 5 (.t 6)⟩,
               ⟨(some 62), (some (60, false)), .load false 1 (.t 61)⟩,
               ⟨(some 63), (some (60, false)), .faddr 5 (.t 7)⟩,
               ⟨(some 64), (some (60, false)), .load false 1 (.t 63)⟩,
               ⟨(some 65), (some (60, false)), .call 42 [(.t 62), (.t 64)]⟩,
               ⟨(some 66), (some (60, false)), .not (.t 65)⟩,
               ⟨(some 67), none, .pick (.t 60) (.c (.bool true)) (.t 66)⟩] false)
             (.cond (.t 67)
              (.seq
               (.region [
                 ⟨(some 4), none, .mv (.c (.bool false))⟩] false)
               .ret)
              .skip))))
          (.region [
            ⟨(some 17), none, .mv (.t 5)⟩,
            ⟨(some 18), none, .bin .add (.t 17) (.c (.int .i64 1))⟩,
            ⟨(some 5), none, .mv (.t 18)⟩] false))))))
     (.seq
      (.region [
        ⟨(some 4), none, .mv (.c (.bool true))⟩] false)
      .ret))))
def r42 : List ERes := [.t 4]
theorem c42 : chkF Tryz.prog Tryz.f42 2 e42 r42 = true := by kernel_rfl
def e53 : EC :=
  (.seq
   (.region [
     ⟨(some 2), none, .mv (.c (.int .i64 0))⟩] false)
   (.seq
    (.region [
      ⟨(some 5), none, .mv (.t 0)⟩,
      ⟨(some 6), none, .len (.t 5)⟩,
      ⟨(some 3), none, .mv (.t 6)⟩] false)
    (.seq
     (.seq
      (.region [
        ⟨(some 4), none, .mv (.c (.int .i64 0))⟩] false)
      (.block 0
       (.loop
        (.seq
         (.seq
          (.region [
            ⟨(some 7), none, .mv (.t 4)⟩,
            ⟨(some 8), none, .mv (.t 0)⟩,
            ⟨(some 9), none, .len (.t 8)⟩,
            ⟨(some 10), none, .bin .lss (.t 7) (.t 9)⟩] false)
          (.cond (.t 10)
           .skip
           (.exit 0)))
         (.seq
          (.block 1
           (.region [
             ⟨(some 13), none, .mv (.t 3)⟩,
             ⟨(some 14), none, .mv (.t 0)⟩,
             ⟨(some 15), none, .mv (.t 4)⟩,
             ⟨(some 16), none, .iaddr 11 (.t 14) (.t 15)⟩,
             ⟨(some 17), none, .faddr 2 (.t 16)⟩,
             ⟨(some 18), none, .load true 6 (.t 17)⟩,
             ⟨(some 19), none, .bslice 51 6 1 [.int .i64 0, .str [], .str [], .str [], .int .i64 0, .nilS] [(0, (.t 18))]⟩,
             ⟨(some 20), none, .pcall 54 [(.t 19)]⟩,
             ⟨(some 21), none, .mv (.t 0)⟩,
             ⟨(some 22), none, .mv (.t 4)⟩,
             ⟨(some 23), none, .iaddr 11 (.t 21) (.t 22)⟩,
             ⟨(some 24), none, .faddr 9 (.t 23)⟩,
             ⟨(some 25), none, .load false 1 (.t 24)⟩,
             ⟨(some 26), none, .pcall 53 [(.t 25)]⟩,
             ⟨(some 27), none, .bin .add (.t 20) (.t 26)⟩,
             ⟨(some 28), none, .mv (.t 0)⟩,
             ⟨(some 29), none, .mv (.t 4)⟩,
             ⟨(some 30), none, .iaddr 11 (.t 28) (.t 29)⟩,
             ⟨(some 31), none, .faddr 10 (.t 30)⟩,
             ⟨(some 32), none, .load false 1 (.t 31)⟩,
             ⟨(some 33), none, .pcall 53 [(.t 32)]⟩,
             ⟨(some 34), none, .bin .add (.t 27) (.t 33)⟩,
             ⟨(some 35), none, .bin .add (.t 13) (.t 34)⟩,
             ⟨(some 3), none, .mv (.t 35)⟩] true))
          (.region [
            ⟨(some 11), none, .mv (.t 4)⟩,
            ⟨(some 12), none, .bin .add (.t 11) (.c (.int .i64 1))⟩,
            ⟨(some 4), none, .mv (.t 12)⟩] false))))))
     (.seq
      (.region [
        ⟨(some 36), none, .mv (.t 3)⟩,
        ⟨(some 2), none, .mv (.t 36)⟩] false)
      .ret))))
def r53 : List ERes := [.t 2]
theorem c53 : chkF Tryz.prog Tryz.f53 1 e53 r53 = true := by kernel_rfl
def e54 : EC :=
  (.seq
   (.region [
     ⟨(some 2), none, .mv (.c (.int .i64 0))⟩] false)
   (.seq
    (.region [
      ⟨(some 5), none, .mv (.t 0)⟩,
      ⟨(some 6), none, .len (.t 5)⟩,
      ⟨(some 3), none, .mv (.t 6)⟩] false)
    (.seq
     (.seq
      (.region [
        ⟨(some 4), none, .mv (.c (.int .i64 0))⟩] false)
      (.block 0
       (.loop
        (.seq
         (.seq
          (.region [
            ⟨(some 7), none, .mv (.t 4)⟩,
            ⟨(some 8), none, .mv (.t 0)⟩,
            ⟨(some 9), none, .len (.t 8)⟩,
            ⟨(some 10), none, .bin .lss (.t 7) (.t 9)⟩] false)
          (.cond (.t 10)
           .skip
           (.exit 0)))
         (.seq
          (.block 1
           (.region [
             ⟨(some 13), none, .mv (.t 3)⟩,
             ⟨(some 14), none, .mv (.t 0)⟩,
             ⟨(some 15), none, .mv (.t 4)⟩,
             ⟨(some 16), none, .iaddr 6 (.t 14) (.t 15)⟩,
             ⟨(some 17), none, .faddr 5 (.t 16)⟩,
             ⟨(some 18), none, .load false 1 (.t 17)⟩,
             ⟨(some 19), none, .call 54 [(.t 18)]⟩,
             ⟨(some 20), none, .bin .add (.t 13) (.t 19)⟩,
             ⟨(some 3), none, .mv (.t 20)⟩] false))
          (.region [
            ⟨(some 11), none, .mv (.t 4)⟩,
            ⟨(some 12), none, .bin .add (.t 11) (.c (.int .i64 1))⟩,
            ⟨(some 4), none, .mv (.t 12)⟩] false))))))
     (.seq
      (.region [
        ⟨(some 21), none, .mv (.t 3)⟩,
        ⟨(some 2), none, .mv (.t 21)⟩] false)
      .ret))))
def r54 : List ERes := [.t 2]
theorem c54 : chkF Tryz.prog Tryz.f54 1 e54 r54 = true := by kernel_rfl
def e55 : EC :=
  (.seq
   (.region [
     ⟨(some 2), none, .mv (.c (.nilS))⟩] false)
   (.seq
    (.region [
      ⟨(some 3), none, .mv (.c (.nilS))⟩] false)
    (.seq
     (.seq
      (.region [
        ⟨(some 4), none, .mv (.c (.int .i64 0))⟩] false)
      (.block 0
       (.loop
        (.seq
         (.seq
          (.region [
            ⟨(some 6), none, .mv (.t 4)⟩,
            ⟨(some 7), none, .mv (.t 0)⟩,
            ⟨(some 8), none, .len (.t 7)⟩,
            ⟨(some 9), none, .bin .lss (.t 6) (.t 8)⟩] false)
          (.cond (.t 9)
           .skip
           (.exit 0)))
         (.seq
          (.block 1
           (.seq
            (.region [
              ⟨(some 12), none, .mv (.t 0)⟩,
              ⟨(some 13), none, .mv (.t 4)⟩,
              ⟨(some 14), none, .iaddr 11 (.t 12) (.t 13)⟩,
              ⟨(some 15), none, .load true 11 (.t 14)⟩,
              ⟨(some 5), none, .alloc 165 [.int .i64 0, .str [], .int .i64 0, .str [], .str [], .str [], .int .i64 0, .nilS, .int .i64 0, .nilS, .nilS]⟩,
              ⟨none, none, .store 11 (.t 5) (.t 15)⟩] false)
            (.region [
              ⟨(some 16), none, .mv (.t 3)⟩,
              ⟨(some 17), none, .faddr 0 (.t 5)⟩,
              ⟨(some 18), none, .load false 1 (.t 17)⟩,
              ⟨(some 19), none, .faddr 1 (.t 5)⟩,
              ⟨(some 20), none, .load false 1 (.t 19)⟩,
              ⟨(some 21), none, .faddr 2 (.t 5)⟩,
              ⟨(some 22), none, .load true 6 (.t 21)⟩,
              ⟨(some 23), none, .bslice 51 6 1 [.int .i64 0, .str [], .str [], .str [], .int .i64 0, .nilS] [(0, (.t 22))]⟩,
              ⟨(some 24), none, .pcall 56 [(.t 23)]⟩,
              ⟨(some 25), none, .iaddr 6 (.t 24) (.c (.int .i64 0))⟩,
              ⟨(some 26), none, .load true 6 (.t 25)⟩,
              ⟨(some 27), none, .faddr 8 (.t 5)⟩,
              ⟨(some 28), none, .load false 1 (.t 27)⟩,
              ⟨(some 29), none, .faddr 9 (.t 5)⟩,
              ⟨(some 30), none, .load false 1 (.t 29)⟩,
              ⟨(some 31), none, .pcall 55 [(.t 30)]⟩,
              ⟨(some 32), none, .faddr 10 (.t 5)⟩,
              ⟨(some 33), none, .load false 1 (.t 32)⟩,
              ⟨(some 34), none, .pcall 55 [(.t 33)]⟩,
              ⟨(some 35), none, .build [.int .i64 0, .str [], .int .i64 0, .str [], .str [], .str [], .int .i64 0, .nilS, .int .i64 0, .nilS, .nilS] [(0, 1, (.t 18)), (1, 1, (.t 20)), (2, 6, (.t 26)), (8, 1, (.t 28)), (9, 1, (.t 31)), (10, 1, (.t 34))]⟩,
              ⟨(some 36), none, .bslice 133 11 1 [.int .i64 0, .str [], .int .i64 0, .str [], .str [], .str [], .int .i64 0, .nilS, .int .i64 0, .nilS, .nilS] [(0, (.t 35))]⟩,
              ⟨(some 37), none, .append 133 11 168 (.t 16) (.t 36)⟩,
              ⟨(some 3), none, .mv (.t 37)⟩] true)))
          (.region [
            ⟨(some 10), none, .mv (.t 4)⟩,
            ⟨(some 11), none, .bin .add (.t 10) (.c (.int .i64 1))⟩,
            ⟨(some 4), none, .mv (.t 11)⟩] false))))))
     (.seq
      (.region [
        ⟨(some 38), none, .mv (.t 3)⟩,
        ⟨(some 2), none, .mv (.t 38)⟩] false)
      .ret))))
def r55 : List ERes := [.t 2]
theorem c55 : chkF Tryz.prog Tryz.f55 1 e55 r55 = true := by kernel_rfl
def e56 : EC :=
  (.seq
   (.region [
     ⟨(some 2), none, .mv (.c (.nilS))⟩] false)
   (.seq
    (.region [
      ⟨(some 3), none, .mv (.c (.nilS))⟩] false)
    (.seq
     (.seq
      (.region [
        ⟨(some 4), none, .mv (.c (.int .i64 0))⟩] false)
      (.block 0
       (.loop
        (.seq
         (.seq
          (.region [
            ⟨(some 6), none, .mv (.t 4)⟩,
            ⟨(some 7), none, .mv (.t 0)⟩,
            ⟨(some 8), none, .len (.t 7)⟩,
            ⟨(some 9), none, .bin .lss (.t 6) (.t 8)⟩] false)
          (.cond (.t 9)
           .skip
           (.exit 0)))
         (.seq
          (.block 1
           (.seq
            (.region [
              ⟨(some 12), none, .mv (.t 0)⟩,
              ⟨(some 13), none, .mv (.t 4)⟩,
              ⟨(some 14), none, .iaddr 6 (.t 12) (.t 13)⟩,
              ⟨(some 15), none, .load true 6 (.t 14)⟩,
              ⟨(some 5), none, .alloc 51 [.int .i64 0, .str [], .str [], .str [], .int .i64 0, .nilS]⟩,
              ⟨none, none, .store 6 (.t 5) (.t 15)⟩] false)
            (.region [
              ⟨(some 16), none, .mv (.t 3)⟩,
              ⟨(some 17), none, .faddr 0 (.t 5)⟩,
              ⟨(some 18), none, .load false 1 (.t 17)⟩,
              ⟨(some 19), none, .faddr 1 (.t 5)⟩,
              ⟨(some 20), none, .load false 1 (.t 19)⟩,
              ⟨(some 21), none, .faddr 2 (.t 5)⟩,
              ⟨(some 22), none, .load false 1 (.t 21)⟩,
              ⟨(some 23), none, .faddr 3 (.t 5)⟩,
              ⟨(some 24), none, .load false 1 (.t 23)⟩,
              ⟨(some 25), none, .faddr 4 (.t 5)⟩,
              ⟨(some 26), none, .load false 1 (.t 25)⟩,
              ⟨(some 27), none, .faddr 5 (.t 5)⟩,
              ⟨(some 28), none, .load false 1 (.t 27)⟩,
              ⟨(some 29), none, .pcall 56 [(.t 28)]⟩,
              ⟨(some 30), none, .build [.int .i64 0, .str [], .str [], .str [], .int .i64 0, .nilS] [(0, 1, (.t 18)), (1, 1, (.t 20)), (2, 1, (.t 22)), (3, 1, (.t 24)), (4, 1, (.t 26)), (5, 1, (.t 29))]⟩,
              ⟨(some 31), none, .bslice 131 6 1 [.int .i64 0, .str [], .str [], .str [], .int .i64 0, .nilS] [(0, (.t 30))]⟩,
              ⟨(some 32), none, .append 131 6 88 (.t 16) (.t 31)⟩,
              ⟨(some 3), none, .mv (.t 32)⟩] true)))
          (.region [
            ⟨(some 10), none, .mv (.t 4)⟩,
            ⟨(some 11), none, .bin .add (.t 10) (.c (.int .i64 1))⟩,
            ⟨(some 4), none, .mv (.t 11)⟩] false))))))
     (.seq
      (.region [
        ⟨(some 33), none, .mv (.t 3)⟩,
        ⟨(some 2), none, .mv (.t 33)⟩] false)
      .ret))))
def r56 : List ERes := [.t 2]
theorem c56 : chkF Tryz.prog Tryz.f56 1 e56 r56 = true := by kernel_rfl
end Go.Aw.T.N
