import Derived.Test.YtamgnhdbeecapaaAx0

namespace Go.Ax.TryLn
open Go Go.Ax

def r12_0 : List AOper := [o 2 (.mv (.c (.bool false)))]
def r12_1 : List AOper := [o 4 (.mv (.t 0)),
  o 5 (.call 41 [(.t 4)] .borrow),
  o 3 (.mv (.t 5))]
def r12_2 : List AOper := [o 6 (.call 46 [] .borrow),
  o 7 (.mv (.t 6)),
  ⟨some 8, .mv (.t 3), (some (7, true)), false⟩,
  ⟨some 9, .mv (.t 0), (some (7, true)), false⟩,
  ⟨some 10, .call 48 [(.t 9)] .borrow, (some (7, true)), false⟩,
  ⟨some 11, .bin .eql (.t 8) (.t 10), (some (7, true)), false⟩,
  o 12 (.pick (.t 7) (.t 11) (.c (.bool false))),
  o 13 (.mv (.t 12)),
  ⟨some 14, .mv (.t 3), (some (13, true)), false⟩,
  ⟨some 15, .bin .eql (.t 14) (i64 0), (some (13, true)), false⟩,
  ⟨some 16, .mv (.t 15), (some (13, true)), false⟩,
  ⟨some 17, .mv (.t 3), (some (16, false)), false⟩,
  ⟨some 18, .call 41 [(.t 17)] .borrow, (some (16, false)), false⟩,
  ⟨some 19, .mv (.t 0), (some (16, false)), false⟩,
  ⟨some 20, .bin .eql (.t 18) (.t 19), (some (16, false)), false⟩,
  ⟨some 21, .pick (.t 16) (.c (.bool true)) (.t 20), (some (13, true)), false⟩,
  o 22 (.pick (.t 13) (.t 21) (.c (.bool false))),
  o 2 (.mv (.t 22))]
def c12 : ACode := .seq (.reg r12_0) (.seq (.reg r12_1) (.seq (.reg r12_2) (.ret)))
/-- jetsam/jetsamlaw05.FlowNots -/
def a12 : AFunc := ⟨1, 23, [.tmp 2], c12⟩
def r41_0 : List AOper := [o 2 (.mv (i64 0))]
def r41_1 : List AOper := [o 3 (.mv (.t 0))]
def r41_2 : List AOper := [o 5 (.bin .eql (.t 3) (i64 1)),
  o 4 (.mv (.t 5))]
def r41_3 : List AOper := [o 2 (.mv (i64 2))]
def r41_4 : List AOper := [o 7 (.bin .eql (.t 3) (i64 2)),
  o 6 (.mv (.t 7))]
def r41_5 : List AOper := [o 2 (.mv (i64 1))]
def r41_6 : List AOper := [o 9 (.bin .eql (.t 3) (i64 3)),
  o 8 (.mv (.t 9))]
def r41_7 : List AOper := [o 2 (.mv (i64 6))]
def r41_8 : List AOper := [o 11 (.bin .eql (.t 3) (i64 4)),
  o 10 (.mv (.t 11))]
def r41_9 : List AOper := [o 2 (.mv (i64 5))]
def r41_10 : List AOper := [o 13 (.bin .eql (.t 3) (i64 5)),
  o 12 (.mv (.t 13))]
def r41_11 : List AOper := [o 2 (.mv (i64 4))]
def r41_12 : List AOper := [o 15 (.bin .eql (.t 3) (i64 6)),
  o 14 (.mv (.t 15))]
def r41_13 : List AOper := [o 2 (.mv (i64 3))]
def r41_14 : List AOper := [o 2 (.mv (i64 0))]
def c41 : ACode := .seq (.reg r41_0) (.seq (.seq (.reg r41_1) (.block 0 (.seq (.reg r41_2) (.cond (.t 4) (.seq (.reg r41_3) (.ret)) (.seq (.reg r41_4) (.cond (.t 6) (.seq (.reg r41_5) (.ret)) (.seq (.reg r41_6) (.cond (.t 8) (.seq (.reg r41_7) (.ret)) (.seq (.reg r41_8) (.cond (.t 10) (.seq (.reg r41_9) (.ret)) (.seq (.reg r41_10) (.cond (.t 12) (.seq (.reg r41_11) (.ret)) (.seq (.reg r41_12) (.cond (.t 14) (.seq (.reg r41_13) (.ret)) (.skip))))))))))))))) (.seq (.reg r41_14) (.ret)))
/-- jetsam/flow.Not -/
def a41 : AFunc := ⟨1, 16, [.tmp 2], c41⟩
def r43_0 : List AOper := [o 1 (.box (.t 0)),
  o 2 (.alloc [.nils, .nils, .nils]),
  o 3 (.mv (i64 0))]
def r43_1 : List AOper := [o 8 (.load (some 2) (.t 1)),
  o 9 (.call 60 [(.t 8)] .borrow),
  o 10 (.un .not (.t 9))]
def r43_2 : List AOper := [o 11 (.build [.nils, .nils, .nils] []),
  ⟨none, .store 3 (.t 2) (.t 11), none, false⟩,
  o 3 (.mv (i64 1))]
def r43_3 : List AOper := [o 12 (.faddr 0 (.t 1)),
  o 13 (.load none (.t 12)),
  o 14 (.call 61 [(.t 13)] .borrow),
  o 15 (.build [.nils, .nils, .nils] [(0, 1, (.t 14))]),
  o 4 (.alloc [.nils, .nils, .nils]),
  ⟨none, .store 3 (.t 4) (.t 15), none, false⟩]
def r43_4 : List AOper := [o 16 (.faddr 1 (.t 1)),
  o 17 (.load none (.t 16)),
  o 18 (.len false (.t 17)),
  o 19 (.mv (i64 0))]
def r43_5 : List AOper := [o 20 (.bin .lss (.t 19) (.t 18))]
def r43_6 : List AOper := [o 21 (.iaddr 2 (.t 17) (.t 19)),
  o 22 (.load (some 2) (.t 21)),
  o 6 (.alloc [.int .i64 0, .nils]),
  ⟨none, .store 2 (.t 6) (.t 22), none, false⟩]
def r43_7 : List AOper := [o 23 (.build [.int .i64 0, .nils, .nils] [(0, 1, (i64 2))]),
  o 7 (.alloc [.int .i64 0, .nils, .nils]),
  ⟨none, .store 3 (.t 7) (.t 23), none, false⟩]
def r43_8 : List AOper := [o 24 (.faddr 1 (.t 6)),
  o 25 (.load none (.t 24)),
  o 26 (.call 62 [(.t 7), (.t 25), (i64 0), (i64 1)] .share)]
def r43_9 : List AOper := [o 27 (.faddr 1 (.t 7)),
  o 28 (.load none (.t 27)),
  o 29 (.len false (.t 28)),
  o 30 (.bin .gtr (.t 29) (i64 400))]
def r43_10 : List AOper := [o 31 (.build [.nils, .nils, .nils] []),
  ⟨none, .store 3 (.t 2) (.t 31), none, false⟩,
  o 3 (.mv (i64 10))]
def r43_11 : List AOper := [o 32 (.faddr 2 (.t 7)),
  o 33 (.load none (.t 32)),
  o 34 (.call 63 [(.t 33)] .share)]
def r43_12 : List AOper := [o 35 (.faddr 1 (.t 4)),
  o 36 (.load none (.t 35)),
  o 37 (.load (some 3) (.t 7)),
  ⟨some 38, .islice 1 [.int .i64 0, .nils, .nils] [(0, 3, (.t 37))], none, true⟩,
  o 39 (.app 3 56 (.t 36) (.t 38)),
  o 40 (.faddr 2 (.t 4)),
  o 41 (.load none (.t 40)),
  o 42 (.faddr 0 (.t 6)),
  o 43 (.load none (.t 42)),
  o 44 (.islice 1 [.int .i64 0] [(0, 1, (.t 43))]),
  o 45 (.app 1 8 (.t 41) (.t 44)),
  o 46 (.faddr 1 (.t 4)),
  ⟨none, .store 1 (.t 46) (.t 39), none, false⟩,
  o 47 (.faddr 2 (.t 4)),
  ⟨none, .store 1 (.t 47) (.t 45), none, false⟩]
def b43_12 : List (List Nat) := [[], [0], [], [2], [0, 1, 2, 3], [], [5], [], [7], [7, 8], [0, 1, 2, 3, 4, 5, 6, 7, 8, 9], [0, 1, 2, 3, 4, 5, 6], [0, 1, 2, 3, 4, 5, 6, 7, 8, 9, 10, 11], [0, 1, 2, 3, 4, 5, 6, 7, 8, 9, 10, 11, 12], [0, 1, 2, 3, 4, 5, 6, 7, 8, 9, 10, 11, 12, 13]]
def r43_13 : List AOper := [o 48 (.bin .add (.t 19) (i64 1)),
  o 19 (.mv (.t 48))]
def l43_0 : ACode := .seq (.reg r43_5) (.seq (.cond (.t 20) (.skip) (.exit 0)) (.seq (.block 1 (.seq (.reg r43_6) (.seq (.reg r43_7) (.seq (.reg r43_8) (.seq (.seq (.reg r43_9) (.cond (.t 30) (.seq (.reg r43_10) (.ret)) (.skip))) (.seq (.reg r43_11) (.dreg r43_12 b43_12 [(1, 3), (3, 6), (4, 6), (3, 8), (4, 8)]))))))) (.reg r43_13)))
def r43_14 : List AOper := [o 49 (.load (some 3) (.t 4)),
  ⟨none, .store 3 (.t 2) (.t 49), none, false⟩,
  o 3 (.mv (i64 0))]
def c43 : ACode := .seq (.reg r43_0) (.seq (.seq (.reg r43_1) (.cond (.t 10) (.seq (.reg r43_2) (.ret)) (.skip))) (.seq (.reg r43_3) (.seq (.seq (.reg r43_4) (.block 0 (.loop l43_0))) (.seq (.reg r43_14) (.ret)))))
/-- jetsam/flow.Build -/
def a43 : AFunc := ⟨1, 50, [.cell 2 (some 3), .tmp 3], c43⟩
def r46_0 : List AOper := [o 0 (.mv (.c (.bool false)))]
def r46_1 : List AOper := [o 4 (.build [.int .i64 0, .int .i64 0, .int .i64 0, .nils] [(0, 1, (i64 1)), (1, 1, (i64 3))]),
  o 5 (.build [.int .i64 0, .int .i64 0, .int .i64 0, .int .i64 0, .int .i64 0, .int .i64 0, .int .i64 0, .nils, .int .i64 0, .int .i64 0, .int .i64 0, .int .i64 0, .nils, .int .i64 0, .int .i64 0, .int .i64 0, .nils, .nils, .nils, .nils] [(0, 1, (i64 1)), (4, 4, (.t 4))]),
  ⟨some 6, .islice 1 [.int .i64 0, .int .i64 0, .int .i64 0, .int .i64 0, .int .i64 0, .int .i64 0, .int .i64 0, .nils, .int .i64 0, .int .i64 0, .int .i64 0, .int .i64 0, .nils, .int .i64 0, .int .i64 0, .int .i64 0, .nils, .nils, .nils, .nils] [(0, 20, (.t 5))], none, true⟩,
  o 7 (.build [.int .i64 0, .nils] [(0, 1, (i64 1)), (1, 1, (.t 6))]),
  ⟨some 8, .islice 1 [.int .i64 0, .nils] [(0, 2, (.t 7))], none, true⟩,
  o 9 (.build [.nils, .nils] [(1, 1, (.t 8))]),
  o 10 (.call 43 [(.t 9)] .borrow),
  o 3 (.mv (.t 10)),
  o 11 (.ext 0 (.t 3)),
  o 12 (.ext 1 (.t 3)),
  o 1 (.alloc [.nils, .nils, .nils]),
  ⟨none, .store 3 (.t 1) (.t 11), none, false⟩,
  o 2 (.mv (.t 12))]
def r46_2 : List AOper := [o 13 (.mv (.t 2)),
  o 14 (.bin .eql (.t 13) (i64 0)),
  o 15 (.mv (.t 14)),
  ⟨some 16, .faddr 1 (.t 1), (some (15, true)), false⟩,
  ⟨some 17, .load none (.t 16), (some (15, true)), false⟩,
  ⟨some 18, .len false (.t 17), (some (15, true)), false⟩,
  ⟨some 19, .bin .eql (.t 18) (i64 1), (some (15, true)), false⟩,
  o 20 (.pick (.t 15) (.t 19) (.c (.bool false))),
  o 21 (.mv (.t 20)),
  ⟨some 22, .faddr 1 (.t 1), (some (21, true)), false⟩,
  ⟨some 23, .load none (.t 22), (some (21, true)), false⟩,
  ⟨some 24, .iaddr 3 (.t 23) (i64 0), (some (21, true)), false⟩,
  ⟨some 25, .faddr 0 (.t 24), (some (21, true)), false⟩,
  ⟨some 26, .load none (.t 25), (some (21, true)), false⟩,
  ⟨some 27, .bin .eql (.t 26) (i64 2), (some (21, true)), false⟩,
  o 28 (.pick (.t 21) (.t 27) (.c (.bool false))),
  o 29 (.mv (.t 28)),
  ⟨some 30, .faddr 1 (.t 1), (some (29, true)), false⟩,
  ⟨some 31, .load none (.t 30), (some (29, true)), false⟩,
  ⟨some 32, .iaddr 3 (.t 31) (i64 0), (some (29, true)), false⟩,
  ⟨some 33, .faddr 1 (.t 32), (some (29, true)), false⟩,
  ⟨some 34, .load none (.t 33), (some (29, true)), false⟩,
  ⟨some 35, .len false (.t 34), (some (29, true)), false⟩,
  ⟨some 36, .bin .eql (.t 35) (i64 1), (some (29, true)), false⟩,
  o 37 (.pick (.t 29) (.t 36) (.c (.bool false))),
  o 38 (.mv (.t 37)),
  ⟨some 39, .faddr 1 (.t 1), (some (38, true)), false⟩,
  ⟨some 40, .load none (.t 39), (some (38, true)), false⟩,
  ⟨some 41, .iaddr 3 (.t 40) (i64 0), (some (38, true)), false⟩,
  ⟨some 42, .faddr 1 (.t 41), (some (38, true)), false⟩,
  ⟨some 43, .load none (.t 42), (some (38, true)), false⟩,
  ⟨some 44, .iaddr 19 (.t 43) (i64 0), (some (38, true)), false⟩,
  ⟨some 45, .faddr 1 (.t 44), (some (38, true)), false⟩,
  ⟨some 46, .load none (.t 45), (some (38, true)), false⟩,
  ⟨some 47, .bin .eql (.t 46) (i64 1), (some (38, true)), false⟩,
  o 48 (.pick (.t 38) (.t 47) (.c (.bool false))),
  o 49 (.mv (.t 48)),
  ⟨some 50, .load (some 3) (.t 1), (some (49, true)), false⟩,
  ⟨some 51, .call 53 [(.t 50)] .borrow, (some (49, true)), false⟩,
  o 52 (.pick (.t 49) (.t 51) (.c (.bool false))),
  o 53 (.mv (.t 52)),
  ⟨some 54, .call 41 [(i64 3)] .borrow, (some (53, true)), false⟩,
  ⟨some 55, .bin .eql (.t 54) (i64 6), (some (53, true)), false⟩,
  o 56 (.pick (.t 53) (.t 55) (.c (.bool false))),
  o 0 (.mv (.t 56))]
def c46 : ACode := .seq (.reg r46_0) (.seq (.reg r46_1) (.seq (.reg r46_2) (.ret)))
/-- jetsam/jetsamlaw05.builds -/
def a46 : AFunc := ⟨0, 57, [.tmp 0], c46⟩
def r48_0 : List AOper := [o 2 (.mv (i64 0))]
def r48_1 : List AOper := [o 3 (.mv (.t 0)),
  o 4 (.bin .lss (.t 3) (i64 1)),
  o 5 (.mv (.t 4)),
  ⟨some 6, .mv (.t 0), (some (5, false)), false⟩,
  ⟨some 7, .bin .gtr (.t 6) (i64 6), (some (5, false)), false⟩,
  o 8 (.pick (.t 5) (.c (.bool true)) (.t 7))]
def r48_2 : List AOper := [o 2 (.mv (i64 0))]
def r48_3 : List AOper := [o 9 (.islice 6 [.int .i64 0, .int .i64 0, .int .i64 0, .int .i64 0, .int .i64 0, .int .i64 0] [(0, 1, (i64 2)), (1, 1, (i64 1)), (2, 1, (i64 6)), (3, 1, (i64 5)), (4, 1, (i64 4)), (5, 1, (i64 3))]),
  o 10 (.mv (.t 0)),
  o 11 (.bin .sub (.t 10) (i64 1)),
  o 12 (.iaddr 1 (.t 9) (.t 11)),
  o 13 (.load none (.t 12)),
  o 2 (.mv (.t 13))]
def c48 : ACode := .seq (.reg r48_0) (.seq (.seq (.reg r48_1) (.cond (.t 8) (.seq (.reg r48_2) (.ret)) (.skip))) (.seq (.reg r48_3) (.ret)))
/-- jetsam/jetsamref05.Not -/
def a48 : AFunc := ⟨1, 14, [.tmp 2], c48⟩
def r50_0 : List AOper := [o 2 (.box (.t 0)),
  o 4 (.mv (.c (.nils)))]
def r50_1 : List AOper := [o 5 (.mv (.c (.nils)))]
def r50_2 : List AOper := [o 8 (.faddr 1 (.t 2)),
  o 9 (.load none (.t 8)),
  o 10 (.len false (.t 9)),
  o 11 (.mv (i64 0))]
def r50_3 : List AOper := [o 12 (.bin .lss (.t 11) (.t 10))]
def r50_4 : List AOper := [o 13 (.mv (.t 11)),
  o 14 (.iaddr 19 (.t 9) (.t 11)),
  o 15 (.load (some 19) (.t 14)),
  o 7 (.alloc [.int .i64 0, .int .i64 0, .int .i64 0, .int .i64 0, .int .i64 0, .int .i64 0, .int .i64 0, .int .i64 0, .int .i64 0, .nils, .int .i64 0, .int .i64 0, .int .i64 0, .int .i64 0, .nils, .int .i64 0, .int .i64 0, .int .i64 0, .nils]),
  o 6 (.mv (.t 13)),
  ⟨none, .store 19 (.t 7) (.t 15), none, false⟩]
def r50_5 : List AOper := [o 16 (.faddr 0 (.t 7)),
  o 17 (.load none (.t 16)),
  o 18 (.mv (.t 1)),
  o 19 (.bin .eql (.t 17) (.t 18))]
def r50_6 : List AOper := [o 20 (.mv (.t 5)),
  o 21 (.mv (.t 6)),
  o 22 (.islice 1 [.int .i64 0] [(0, 1, (.t 21))]),
  o 23 (.app 1 8 (.t 20) (.t 22)),
  o 5 (.mv (.t 23))]
def r50_7 : List AOper := [o 24 (.bin .add (.t 11) (i64 1)),
  o 11 (.mv (.t 24))]
def l50_0 : ACode := .seq (.reg r50_3) (.seq (.cond (.t 12) (.skip) (.exit 0)) (.seq (.block 1 (.seq (.reg r50_4) (.seq (.reg r50_5) (.cond (.t 19) (.reg r50_6) (.skip))))) (.reg r50_7)))
def r50_8 : List AOper := [o 25 (.mv (.t 5)),
  o 4 (.mv (.t 25))]
def c50 : ACode := .seq (.reg r50_0) (.seq (.reg r50_1) (.seq (.seq (.reg r50_2) (.block 0 (.loop l50_0))) (.seq (.reg r50_8) (.ret))))
/-- jetsam/flow.Out -/
def a50 : AFunc := ⟨2, 26, [.tmp 4], c50⟩
def r53_0 : List AOper := [o 1 (.box (.t 0)),
  o 2 (.mv (.c (.bool false)))]
def r53_1 : List AOper := [o 6 (.load (some 3) (.t 1)),
  o 7 (.call 74 [(.t 6)] .borrow),
  o 3 (.alloc [.nils, .nils]),
  ⟨none, .store 2 (.t 3) (.t 7), none, false⟩]
def r53_2 : List AOper := [o 8 (.faddr 1 (.t 1)),
  o 9 (.load none (.t 8)),
  o 10 (.len false (.t 9)),
  o 11 (.faddr 2 (.t 1)),
  o 12 (.load none (.t 11)),
  o 13 (.len false (.t 12)),
  o 14 (.bin .neq (.t 10) (.t 13)),
  o 15 (.mv (.t 14)),
  ⟨some 16, .load (some 2) (.t 3), (some (15, false)), false⟩,
  ⟨some 17, .call 60 [(.t 16)] .borrow, (some (15, false)), false⟩,
  ⟨some 18, .un .not (.t 17), (some (15, false)), false⟩,
  o 19 (.pick (.t 15) (.c (.bool true)) (.t 18))]
def r53_3 : List AOper := [o 2 (.mv (.c (.bool false)))]
def r53_4 : List AOper := [o 20 (.faddr 1 (.t 1)),
  o 21 (.load none (.t 20)),
  o 22 (.len false (.t 21)),
  o 23 (.mv (i64 0))]
def r53_5 : List AOper := [o 24 (.bin .lss (.t 23) (.t 22))]
def r53_6 : List AOper := [o 25 (.mv (.t 23)),
  o 26 (.iaddr 3 (.t 21) (.t 23)),
  o 27 (.load (some 3) (.t 26)),
  o 5 (.alloc [.int .i64 0, .nils, .nils]),
  o 4 (.mv (.t 25)),
  ⟨none, .store 3 (.t 5) (.t 27), none, false⟩]
def r53_7 : List AOper := [o 28 (.load (some 2) (.t 3)),
  o 29 (.mv (.t 4)),
  o 30 (.load (some 3) (.t 5)),
  o 31 (.call 75 [(.t 28), (.t 29), (.t 30)] .borrow),
  o 32 (.un .not (.t 31))]
def r53_8 : List AOper := [o 2 (.mv (.c (.bool false)))]
def r53_9 : List AOper := [o 33 (.bin .add (.t 23) (i64 1)),
  o 23 (.mv (.t 33))]
def l53_0 : ACode := .seq (.reg r53_5) (.seq (.cond (.t 24) (.skip) (.exit 0)) (.seq (.block 1 (.seq (.reg r53_6) (.seq (.reg r53_7) (.cond (.t 32) (.seq (.reg r53_8) (.ret)) (.skip))))) (.reg r53_9)))
def r53_10 : List AOper := [o 2 (.mv (.c (.bool true)))]
def c53 : ACode := .seq (.reg r53_0) (.seq (.reg r53_1) (.seq (.seq (.reg r53_2) (.cond (.t 19) (.seq (.reg r53_3) (.ret)) (.skip))) (.seq (.seq (.reg r53_4) (.block 0 (.loop l53_0))) (.seq (.reg r53_10) (.ret)))))
/-- jetsam/flow.Right -/
def a53 : AFunc := ⟨1, 34, [.tmp 2], c53⟩
def r56_0 : List AOper := [o 2 (.mv (.c (.nils)))]
def r56_1 : List AOper := [o 3 (.mv (.t 0)),
  o 4 (.eq .slice false (.t 3) (.c (.nils)))]
def r56_2 : List AOper := [o 2 (.mv (.c (.nils)))]
def r56_3 : List AOper := [o 5 (.islice 0 [] []),
  o 6 (.mv (.t 0)),
  o 7 (.app 1 8 (.t 5) (.t 6)),
  o 2 (.mv (.t 7))]
def c56 : ACode := .seq (.reg r56_0) (.seq (.seq (.reg r56_1) (.cond (.t 4) (.seq (.reg r56_2) (.ret)) (.skip))) (.seq (.reg r56_3) (.ret)))
/-- slices.Clone[[]int,int] -/
def a56 : AFunc := ⟨1, 8, [.tmp 2], c56⟩
def r60_0 : List AOper := [o 1 (.box (.t 0)),
  o 2 (.mv (.c (.bool false)))]
def r60_1 : List AOper := [o 7 (.faddr 0 (.t 1)),
  o 8 (.load none (.t 7)),
  o 9 (.len false (.t 8)),
  o 10 (.bin .gtr (.t 9) (i64 4)),
  o 11 (.mv (.t 10)),
  ⟨some 12, .faddr 1 (.t 1), (some (11, false)), false⟩,
  ⟨some 13, .load none (.t 12), (some (11, false)), false⟩,
  ⟨some 14, .len false (.t 13), (some (11, false)), false⟩,
  ⟨some 15, .call 81 [(.t 14), (i64 1), (i64 4)] .borrow, (some (11, false)), false⟩,
  ⟨some 16, .un .not (.t 15), (some (11, false)), false⟩,
  o 17 (.pick (.t 11) (.c (.bool true)) (.t 16))]
def r60_2 : List AOper := [o 2 (.mv (.c (.bool false)))]
def r60_3 : List AOper := [o 18 (.faddr 0 (.t 1)),
  o 19 (.load none (.t 18)),
  o 20 (.len false (.t 19)),
  o 21 (.mv (i64 0))]
def r60_4 : List AOper := [o 22 (.bin .lss (.t 21) (.t 20))]
def r60_5 : List AOper := [o 23 (.iaddr 6 (.t 19) (.t 21)),
  o 24 (.load (some 6) (.t 23)),
  o 4 (.alloc [.int .i64 0, .int .i64 0, .int .i64 0, .int .i64 0, .int .i64 0, .nils]),
  ⟨none, .store 6 (.t 4) (.t 24), none, false⟩]
def r60_6 : List AOper := [o 25 (.load (some 6) (.t 4)),
  o 26 (.faddr 1 (.t 1)),
  o 27 (.load none (.t 26)),
  o 28 (.len false (.t 27)),
  o 29 (.call 82 [(.t 25), (.t 28)] .borrow),
  o 30 (.un .not (.t 29))]
def r60_7 : List AOper := [o 2 (.mv (.c (.bool false)))]
def r60_8 : List AOper := [o 31 (.bin .add (.t 21) (i64 1)),
  o 21 (.mv (.t 31))]
def l60_0 : ACode := .seq (.reg r60_4) (.seq (.cond (.t 22) (.skip) (.exit 0)) (.seq (.block 1 (.seq (.reg r60_5) (.seq (.reg r60_6) (.cond (.t 30) (.seq (.reg r60_7) (.ret)) (.skip))))) (.reg r60_8)))
def r60_9 : List AOper := [o 32 (.faddr 1 (.t 1)),
  o 33 (.load none (.t 32)),
  o 34 (.len false (.t 33)),
  o 35 (.mv (i64 0))]
def r60_10 : List AOper := [o 36 (.bin .lss (.t 35) (.t 34))]
def r60_11 : List AOper := [o 37 (.mv (.t 35)),
  o 38 (.iaddr 2 (.t 33) (.t 35)),
  o 39 (.load (some 2) (.t 38)),
  o 6 (.alloc [.int .i64 0, .nils]),
  o 5 (.mv (.t 37)),
  ⟨none, .store 2 (.t 6) (.t 39), none, false⟩]
def r60_12 : List AOper := [o 40 (.faddr 0 (.t 6)),
  o 41 (.load none (.t 40)),
  o 42 (.call 81 [(.t 41), (i64 0), (i64 6)] .borrow),
  o 43 (.un .not (.t 42)),
  o 44 (.mv (.t 43)),
  ⟨some 45, .load (some 2) (.t 1), (some (44, false)), false⟩,
  ⟨some 46, .mv (.t 5), (some (44, false)), false⟩,
  ⟨some 47, .faddr 0 (.t 6), (some (44, false)), false⟩,
  ⟨some 48, .load none (.t 47), (some (44, false)), false⟩,
  ⟨some 49, .build [.nils, .nils, .int .i64 0, .int .i64 0] [(0, 2, (.t 45)), (2, 1, (.t 46)), (3, 1, (.t 48))], (some (44, false)), false⟩,
  ⟨some 50, .faddr 1 (.t 6), (some (44, false)), false⟩,
  ⟨some 51, .load none (.t 50), (some (44, false)), false⟩,
  ⟨some 52, .call 83 [(.t 49), (.t 51)] .borrow, (some (44, false)), false⟩,
  ⟨some 53, .un .not (.t 52), (some (44, false)), false⟩,
  o 54 (.pick (.t 44) (.c (.bool true)) (.t 53))]
def r60_13 : List AOper := [o 2 (.mv (.c (.bool false)))]
def r60_14 : List AOper := [o 55 (.bin .add (.t 35) (i64 1)),
  o 35 (.mv (.t 55))]
def l60_1 : ACode := .seq (.reg r60_10) (.seq (.cond (.t 36) (.skip) (.exit 2)) (.seq (.block 3 (.seq (.reg r60_11) (.seq (.reg r60_12) (.cond (.t 54) (.seq (.reg r60_13) (.ret)) (.skip))))) (.reg r60_14)))
def r60_15 : List AOper := [o 2 (.mv (.c (.bool true)))]
def c60 : ACode := .seq (.reg r60_0) (.seq (.seq (.reg r60_1) (.cond (.t 17) (.seq (.reg r60_2) (.ret)) (.skip))) (.seq (.seq (.reg r60_3) (.block 0 (.loop l60_0))) (.seq (.seq (.reg r60_9) (.block 2 (.loop l60_1))) (.seq (.reg r60_15) (.ret)))))
/-- jetsam/check.Right -/
def a60 : AFunc := ⟨1, 56, [.tmp 2], c60⟩
def r61_0 : List AOper := [o 2 (.mv (.c (.nils)))]
def r61_1 : List AOper := [o 3 (.mv (.c (.nils)))]
def r61_2 : List AOper := [o 9 (.mv (.t 0)),
  o 10 (.len false (.t 9)),
  o 11 (.mv (i64 0))]
def r61_3 : List AOper := [o 12 (.bin .lss (.t 11) (.t 10))]
def r61_4 : List AOper := [o 13 (.iaddr 6 (.t 9) (.t 11)),
  o 14 (.load (some 6) (.t 13)),
  o 5 (.alloc [.int .i64 0, .int .i64 0, .int .i64 0, .int .i64 0, .int .i64 0, .nils]),
  ⟨none, .store 6 (.t 5) (.t 14), none, false⟩]
def r61_5 : List AOper := [o 15 (.faddr 5 (.t 5)),
  o 16 (.load none (.t 15)),
  o 6 (.mv (.t 16))]
def r61_6 : List AOper := [o 17 (.faddr 5 (.t 5)),
  ⟨none, .store 1 (.t 17) (.c (.nils)), none, false⟩]
def r61_7 : List AOper := [o 18 (.mv (.t 6)),
  o 19 (.len false (.t 18)),
  o 20 (.mv (i64 0))]
def r61_8 : List AOper := [o 21 (.bin .lss (.t 20) (.t 19))]
def r61_9 : List AOper := [o 22 (.iaddr 1 (.t 18) (.t 20)),
  o 23 (.load none (.t 22)),
  o 8 (.mv (.t 23))]
def r61_10 : List AOper := [o 24 (.faddr 5 (.t 5)),
  o 25 (.load none (.t 24)),
  o 26 (.mv (.t 8)),
  o 27 (.call 56 [(.t 26)] .borrow),
  ⟨some 28, .islice 1 [.nils] [(0, 1, (.t 27))], none, true⟩,
  o 29 (.app 1 24 (.t 25) (.t 28)),
  o 30 (.faddr 5 (.t 5)),
  ⟨none, .store 1 (.t 30) (.t 29), none, false⟩]
def b61_10 : List (List Nat) := [[], [0], [], [2], [2, 3], [0, 1, 2, 3, 4], [0, 1, 2, 3, 4, 5], [0, 1, 2, 3, 4, 5, 6]]
def r61_11 : List AOper := [o 31 (.bin .add (.t 20) (i64 1)),
  o 20 (.mv (.t 31))]
def l61_0 : ACode := .seq (.reg r61_8) (.seq (.cond (.t 21) (.skip) (.exit 2)) (.seq (.block 3 (.seq (.reg r61_9) (.dreg r61_10 b61_10 [(1, 4)]))) (.reg r61_11)))
def r61_12 : List AOper := [o 32 (.mv (.t 3)),
  o 33 (.load (some 6) (.t 5)),
  ⟨some 34, .islice 1 [.int .i64 0, .int .i64 0, .int .i64 0, .int .i64 0, .int .i64 0, .nils] [(0, 6, (.t 33))], none, true⟩,
  o 35 (.app 6 64 (.t 32) (.t 34)),
  o 3 (.mv (.t 35))]
def r61_13 : List AOper := [o 36 (.bin .add (.t 11) (i64 1)),
  o 11 (.mv (.t 36))]
def l61_1 : ACode := .seq (.reg r61_3) (.seq (.cond (.t 12) (.skip) (.exit 0)) (.seq (.block 1 (.seq (.reg r61_4) (.seq (.reg r61_5) (.seq (.reg r61_6) (.seq (.seq (.reg r61_7) (.block 2 (.loop l61_0))) (.reg r61_12)))))) (.reg r61_13)))
def r61_14 : List AOper := [o 37 (.mv (.t 3)),
  o 2 (.mv (.t 37))]
def c61 : ACode := .seq (.reg r61_0) (.seq (.reg r61_1) (.seq (.seq (.reg r61_2) (.block 0 (.loop l61_1))) (.seq (.reg r61_14) (.ret))))
/-- jetsam/flow.channels -/
def a61 : AFunc := ⟨1, 38, [.tmp 2], c61⟩
def r62_0 : List AOper := [o 11 (.mv (.t 1)),
  o 12 (.len false (.t 11)),
  o 13 (.bin .eql (.t 12) (i64 0))]
def r62_1 : List AOper := [o 14 (.mv (.t 0)),
  o 15 (.mv (.t 2)),
  o 16 (.mv (.t 3)),
  o 17 (.build [.int .i64 0, .int .i64 0, .int .i64 0, .int .i64 0, .int .i64 0, .int .i64 0, .int .i64 0, .int .i64 0, .int .i64 0, .nils, .int .i64 0, .int .i64 0, .int .i64 0, .int .i64 0, .nils, .int .i64 0, .int .i64 0, .int .i64 0, .nils] [(0, 1, (.t 15)), (1, 1, (.t 16))]),
  o 18 (.call 84 [(.t 14), (.t 17)] .share)]
def r62_2 : List AOper := [o 19 (.mv (.t 1)),
  o 20 (.mv (.t 1)),
  o 21 (.len false (.t 20)),
  o 22 (.bin .sub (.t 21) (i64 1)),
  o 23 (.slsl 20 (.t 19) none (some (.t 22)) none),
  o 24 (.len false (.t 23)),
  o 25 (.mv (i64 0))]
def r62_3 : List AOper := [o 26 (.bin .lss (.t 25) (.t 24))]
def r62_4 : List AOper := [o 27 (.iaddr 20 (.t 23) (.t 25)),
  o 28 (.load (some 20) (.t 27)),
  o 9 (.alloc [.int .i64 0, .int .i64 0, .int .i64 0, .int .i64 0, .int .i64 0, .int .i64 0, .int .i64 0, .nils, .int .i64 0, .int .i64 0, .int .i64 0, .int .i64 0, .nils, .int .i64 0, .int .i64 0, .int .i64 0, .nils, .nils, .nils, .nils]),
  ⟨none, .store 20 (.t 9) (.t 28), none, false⟩]
def r62_5 : List AOper := [o 29 (.mv (.t 0)),
  o 30 (.call 85 [(.t 29)] .share),
  o 10 (.mv (.t 30))]
def r62_6 : List AOper := [o 31 (.mv (.t 0)),
  o 32 (.load (some 20) (.t 9)),
  o 33 (.mv (.t 2)),
  o 34 (.mv (.t 10)),
  o 35 (.call 86 [(.t 31), (.t 32), (.t 33), (.t 34)] .share)]
def r62_7 : List AOper := [o 36 (.mv (.t 10)),
  o 2 (.mv (.t 36))]
def r62_8 : List AOper := [o 37 (.bin .add (.t 25) (i64 1)),
  o 25 (.mv (.t 37))]
def l62_0 : ACode := .seq (.reg r62_3) (.seq (.cond (.t 26) (.skip) (.exit 0)) (.seq (.block 1 (.seq (.reg r62_4) (.seq (.reg r62_5) (.seq (.reg r62_6) (.reg r62_7))))) (.reg r62_8)))
def r62_9 : List AOper := [o 38 (.mv (.t 0)),
  o 39 (.mv (.t 1)),
  o 40 (.mv (.t 1)),
  o 41 (.len false (.t 40)),
  o 42 (.bin .sub (.t 41) (i64 1)),
  o 43 (.iaddr 20 (.t 39) (.t 42)),
  o 44 (.load (some 20) (.t 43)),
  o 45 (.mv (.t 2)),
  o 46 (.mv (.t 3)),
  o 47 (.call 86 [(.t 38), (.t 44), (.t 45), (.t 46)] .share)]
def c62 : ACode := .seq (.seq (.reg r62_0) (.cond (.t 13) (.seq (.reg r62_1) (.ret)) (.skip))) (.seq (.seq (.reg r62_2) (.block 0 (.loop l62_0))) (.reg r62_9))
/-- (*jetsam/flow.Graph).lay -/
def a62 : AFunc := ⟨4, 48, [], c62⟩
def r63_0 : List AOper := [o 3 (.mv (.t 0)),
  o 4 (.len false (.t 3)),
  o 2 (.mv (.t 4))]
def r63_1 : List AOper := [o 5 (.mv (.t 0)),
  o 6 (.mv (.t 2)),
  o 7 (.mv (.t 2)),
  o 8 (.conv .u64 (.t 7)),
  o 9 (.call 88 [(.t 8)] .borrow),
  o 10 (.call 87 [(.t 5), (i64 0), (.t 6), (.t 9)] .share)]
def c63 : ACode := .seq (.reg r63_0) (.reg r63_1)
/-- slices.Sort[[]int,int] -/
def a63 : AFunc := ⟨1, 11, [], c63⟩
def r74_0 : List AOper := [o 1 (.box (.t 0)),
  o 2 (.alloc [.nils, .nils])]
def r74_1 : List AOper := [o 6 (.faddr 0 (.t 1)),
  o 7 (.load none (.t 6)),
  o 8 (.build [.nils, .nils] [(0, 1, (.t 7))]),
  o 3 (.alloc [.nils, .nils]),
  ⟨none, .store 2 (.t 3) (.t 8), none, false⟩]
def r74_2 : List AOper := [o 9 (.faddr 2 (.t 1)),
  o 10 (.load none (.t 9)),
  o 11 (.len false (.t 10)),
  o 12 (.mv (i64 0))]
def r74_3 : List AOper := [o 13 (.bin .lss (.t 12) (.t 11))]
def r74_4 : List AOper := [o 14 (.iaddr 1 (.t 10) (.t 12)),
  o 15 (.load none (.t 14)),
  o 5 (.mv (.t 15))]
def r74_5 : List AOper := [o 16 (.faddr 1 (.t 3)),
  o 17 (.load none (.t 16)),
  o 18 (.mv (.t 5)),
  o 19 (.build [.int .i64 0, .nils] [(0, 1, (.t 18))]),
  ⟨some 20, .islice 1 [.int .i64 0, .nils] [(0, 2, (.t 19))], none, true⟩,
  o 21 (.app 2 32 (.t 17) (.t 20)),
  o 22 (.faddr 1 (.t 3)),
  ⟨none, .store 1 (.t 22) (.t 21), none, false⟩]
def r74_6 : List AOper := [o 23 (.bin .add (.t 12) (i64 1)),
  o 12 (.mv (.t 23))]
def l74_0 : ACode := .seq (.reg r74_3) (.seq (.cond (.t 13) (.skip) (.exit 0)) (.seq (.block 1 (.seq (.reg r74_4) (.reg r74_5))) (.reg r74_6)))
def r74_7 : List AOper := [o 24 (.load (some 2) (.t 3)),
  ⟨none, .store 2 (.t 2) (.t 24), none, false⟩]
def c74 : ACode := .seq (.reg r74_0) (.seq (.reg r74_1) (.seq (.seq (.reg r74_2) (.block 0 (.loop l74_0))) (.seq (.reg r74_7) (.ret))))
/-- jetsam/flow.frame -/
def a74 : AFunc := ⟨1, 25, [.cell 2 (some 2)], c74⟩
def r75_0 : List AOper := [o 3 (.box (.t 0)),
  o 5 (.box (.t 2)),
  o 6 (.mv (.c (.bool false)))]
def r75_1 : List AOper := [o 10 (.faddr 0 (.t 5)),
  o 11 (.load none (.t 10)),
  o 12 (.bin .lss (.t 11) (i64 2)),
  o 13 (.mv (.t 12)),
  ⟨some 14, .faddr 0 (.t 5), (some (13, false)), false⟩,
  ⟨some 15, .load none (.t 14), (some (13, false)), false⟩,
  ⟨some 16, .bin .gtr (.t 15) (i64 802), (some (13, false)), false⟩,
  o 17 (.pick (.t 13) (.c (.bool true)) (.t 16)),
  o 18 (.mv (.t 17)),
  ⟨some 19, .faddr 1 (.t 5), (some (18, false)), false⟩,
  ⟨some 20, .load none (.t 19), (some (18, false)), false⟩,
  ⟨some 21, .len false (.t 20), (some (18, false)), false⟩,
  ⟨some 22, .bin .gtr (.t 21) (i64 400), (some (18, false)), false⟩,
  o 23 (.pick (.t 18) (.c (.bool true)) (.t 22)),
  o 24 (.mv (.t 23)),
  ⟨some 25, .load (some 3) (.t 5), (some (24, false)), false⟩,
  ⟨some 26, .call 99 [(.t 25)] .borrow, (some (24, false)), false⟩,
  ⟨some 27, .un .not (.t 26), (some (24, false)), false⟩,
  o 28 (.pick (.t 24) (.c (.bool true)) (.t 27))]
def r75_2 : List AOper := [o 6 (.mv (.c (.bool false)))]
def r75_3 : List AOper := [o 29 (.faddr 1 (.t 5)),
  o 30 (.load none (.t 29)),
  o 31 (.len false (.t 30)),
  o 32 (.mv (i64 0))]
def r75_4 : List AOper := [o 33 (.bin .lss (.t 32) (.t 31))]
def r75_5 : List AOper := [o 34 (.iaddr 19 (.t 30) (.t 32)),
  o 35 (.load (some 19) (.t 34)),
  o 8 (.alloc [.int .i64 0, .int .i64 0, .int .i64 0, .int .i64 0, .int .i64 0, .int .i64 0, .int .i64 0, .int .i64 0, .int .i64 0, .nils, .int .i64 0, .int .i64 0, .int .i64 0, .int .i64 0, .nils, .int .i64 0, .int .i64 0, .int .i64 0, .nils]),
  ⟨none, .store 19 (.t 8) (.t 35), none, false⟩]
def r75_6 : List AOper := [o 36 (.load (some 2) (.t 3)),
  o 37 (.mv (.t 1)),
  o 38 (.load (some 3) (.t 5)),
  o 39 (.load (some 19) (.t 8)),
  o 40 (.call 100 [(.t 36), (.t 37), (.t 38), (.t 39)] .borrow),
  o 41 (.un .not (.t 40))]
def r75_7 : List AOper := [o 6 (.mv (.c (.bool false)))]
def r75_8 : List AOper := [o 42 (.bin .add (.t 32) (i64 1)),
  o 32 (.mv (.t 42))]
def l75_0 : ACode := .seq (.reg r75_4) (.seq (.cond (.t 33) (.skip) (.exit 0)) (.seq (.block 1 (.seq (.reg r75_5) (.seq (.reg r75_6) (.cond (.t 41) (.seq (.reg r75_7) (.ret)) (.skip))))) (.reg r75_8)))
def r75_9 : List AOper := [o 43 (.faddr 0 (.t 5)),
  o 44 (.load none (.t 43)),
  o 45 (.mv (i64 0))]
def r75_10 : List AOper := [o 46 (.bin .lss (.t 45) (.t 44))]
def r75_11 : List AOper := [o 47 (.mv (.t 45)),
  o 9 (.mv (.t 47))]
def r75_12 : List AOper := [o 48 (.load (some 3) (.t 5)),
  o 49 (.mv (.t 9)),
  o 50 (.call 101 [(.t 48), (.t 49)] .borrow),
  o 51 (.un .not (.t 50))]
def r75_13 : List AOper := [o 6 (.mv (.c (.bool false)))]
def r75_14 : List AOper := [o 52 (.bin .add (.t 45) (i64 1)),
  o 45 (.mv (.t 52))]
def l75_1 : ACode := .seq (.reg r75_10) (.seq (.cond (.t 46) (.skip) (.exit 2)) (.seq (.block 3 (.seq (.reg r75_11) (.seq (.reg r75_12) (.cond (.t 51) (.seq (.reg r75_13) (.ret)) (.skip))))) (.reg r75_14)))
def r75_15 : List AOper := [o 53 (.load (some 3) (.t 5)),
  o 54 (.call 102 [(.t 53)] .borrow),
  o 55 (.un .not (.t 54)),
  o 6 (.mv (.t 55))]
def c75 : ACode := .seq (.reg r75_0) (.seq (.seq (.reg r75_1) (.cond (.t 28) (.seq (.reg r75_2) (.ret)) (.skip))) (.seq (.seq (.reg r75_3) (.block 0 (.loop l75_0))) (.seq (.seq (.reg r75_9) (.block 2 (.loop l75_1))) (.seq (.reg r75_15) (.ret)))))
/-- jetsam/flow.graph -/
def a75 : AFunc := ⟨3, 56, [.tmp 6], c75⟩
def r81_0 : List AOper := [o 6 (.mv (.c (.bool false)))]
def r81_1 : List AOper := [o 7 (.mv (.t 0)),
  o 8 (.mv (.t 1)),
  o 9 (.bin .geq (.t 7) (.t 8)),
  o 10 (.mv (.t 9)),
  ⟨some 11, .mv (.t 0), (some (10, true)), false⟩,
  ⟨some 12, .mv (.t 2), (some (10, true)), false⟩,
  ⟨some 13, .bin .leq (.t 11) (.t 12), (some (10, true)), false⟩,
  o 14 (.pick (.t 10) (.t 13) (.c (.bool false))),
  o 6 (.mv (.t 14))]
def c81 : ACode := .seq (.reg r81_0) (.seq (.reg r81_1) (.ret))
/-- jetsam/check.within -/
def a81 : AFunc := ⟨3, 15, [.tmp 6], c81⟩
def r82_0 : List AOper := [o 2 (.box (.t 0)),
  o 4 (.mv (.c (.bool false)))]
def r82_1 : List AOper := [o 6 (.faddr 0 (.t 2)),
  o 7 (.load none (.t 6)),
  o 8 (.call 81 [(.t 7), (i64 0), (i64 2)] .borrow),
  o 9 (.mv (.t 8)),
  ⟨some 10, .faddr 1 (.t 2), (some (9, true)), false⟩,
  ⟨some 11, .load none (.t 10), (some (9, true)), false⟩,
  ⟨some 12, .call 81 [(.t 11), (i64 1), (i64 16)] .borrow, (some (9, true)), false⟩,
  o 13 (.pick (.t 9) (.t 12) (.c (.bool false))),
  o 14 (.mv (.t 13)),
  ⟨some 15, .faddr 4 (.t 2), (some (14, true)), false⟩,
  ⟨some 16, .load none (.t 15), (some (14, true)), false⟩,
  ⟨some 17, .call 81 [(.t 16), (i64 1), (i64 4)] .borrow, (some (14, true)), false⟩,
  o 18 (.pick (.t 14) (.t 17) (.c (.bool false))),
  o 5 (.mv (.t 18))]
def r82_2 : List AOper := [o 19 (.mv (.t 5)),
  o 20 (.mv (.t 19)),
  ⟨some 21, .faddr 2 (.t 2), (some (20, true)), false⟩,
  ⟨some 22, .load none (.t 21), (some (20, true)), false⟩,
  ⟨some 23, .mv (.t 1), (some (20, true)), false⟩,
  ⟨some 24, .bin .sub (.t 23) (i64 1), (some (20, true)), false⟩,
  ⟨some 25, .call 81 [(.t 22), (i64 0), (.t 24)] .borrow, (some (20, true)), false⟩,
  o 26 (.pick (.t 20) (.t 25) (.c (.bool false))),
  o 27 (.mv (.t 26)),
  ⟨some 28, .faddr 3 (.t 2), (some (27, true)), false⟩,
  ⟨some 29, .load none (.t 28), (some (27, true)), false⟩,
  ⟨some 30, .mv (.t 1), (some (27, true)), false⟩,
  ⟨some 31, .bin .sub (.t 30) (i64 1), (some (27, true)), false⟩,
  ⟨some 32, .call 81 [(.t 29), (i64 0), (.t 31)] .borrow, (some (27, true)), false⟩,
  o 33 (.pick (.t 27) (.t 32) (.c (.bool false))),
  o 34 (.mv (.t 33)),
  ⟨some 35, .faddr 2 (.t 2), (some (34, true)), false⟩,
  ⟨some 36, .load none (.t 35), (some (34, true)), false⟩,
  ⟨some 37, .faddr 3 (.t 2), (some (34, true)), false⟩,
  ⟨some 38, .load none (.t 37), (some (34, true)), false⟩,
  ⟨some 39, .bin .neq (.t 36) (.t 38), (some (34, true)), false⟩,
  o 40 (.pick (.t 34) (.t 39) (.c (.bool false))),
  o 41 (.mv (.t 40)),
  ⟨some 42, .load (some 6) (.t 2), (some (41, true)), false⟩,
  ⟨some 43, .call 104 [(.t 42)] .borrow, (some (41, true)), false⟩,
  o 44 (.pick (.t 41) (.t 43) (.c (.bool false))),
  o 4 (.mv (.t 44))]
def c82 : ACode := .seq (.reg r82_0) (.seq (.reg r82_1) (.seq (.reg r82_2) (.ret)))
/-- jetsam/check.channel -/
def a82 : AFunc := ⟨2, 45, [.tmp 4], c82⟩
def r83_0 : List AOper := [o 2 (.box (.t 0)),
  o 4 (.mv (.c (.bool false)))]
def r83_1 : List AOper := [o 7 (.mv (.t 1)),
  o 8 (.len false (.t 7)),
  o 9 (.mv (i64 0))]
def r83_2 : List AOper := [o 10 (.bin .lss (.t 9) (.t 8))]
def r83_3 : List AOper := [o 11 (.iaddr 20 (.t 7) (.t 9)),
  o 12 (.load (some 20) (.t 11)),
  o 6 (.alloc [.int .i64 0, .int .i64 0, .int .i64 0, .int .i64 0, .int .i64 0, .int .i64 0, .int .i64 0, .nils, .int .i64 0, .int .i64 0, .int .i64 0, .int .i64 0, .nils, .int .i64 0, .int .i64 0, .int .i64 0, .nils, .nils, .nils, .nils]),
  ⟨none, .store 20 (.t 6) (.t 12), none, false⟩]
def r83_4 : List AOper := [o 13 (.load (some 4) (.t 2)),
  o 14 (.load (some 20) (.t 6)),
  o 15 (.call 105 [(.t 13), (.t 14)] .borrow),
  o 16 (.un .not (.t 15))]
def r83_5 : List AOper := [o 4 (.mv (.c (.bool false)))]
def r83_6 : List AOper := [o 17 (.bin .add (.t 9) (i64 1)),
  o 9 (.mv (.t 17))]
def l83_0 : ACode := .seq (.reg r83_2) (.seq (.cond (.t 10) (.skip) (.exit 0)) (.seq (.block 1 (.seq (.reg r83_3) (.seq (.reg r83_4) (.cond (.t 16) (.seq (.reg r83_5) (.ret)) (.skip))))) (.reg r83_6)))
def r83_7 : List AOper := [o 4 (.mv (.c (.bool true)))]
def c83 : ACode := .seq (.reg r83_0) (.seq (.seq (.reg r83_1) (.block 0 (.loop l83_0))) (.seq (.reg r83_7) (.ret)))
/-- (jetsam/check.looker).stmts -/
def a83 : AFunc := ⟨2, 18, [.tmp 4], c83⟩
def r84_0 : List AOper := [o 3 (.box (.t 1))]
def r84_1 : List AOper := [o 4 (.mv (.t 0)),
  o 5 (.mv (.t 0)),
  o 6 (.nilck (.t 5)),
  o 7 (.faddr 1 (.t 6)),
  o 8 (.load none (.t 7)),
  o 9 (.load (some 19) (.t 3)),
  ⟨some 10, .islice 1 [.int .i64 0, .int .i64 0, .int .i64 0, .int .i64 0, .int .i64 0, .int .i64 0, .int .i64 0, .int .i64 0, .int .i64 0, .nils, .int .i64 0, .int .i64 0, .int .i64 0, .int .i64 0, .nils, .int .i64 0, .int .i64 0, .int .i64 0, .nils] [(0, 19, (.t 9))], none, true⟩,
  o 11 (.app 19 200 (.t 8) (.t 10)),
  o 12 (.nilck (.t 4)),
  o 13 (.faddr 1 (.t 12)),
  ⟨none, .store 1 (.t 13) (.t 11), none, false⟩]
def b84_1 : List (List Nat) := [[], [], [1], [1, 2], [1, 2, 3], [], [5], [1, 2, 3, 4, 5, 6], [0, 1, 2, 3, 4, 5, 6, 7], [0, 1, 2, 3, 4, 5, 6, 7, 8], [0, 1, 2, 3, 4, 5, 6, 7, 8, 9]]
def c84 : ACode := .seq (.reg r84_0) (.dreg r84_1 b84_1 [(4, 6)])
/-- (*jetsam/flow.Graph).edge -/
def a84 : AFunc := ⟨2, 14, [], c84⟩
def r85_0 : List AOper := [o 2 (.mv (i64 0))]
def r85_1 : List AOper := [o 3 (.mv (.t 0)),
  o 4 (.nilck (.t 3)),
  o 5 (.faddr 0 (.t 4)),
  o 6 (.load none (.t 5)),
  o 7 (.bin .add (.t 6) (i64 1)),
  o 8 (.nilck (.t 3)),
  o 9 (.faddr 0 (.t 8)),
  ⟨none, .store 1 (.t 9) (.t 7), none, false⟩]
def r85_2 : List AOper := [o 10 (.mv (.t 0)),
  o 11 (.nilck (.t 10)),
  o 12 (.faddr 0 (.t 11)),
  o 13 (.load none (.t 12)),
  o 14 (.bin .sub (.t 13) (i64 1)),
  o 2 (.mv (.t 14))]
def c85 : ACode := .seq (.reg r85_0) (.seq (.reg r85_1) (.seq (.reg r85_2) (.ret)))
/-- (*jetsam/flow.Graph).node -/
def a85 : AFunc := ⟨1, 15, [.tmp 2], c85⟩
def r86_0 : List AOper := [o 5 (.box (.t 1))]
def r86_1 : List AOper := [o 8 (.faddr 0 (.t 5)),
  o 9 (.load none (.t 8))]
def r86_2 : List AOper := [o 11 (.bin .eql (.t 9) (i64 1)),
  o 10 (.mv (.t 11))]
def r86_3 : List AOper := [o 12 (.mv (.t 0)),
  o 13 (.mv (.t 2)),
  o 14 (.mv (.t 3)),
  o 15 (.faddr 1 (.t 5)),
  o 16 (.load none (.t 15)),
  o 17 (.faddr 4 (.t 5)),
  o 18 (.load (some 4) (.t 17)),
  o 19 (.call 106 [(.t 18)] .borrow),
  o 20 (.build [.int .i64 0, .int .i64 0, .int .i64 0, .int .i64 0, .int .i64 0, .int .i64 0, .int .i64 0, .int .i64 0, .int .i64 0, .nils, .int .i64 0, .int .i64 0, .int .i64 0, .int .i64 0, .nils, .int .i64 0, .int .i64 0, .int .i64 0, .nils] [(0, 1, (.t 13)), (1, 1, (.t 14)), (2, 1, (i64 1)), (3, 1, (.t 16)), (6, 4, (.t 19))]),
  o 21 (.call 84 [(.t 12), (.t 20)] .share)]
def b86_3 : List (List Nat) := [[], [], [], [], [3], [], [5], [5, 6], [1, 2, 3, 4, 5, 6, 7], [0, 1, 2, 3, 4, 5, 6, 7, 8]]
def r86_4 : List AOper := [o 23 (.bin .eql (.t 9) (i64 4)),
  o 22 (.mv (.t 23))]
def r86_5 : List AOper := [o 24 (.mv (.t 0)),
  o 25 (.mv (.t 2)),
  o 26 (.mv (.t 3)),
  o 27 (.faddr 2 (.t 5)),
  o 28 (.load none (.t 27)),
  o 29 (.faddr 3 (.t 5)),
  o 30 (.load none (.t 29)),
  o 31 (.faddr 4 (.t 5)),
  o 32 (.load (some 4) (.t 31)),
  o 33 (.call 106 [(.t 32)] .borrow),
  o 34 (.build [.int .i64 0, .int .i64 0, .int .i64 0, .int .i64 0, .int .i64 0, .int .i64 0, .int .i64 0, .int .i64 0, .int .i64 0, .nils, .int .i64 0, .int .i64 0, .int .i64 0, .int .i64 0, .nils, .int .i64 0, .int .i64 0, .int .i64 0, .nils] [(0, 1, (.t 25)), (1, 1, (.t 26)), (2, 1, (i64 3)), (4, 1, (.t 28)), (5, 1, (.t 30)), (6, 4, (.t 33))]),
  o 35 (.call 84 [(.t 24), (.t 34)] .share)]
def b86_5 : List (List Nat) := [[], [], [], [], [3], [], [5], [], [7], [7, 8], [1, 2, 3, 4, 5, 6, 7, 8, 9], [0, 1, 2, 3, 4, 5, 6, 7, 8, 9, 10]]
def r86_6 : List AOper := [o 37 (.bin .eql (.t 9) (i64 6)),
  o 36 (.mv (.t 37))]
def r86_7 : List AOper := [o 38 (.mv (.t 0)),
  o 39 (.mv (.t 2)),
  o 40 (.mv (.t 3)),
  o 41 (.faddr 8 (.t 5)),
  o 42 (.load (some 9) (.t 41)),
  o 43 (.call 107 [(.t 42)] .borrow),
  o 44 (.build [.int .i64 0, .int .i64 0, .int .i64 0, .int .i64 0, .int .i64 0, .int .i64 0, .int .i64 0, .int .i64 0, .int .i64 0, .nils, .int .i64 0, .int .i64 0, .int .i64 0, .int .i64 0, .nils, .int .i64 0, .int .i64 0, .int .i64 0, .nils] [(0, 1, (.t 39)), (1, 1, (.t 40)), (2, 1, (i64 5)), (10, 9, (.t 43))]),
  o 45 (.call 84 [(.t 38), (.t 44)] .share)]
def r86_8 : List AOper := [o 47 (.bin .eql (.t 9) (i64 7)),
  o 46 (.mv (.t 47))]
def r86_9 : List AOper := [o 48 (.mv (.t 0)),
  o 49 (.mv (.t 2)),
  o 50 (.mv (.t 3)),
  o 51 (.faddr 1 (.t 5)),
  o 52 (.load none (.t 51)),
  o 53 (.build [.int .i64 0, .int .i64 0, .int .i64 0, .int .i64 0, .int .i64 0, .int .i64 0, .int .i64 0, .int .i64 0, .int .i64 0, .nils, .int .i64 0, .int .i64 0, .int .i64 0, .int .i64 0, .nils, .int .i64 0, .int .i64 0, .int .i64 0, .nils] [(0, 1, (.t 49)), (1, 1, (.t 50)), (2, 1, (i64 6)), (3, 1, (.t 52))]),
  o 54 (.call 84 [(.t 48), (.t 53)] .share)]
def r86_10 : List AOper := [o 56 (.bin .eql (.t 9) (i64 2)),
  o 55 (.mv (.t 56))]
def r86_11 : List AOper := [o 57 (.mv (.t 0)),
  o 58 (.faddr 8 (.t 5)),
  o 59 (.load (some 9) (.t 58)),
  o 60 (.call 107 [(.t 59)] .borrow),
  o 61 (.faddr 17 (.t 5)),
  o 62 (.load none (.t 61)),
  o 63 (.mv (.t 2)),
  o 64 (.mv (.t 3)),
  o 65 (.call 108 [(.t 57), (.t 60), (.t 62), (.t 63), (.t 64)] .share)]
def b86_11 : List (List Nat) := [[], [], [1], [1, 2], [], [4], [], [], [0, 1, 2, 3, 4, 5, 6, 7]]
def r86_12 : List AOper := [o 66 (.mv (.t 0)),
  o 67 (.faddr 8 (.t 5)),
  o 68 (.load (some 9) (.t 67)),
  o 69 (.call 109 [(.t 68)] .borrow),
  o 70 (.faddr 18 (.t 5)),
  o 71 (.load none (.t 70)),
  o 72 (.mv (.t 2)),
  o 73 (.mv (.t 3)),
  o 74 (.call 108 [(.t 66), (.t 69), (.t 71), (.t 72), (.t 73)] .share)]
def b86_12 : List (List Nat) := [[], [], [1], [1, 2], [], [4], [], [], [0, 1, 2, 3, 4, 5, 6, 7]]
def r86_13 : List AOper := [o 76 (.bin .eql (.t 9) (i64 3)),
  o 75 (.mv (.t 76))]
def r86_14 : List AOper := [o 77 (.mv (.t 0)),
  o 78 (.load (some 20) (.t 5)),
  o 79 (.mv (.t 2)),
  o 80 (.mv (.t 3)),
  o 81 (.call 110 [(.t 77), (.t 78), (.t 79), (.t 80)] .share)]
def r86_15 : List AOper := [o 83 (.bin .eql (.t 9) (i64 5)),
  o 82 (.mv (.t 83))]
def r86_16 : List AOper := [o 84 (.mv (.t 0)),
  o 85 (.load (some 20) (.t 5)),
  o 86 (.mv (.t 2)),
  o 87 (.mv (.t 3)),
  o 88 (.call 111 [(.t 84), (.t 85), (.t 86), (.t 87)] .share)]
def c86 : ACode := .seq (.reg r86_0) (.seq (.reg r86_1) (.block 0 (.seq (.reg r86_2) (.cond (.t 10) (.dreg r86_3 b86_3 []) (.seq (.reg r86_4) (.cond (.t 22) (.dreg r86_5 b86_5 []) (.seq (.reg r86_6) (.cond (.t 36) (.reg r86_7) (.seq (.reg r86_8) (.cond (.t 46) (.reg r86_9) (.seq (.reg r86_10) (.cond (.t 55) (.seq (.dreg r86_11 b86_11 []) (.dreg r86_12 b86_12 [])) (.seq (.reg r86_13) (.cond (.t 75) (.reg r86_14) (.seq (.reg r86_15) (.cond (.t 82) (.reg r86_16) (.skip)))))))))))))))))
/-- (*jetsam/flow.Graph).stmt -/
def a86 : AFunc := ⟨4, 89, [], c86⟩
def r87_0 : List AOper := [o 8 (.mv (.c (.bool true)))]
def r87_1 : List AOper := [o 9 (.mv (.c (.bool true)))]
def r87_2 : List AOper := [o 19 (.mv (.t 2)),
  o 20 (.mv (.t 1)),
  o 21 (.bin .sub (.t 19) (.t 20)),
  o 10 (.mv (.t 21))]
def r87_3 : List AOper := [o 22 (.mv (.t 10)),
  o 23 (.bin .leq (.t 22) (i64 12))]
def r87_4 : List AOper := [o 24 (.mv (.t 0)),
  o 25 (.mv (.t 1)),
  o 26 (.mv (.t 2)),
  o 27 (.call 112 [(.t 24), (.t 25), (.t 26)] .share)]
def r87_5 : List AOper := [o 28 (.mv (.t 3)),
  o 29 (.bin .eql (.t 28) (i64 0))]
def r87_6 : List AOper := [o 30 (.mv (.t 0)),
  o 31 (.mv (.t 1)),
  o 32 (.mv (.t 2)),
  o 33 (.call 113 [(.t 30), (.t 31), (.t 32)] .share)]
def r87_7 : List AOper := [o 34 (.mv (.t 8)),
  o 35 (.un .not (.t 34))]
def r87_8 : List AOper := [o 36 (.mv (.t 0)),
  o 37 (.mv (.t 1)),
  o 38 (.mv (.t 2)),
  o 39 (.call 114 [(.t 36), (.t 37), (.t 38)] .share)]
def r87_9 : List AOper := [o 40 (.mv (.t 3)),
  o 41 (.bin .sub (.t 40) (i64 1)),
  o 3 (.mv (.t 41))]
def r87_10 : List AOper := [o 43 (.mv (.t 0)),
  o 44 (.mv (.t 1)),
  o 45 (.mv (.t 2)),
  o 46 (.call 115 [(.t 43), (.t 44), (.t 45)] .share),
  o 42 (.mv (.t 46)),
  o 47 (.ext 0 (.t 42)),
  o 48 (.ext 1 (.t 42)),
  o 11 (.mv (.t 47)),
  o 12 (.mv (.t 48))]
def r87_11 : List AOper := [o 49 (.mv (.t 12)),
  o 50 (.bin .eql (.t 49) (i64 2))]
def r87_12 : List AOper := [o 51 (.mv (.t 0)),
  o 52 (.mv (.t 1)),
  o 53 (.mv (.t 2)),
  o 54 (.call 116 [(.t 51), (.t 52), (.t 53)] .share)]
def r87_13 : List AOper := [o 55 (.mv (.t 2)),
  o 56 (.bin .sub (.t 55) (i64 1)),
  o 57 (.mv (.t 11)),
  o 58 (.mv (.t 1)),
  o 59 (.bin .sub (.t 57) (.t 58)),
  o 60 (.bin .sub (.t 56) (.t 59)),
  o 11 (.mv (.t 60))]
def r87_14 : List AOper := [o 12 (.mv (i64 1))]
def r87_15 : List AOper := [o 61 (.mv (.t 8)),
  o 62 (.mv (.t 61)),
  ⟨some 63, .mv (.t 9), (some (62, true)), false⟩,
  o 64 (.pick (.t 62) (.t 63) (.c (.bool false))),
  o 65 (.mv (.t 64)),
  ⟨some 66, .mv (.t 12), (some (65, true)), false⟩,
  ⟨some 67, .bin .eql (.t 66) (i64 1), (some (65, true)), false⟩,
  o 68 (.pick (.t 65) (.t 67) (.c (.bool false)))]
def r87_16 : List AOper := [o 69 (.mv (.t 0)),
  o 70 (.mv (.t 1)),
  o 71 (.mv (.t 2)),
  o 72 (.call 117 [(.t 69), (.t 70), (.t 71)] .share)]
def r87_17 : List AOper := [o 73 (.mv (.t 1)),
  o 74 (.bin .gtr (.t 73) (i64 0)),
  o 75 (.mv (.t 74)),
  ⟨some 76, .mv (.t 0), (some (75, true)), false⟩,
  ⟨some 77, .mv (.t 1), (some (75, true)), false⟩,
  ⟨some 78, .bin .sub (.t 77) (i64 1), (some (75, true)), false⟩,
  ⟨some 79, .iaddr 1 (.t 76) (.t 78), (some (75, true)), false⟩,
  ⟨some 80, .load none (.t 79), (some (75, true)), false⟩,
  ⟨some 81, .mv (.t 0), (some (75, true)), false⟩,
  ⟨some 82, .mv (.t 11), (some (75, true)), false⟩,
  ⟨some 83, .iaddr 1 (.t 81) (.t 82), (some (75, true)), false⟩,
  ⟨some 84, .load none (.t 83), (some (75, true)), false⟩,
  ⟨some 85, .call 118 [(.t 80), (.t 84)] .borrow, (some (75, true)), false⟩,
  ⟨some 86, .un .not (.t 85), (some (75, true)), false⟩,
  o 87 (.pick (.t 75) (.t 86) (.c (.bool false)))]
def b87_17 : List (List Nat) := [[], [0], [0, 1], [0, 1, 2], [0, 1, 2], [0, 1, 2, 4], [0, 1, 2, 3, 4, 5], [0, 1, 2, 3, 4, 5, 6], [0, 1, 2], [0, 1, 2], [0, 1, 2, 8, 9], [0, 1, 2, 8, 9, 10], [0, 1, 2, 3, 4, 5, 6, 7, 8, 9, 10, 11], [0, 1, 2, 3, 4, 5, 6, 7, 8, 9, 10, 11, 12], [0, 1, 2, 3, 4, 5, 6, 7, 8, 9, 10, 11, 12, 13]]
def r87_18 : List AOper := [o 88 (.mv (.t 0)),
  o 89 (.mv (.t 1)),
  o 90 (.mv (.t 2)),
  o 91 (.mv (.t 11)),
  o 92 (.call 119 [(.t 88), (.t 89), (.t 90), (.t 91)] .share),
  o 13 (.mv (.t 92))]
def r87_19 : List AOper := [o 93 (.mv (.t 13)),
  o 1 (.mv (.t 93))]
def r87_20 : List AOper := [o 95 (.mv (.t 0)),
  o 96 (.mv (.t 1)),
  o 97 (.mv (.t 2)),
  o 98 (.mv (.t 11)),
  o 99 (.call 120 [(.t 95), (.t 96), (.t 97), (.t 98)] .share),
  o 94 (.mv (.t 99)),
  o 100 (.ext 0 (.t 94)),
  o 101 (.ext 1 (.t 94)),
  o 14 (.mv (.t 100)),
  o 15 (.mv (.t 101))]
def r87_21 : List AOper := [o 102 (.mv (.t 15)),
  o 9 (.mv (.t 102))]
def r87_22 : List AOper := [o 103 (.mv (.t 14)),
  o 104 (.mv (.t 1)),
  o 105 (.bin .sub (.t 103) (.t 104)),
  o 106 (.mv (.t 2)),
  o 107 (.mv (.t 14)),
  o 108 (.bin .sub (.t 106) (.t 107)),
  o 16 (.mv (.t 105)),
  o 17 (.mv (.t 108))]
def r87_23 : List AOper := [o 109 (.mv (.t 10)),
  o 110 (.bin .quo (.t 109) (i64 8)),
  o 18 (.mv (.t 110))]
def r87_24 : List AOper := [o 111 (.mv (.t 16)),
  o 112 (.mv (.t 17)),
  o 113 (.bin .lss (.t 111) (.t 112))]
def r87_25 : List AOper := [o 114 (.mv (.t 16)),
  o 115 (.mv (.t 18)),
  o 116 (.bin .geq (.t 114) (.t 115)),
  o 8 (.mv (.t 116))]
def r87_26 : List AOper := [o 117 (.mv (.t 0)),
  o 118 (.mv (.t 1)),
  o 119 (.mv (.t 14)),
  o 120 (.mv (.t 3)),
  o 121 (.call 87 [(.t 117), (.t 118), (.t 119), (.t 120)] .share)]
def r87_27 : List AOper := [o 122 (.mv (.t 14)),
  o 123 (.bin .add (.t 122) (i64 1)),
  o 1 (.mv (.t 123))]
def r87_28 : List AOper := [o 124 (.mv (.t 17)),
  o 125 (.mv (.t 18)),
  o 126 (.bin .geq (.t 124) (.t 125)),
  o 8 (.mv (.t 126))]
def r87_29 : List AOper := [o 127 (.mv (.t 0)),
  o 128 (.mv (.t 14)),
  o 129 (.bin .add (.t 128) (i64 1)),
  o 130 (.mv (.t 2)),
  o 131 (.mv (.t 3)),
  o 132 (.call 87 [(.t 127), (.t 129), (.t 130), (.t 131)] .share)]
def r87_30 : List AOper := [o 133 (.mv (.t 14)),
  o 2 (.mv (.t 133))]
def l87_0 : ACode := .block 1 (.seq (.reg r87_2) (.seq (.seq (.reg r87_3) (.cond (.t 23) (.seq (.reg r87_4) (.ret)) (.skip))) (.seq (.seq (.reg r87_5) (.cond (.t 29) (.seq (.reg r87_6) (.ret)) (.skip))) (.seq (.seq (.reg r87_7) (.cond (.t 35) (.seq (.reg r87_8) (.reg r87_9)) (.skip))) (.seq (.reg r87_10) (.seq (.seq (.reg r87_11) (.cond (.t 50) (.seq (.reg r87_12) (.seq (.reg r87_13) (.reg r87_14))) (.skip))) (.seq (.seq (.reg r87_15) (.cond (.t 68) (.seq (.reg r87_16) (.cond (.t 72) (.ret) (.skip))) (.skip))) (.seq (.seq (.dreg r87_17 b87_17 []) (.cond (.t 87) (.seq (.reg r87_18) (.seq (.reg r87_19) (.exit 1))) (.skip))) (.seq (.reg r87_20) (.seq (.reg r87_21) (.seq (.reg r87_22) (.seq (.reg r87_23) (.seq (.reg r87_24) (.cond (.t 113) (.seq (.reg r87_25) (.seq (.reg r87_26) (.reg r87_27))) (.seq (.reg r87_28) (.seq (.reg r87_29) (.reg r87_30)))))))))))))))))
def c87 : ACode := .seq (.reg r87_0) (.seq (.reg r87_1) (.block 0 (.loop l87_0)))
/-- slices.pdqsortOrdered[int] -/
def a87 : AFunc := ⟨4, 134, [], c87⟩
def r88_0 : List AOper := [o 2 (.mv (i64 0))]
def r88_1 : List AOper := [o 3 (.mv (.t 0)),
  o 4 (.conv .u32 (.t 3)),
  o 5 (.call 121 [(.t 4)] .borrow),
  o 2 (.mv (.t 5))]
def r88_2 : List AOper := [o 6 (.mv (.t 0)),
  o 7 (.call 122 [(.t 6)] .borrow),
  o 2 (.mv (.t 7))]
def c88 : ACode := .seq (.reg r88_0) (.seq (.cond (.c (.bool false)) (.seq (.reg r88_1) (.ret)) (.skip)) (.seq (.reg r88_2) (.ret)))
/-- math/bits.Len -/
def a88 : AFunc := ⟨1, 8, [.tmp 2], c88⟩
def r99_0 : List AOper := [o 1 (.box (.t 0)),
  o 2 (.mv (.c (.bool false)))]
def r99_1 : List AOper := [o 5 (.faddr 2 (.t 1)),
  o 6 (.load none (.t 5)),
  o 7 (.len false (.t 6)),
  o 8 (.mv (i64 0))]
def r99_2 : List AOper := [o 9 (.bin .lss (.t 8) (.t 7))]
def r99_3 : List AOper := [o 10 (.mv (.t 8)),
  o 11 (.iaddr 1 (.t 6) (.t 8)),
  o 12 (.load none (.t 11)),
  o 3 (.mv (.t 10)),
  o 4 (.mv (.t 12))]
def r99_4 : List AOper := [o 13 (.mv (.t 4)),
  o 14 (.bin .lss (.t 13) (i64 0)),
  o 15 (.mv (.t 14)),
  ⟨some 16, .mv (.t 4), (some (15, false)), false⟩,
  ⟨some 17, .faddr 0 (.t 1), (some (15, false)), false⟩,
  ⟨some 18, .load none (.t 17), (some (15, false)), false⟩,
  ⟨some 19, .bin .geq (.t 16) (.t 18), (some (15, false)), false⟩,
  o 20 (.pick (.t 15) (.c (.bool true)) (.t 19)),
  o 21 (.mv (.t 20)),
  ⟨some 22, .mv (.t 3), (some (21, false)), false⟩,
  ⟨some 23, .bin .gtr (.t 22) (i64 0), (some (21, false)), false⟩,
  ⟨some 24, .mv (.t 23), (some (21, false)), false⟩,
  ⟨some 25, .faddr 2 (.t 1), (some (24, true)), false⟩,
  ⟨some 26, .load none (.t 25), (some (24, true)), false⟩,
  ⟨some 27, .mv (.t 3), (some (24, true)), false⟩,
  ⟨some 28, .bin .sub (.t 27) (i64 1), (some (24, true)), false⟩,
  ⟨some 29, .iaddr 1 (.t 26) (.t 28), (some (24, true)), false⟩,
  ⟨some 30, .load none (.t 29), (some (24, true)), false⟩,
  ⟨some 31, .mv (.t 4), (some (24, true)), false⟩,
  ⟨some 32, .bin .geq (.t 30) (.t 31), (some (24, true)), false⟩,
  ⟨some 33, .pick (.t 24) (.t 32) (.c (.bool false)), (some (21, false)), false⟩,
  o 34 (.pick (.t 21) (.c (.bool true)) (.t 33))]
def r99_5 : List AOper := [o 2 (.mv (.c (.bool false)))]
def r99_6 : List AOper := [o 35 (.bin .add (.t 8) (i64 1)),
  o 8 (.mv (.t 35))]
def l99_0 : ACode := .seq (.reg r99_2) (.seq (.cond (.t 9) (.skip) (.exit 0)) (.seq (.block 1 (.seq (.reg r99_3) (.seq (.reg r99_4) (.cond (.t 34) (.seq (.reg r99_5) (.ret)) (.skip))))) (.reg r99_6)))
def r99_7 : List AOper := [o 2 (.mv (.c (.bool true)))]
def c99 : ACode := .seq (.reg r99_0) (.seq (.seq (.reg r99_1) (.block 0 (.loop l99_0))) (.seq (.reg r99_7) (.ret)))
/-- jetsam/flow.heads -/
def a99 : AFunc := ⟨1, 36, [.tmp 2], c99⟩
def r100_0 : List AOper := [o 4 (.box (.t 0)),
  o 6 (.box (.t 2)),
  o 7 (.box (.t 3)),
  o 8 (.mv (.c (.bool false)))]
def r100_1 : List AOper := [o 12 (.faddr 0 (.t 7)),
  o 13 (.load none (.t 12)),
  o 14 (.bin .lss (.t 13) (i64 0)),
  o 15 (.mv (.t 14)),
  ⟨some 16, .faddr 0 (.t 7), (some (15, false)), false⟩,
  ⟨some 17, .load none (.t 16), (some (15, false)), false⟩,
  ⟨some 18, .faddr 0 (.t 6), (some (15, false)), false⟩,
  ⟨some 19, .load none (.t 18), (some (15, false)), false⟩,
  ⟨some 20, .bin .geq (.t 17) (.t 19), (some (15, false)), false⟩,
  o 21 (.pick (.t 15) (.c (.bool true)) (.t 20)),
  o 22 (.mv (.t 21)),
  ⟨some 23, .faddr 1 (.t 7), (some (22, false)), false⟩,
  ⟨some 24, .load none (.t 23), (some (22, false)), false⟩,
  ⟨some 25, .bin .lss (.t 24) (i64 0), (some (22, false)), false⟩,
  o 26 (.pick (.t 22) (.c (.bool true)) (.t 25)),
  o 27 (.mv (.t 26)),
  ⟨some 28, .faddr 1 (.t 7), (some (27, false)), false⟩,
  ⟨some 29, .load none (.t 28), (some (27, false)), false⟩,
  ⟨some 30, .faddr 0 (.t 6), (some (27, false)), false⟩,
  ⟨some 31, .load none (.t 30), (some (27, false)), false⟩,
  ⟨some 32, .bin .geq (.t 29) (.t 31), (some (27, false)), false⟩,
  o 33 (.pick (.t 27) (.c (.bool true)) (.t 32))]
def r100_2 : List AOper := [o 8 (.mv (.c (.bool false)))]
def r100_3 : List AOper := [o 35 (.load (some 19) (.t 7)),
  o 36 (.call 136 [(.t 35)] .borrow),
  o 34 (.mv (.t 36)),
  o 37 (.ext 0 (.t 34)),
  o 38 (.ext 1 (.t 34)),
  o 9 (.mv (.t 37)),
  o 10 (.mv (.t 38))]
def r100_4 : List AOper := [o 39 (.mv (.t 10)),
  o 40 (.un .not (.t 39))]
def r100_5 : List AOper := [o 8 (.mv (.c (.bool false)))]
def r100_6 : List AOper := [o 41 (.faddr 1 (.t 4)),
  o 42 (.load none (.t 41)),
  o 43 (.call 137 [(.t 42)] .share),
  o 11 (.mv (.t 43))]
def r100_7 : List AOper := [o 44 (.mv (.t 11)),
  o 45 (.mv (.t 1)),
  o 46 (.mv (.t 9)),
  o 47 (.iaddr 2 (.t 44) (.t 45)),
  o 48 (.faddr 1 (.t 47)),
  ⟨none, .store 1 (.t 48) (.t 46), none, false⟩]
def r100_8 : List AOper := [o 49 (.faddr 2 (.t 7)),
  o 50 (.load none (.t 49)),
  o 51 (.bin .eql (.t 50) (i64 0))]
def r100_9 : List AOper := [o 52 (.mv (.t 11)),
  o 53 (.mv (.t 1)),
  o 54 (.mv (.t 11)),
  o 55 (.mv (.t 1)),
  o 56 (.iaddr 2 (.t 54) (.t 55)),
  o 57 (.faddr 0 (.t 56)),
  o 58 (.load none (.t 57)),
  o 59 (.mnx true [(.t 58), (i64 1)]),
  o 60 (.iaddr 2 (.t 52) (.t 53)),
  o 61 (.faddr 0 (.t 60)),
  ⟨none, .store 1 (.t 61) (.t 59), none, false⟩]
def r100_10 : List AOper := [o 62 (.faddr 0 (.t 4)),
  o 63 (.load none (.t 62)),
  o 64 (.mv (.t 11)),
  o 65 (.build [.nils, .nils] [(0, 1, (.t 63)), (1, 1, (.t 64))]),
  o 66 (.call 60 [(.t 65)] .borrow),
  o 8 (.mv (.t 66))]
def c100 : ACode := .seq (.reg r100_0) (.seq (.seq (.reg r100_1) (.cond (.t 33) (.seq (.reg r100_2) (.ret)) (.skip))) (.seq (.reg r100_3) (.seq (.seq (.reg r100_4) (.cond (.t 40) (.seq (.reg r100_5) (.ret)) (.skip))) (.seq (.reg r100_6) (.seq (.reg r100_7) (.seq (.seq (.reg r100_8) (.cond (.t 51) (.reg r100_9) (.skip))) (.seq (.reg r100_10) (.ret))))))))
/-- jetsam/flow.edge -/
def a100 : AFunc := ⟨4, 67, [.tmp 8], c100⟩
def r101_0 : List AOper := [o 2 (.box (.t 0)),
  o 4 (.mv (.c (.bool false)))]
def r101_1 : List AOper := [o 5 (.mv (.c (.nils)))]
def r101_2 : List AOper := [o 8 (.load (some 3) (.t 2)),
  o 9 (.mv (.t 1)),
  o 10 (.call 50 [(.t 8), (.t 9)] .borrow),
  o 11 (.len false (.t 10)),
  o 12 (.mv (i64 0))]
def r101_3 : List AOper := [o 13 (.bin .lss (.t 12) (.t 11))]
def r101_4 : List AOper := [o 14 (.iaddr 1 (.t 10) (.t 12)),
  o 15 (.load none (.t 14)),
  o 7 (.mv (.t 15))]
def r101_5 : List AOper := [o 16 (.mv (.t 5)),
  o 17 (.faddr 1 (.t 2)),
  o 18 (.load none (.t 17)),
  o 19 (.mv (.t 7)),
  o 20 (.iaddr 19 (.t 18) (.t 19)),
  o 21 (.load (some 19) (.t 20)),
  ⟨some 22, .islice 1 [.int .i64 0, .int .i64 0, .int .i64 0, .int .i64 0, .int .i64 0, .int .i64 0, .int .i64 0, .int .i64 0, .int .i64 0, .nils, .int .i64 0, .int .i64 0, .int .i64 0, .int .i64 0, .nils, .int .i64 0, .int .i64 0, .int .i64 0, .nils] [(0, 19, (.t 21))], none, true⟩,
  o 23 (.app 19 200 (.t 16) (.t 22)),
  o 5 (.mv (.t 23))]
def r101_6 : List AOper := [o 24 (.bin .add (.t 12) (i64 1)),
  o 12 (.mv (.t 24))]
def l101_0 : ACode := .seq (.reg r101_3) (.seq (.cond (.t 13) (.skip) (.exit 0)) (.seq (.block 1 (.seq (.reg r101_4) (.reg r101_5))) (.reg r101_6)))
def r101_7 : List AOper := [o 26 (.mv (.t 5)),
  o 27 (.len false (.t 26)),
  o 28 (.bin .eql (.t 27) (i64 0)),
  o 25 (.mv (.t 28))]
def r101_8 : List AOper := [o 29 (.mv (.t 1)),
  o 30 (.bin .eql (.t 29) (i64 1)),
  o 4 (.mv (.t 30))]
def r101_9 : List AOper := [o 32 (.mv (.t 1)),
  o 33 (.bin .eql (.t 32) (i64 1)),
  o 31 (.mv (.t 33))]
def r101_10 : List AOper := [o 4 (.mv (.c (.bool false)))]
def r101_11 : List AOper := [o 35 (.mv (.t 5)),
  o 36 (.iaddr 19 (.t 35) (i64 0)),
  o 37 (.faddr 2 (.t 36)),
  o 38 (.load none (.t 37)),
  o 39 (.bin .eql (.t 38) (i64 4)),
  o 34 (.mv (.t 39))]
def r101_12 : List AOper := [o 40 (.mv (.t 5)),
  o 41 (.call 138 [(.t 40)] .borrow),
  o 4 (.mv (.t 41))]
def r101_13 : List AOper := [o 43 (.mv (.t 5)),
  o 44 (.iaddr 19 (.t 43) (i64 0)),
  o 45 (.faddr 2 (.t 44)),
  o 46 (.load none (.t 45)),
  o 47 (.bin .eql (.t 46) (i64 2)),
  o 42 (.mv (.t 47))]
def r101_14 : List AOper := [o 48 (.mv (.t 5)),
  o 49 (.len false (.t 48)),
  o 50 (.bin .eql (.t 49) (i64 2)),
  o 51 (.mv (.t 50)),
  ⟨some 52, .mv (.t 5), (some (51, true)), false⟩,
  ⟨some 53, .iaddr 19 (.t 52) (i64 0), (some (51, true)), false⟩,
  ⟨some 54, .load (some 19) (.t 53), (some (51, true)), false⟩,
  ⟨some 55, .mv (.t 5), (some (51, true)), false⟩,
  ⟨some 56, .iaddr 19 (.t 55) (i64 1), (some (51, true)), false⟩,
  ⟨some 57, .load (some 19) (.t 56), (some (51, true)), false⟩,
  ⟨some 58, .call 139 [(.t 54), (.t 57)] .borrow, (some (51, true)), false⟩,
  o 59 (.pick (.t 51) (.t 58) (.c (.bool false))),
  o 4 (.mv (.t 59))]
def b101_14 : List (List Nat) := [[], [0], [0, 1], [0, 1, 2], [0, 1, 2, 3], [0, 1, 2, 3, 4], [0, 1, 2, 3, 4, 5], [0, 1, 2, 3], [0, 1, 2, 3, 7], [0, 1, 2, 3, 7, 8], [0, 1, 2, 3, 4, 5, 6, 7, 8, 9], [0, 1, 2, 3, 4, 5, 6, 7, 8, 9, 10], [0, 1, 2, 3, 4, 5, 6, 7, 8, 9, 10, 11]]
def r101_15 : List AOper := [o 60 (.mv (.t 5)),
  o 61 (.len false (.t 60)),
  o 62 (.bin .eql (.t 61) (i64 1)),
  o 4 (.mv (.t 62))]
def c101 : ACode := .seq (.reg r101_0) (.seq (.reg r101_1) (.seq (.seq (.reg r101_2) (.block 0 (.loop l101_0))) (.seq (.block 2 (.seq (.reg r101_7) (.cond (.t 25) (.seq (.reg r101_8) (.ret)) (.seq (.reg r101_9) (.cond (.t 31) (.seq (.reg r101_10) (.ret)) (.seq (.reg r101_11) (.cond (.t 34) (.seq (.reg r101_12) (.ret)) (.seq (.reg r101_13) (.cond (.t 42) (.seq (.dreg r101_14 b101_14 []) (.ret)) (.skip)))))))))) (.seq (.reg r101_15) (.ret)))))
/-- jetsam/flow.leaves -/
def a101 : AFunc := ⟨2, 63, [.tmp 4], c101⟩
def r102_0 : List AOper := [o 1 (.box (.t 0)),
  o 2 (.mv (.c (.bool false)))]
def r102_1 : List AOper := [o 14 (.faddr 0 (.t 1)),
  o 15 (.load none (.t 14)),
  o 16 (.mksl 1 8 [.int .i64 0] (.t 15)),
  o 3 (.mv (.t 16))]
def r102_2 : List AOper := [o 17 (.faddr 1 (.t 1)),
  o 18 (.load none (.t 17)),
  o 19 (.len false (.t 18)),
  o 20 (.mv (i64 0))]
def r102_3 : List AOper := [o 21 (.bin .lss (.t 20) (.t 19))]
def r102_4 : List AOper := [o 22 (.iaddr 19 (.t 18) (.t 20)),
  o 23 (.load (some 19) (.t 22)),
  o 5 (.alloc [.int .i64 0, .int .i64 0, .int .i64 0, .int .i64 0, .int .i64 0, .int .i64 0, .int .i64 0, .int .i64 0, .int .i64 0, .nils, .int .i64 0, .int .i64 0, .int .i64 0, .int .i64 0, .nils, .int .i64 0, .int .i64 0, .int .i64 0, .nils]),
  ⟨none, .store 19 (.t 5) (.t 23), none, false⟩]
def r102_5 : List AOper := [o 24 (.faddr 2 (.t 1)),
  o 25 (.load none (.t 24)),
  o 26 (.faddr 0 (.t 5)),
  o 27 (.load none (.t 26)),
  o 28 (.call 140 [(.t 25), (.t 27)] .borrow),
  o 29 (.un .not (.t 28))]
def r102_6 : List AOper := [o 30 (.mv (.t 3)),
  o 31 (.faddr 1 (.t 5)),
  o 32 (.load none (.t 31)),
  o 33 (.iaddr 1 (.t 30) (.t 32)),
  o 34 (.load none (.t 33)),
  o 35 (.bin .add (.t 34) (i64 1)),
  o 36 (.iaddr 1 (.t 30) (.t 32)),
  ⟨none, .store 1 (.t 36) (.t 35), none, false⟩]
def r102_7 : List AOper := [o 37 (.bin .add (.t 20) (i64 1)),
  o 20 (.mv (.t 37))]
def l102_0 : ACode := .seq (.reg r102_3) (.seq (.cond (.t 21) (.skip) (.exit 0)) (.seq (.block 1 (.seq (.reg r102_4) (.seq (.reg r102_5) (.cond (.t 29) (.reg r102_6) (.skip))))) (.reg r102_7)))
def r102_8 : List AOper := [o 6 (.mv (.c (.nils)))]
def r102_9 : List AOper := [o 7 (.mv (i64 0))]
def r102_10 : List AOper := [o 38 (.mv (.t 3)),
  o 39 (.len false (.t 38)),
  o 40 (.mv (i64 0))]
def r102_11 : List AOper := [o 41 (.bin .lss (.t 40) (.t 39))]
def r102_12 : List AOper := [o 42 (.mv (.t 40)),
  o 43 (.iaddr 1 (.t 38) (.t 40)),
  o 44 (.load none (.t 43)),
  o 8 (.mv (.t 42)),
  o 9 (.mv (.t 44))]
def r102_13 : List AOper := [o 45 (.mv (.t 9)),
  o 46 (.bin .eql (.t 45) (i64 0))]
def r102_14 : List AOper := [o 47 (.mv (.t 6)),
  o 48 (.mv (.t 8)),
  o 49 (.islice 1 [.int .i64 0] [(0, 1, (.t 48))]),
  o 50 (.app 1 8 (.t 47) (.t 49)),
  o 6 (.mv (.t 50))]
def r102_15 : List AOper := [o 51 (.bin .add (.t 40) (i64 1)),
  o 40 (.mv (.t 51))]
def l102_1 : ACode := .seq (.reg r102_11) (.seq (.cond (.t 41) (.skip) (.exit 2)) (.seq (.block 3 (.seq (.reg r102_12) (.seq (.reg r102_13) (.cond (.t 46) (.reg r102_14) (.skip))))) (.reg r102_15)))
def r102_16 : List AOper := [o 52 (.mv (.t 6)),
  o 53 (.len false (.t 52)),
  o 54 (.bin .gtr (.t 53) (i64 0))]
def r102_17 : List AOper := [o 55 (.mv (.t 6)),
  o 56 (.iaddr 1 (.t 55) (i64 0)),
  o 57 (.load none (.t 56)),
  o 10 (.mv (.t 57))]
def r102_18 : List AOper := [o 58 (.mv (.t 6)),
  o 59 (.slsl 1 (.t 58) (some (i64 1)) none none),
  o 6 (.mv (.t 59))]
def r102_19 : List AOper := [o 60 (.mv (.t 7)),
  o 61 (.bin .add (.t 60) (i64 1)),
  o 7 (.mv (.t 61))]
def r102_20 : List AOper := [o 62 (.faddr 2 (.t 1)),
  o 63 (.load none (.t 62)),
  o 64 (.mv (.t 10)),
  o 65 (.call 140 [(.t 63), (.t 64)] .borrow)]
def r102_21 : List AOper := [o 66 (.load (some 3) (.t 1)),
  o 67 (.mv (.t 10)),
  o 68 (.call 50 [(.t 66), (.t 67)] .borrow),
  o 69 (.len false (.t 68)),
  o 70 (.mv (i64 0))]
def r102_22 : List AOper := [o 71 (.bin .lss (.t 70) (.t 69))]
def r102_23 : List AOper := [o 72 (.iaddr 1 (.t 68) (.t 70)),
  o 73 (.load none (.t 72)),
  o 12 (.mv (.t 73))]
def r102_24 : List AOper := [o 74 (.faddr 1 (.t 1)),
  o 75 (.load none (.t 74)),
  o 76 (.mv (.t 12)),
  o 77 (.iaddr 19 (.t 75) (.t 76)),
  o 78 (.faddr 1 (.t 77)),
  o 79 (.load none (.t 78)),
  o 13 (.mv (.t 79))]
def r102_25 : List AOper := [o 80 (.mv (.t 3)),
  o 81 (.mv (.t 13)),
  o 82 (.iaddr 1 (.t 80) (.t 81)),
  o 83 (.load none (.t 82)),
  o 84 (.bin .sub (.t 83) (i64 1)),
  o 85 (.iaddr 1 (.t 80) (.t 81)),
  ⟨none, .store 1 (.t 85) (.t 84), none, false⟩]
def r102_26 : List AOper := [o 86 (.mv (.t 3)),
  o 87 (.mv (.t 13)),
  o 88 (.iaddr 1 (.t 86) (.t 87)),
  o 89 (.load none (.t 88)),
  o 90 (.bin .eql (.t 89) (i64 0))]
def r102_27 : List AOper := [o 91 (.mv (.t 6)),
  o 92 (.mv (.t 13)),
  o 93 (.islice 1 [.int .i64 0] [(0, 1, (.t 92))]),
  o 94 (.app 1 8 (.t 91) (.t 93)),
  o 6 (.mv (.t 94))]
def r102_28 : List AOper := [o 95 (.bin .add (.t 70) (i64 1)),
  o 70 (.mv (.t 95))]
def l102_2 : ACode := .seq (.reg r102_22) (.seq (.cond (.t 71) (.skip) (.exit 6)) (.seq (.block 7 (.seq (.reg r102_23) (.seq (.reg r102_24) (.seq (.reg r102_25) (.seq (.reg r102_26) (.cond (.t 90) (.reg r102_27) (.skip))))))) (.reg r102_28)))
def l102_3 : ACode := .seq (.seq (.reg r102_16) (.cond (.t 54) (.skip) (.exit 4))) (.block 5 (.seq (.reg r102_17) (.seq (.reg r102_18) (.seq (.reg r102_19) (.seq (.seq (.reg r102_20) (.cond (.t 65) (.exit 5) (.skip))) (.seq (.reg r102_21) (.block 6 (.loop l102_2))))))))
def r102_29 : List AOper := [o 96 (.mv (.t 7)),
  o 97 (.faddr 0 (.t 1)),
  o 98 (.load none (.t 97)),
  o 99 (.bin .lss (.t 96) (.t 98)),
  o 2 (.mv (.t 99))]
def c102 : ACode := .seq (.reg r102_0) (.seq (.reg r102_1) (.seq (.seq (.reg r102_2) (.block 0 (.loop l102_0))) (.seq (.reg r102_8) (.seq (.reg r102_9) (.seq (.seq (.reg r102_10) (.block 2 (.loop l102_1))) (.seq (.block 4 (.loop l102_3)) (.seq (.reg r102_29) (.ret))))))))
/-- jetsam/flow.open -/
def a102 : AFunc := ⟨1, 100, [.tmp 2], c102⟩
def r104_0 : List AOper := [o 1 (.box (.t 0)),
  o 2 (.mv (.c (.bool false)))]
def r104_1 : List AOper := [o 3 (.mv (i64 0))]
def r104_2 : List AOper := [o 8 (.faddr 5 (.t 1)),
  o 9 (.load none (.t 8)),
  o 10 (.len false (.t 9)),
  o 11 (.mv (i64 0))]
def r104_3 : List AOper := [o 12 (.bin .lss (.t 11) (.t 10))]
def r104_4 : List AOper := [o 13 (.mv (.t 11)),
  o 14 (.iaddr 1 (.t 9) (.t 11)),
  o 15 (.load none (.t 14)),
  o 4 (.mv (.t 13)),
  o 5 (.mv (.t 15))]
def r104_5 : List AOper := [o 16 (.mv (.t 5)),
  o 17 (.len false (.t 16)),
  o 18 (.faddr 4 (.t 1)),
  o 19 (.load none (.t 18)),
  o 20 (.bin .neq (.t 17) (.t 19))]
def r104_6 : List AOper := [o 2 (.mv (.c (.bool false)))]
def r104_7 : List AOper := [o 21 (.mv (.t 5)),
  o 22 (.len false (.t 21)),
  o 23 (.mv (i64 0))]
def r104_8 : List AOper := [o 24 (.bin .lss (.t 23) (.t 22))]
def r104_9 : List AOper := [o 25 (.iaddr 1 (.t 21) (.t 23)),
  o 26 (.load none (.t 25)),
  o 7 (.mv (.t 26))]
def r104_10 : List AOper := [o 27 (.mv (.t 7)),
  o 28 (.faddr 5 (.t 1)),
  o 29 (.load none (.t 28)),
  o 30 (.len false (.t 29)),
  o 31 (.bin .sub (.t 30) (i64 1)),
  o 32 (.call 81 [(.t 27), (i64 (-1)), (.t 31)] .borrow),
  o 33 (.un .not (.t 32))]
def r104_11 : List AOper := [o 2 (.mv (.c (.bool false)))]
def r104_12 : List AOper := [o 34 (.mv (.t 7)),
  o 35 (.bin .neq (.t 34) (i64 (-1)))]
def r104_13 : List AOper := [o 36 (.mv (.t 3)),
  o 37 (.mv (.t 4)),
  o 38 (.mv (.t 7)),
  o 39 (.mnx true [(.t 36), (.t 37), (.t 38)]),
  o 3 (.mv (.t 39))]
def r104_14 : List AOper := [o 40 (.bin .add (.t 23) (i64 1)),
  o 23 (.mv (.t 40))]
def l104_0 : ACode := .seq (.reg r104_8) (.seq (.cond (.t 24) (.skip) (.exit 2)) (.seq (.block 3 (.seq (.reg r104_9) (.seq (.seq (.reg r104_10) (.cond (.t 33) (.seq (.reg r104_11) (.ret)) (.skip))) (.seq (.reg r104_12) (.cond (.t 35) (.reg r104_13) (.skip)))))) (.reg r104_14)))
def r104_15 : List AOper := [o 41 (.bin .add (.t 11) (i64 1)),
  o 11 (.mv (.t 41))]
def l104_1 : ACode := .seq (.reg r104_3) (.seq (.cond (.t 12) (.skip) (.exit 0)) (.seq (.block 1 (.seq (.reg r104_4) (.seq (.seq (.reg r104_5) (.cond (.t 20) (.seq (.reg r104_6) (.ret)) (.skip))) (.seq (.reg r104_7) (.block 2 (.loop l104_0)))))) (.reg r104_15)))
def r104_16 : List AOper := [o 42 (.faddr 5 (.t 1)),
  o 43 (.load none (.t 42)),
  o 44 (.len false (.t 43)),
  o 45 (.bin .eql (.t 44) (i64 0)),
  o 46 (.mv (.t 45)),
  ⟨some 47, .mv (.t 3), (some (46, false)), false⟩,
  ⟨some 48, .faddr 5 (.t 1), (some (46, false)), false⟩,
  ⟨some 49, .load none (.t 48), (some (46, false)), false⟩,
  ⟨some 50, .len false (.t 49), (some (46, false)), false⟩,
  ⟨some 51, .bin .sub (.t 50) (i64 1), (some (46, false)), false⟩,
  ⟨some 52, .bin .eql (.t 47) (.t 51), (some (46, false)), false⟩,
  ⟨some 53, .mv (.t 52), (some (46, false)), false⟩,
  ⟨some 54, .faddr 5 (.t 1), (some (53, true)), false⟩,
  ⟨some 55, .load none (.t 54), (some (53, true)), false⟩,
  ⟨some 56, .len false (.t 55), (some (53, true)), false⟩,
  ⟨some 57, .bin .leq (.t 56) (i64 8), (some (53, true)), false⟩,
  ⟨some 58, .pick (.t 53) (.t 57) (.c (.bool false)), (some (46, false)), false⟩,
  o 59 (.pick (.t 46) (.c (.bool true)) (.t 58)),
  o 2 (.mv (.t 59))]
def c104 : ACode := .seq (.reg r104_0) (.seq (.reg r104_1) (.seq (.seq (.reg r104_2) (.block 0 (.loop l104_1))) (.seq (.reg r104_16) (.ret))))
/-- jetsam/check.ruled -/
def a104 : AFunc := ⟨1, 60, [.tmp 2], c104⟩
def r105_0 : List AOper := [o 2 (.box (.t 0)),
  o 3 (.box (.t 1)),
  o 4 (.mv (.c (.bool false)))]
def r105_1 : List AOper := [o 12 (.faddr 4 (.t 3)),
  o 13 (.load (some 4) (.t 12)),
  o 14 (.call 141 [(.t 13)] .borrow),
  o 15 (.faddr 8 (.t 3)),
  o 16 (.load (some 9) (.t 15)),
  o 17 (.call 142 [(.t 16)] .borrow),
  o 5 (.mv (.t 14)),
  o 6 (.mv (.t 17))]
def b105_1 : List (List Nat) := [[], [0], [0, 1], [], [3], [0, 1, 2, 3, 4], [0, 1, 2, 3, 4, 5], [0, 1, 2, 3, 4, 5, 6]]
def r105_2 : List AOper := [o 18 (.faddr 17 (.t 3)),
  o 19 (.load none (.t 18)),
  o 20 (.len false (.t 19)),
  o 21 (.bin .eql (.t 20) (i64 0)),
  o 22 (.faddr 19 (.t 3)),
  o 23 (.load none (.t 22)),
  o 24 (.len false (.t 23)),
  o 25 (.bin .eql (.t 24) (i64 0)),
  o 7 (.mv (.t 21)),
  o 8 (.mv (.t 25))]
def b105_2 : List (List Nat) := [[], [0], [0, 1], [0, 1, 2], [], [4], [4, 5], [4, 5, 6], [0, 1, 2, 3], [0, 1, 2, 3, 4, 5, 6, 7, 8]]
def r105_3 : List AOper := [o 26 (.faddr 18 (.t 3)),
  o 27 (.load none (.t 26)),
  o 28 (.len false (.t 27)),
  o 29 (.bin .eql (.t 28) (i64 0)),
  o 30 (.faddr 1 (.t 3)),
  o 31 (.load none (.t 30)),
  o 32 (.bin .eql (.t 31) (i64 0)),
  o 9 (.mv (.t 29)),
  o 10 (.mv (.t 32))]
def b105_3 : List (List Nat) := [[], [0], [0, 1], [0, 1, 2], [], [4], [4, 5], [0, 1, 2, 3], [0, 1, 2, 3, 4, 5, 6, 7]]
def r105_4 : List AOper := [o 33 (.faddr 2 (.t 3)),
  o 34 (.load none (.t 33)),
  o 35 (.bin .eql (.t 34) (i64 0)),
  o 36 (.mv (.t 35)),
  ⟨some 37, .faddr 3 (.t 3), (some (36, true)), false⟩,
  ⟨some 38, .load none (.t 37), (some (36, true)), false⟩,
  ⟨some 39, .bin .eql (.t 38) (i64 0), (some (36, true)), false⟩,
  o 40 (.pick (.t 36) (.t 39) (.c (.bool false))),
  o 11 (.mv (.t 40))]
def r105_5 : List AOper := [o 41 (.faddr 0 (.t 3)),
  o 42 (.load none (.t 41))]
def r105_6 : List AOper := [o 44 (.bin .eql (.t 42) (i64 1)),
  o 43 (.mv (.t 44))]
def r105_7 : List AOper := [o 45 (.mv (.t 6)),
  o 46 (.mv (.t 45)),
  ⟨some 47, .mv (.t 7), (some (46, true)), false⟩,
  o 48 (.pick (.t 46) (.t 47) (.c (.bool false))),
  o 49 (.mv (.t 48)),
  ⟨some 50, .mv (.t 9), (some (49, true)), false⟩,
  o 51 (.pick (.t 49) (.t 50) (.c (.bool false))),
  o 52 (.mv (.t 51)),
  ⟨some 53, .mv (.t 8), (some (52, true)), false⟩,
  o 54 (.pick (.t 52) (.t 53) (.c (.bool false))),
  o 55 (.mv (.t 54)),
  ⟨some 56, .mv (.t 11), (some (55, true)), false⟩,
  o 57 (.pick (.t 55) (.t 56) (.c (.bool false))),
  o 58 (.mv (.t 57)),
  ⟨some 59, .faddr 1 (.t 3), (some (58, true)), false⟩,
  ⟨some 60, .load none (.t 59), (some (58, true)), false⟩,
  ⟨some 61, .faddr 3 (.t 2), (some (58, true)), false⟩,
  ⟨some 62, .load none (.t 61), (some (58, true)), false⟩,
  ⟨some 63, .bin .sub (.t 62) (i64 1), (some (58, true)), false⟩,
  ⟨some 64, .call 81 [(.t 60), (i64 0), (.t 63)] .borrow, (some (58, true)), false⟩,
  o 65 (.pick (.t 58) (.t 64) (.c (.bool false))),
  o 66 (.mv (.t 65)),
  ⟨some 67, .faddr 4 (.t 3), (some (66, true)), false⟩,
  ⟨some 68, .load (some 4) (.t 67), (some (66, true)), false⟩,
  ⟨some 69, .faddr 3 (.t 2), (some (66, true)), false⟩,
  ⟨some 70, .load none (.t 69), (some (66, true)), false⟩,
  ⟨some 71, .call 143 [(.t 68), (.t 70)] .borrow, (some (66, true)), false⟩,
  o 72 (.pick (.t 66) (.t 71) (.c (.bool false))),
  o 4 (.mv (.t 72))]
def r105_8 : List AOper := [o 74 (.bin .eql (.t 42) (i64 7)),
  o 73 (.mv (.t 74))]
def r105_9 : List AOper := [o 75 (.mv (.t 5)),
  o 76 (.mv (.t 75)),
  ⟨some 77, .mv (.t 6), (some (76, true)), false⟩,
  o 78 (.pick (.t 76) (.t 77) (.c (.bool false))),
  o 79 (.mv (.t 78)),
  ⟨some 80, .mv (.t 7), (some (79, true)), false⟩,
  o 81 (.pick (.t 79) (.t 80) (.c (.bool false))),
  o 82 (.mv (.t 81)),
  ⟨some 83, .mv (.t 9), (some (82, true)), false⟩,
  o 84 (.pick (.t 82) (.t 83) (.c (.bool false))),
  o 85 (.mv (.t 84)),
  ⟨some 86, .mv (.t 8), (some (85, true)), false⟩,
  o 87 (.pick (.t 85) (.t 86) (.c (.bool false))),
  o 88 (.mv (.t 87)),
  ⟨some 89, .mv (.t 11), (some (88, true)), false⟩,
  o 90 (.pick (.t 88) (.t 89) (.c (.bool false))),
  o 91 (.mv (.t 90)),
  ⟨some 92, .faddr 1 (.t 3), (some (91, true)), false⟩,
  ⟨some 93, .load none (.t 92), (some (91, true)), false⟩,
  ⟨some 94, .faddr 3 (.t 2), (some (91, true)), false⟩,
  ⟨some 95, .load none (.t 94), (some (91, true)), false⟩,
  ⟨some 96, .bin .sub (.t 95) (i64 1), (some (91, true)), false⟩,
  ⟨some 97, .call 81 [(.t 93), (i64 0), (.t 96)] .borrow, (some (91, true)), false⟩,
  o 98 (.pick (.t 91) (.t 97) (.c (.bool false))),
  o 4 (.mv (.t 98))]
def r105_10 : List AOper := [o 100 (.bin .eql (.t 42) (i64 6)),
  o 99 (.mv (.t 100))]
def r105_11 : List AOper := [o 101 (.mv (.t 5)),
  o 102 (.mv (.t 101)),
  ⟨some 103, .mv (.t 7), (some (102, true)), false⟩,
  o 104 (.pick (.t 102) (.t 103) (.c (.bool false))),
  o 105 (.mv (.t 104)),
  ⟨some 106, .mv (.t 9), (some (105, true)), false⟩,
  o 107 (.pick (.t 105) (.t 106) (.c (.bool false))),
  o 108 (.mv (.t 107)),
  ⟨some 109, .mv (.t 8), (some (108, true)), false⟩,
  o 110 (.pick (.t 108) (.t 109) (.c (.bool false))),
  o 111 (.mv (.t 110)),
  ⟨some 112, .mv (.t 11), (some (111, true)), false⟩,
  o 113 (.pick (.t 111) (.t 112) (.c (.bool false))),
  o 114 (.mv (.t 113)),
  ⟨some 115, .mv (.t 10), (some (114, true)), false⟩,
  o 116 (.pick (.t 114) (.t 115) (.c (.bool false))),
  o 117 (.mv (.t 116)),
  ⟨some 118, .faddr 8 (.t 3), (some (117, true)), false⟩,
  ⟨some 119, .load (some 9) (.t 118), (some (117, true)), false⟩,
  ⟨some 120, .faddr 3 (.t 2), (some (117, true)), false⟩,
  ⟨some 121, .load none (.t 120), (some (117, true)), false⟩,
  ⟨some 122, .call 144 [(.t 119), (.t 121)] .borrow, (some (117, true)), false⟩,
  o 123 (.pick (.t 117) (.t 122) (.c (.bool false))),
  o 4 (.mv (.t 123))]
def r105_12 : List AOper := [o 125 (.bin .eql (.t 42) (i64 3)),
  o 124 (.mv (.t 125))]
def r105_13 : List AOper := [o 126 (.mv (.t 5)),
  o 127 (.mv (.t 126)),
  ⟨some 128, .mv (.t 9), (some (127, true)), false⟩,
  o 129 (.pick (.t 127) (.t 128) (.c (.bool false))),
  o 130 (.mv (.t 129)),
  ⟨some 131, .mv (.t 8), (some (130, true)), false⟩,
  o 132 (.pick (.t 130) (.t 131) (.c (.bool false))),
  o 133 (.mv (.t 132)),
  ⟨some 134, .mv (.t 11), (some (133, true)), false⟩,
  o 135 (.pick (.t 133) (.t 134) (.c (.bool false))),
  o 136 (.mv (.t 135)),
  ⟨some 137, .mv (.t 10), (some (136, true)), false⟩,
  o 138 (.pick (.t 136) (.t 137) (.c (.bool false))),
  o 139 (.mv (.t 138)),
  ⟨some 140, .faddr 8 (.t 3), (some (139, true)), false⟩,
  ⟨some 141, .load (some 9) (.t 140), (some (139, true)), false⟩,
  ⟨some 142, .faddr 3 (.t 2), (some (139, true)), false⟩,
  ⟨some 143, .load none (.t 142), (some (139, true)), false⟩,
  ⟨some 144, .call 144 [(.t 141), (.t 143)] .borrow, (some (139, true)), false⟩,
  o 145 (.pick (.t 139) (.t 144) (.c (.bool false))),
  o 146 (.mv (.t 145)),
  ⟨some 147, .load (some 4) (.t 2), (some (146, true)), false⟩,
  ⟨some 148, .faddr 17 (.t 3), (some (146, true)), false⟩,
  ⟨some 149, .load none (.t 148), (some (146, true)), false⟩,
  ⟨some 150, .call 83 [(.t 147), (.t 149)] .borrow, (some (146, true)), false⟩,
  o 151 (.pick (.t 146) (.t 150) (.c (.bool false))),
  o 4 (.mv (.t 151))]
def r105_14 : List AOper := [o 153 (.bin .eql (.t 42) (i64 2)),
  o 152 (.mv (.t 153))]
def r105_15 : List AOper := [o 154 (.mv (.t 5)),
  o 155 (.mv (.t 154)),
  ⟨some 156, .mv (.t 8), (some (155, true)), false⟩,
  o 157 (.pick (.t 155) (.t 156) (.c (.bool false))),
  o 158 (.mv (.t 157)),
  ⟨some 159, .mv (.t 11), (some (158, true)), false⟩,
  o 160 (.pick (.t 158) (.t 159) (.c (.bool false))),
  o 161 (.mv (.t 160)),
  ⟨some 162, .mv (.t 10), (some (161, true)), false⟩,
  o 163 (.pick (.t 161) (.t 162) (.c (.bool false))),
  o 164 (.mv (.t 163)),
  ⟨some 165, .faddr 8 (.t 3), (some (164, true)), false⟩,
  ⟨some 166, .load (some 9) (.t 165), (some (164, true)), false⟩,
  ⟨some 167, .faddr 3 (.t 2), (some (164, true)), false⟩,
  ⟨some 168, .load none (.t 167), (some (164, true)), false⟩,
  ⟨some 169, .call 144 [(.t 166), (.t 168)] .borrow, (some (164, true)), false⟩,
  o 170 (.pick (.t 164) (.t 169) (.c (.bool false))),
  o 171 (.mv (.t 170)),
  ⟨some 172, .load (some 4) (.t 2), (some (171, true)), false⟩,
  ⟨some 173, .faddr 17 (.t 3), (some (171, true)), false⟩,
  ⟨some 174, .load none (.t 173), (some (171, true)), false⟩,
  ⟨some 175, .call 83 [(.t 172), (.t 174)] .borrow, (some (171, true)), false⟩,
  o 176 (.pick (.t 171) (.t 175) (.c (.bool false))),
  o 177 (.mv (.t 176)),
  ⟨some 178, .load (some 4) (.t 2), (some (177, true)), false⟩,
  ⟨some 179, .faddr 18 (.t 3), (some (177, true)), false⟩,
  ⟨some 180, .load none (.t 179), (some (177, true)), false⟩,
  ⟨some 181, .call 83 [(.t 178), (.t 180)] .borrow, (some (177, true)), false⟩,
  o 182 (.pick (.t 177) (.t 181) (.c (.bool false))),
  o 4 (.mv (.t 182))]
def r105_16 : List AOper := [o 184 (.bin .eql (.t 42) (i64 4)),
  o 183 (.mv (.t 184))]
def r105_17 : List AOper := [o 185 (.mv (.t 6)),
  o 186 (.mv (.t 185)),
  ⟨some 187, .mv (.t 7), (some (186, true)), false⟩,
  o 188 (.pick (.t 186) (.t 187) (.c (.bool false))),
  o 189 (.mv (.t 188)),
  ⟨some 190, .mv (.t 9), (some (189, true)), false⟩,
  o 191 (.pick (.t 189) (.t 190) (.c (.bool false))),
  o 192 (.mv (.t 191)),
  ⟨some 193, .mv (.t 8), (some (192, true)), false⟩,
  o 194 (.pick (.t 192) (.t 193) (.c (.bool false))),
  o 195 (.mv (.t 194)),
  ⟨some 196, .mv (.t 10), (some (195, true)), false⟩,
  o 197 (.pick (.t 195) (.t 196) (.c (.bool false))),
  o 198 (.mv (.t 197)),
  ⟨some 199, .load (some 4) (.t 2), (some (198, true)), false⟩,
  ⟨some 200, .faddr 2 (.t 3), (some (198, true)), false⟩,
  ⟨some 201, .load none (.t 200), (some (198, true)), false⟩,
  ⟨some 202, .call 145 [(.t 199), (.t 201), (.c (.func 146))] .borrow, (some (198, true)), false⟩,
  o 203 (.pick (.t 198) (.t 202) (.c (.bool false))),
  o 204 (.mv (.t 203)),
  ⟨some 205, .load (some 4) (.t 2), (some (204, true)), false⟩,
  ⟨some 206, .faddr 2 (.t 3), (some (204, true)), false⟩,
  ⟨some 207, .load none (.t 206), (some (204, true)), false⟩,
  ⟨some 208, .faddr 3 (.t 3), (some (204, true)), false⟩,
  ⟨some 209, .load none (.t 208), (some (204, true)), false⟩,
  ⟨some 210, .call 147 [(.t 205), (.t 207), (.t 209)] .borrow, (some (204, true)), false⟩,
  o 211 (.pick (.t 204) (.t 210) (.c (.bool false))),
  o 212 (.mv (.t 211)),
  ⟨some 213, .faddr 4 (.t 3), (some (212, true)), false⟩,
  ⟨some 214, .load (some 4) (.t 213), (some (212, true)), false⟩,
  ⟨some 215, .faddr 3 (.t 2), (some (212, true)), false⟩,
  ⟨some 216, .load none (.t 215), (some (212, true)), false⟩,
  ⟨some 217, .call 143 [(.t 214), (.t 216)] .borrow, (some (212, true)), false⟩,
  o 218 (.pick (.t 212) (.t 217) (.c (.bool false))),
  o 4 (.mv (.t 218))]
def r105_18 : List AOper := [o 220 (.bin .eql (.t 42) (i64 5)),
  o 219 (.mv (.t 220))]
def r105_19 : List AOper := [o 221 (.mv (.t 5)),
  o 222 (.mv (.t 221)),
  ⟨some 223, .mv (.t 6), (some (222, true)), false⟩,
  o 224 (.pick (.t 222) (.t 223) (.c (.bool false))),
  o 225 (.mv (.t 224)),
  ⟨some 226, .mv (.t 7), (some (225, true)), false⟩,
  o 227 (.pick (.t 225) (.t 226) (.c (.bool false))),
  o 228 (.mv (.t 227)),
  ⟨some 229, .mv (.t 9), (some (228, true)), false⟩,
  o 230 (.pick (.t 228) (.t 229) (.c (.bool false))),
  o 231 (.mv (.t 230)),
  ⟨some 232, .mv (.t 10), (some (231, true)), false⟩,
  o 233 (.pick (.t 231) (.t 232) (.c (.bool false))),
  o 234 (.mv (.t 233)),
  ⟨some 235, .faddr 3 (.t 3), (some (234, true)), false⟩,
  ⟨some 236, .load none (.t 235), (some (234, true)), false⟩,
  ⟨some 237, .bin .eql (.t 236) (i64 0), (some (234, true)), false⟩,
  o 238 (.pick (.t 234) (.t 237) (.c (.bool false))),
  o 239 (.mv (.t 238)),
  ⟨some 240, .load (some 4) (.t 2), (some (239, true)), false⟩,
  ⟨some 241, .faddr 2 (.t 3), (some (239, true)), false⟩,
  ⟨some 242, .load none (.t 241), (some (239, true)), false⟩,
  ⟨some 243, .call 145 [(.t 240), (.t 242), (.c (.func 148))] .borrow, (some (239, true)), false⟩,
  o 244 (.pick (.t 239) (.t 243) (.c (.bool false))),
  o 245 (.mv (.t 244)),
  ⟨some 246, .load (some 4) (.t 2), (some (245, true)), false⟩,
  ⟨some 247, .faddr 2 (.t 3), (some (245, true)), false⟩,
  ⟨some 248, .load none (.t 247), (some (245, true)), false⟩,
  ⟨some 249, .faddr 19 (.t 3), (some (245, true)), false⟩,
  ⟨some 250, .load none (.t 249), (some (245, true)), false⟩,
  ⟨some 251, .call 149 [(.t 246), (.t 248), (.t 250)] .borrow, (some (245, true)), false⟩,
  o 252 (.pick (.t 245) (.t 251) (.c (.bool false))),
  o 4 (.mv (.t 252))]
def r105_20 : List AOper := [o 4 (.mv (.c (.bool false)))]
def c105 : ACode := .seq (.reg r105_0) (.seq (.dreg r105_1 b105_1 []) (.seq (.dreg r105_2 b105_2 []) (.seq (.dreg r105_3 b105_3 []) (.seq (.reg r105_4) (.seq (.seq (.reg r105_5) (.block 0 (.seq (.reg r105_6) (.cond (.t 43) (.seq (.reg r105_7) (.ret)) (.seq (.reg r105_8) (.cond (.t 73) (.seq (.reg r105_9) (.ret)) (.seq (.reg r105_10) (.cond (.t 99) (.seq (.reg r105_11) (.ret)) (.seq (.reg r105_12) (.cond (.t 124) (.seq (.reg r105_13) (.ret)) (.seq (.reg r105_14) (.cond (.t 152) (.seq (.reg r105_15) (.ret)) (.seq (.reg r105_16) (.cond (.t 183) (.seq (.reg r105_17) (.ret)) (.seq (.reg r105_18) (.cond (.t 219) (.seq (.reg r105_19) (.ret)) (.skip))))))))))))))))) (.seq (.reg r105_20) (.ret)))))))
/-- (jetsam/check.looker).stmt -/
def a105 : AFunc := ⟨2, 253, [.tmp 4], c105⟩
def r106_0 : List AOper := [o 1 (.box (.t 0)),
  o 2 (.alloc [.int .i64 0, .int .i64 0, .int .i64 0, .nils])]
def r106_1 : List AOper := [o 6 (.faddr 3 (.t 1)),
  o 7 (.load none (.t 6)),
  o 3 (.mv (.t 7))]
def r106_2 : List AOper := [o 8 (.faddr 3 (.t 1)),
  ⟨none, .store 1 (.t 8) (.c (.nils)), none, false⟩]
def r106_3 : List AOper := [o 9 (.mv (.t 3)),
  o 10 (.len false (.t 9)),
  o 11 (.mv (i64 0))]
def r106_4 : List AOper := [o 12 (.bin .lss (.t 11) (.t 10))]
def r106_5 : List AOper := [o 13 (.iaddr 4 (.t 9) (.t 11)),
  o 14 (.load (some 4) (.t 13)),
  o 5 (.alloc [.int .i64 0, .int .i64 0, .int .i64 0, .nils]),
  ⟨none, .store 4 (.t 5) (.t 14), none, false⟩]
def r106_6 : List AOper := [o 15 (.faddr 3 (.t 1)),
  o 16 (.load none (.t 15)),
  o 17 (.load (some 4) (.t 5)),
  o 18 (.call 106 [(.t 17)] .borrow),
  ⟨some 19, .islice 1 [.int .i64 0, .int .i64 0, .int .i64 0, .nils] [(0, 4, (.t 18))], none, true⟩,
  o 20 (.app 4 48 (.t 16) (.t 19)),
  o 21 (.faddr 3 (.t 1)),
  ⟨none, .store 1 (.t 21) (.t 20), none, false⟩]
def b106_6 : List (List Nat) := [[], [0], [], [2], [2, 3], [0, 1, 2, 3, 4], [0, 1, 2, 3, 4, 5], [0, 1, 2, 3, 4, 5, 6]]
def r106_7 : List AOper := [o 22 (.bin .add (.t 11) (i64 1)),
  o 11 (.mv (.t 22))]
def l106_0 : ACode := .seq (.reg r106_4) (.seq (.cond (.t 12) (.skip) (.exit 0)) (.seq (.block 1 (.seq (.reg r106_5) (.dreg r106_6 b106_6 [(1, 4)]))) (.reg r106_7)))
def r106_8 : List AOper := [o 23 (.load (some 4) (.t 1)),
  ⟨none, .store 4 (.t 2) (.t 23), none, false⟩]
def c106 : ACode := .seq (.reg r106_0) (.seq (.reg r106_1) (.seq (.reg r106_2) (.seq (.seq (.reg r106_3) (.block 0 (.loop l106_0))) (.seq (.reg r106_8) (.ret)))))
/-- jetsam/flow.expr -/
def a106 : AFunc := ⟨1, 24, [.cell 2 (some 4)], c106⟩
def r107_0 : List AOper := [o 1 (.box (.t 0)),
  o 2 (.alloc [.int .i64 0, .int .i64 0, .int .i64 0, .int .i64 0, .nils, .int .i64 0, .int .i64 0, .int .i64 0, .nils])]
def r107_1 : List AOper := [o 3 (.faddr 0 (.t 1)),
  o 4 (.load none (.t 3)),
  o 5 (.faddr 1 (.t 1)),
  o 6 (.load (some 4) (.t 5)),
  o 7 (.call 106 [(.t 6)] .borrow),
  o 8 (.faddr 5 (.t 1)),
  o 9 (.load (some 4) (.t 8)),
  o 10 (.call 106 [(.t 9)] .borrow),
  o 11 (.build [.int .i64 0, .int .i64 0, .int .i64 0, .int .i64 0, .nils, .int .i64 0, .int .i64 0, .int .i64 0, .nils] [(0, 1, (.t 4)), (1, 4, (.t 7)), (5, 4, (.t 10))]),
  ⟨none, .store 9 (.t 2) (.t 11), none, false⟩]
def b107_1 : List (List Nat) := [[], [0], [], [2], [2, 3], [], [5], [2, 3, 4, 5, 6], [0, 1, 2, 3, 4, 5, 6, 7], [0, 1, 2, 3, 4, 5, 6, 7, 8]]
def c107 : ACode := .seq (.reg r107_0) (.seq (.dreg r107_1 b107_1 []) (.ret))
/-- jetsam/flow.cond -/
def a107 : AFunc := ⟨1, 12, [.cell 2 (some 9)], c107⟩
def r108_0 : List AOper := [o 6 (.box (.t 1))]
def r108_1 : List AOper := [o 11 (.mv (.t 0)),
  o 12 (.call 85 [(.t 11)] .share),
  o 10 (.mv (.t 12))]
def r108_2 : List AOper := [o 13 (.mv (.t 0)),
  o 14 (.mv (.t 3)),
  o 15 (.mv (.t 10)),
  o 16 (.load (some 9) (.t 6)),
  o 17 (.build [.int .i64 0, .int .i64 0, .int .i64 0, .int .i64 0, .int .i64 0, .int .i64 0, .int .i64 0, .int .i64 0, .int .i64 0, .nils, .int .i64 0, .int .i64 0, .int .i64 0, .int .i64 0, .nils, .int .i64 0, .int .i64 0, .int .i64 0, .nils] [(0, 1, (.t 14)), (1, 1, (.t 15)), (2, 1, (i64 2)), (10, 9, (.t 16))]),
  o 18 (.call 84 [(.t 13), (.t 17)] .share)]
def r108_3 : List AOper := [o 19 (.mv (.t 0)),
  o 20 (.mv (.t 2)),
  o 21 (.mv (.t 10)),
  o 22 (.mv (.t 4)),
  o 23 (.call 62 [(.t 19), (.t 20), (.t 21), (.t 22)] .share)]
def c108 : ACode := .seq (.reg r108_0) (.seq (.reg r108_1) (.seq (.reg r108_2) (.reg r108_3)))
/-- (*jetsam/flow.Graph).branch -/
def a108 : AFunc := ⟨5, 24, [], c108⟩
def r109_0 : List AOper := [o 1 (.box (.t 0)),
  o 2 (.alloc [.int .i64 0, .int .i64 0, .int .i64 0, .int .i64 0, .nils, .int .i64 0, .int .i64 0, .int .i64 0, .nils])]
def r109_1 : List AOper := [o 4 (.load (some 9) (.t 1)),
  o 5 (.call 107 [(.t 4)] .borrow),
  o 3 (.alloc [.int .i64 0, .int .i64 0, .int .i64 0, .int .i64 0, .nils, .int .i64 0, .int .i64 0, .int .i64 0, .nils]),
  ⟨none, .store 9 (.t 3) (.t 5), none, false⟩]
def r109_2 : List AOper := [o 6 (.faddr 0 (.t 1)),
  o 7 (.load none (.t 6)),
  o 8 (.call 41 [(.t 7)] .borrow),
  o 9 (.faddr 0 (.t 3)),
  ⟨none, .store 1 (.t 9) (.t 8), none, false⟩]
def r109_3 : List AOper := [o 10 (.load (some 9) (.t 3)),
  ⟨none, .store 9 (.t 2) (.t 10), none, false⟩]
def c109 : ACode := .seq (.reg r109_0) (.seq (.reg r109_1) (.seq (.reg r109_2) (.seq (.reg r109_3) (.ret))))
/-- jetsam/flow.not -/
def a109 : AFunc := ⟨1, 11, [.cell 2 (some 9)], c109⟩
def r110_0 : List AOper := [o 5 (.box (.t 1))]
def r110_1 : List AOper := [o 9 (.mv (.t 0)),
  o 10 (.mv (.t 0)),
  o 11 (.nilck (.t 10)),
  o 12 (.faddr 2 (.t 11)),
  o 13 (.load none (.t 12)),
  o 14 (.mv (.t 2)),
  o 15 (.islice 1 [.int .i64 0] [(0, 1, (.t 14))]),
  o 16 (.app 1 8 (.t 13) (.t 15)),
  o 17 (.nilck (.t 9)),
  o 18 (.faddr 2 (.t 17)),
  ⟨none, .store 1 (.t 18) (.t 16), none, false⟩]
def r110_2 : List AOper := [o 19 (.mv (.t 0)),
  o 20 (.call 85 [(.t 19)] .share),
  o 8 (.mv (.t 20))]
def r110_3 : List AOper := [o 21 (.mv (.t 0)),
  o 22 (.mv (.t 2)),
  o 23 (.mv (.t 8)),
  o 24 (.faddr 8 (.t 5)),
  o 25 (.load (some 9) (.t 24)),
  o 26 (.call 107 [(.t 25)] .borrow),
  o 27 (.build [.int .i64 0, .int .i64 0, .int .i64 0, .int .i64 0, .int .i64 0, .int .i64 0, .int .i64 0, .int .i64 0, .int .i64 0, .nils, .int .i64 0, .int .i64 0, .int .i64 0, .int .i64 0, .nils, .int .i64 0, .int .i64 0, .int .i64 0, .nils] [(0, 1, (.t 22)), (1, 1, (.t 23)), (2, 1, (i64 2)), (10, 9, (.t 26))]),
  o 28 (.call 84 [(.t 21), (.t 27)] .share)]
def r110_4 : List AOper := [o 29 (.mv (.t 0)),
  o 30 (.mv (.t 2)),
  o 31 (.mv (.t 3)),
  o 32 (.faddr 8 (.t 5)),
  o 33 (.load (some 9) (.t 32)),
  o 34 (.call 109 [(.t 33)] .borrow),
  o 35 (.build [.int .i64 0, .int .i64 0, .int .i64 0, .int .i64 0, .int .i64 0, .int .i64 0, .int .i64 0, .int .i64 0, .int .i64 0, .nils, .int .i64 0, .int .i64 0, .int .i64 0, .int .i64 0, .nils, .int .i64 0, .int .i64 0, .int .i64 0, .nils] [(0, 1, (.t 30)), (1, 1, (.t 31)), (2, 1, (i64 2)), (10, 9, (.t 34))]),
  o 36 (.call 84 [(.t 29), (.t 35)] .share)]
def r110_5 : List AOper := [o 37 (.mv (.t 0)),
  o 38 (.faddr 17 (.t 5)),
  o 39 (.load none (.t 38)),
  o 40 (.mv (.t 8)),
  o 41 (.mv (.t 2)),
  o 42 (.call 62 [(.t 37), (.t 39), (.t 40), (.t 41)] .share)]
def c110 : ACode := .seq (.reg r110_0) (.seq (.reg r110_1) (.seq (.reg r110_2) (.seq (.reg r110_3) (.seq (.reg r110_4) (.reg r110_5)))))
/-- (*jetsam/flow.Graph).loop -/
def a110 : AFunc := ⟨4, 43, [], c110⟩
def r111_0 : List AOper := [o 5 (.box (.t 1))]
def r111_1 : List AOper := [o 11 (.faddr 19 (.t 5)),
  o 12 (.load none (.t 11)),
  o 13 (.len false (.t 12)),
  o 14 (.mv (i64 0))]
def r111_2 : List AOper := [o 15 (.bin .lss (.t 14) (.t 13))]
def r111_3 : List AOper := [o 16 (.iaddr 3 (.t 12) (.t 14)),
  o 17 (.load (some 3) (.t 16)),
  o 9 (.alloc [.int .i64 0, .int .i64 0, .nils]),
  ⟨none, .store 3 (.t 9) (.t 17), none, false⟩]
def r111_4 : List AOper := [o 18 (.mv (.t 0)),
  o 19 (.call 85 [(.t 18)] .share),
  o 10 (.mv (.t 19))]
def r111_5 : List AOper := [o 20 (.mv (.t 0)),
  o 21 (.mv (.t 2)),
  o 22 (.mv (.t 10)),
  o 23 (.faddr 2 (.t 5)),
  o 24 (.load none (.t 23)),
  o 25 (.faddr 0 (.t 9)),
  o 26 (.load none (.t 25)),
  o 27 (.faddr 1 (.t 9)),
  o 28 (.load none (.t 27)),
  o 29 (.build [.int .i64 0, .int .i64 0, .int .i64 0, .int .i64 0, .int .i64 0, .int .i64 0, .int .i64 0, .int .i64 0, .int .i64 0, .nils, .int .i64 0, .int .i64 0, .int .i64 0, .int .i64 0, .nils, .int .i64 0, .int .i64 0, .int .i64 0, .nils] [(0, 1, (.t 21)), (1, 1, (.t 22)), (2, 1, (i64 4)), (4, 1, (.t 24)), (5, 1, (.t 26)), (3, 1, (.t 28))]),
  o 30 (.call 84 [(.t 20), (.t 29)] .share)]
def r111_6 : List AOper := [o 31 (.mv (.t 0)),
  o 32 (.faddr 2 (.t 9)),
  o 33 (.load none (.t 32)),
  o 34 (.mv (.t 10)),
  o 35 (.mv (.t 3)),
  o 36 (.call 62 [(.t 31), (.t 33), (.t 34), (.t 35)] .share)]
def r111_7 : List AOper := [o 37 (.bin .add (.t 14) (i64 1)),
  o 14 (.mv (.t 37))]
def l111_0 : ACode := .seq (.reg r111_2) (.seq (.cond (.t 15) (.skip) (.exit 0)) (.seq (.block 1 (.seq (.reg r111_3) (.seq (.reg r111_4) (.seq (.reg r111_5) (.reg r111_6))))) (.reg r111_7)))
def c111 : ACode := .seq (.reg r111_0) (.seq (.reg r111_1) (.block 0 (.loop l111_0)))
/-- (*jetsam/flow.Graph).recv -/
def a111 : AFunc := ⟨4, 38, [], c111⟩
def r112_0 : List AOper := [o 8 (.mv (.t 1)),
  o 9 (.bin .add (.t 8) (i64 1)),
  o 6 (.mv (.t 9))]
def r112_1 : List AOper := [o 10 (.mv (.t 6)),
  o 11 (.mv (.t 2)),
  o 12 (.bin .lss (.t 10) (.t 11))]
def r112_3 : List AOper := [o 15 (.mv (.t 6)),
  o 7 (.mv (.t 15))]
def r112_4 : List AOper := [o 16 (.mv (.t 7)),
  o 17 (.mv (.t 1)),
  o 18 (.bin .gtr (.t 16) (.t 17)),
  o 19 (.mv (.t 18)),
  ⟨some 20, .mv (.t 0), (some (19, true)), false⟩,
  ⟨some 21, .mv (.t 7), (some (19, true)), false⟩,
  ⟨some 22, .iaddr 1 (.t 20) (.t 21), (some (19, true)), false⟩,
  ⟨some 23, .load none (.t 22), (some (19, true)), false⟩,
  ⟨some 24, .mv (.t 0), (some (19, true)), false⟩,
  ⟨some 25, .mv (.t 7), (some (19, true)), false⟩,
  ⟨some 26, .bin .sub (.t 25) (i64 1), (some (19, true)), false⟩,
  ⟨some 27, .iaddr 1 (.t 24) (.t 26), (some (19, true)), false⟩,
  ⟨some 28, .load none (.t 27), (some (19, true)), false⟩,
  ⟨some 29, .call 118 [(.t 23), (.t 28)] .borrow, (some (19, true)), false⟩,
  o 30 (.pick (.t 19) (.t 29) (.c (.bool false)))]
def b112_4 : List (List Nat) := [[], [], [0, 1], [0, 1, 2], [0, 1, 2, 3], [0, 1, 2, 3], [0, 1, 2, 3, 4, 5], [0, 1, 2, 3, 4, 5, 6], [0, 1, 2, 3], [0, 1, 2, 3], [0, 1, 2, 3, 9], [0, 1, 2, 3, 8, 9, 10], [0, 1, 2, 3, 8, 9, 10, 11], [0, 1, 2, 3, 4, 5, 6, 7, 8, 9, 10, 11, 12], [0, 1, 2, 3, 4, 5, 6, 7, 8, 9, 10, 11, 12, 13]]
def r112_6 : List AOper := [o 33 (.mv (.t 0)),
  o 34 (.mv (.t 7)),
  o 35 (.mv (.t 0)),
  o 36 (.mv (.t 7)),
  o 37 (.bin .sub (.t 36) (i64 1)),
  o 38 (.mv (.t 0)),
  o 39 (.mv (.t 7)),
  o 40 (.bin .sub (.t 39) (i64 1)),
  o 41 (.iaddr 1 (.t 38) (.t 40)),
  o 42 (.load none (.t 41)),
  o 43 (.mv (.t 0)),
  o 44 (.mv (.t 7)),
  o 45 (.iaddr 1 (.t 43) (.t 44)),
  o 46 (.load none (.t 45)),
  o 47 (.iaddr 1 (.t 33) (.t 34)),
  ⟨none, .store 1 (.t 47) (.t 42), none, false⟩,
  o 48 (.iaddr 1 (.t 35) (.t 37)),
  ⟨none, .store 1 (.t 48) (.t 46), none, false⟩]
def b112_6 : List (List Nat) := [[], [], [], [], [3], [], [], [6], [5, 6, 7], [5, 6, 7, 8], [], [], [10, 11], [10, 11, 12], [0, 1, 5, 6, 7, 8, 9, 10, 11, 12, 13], [0, 1, 5, 6, 7, 8, 9, 10, 11, 12, 13, 14], [0, 1, 2, 3, 4, 5, 6, 7, 8, 9, 10, 11, 12, 13, 14, 15], [0, 1, 2, 3, 4, 5, 6, 7, 8, 9, 10, 11, 12, 13, 14, 15, 16]]
def r112_5 : List AOper := [o 31 (.mv (.t 7)),
  o 32 (.bin .sub (.t 31) (i64 1)),
  o 7 (.mv (.t 32))]
def l112_0 : ACode := .seq (.seq (.dreg r112_4 b112_4 []) (.cond (.t 30) (.skip) (.exit 2))) (.seq (.block 3 (.dreg r112_6 b112_6 [])) (.reg r112_5))
def r112_2 : List AOper := [o 13 (.mv (.t 6)),
  o 14 (.bin .add (.t 13) (i64 1)),
  o 6 (.mv (.t 14))]
def l112_1 : ACode := .seq (.seq (.reg r112_1) (.cond (.t 12) (.skip) (.exit 0))) (.seq (.block 1 (.seq (.reg r112_3) (.block 2 (.loop l112_0)))) (.reg r112_2))
def c112 : ACode := .seq (.reg r112_0) (.block 0 (.loop l112_1))
/-- slices.insertionSortOrdered[int] -/
def a112 : AFunc := ⟨3, 49, [], c112⟩
def r113_0 : List AOper := [o 11 (.mv (.t 1)),
  o 6 (.mv (.t 11))]
def r113_1 : List AOper := [o 7 (.mv (i64 0))]
def r113_2 : List AOper := [o 12 (.mv (.t 2)),
  o 13 (.mv (.t 1)),
  o 14 (.bin .sub (.t 12) (.t 13)),
  o 8 (.mv (.t 14))]
def r113_3 : List AOper := [o 15 (.mv (.t 8)),
  o 16 (.bin .sub (.t 15) (i64 1)),
  o 17 (.bin .quo (.t 16) (i64 2)),
  o 9 (.mv (.t 17))]
def r113_4 : List AOper := [o 18 (.mv (.t 9)),
  o 19 (.bin .geq (.t 18) (i64 0))]
def r113_6 : List AOper := [o 22 (.mv (.t 0)),
  o 23 (.mv (.t 9)),
  o 24 (.mv (.t 8)),
  o 25 (.mv (.t 6)),
  o 26 (.call 150 [(.t 22), (.t 23), (.t 24), (.t 25)] .share)]
def r113_5 : List AOper := [o 20 (.mv (.t 9)),
  o 21 (.bin .sub (.t 20) (i64 1)),
  o 9 (.mv (.t 21))]
def l113_0 : ACode := .seq (.seq (.reg r113_4) (.cond (.t 19) (.skip) (.exit 0))) (.seq (.block 1 (.reg r113_6)) (.reg r113_5))
def r113_7 : List AOper := [o 27 (.mv (.t 8)),
  o 28 (.bin .sub (.t 27) (i64 1)),
  o 10 (.mv (.t 28))]
def r113_8 : List AOper := [o 29 (.mv (.t 10)),
  o 30 (.bin .geq (.t 29) (i64 0))]
def r113_10 : List AOper := [o 33 (.mv (.t 0)),
  o 34 (.mv (.t 6)),
  o 35 (.mv (.t 0)),
  o 36 (.mv (.t 6)),
  o 37 (.mv (.t 10)),
  o 38 (.bin .add (.t 36) (.t 37)),
  o 39 (.mv (.t 0)),
  o 40 (.mv (.t 6)),
  o 41 (.mv (.t 10)),
  o 42 (.bin .add (.t 40) (.t 41)),
  o 43 (.iaddr 1 (.t 39) (.t 42)),
  o 44 (.load none (.t 43)),
  o 45 (.mv (.t 0)),
  o 46 (.mv (.t 6)),
  o 47 (.iaddr 1 (.t 45) (.t 46)),
  o 48 (.load none (.t 47)),
  o 49 (.iaddr 1 (.t 33) (.t 34)),
  ⟨none, .store 1 (.t 49) (.t 44), none, false⟩,
  o 50 (.iaddr 1 (.t 35) (.t 38)),
  ⟨none, .store 1 (.t 50) (.t 48), none, false⟩]
def b113_10 : List (List Nat) := [[], [], [], [], [], [3, 4], [], [], [], [7, 8], [6, 7, 8, 9], [6, 7, 8, 9, 10], [], [], [12, 13], [12, 13, 14], [0, 1, 6, 7, 8, 9, 10, 11, 12, 13, 14, 15], [0, 1, 6, 7, 8, 9, 10, 11, 12, 13, 14, 15, 16], [0, 1, 2, 3, 4, 5, 6, 7, 8, 9, 10, 11, 12, 13, 14, 15, 16, 17], [0, 1, 2, 3, 4, 5, 6, 7, 8, 9, 10, 11, 12, 13, 14, 15, 16, 17, 18]]
def r113_11 : List AOper := [o 51 (.mv (.t 0)),
  o 52 (.mv (.t 7)),
  o 53 (.mv (.t 10)),
  o 54 (.mv (.t 6)),
  o 55 (.call 150 [(.t 51), (.t 52), (.t 53), (.t 54)] .share)]
def r113_9 : List AOper := [o 31 (.mv (.t 10)),
  o 32 (.bin .sub (.t 31) (i64 1)),
  o 10 (.mv (.t 32))]
def l113_1 : ACode := .seq (.seq (.reg r113_8) (.cond (.t 30) (.skip) (.exit 2))) (.seq (.block 3 (.seq (.dreg r113_10 b113_10 []) (.reg r113_11))) (.reg r113_9))
def c113 : ACode := .seq (.reg r113_0) (.seq (.reg r113_1) (.seq (.reg r113_2) (.seq (.seq (.reg r113_3) (.block 0 (.loop l113_0))) (.seq (.reg r113_7) (.block 2 (.loop l113_1))))))
/-- slices.heapSortOrdered[int] -/
def a113 : AFunc := ⟨3, 56, [], c113⟩
def r114_0 : List AOper := [o 11 (.mv (.t 2)),
  o 12 (.mv (.t 1)),
  o 13 (.bin .sub (.t 11) (.t 12)),
  o 6 (.mv (.t 13))]
def r114_1 : List AOper := [o 14 (.mv (.t 6)),
  o 15 (.bin .geq (.t 14) (i64 8))]
def r114_2 : List AOper := [o 16 (.mv (.t 6)),
  o 17 (.conv .u64 (.t 16)),
  o 7 (.alloc [.int .u64 0]),
  ⟨none, .store 1 (.t 7) (.t 17), none, false⟩]
def r114_3 : List AOper := [o 18 (.mv (.t 6)),
  o 19 (.call 151 [(.t 18)] .borrow),
  o 8 (.mv (.t 19))]
def r114_4 : List AOper := [o 20 (.mv (.t 1)),
  o 21 (.mv (.t 6)),
  o 22 (.bin .quo (.t 21) (i64 4)),
  o 23 (.bin .mul (.t 22) (i64 2)),
  o 24 (.bin .add (.t 20) (.t 23)),
  o 25 (.bin .sub (.t 24) (i64 1)),
  o 9 (.mv (.t 25))]
def r114_5 : List AOper := [o 26 (.mv (.t 9)),
  o 27 (.mv (.t 1)),
  o 28 (.mv (.t 6)),
  o 29 (.bin .quo (.t 28) (i64 4)),
  o 30 (.bin .mul (.t 29) (i64 2)),
  o 31 (.bin .add (.t 27) (.t 30)),
  o 32 (.bin .add (.t 31) (i64 1)),
  o 33 (.bin .leq (.t 26) (.t 32))]
def r114_7 : List AOper := [o 36 (.call 152 [(.t 7)] .share),
  o 37 (.mv (.t 8)),
  o 38 (.bin .sub (.t 37) (.c (.int .u64 1))),
  o 39 (.bin .and (.t 36) (.t 38)),
  o 40 (.conv .i64 (.t 39)),
  o 10 (.mv (.t 40))]
def r114_8 : List AOper := [o 41 (.mv (.t 10)),
  o 42 (.mv (.t 6)),
  o 43 (.bin .geq (.t 41) (.t 42))]
def r114_9 : List AOper := [o 44 (.mv (.t 10)),
  o 45 (.mv (.t 6)),
  o 46 (.bin .sub (.t 44) (.t 45)),
  o 10 (.mv (.t 46))]
def r114_10 : List AOper := [o 47 (.mv (.t 0)),
  o 48 (.mv (.t 9)),
  o 49 (.mv (.t 0)),
  o 50 (.mv (.t 1)),
  o 51 (.mv (.t 10)),
  o 52 (.bin .add (.t 50) (.t 51)),
  o 53 (.mv (.t 0)),
  o 54 (.mv (.t 1)),
  o 55 (.mv (.t 10)),
  o 56 (.bin .add (.t 54) (.t 55)),
  o 57 (.iaddr 1 (.t 53) (.t 56)),
  o 58 (.load none (.t 57)),
  o 59 (.mv (.t 0)),
  o 60 (.mv (.t 9)),
  o 61 (.iaddr 1 (.t 59) (.t 60)),
  o 62 (.load none (.t 61)),
  o 63 (.iaddr 1 (.t 47) (.t 48)),
  ⟨none, .store 1 (.t 63) (.t 58), none, false⟩,
  o 64 (.iaddr 1 (.t 49) (.t 52)),
  ⟨none, .store 1 (.t 64) (.t 62), none, false⟩]
def b114_10 : List (List Nat) := [[], [], [], [], [], [3, 4], [], [], [], [7, 8], [6, 7, 8, 9], [6, 7, 8, 9, 10], [], [], [12, 13], [12, 13, 14], [0, 1, 6, 7, 8, 9, 10, 11, 12, 13, 14, 15], [0, 1, 6, 7, 8, 9, 10, 11, 12, 13, 14, 15, 16], [0, 1, 2, 3, 4, 5, 6, 7, 8, 9, 10, 11, 12, 13, 14, 15, 16, 17], [0, 1, 2, 3, 4, 5, 6, 7, 8, 9, 10, 11, 12, 13, 14, 15, 16, 17, 18]]
def r114_6 : List AOper := [o 34 (.mv (.t 9)),
  o 35 (.bin .add (.t 34) (i64 1)),
  o 9 (.mv (.t 35))]
def l114_0 : ACode := .seq (.seq (.reg r114_5) (.cond (.t 33) (.skip) (.exit 0))) (.seq (.block 1 (.seq (.reg r114_7) (.seq (.seq (.reg r114_8) (.cond (.t 43) (.reg r114_9) (.skip))) (.dreg r114_10 b114_10 [])))) (.reg r114_6))
def c114 : ACode := .seq (.reg r114_0) (.seq (.reg r114_1) (.cond (.t 15) (.seq (.reg r114_2) (.seq (.reg r114_3) (.seq (.reg r114_4) (.block 0 (.loop l114_0))))) (.skip)))
/-- slices.breakPatternsOrdered[int] -/
def a114 : AFunc := ⟨3, 65, [], c114⟩
def r115_0 : List AOper := [o 6 (.mv (i64 0)),
  o 7 (.mv (i64 0))]
def r115_1 : List AOper := [o 13 (.mv (.t 2)),
  o 14 (.mv (.t 1)),
  o 15 (.bin .sub (.t 13) (.t 14)),
  o 8 (.mv (.t 15))]
def r115_2 : List AOper := [o 9 (.alloc [.int .i64 0])]
def r115_3 : List AOper := [o 16 (.mv (.t 1)),
  o 17 (.mv (.t 8)),
  o 18 (.bin .quo (.t 17) (i64 4)),
  o 19 (.bin .mul (.t 18) (i64 1)),
  o 20 (.bin .add (.t 16) (.t 19)),
  o 10 (.mv (.t 20))]
def r115_4 : List AOper := [o 21 (.mv (.t 1)),
  o 22 (.mv (.t 8)),
  o 23 (.bin .quo (.t 22) (i64 4)),
  o 24 (.bin .mul (.t 23) (i64 2)),
  o 25 (.bin .add (.t 21) (.t 24)),
  o 11 (.mv (.t 25))]
def r115_5 : List AOper := [o 26 (.mv (.t 1)),
  o 27 (.mv (.t 8)),
  o 28 (.bin .quo (.t 27) (i64 4)),
  o 29 (.bin .mul (.t 28) (i64 3)),
  o 30 (.bin .add (.t 26) (.t 29)),
  o 12 (.mv (.t 30))]
def r115_6 : List AOper := [o 31 (.mv (.t 8)),
  o 32 (.bin .geq (.t 31) (i64 8))]
def r115_7 : List AOper := [o 33 (.mv (.t 8)),
  o 34 (.bin .geq (.t 33) (i64 50))]
def r115_8 : List AOper := [o 35 (.mv (.t 0)),
  o 36 (.mv (.t 10)),
  o 37 (.call 153 [(.t 35), (.t 36), (.t 9)] .share),
  o 10 (.mv (.t 37))]
def r115_9 : List AOper := [o 38 (.mv (.t 0)),
  o 39 (.mv (.t 11)),
  o 40 (.call 153 [(.t 38), (.t 39), (.t 9)] .share),
  o 11 (.mv (.t 40))]
def r115_10 : List AOper := [o 41 (.mv (.t 0)),
  o 42 (.mv (.t 12)),
  o 43 (.call 153 [(.t 41), (.t 42), (.t 9)] .share),
  o 12 (.mv (.t 43))]
def r115_11 : List AOper := [o 44 (.mv (.t 0)),
  o 45 (.mv (.t 10)),
  o 46 (.mv (.t 11)),
  o 47 (.mv (.t 12)),
  o 48 (.call 154 [(.t 44), (.t 45), (.t 46), (.t 47), (.t 9)] .share),
  o 11 (.mv (.t 48))]
def r115_12 : List AOper := [o 49 (.load none (.t 9))]
def r115_14 : List AOper := [o 52 (.bin .eql (.t 49) (i64 0)),
  o 51 (.mv (.t 52))]
def r115_15 : List AOper := [o 53 (.mv (.t 11)),
  o 6 (.mv (.t 53)),
  o 7 (.mv (i64 1))]
def r115_16 : List AOper := [o 55 (.bin .eql (.t 49) (i64 12)),
  o 54 (.mv (.t 55))]
def r115_17 : List AOper := [o 56 (.mv (.t 11)),
  o 6 (.mv (.t 56)),
  o 7 (.mv (i64 2))]
def r115_13 : List AOper := [o 50 (.mv (.t 11)),
  o 6 (.mv (.t 50)),
  o 7 (.mv (i64 0))]
def c115 : ACode := .seq (.reg r115_0) (.seq (.reg r115_1) (.seq (.reg r115_2) (.seq (.reg r115_3) (.seq (.reg r115_4) (.seq (.reg r115_5) (.seq (.seq (.reg r115_6) (.cond (.t 32) (.seq (.seq (.reg r115_7) (.cond (.t 34) (.seq (.reg r115_8) (.seq (.reg r115_9) (.reg r115_10))) (.skip))) (.reg r115_11)) (.skip))) (.seq (.reg r115_12) (.block 0 (.seq (.reg r115_14) (.cond (.t 51) (.seq (.reg r115_15) (.ret)) (.seq (.reg r115_16) (.cond (.t 54) (.seq (.reg r115_17) (.ret)) (.seq (.reg r115_13) (.ret))))))))))))))
/-- slices.choosePivotOrdered[int] -/
def a115 : AFunc := ⟨3, 57, [.tmp 6, .tmp 7], c115⟩
def r116_0 : List AOper := [o 8 (.mv (.t 1)),
  o 6 (.mv (.t 8))]
def r116_1 : List AOper := [o 9 (.mv (.t 2)),
  o 10 (.bin .sub (.t 9) (i64 1)),
  o 7 (.mv (.t 10))]
def r116_2 : List AOper := [o 11 (.mv (.t 6)),
  o 12 (.mv (.t 7)),
  o 13 (.bin .lss (.t 11) (.t 12))]
def r116_3 : List AOper := [o 14 (.mv (.t 0)),
  o 15 (.mv (.t 6)),
  o 16 (.mv (.t 0)),
  o 17 (.mv (.t 7)),
  o 18 (.mv (.t 0)),
  o 19 (.mv (.t 7)),
  o 20 (.iaddr 1 (.t 18) (.t 19)),
  o 21 (.load none (.t 20)),
  o 22 (.mv (.t 0)),
  o 23 (.mv (.t 6)),
  o 24 (.iaddr 1 (.t 22) (.t 23)),
  o 25 (.load none (.t 24)),
  o 26 (.iaddr 1 (.t 14) (.t 15)),
  ⟨none, .store 1 (.t 26) (.t 21), none, false⟩,
  o 27 (.iaddr 1 (.t 16) (.t 17)),
  ⟨none, .store 1 (.t 27) (.t 25), none, false⟩]
def b116_3 : List (List Nat) := [[], [], [], [], [], [], [4, 5], [4, 5, 6], [], [], [8, 9], [8, 9, 10], [0, 1, 4, 5, 6, 7, 8, 9, 10, 11], [0, 1, 4, 5, 6, 7, 8, 9, 10, 11, 12], [0, 1, 2, 3, 4, 5, 6, 7, 8, 9, 10, 11, 12, 13], [0, 1, 2, 3, 4, 5, 6, 7, 8, 9, 10, 11, 12, 13, 14]]
def r116_4 : List AOper := [o 28 (.mv (.t 6)),
  o 29 (.bin .add (.t 28) (i64 1)),
  o 6 (.mv (.t 29))]
def r116_5 : List AOper := [o 30 (.mv (.t 7)),
  o 31 (.bin .sub (.t 30) (i64 1)),
  o 7 (.mv (.t 31))]
def l116_0 : ACode := .seq (.seq (.reg r116_2) (.cond (.t 13) (.skip) (.exit 0))) (.block 1 (.seq (.dreg r116_3 b116_3 []) (.seq (.reg r116_4) (.reg r116_5))))
def c116 : ACode := .seq (.reg r116_0) (.seq (.reg r116_1) (.block 0 (.loop l116_0)))
/-- slices.reverseRangeOrdered[int] -/
def a116 : AFunc := ⟨3, 32, [], c116⟩
def r117_0 : List AOper := [o 6 (.mv (.c (.bool false)))]
def r117_1 : List AOper := [o 11 (.mv (.t 1)),
  o 12 (.bin .add (.t 11) (i64 1)),
  o 7 (.mv (.t 12))]
def r117_2 : List AOper := [o 8 (.mv (i64 0))]
def r117_3 : List AOper := [o 13 (.mv (.t 8)),
  o 14 (.bin .lss (.t 13) (i64 5))]
def r117_5 : List AOper := [o 17 (.mv (.t 7)),
  o 18 (.mv (.t 2)),
  o 19 (.bin .lss (.t 17) (.t 18)),
  o 20 (.mv (.t 19)),
  ⟨some 21, .mv (.t 0), (some (20, true)), false⟩,
  ⟨some 22, .mv (.t 7), (some (20, true)), false⟩,
  ⟨some 23, .iaddr 1 (.t 21) (.t 22), (some (20, true)), false⟩,
  ⟨some 24, .load none (.t 23), (some (20, true)), false⟩,
  ⟨some 25, .mv (.t 0), (some (20, true)), false⟩,
  ⟨some 26, .mv (.t 7), (some (20, true)), false⟩,
  ⟨some 27, .bin .sub (.t 26) (i64 1), (some (20, true)), false⟩,
  ⟨some 28, .iaddr 1 (.t 25) (.t 27), (some (20, true)), false⟩,
  ⟨some 29, .load none (.t 28), (some (20, true)), false⟩,
  ⟨some 30, .call 118 [(.t 24), (.t 29)] .borrow, (some (20, true)), false⟩,
  ⟨some 31, .un .not (.t 30), (some (20, true)), false⟩,
  o 32 (.pick (.t 20) (.t 31) (.c (.bool false)))]
def b117_5 : List (List Nat) := [[], [], [0, 1], [0, 1, 2], [0, 1, 2, 3], [0, 1, 2, 3], [0, 1, 2, 3, 4, 5], [0, 1, 2, 3, 4, 5, 6], [0, 1, 2, 3], [0, 1, 2, 3], [0, 1, 2, 3, 9], [0, 1, 2, 3, 8, 9, 10], [0, 1, 2, 3, 8, 9, 10, 11], [0, 1, 2, 3, 4, 5, 6, 7, 8, 9, 10, 11, 12], [0, 1, 2, 3, 4, 5, 6, 7, 8, 9, 10, 11, 12, 13], [0, 1, 2, 3, 4, 5, 6, 7, 8, 9, 10, 11, 12, 13, 14]]
def r117_6 : List AOper := [o 33 (.mv (.t 7)),
  o 34 (.bin .add (.t 33) (i64 1)),
  o 7 (.mv (.t 34))]
def l117_0 : ACode := .seq (.seq (.dreg r117_5 b117_5 []) (.cond (.t 32) (.skip) (.exit 2))) (.block 3 (.reg r117_6))
def r117_7 : List AOper := [o 35 (.mv (.t 7)),
  o 36 (.mv (.t 2)),
  o 37 (.bin .eql (.t 35) (.t 36))]
def r117_8 : List AOper := [o 6 (.mv (.c (.bool true)))]
def r117_9 : List AOper := [o 38 (.mv (.t 2)),
  o 39 (.mv (.t 1)),
  o 40 (.bin .sub (.t 38) (.t 39)),
  o 41 (.bin .lss (.t 40) (i64 50))]
def r117_10 : List AOper := [o 6 (.mv (.c (.bool false)))]
def r117_11 : List AOper := [o 42 (.mv (.t 0)),
  o 43 (.mv (.t 7)),
  o 44 (.mv (.t 0)),
  o 45 (.mv (.t 7)),
  o 46 (.bin .sub (.t 45) (i64 1)),
  o 47 (.mv (.t 0)),
  o 48 (.mv (.t 7)),
  o 49 (.bin .sub (.t 48) (i64 1)),
  o 50 (.iaddr 1 (.t 47) (.t 49)),
  o 51 (.load none (.t 50)),
  o 52 (.mv (.t 0)),
  o 53 (.mv (.t 7)),
  o 54 (.iaddr 1 (.t 52) (.t 53)),
  o 55 (.load none (.t 54)),
  o 56 (.iaddr 1 (.t 42) (.t 43)),
  ⟨none, .store 1 (.t 56) (.t 51), none, false⟩,
  o 57 (.iaddr 1 (.t 44) (.t 46)),
  ⟨none, .store 1 (.t 57) (.t 55), none, false⟩]
def b117_11 : List (List Nat) := [[], [], [], [], [3], [], [], [6], [5, 6, 7], [5, 6, 7, 8], [], [], [10, 11], [10, 11, 12], [0, 1, 5, 6, 7, 8, 9, 10, 11, 12, 13], [0, 1, 5, 6, 7, 8, 9, 10, 11, 12, 13, 14], [0, 1, 2, 3, 4, 5, 6, 7, 8, 9, 10, 11, 12, 13, 14, 15], [0, 1, 2, 3, 4, 5, 6, 7, 8, 9, 10, 11, 12, 13, 14, 15, 16]]
def r117_12 : List AOper := [o 58 (.mv (.t 7)),
  o 59 (.mv (.t 1)),
  o 60 (.bin .sub (.t 58) (.t 59)),
  o 61 (.bin .geq (.t 60) (i64 2))]
def r117_13 : List AOper := [o 62 (.mv (.t 7)),
  o 63 (.bin .sub (.t 62) (i64 1)),
  o 9 (.mv (.t 63))]
def r117_14 : List AOper := [o 64 (.mv (.t 9)),
  o 65 (.bin .geq (.t 64) (i64 1))]
def r117_16 : List AOper := [o 68 (.mv (.t 0)),
  o 69 (.mv (.t 9)),
  o 70 (.iaddr 1 (.t 68) (.t 69)),
  o 71 (.load none (.t 70)),
  o 72 (.mv (.t 0)),
  o 73 (.mv (.t 9)),
  o 74 (.bin .sub (.t 73) (i64 1)),
  o 75 (.iaddr 1 (.t 72) (.t 74)),
  o 76 (.load none (.t 75)),
  o 77 (.call 118 [(.t 71), (.t 76)] .borrow),
  o 78 (.un .not (.t 77))]
def b117_16 : List (List Nat) := [[], [], [0, 1], [0, 1, 2], [], [], [5], [4, 5, 6], [4, 5, 6, 7], [0, 1, 2, 3, 4, 5, 6, 7, 8], [0, 1, 2, 3, 4, 5, 6, 7, 8, 9]]
def r117_17 : List AOper := [o 79 (.mv (.t 0)),
  o 80 (.mv (.t 9)),
  o 81 (.mv (.t 0)),
  o 82 (.mv (.t 9)),
  o 83 (.bin .sub (.t 82) (i64 1)),
  o 84 (.mv (.t 0)),
  o 85 (.mv (.t 9)),
  o 86 (.bin .sub (.t 85) (i64 1)),
  o 87 (.iaddr 1 (.t 84) (.t 86)),
  o 88 (.load none (.t 87)),
  o 89 (.mv (.t 0)),
  o 90 (.mv (.t 9)),
  o 91 (.iaddr 1 (.t 89) (.t 90)),
  o 92 (.load none (.t 91)),
  o 93 (.iaddr 1 (.t 79) (.t 80)),
  ⟨none, .store 1 (.t 93) (.t 88), none, false⟩,
  o 94 (.iaddr 1 (.t 81) (.t 83)),
  ⟨none, .store 1 (.t 94) (.t 92), none, false⟩]
def b117_17 : List (List Nat) := [[], [], [], [], [3], [], [], [6], [5, 6, 7], [5, 6, 7, 8], [], [], [10, 11], [10, 11, 12], [0, 1, 5, 6, 7, 8, 9, 10, 11, 12, 13], [0, 1, 5, 6, 7, 8, 9, 10, 11, 12, 13, 14], [0, 1, 2, 3, 4, 5, 6, 7, 8, 9, 10, 11, 12, 13, 14, 15], [0, 1, 2, 3, 4, 5, 6, 7, 8, 9, 10, 11, 12, 13, 14, 15, 16]]
def r117_15 : List AOper := [o 66 (.mv (.t 9)),
  o 67 (.bin .sub (.t 66) (i64 1)),
  o 9 (.mv (.t 67))]
def l117_1 : ACode := .seq (.seq (.reg r117_14) (.cond (.t 65) (.skip) (.exit 4))) (.seq (.block 5 (.seq (.seq (.dreg r117_16 b117_16 []) (.cond (.t 78) (.exit 4) (.skip))) (.dreg r117_17 b117_17 []))) (.reg r117_15))
def r117_18 : List AOper := [o 95 (.mv (.t 2)),
  o 96 (.mv (.t 7)),
  o 97 (.bin .sub (.t 95) (.t 96)),
  o 98 (.bin .geq (.t 97) (i64 2))]
def r117_19 : List AOper := [o 99 (.mv (.t 7)),
  o 100 (.bin .add (.t 99) (i64 1)),
  o 10 (.mv (.t 100))]
def r117_20 : List AOper := [o 101 (.mv (.t 10)),
  o 102 (.mv (.t 2)),
  o 103 (.bin .lss (.t 101) (.t 102))]
def r117_22 : List AOper := [o 106 (.mv (.t 0)),
  o 107 (.mv (.t 10)),
  o 108 (.iaddr 1 (.t 106) (.t 107)),
  o 109 (.load none (.t 108)),
  o 110 (.mv (.t 0)),
  o 111 (.mv (.t 10)),
  o 112 (.bin .sub (.t 111) (i64 1)),
  o 113 (.iaddr 1 (.t 110) (.t 112)),
  o 114 (.load none (.t 113)),
  o 115 (.call 118 [(.t 109), (.t 114)] .borrow),
  o 116 (.un .not (.t 115))]
def b117_22 : List (List Nat) := [[], [], [0, 1], [0, 1, 2], [], [], [5], [4, 5, 6], [4, 5, 6, 7], [0, 1, 2, 3, 4, 5, 6, 7, 8], [0, 1, 2, 3, 4, 5, 6, 7, 8, 9]]
def r117_23 : List AOper := [o 117 (.mv (.t 0)),
  o 118 (.mv (.t 10)),
  o 119 (.mv (.t 0)),
  o 120 (.mv (.t 10)),
  o 121 (.bin .sub (.t 120) (i64 1)),
  o 122 (.mv (.t 0)),
  o 123 (.mv (.t 10)),
  o 124 (.bin .sub (.t 123) (i64 1)),
  o 125 (.iaddr 1 (.t 122) (.t 124)),
  o 126 (.load none (.t 125)),
  o 127 (.mv (.t 0)),
  o 128 (.mv (.t 10)),
  o 129 (.iaddr 1 (.t 127) (.t 128)),
  o 130 (.load none (.t 129)),
  o 131 (.iaddr 1 (.t 117) (.t 118)),
  ⟨none, .store 1 (.t 131) (.t 126), none, false⟩,
  o 132 (.iaddr 1 (.t 119) (.t 121)),
  ⟨none, .store 1 (.t 132) (.t 130), none, false⟩]
def b117_23 : List (List Nat) := [[], [], [], [], [3], [], [], [6], [5, 6, 7], [5, 6, 7, 8], [], [], [10, 11], [10, 11, 12], [0, 1, 5, 6, 7, 8, 9, 10, 11, 12, 13], [0, 1, 5, 6, 7, 8, 9, 10, 11, 12, 13, 14], [0, 1, 2, 3, 4, 5, 6, 7, 8, 9, 10, 11, 12, 13, 14, 15], [0, 1, 2, 3, 4, 5, 6, 7, 8, 9, 10, 11, 12, 13, 14, 15, 16]]
def r117_21 : List AOper := [o 104 (.mv (.t 10)),
  o 105 (.bin .add (.t 104) (i64 1)),
  o 10 (.mv (.t 105))]
def l117_2 : ACode := .seq (.seq (.reg r117_20) (.cond (.t 103) (.skip) (.exit 6))) (.seq (.block 7 (.seq (.seq (.dreg r117_22 b117_22 []) (.cond (.t 116) (.exit 6) (.skip))) (.dreg r117_23 b117_23 []))) (.reg r117_21))
def r117_4 : List AOper := [o 15 (.mv (.t 8)),
  o 16 (.bin .add (.t 15) (i64 1)),
  o 8 (.mv (.t 16))]
def l117_3 : ACode := .seq (.seq (.reg r117_3) (.cond (.t 14) (.skip) (.exit 0))) (.seq (.block 1 (.seq (.block 2 (.loop l117_0)) (.seq (.seq (.reg r117_7) (.cond (.t 37) (.seq (.reg r117_8) (.ret)) (.skip))) (.seq (.seq (.reg r117_9) (.cond (.t 41) (.seq (.reg r117_10) (.ret)) (.skip))) (.seq (.dreg r117_11 b117_11 []) (.seq (.seq (.reg r117_12) (.cond (.t 61) (.seq (.reg r117_13) (.block 4 (.loop l117_1))) (.skip))) (.seq (.reg r117_18) (.cond (.t 98) (.seq (.reg r117_19) (.block 6 (.loop l117_2))) (.skip))))))))) (.reg r117_4))
def r117_24 : List AOper := [o 6 (.mv (.c (.bool false)))]
def c117 : ACode := .seq (.reg r117_0) (.seq (.reg r117_1) (.seq (.seq (.reg r117_2) (.block 0 (.loop l117_3))) (.seq (.reg r117_24) (.ret))))
/-- slices.partialInsertionSortOrdered[int] -/
def a117 : AFunc := ⟨3, 133, [.tmp 6], c117⟩
def r118_0 : List AOper := [o 4 (.mv (.c (.bool false)))]
def r118_1 : List AOper := [o 5 (.mv (.t 0)),
  o 6 (.call 155 [(.t 5)] .borrow),
  o 7 (.mv (.t 6)),
  ⟨some 8, .mv (.t 1), (some (7, true)), false⟩,
  ⟨some 9, .call 155 [(.t 8)] .borrow, (some (7, true)), false⟩,
  ⟨some 10, .un .not (.t 9), (some (7, true)), false⟩,
  o 11 (.pick (.t 7) (.t 10) (.c (.bool false))),
  o 12 (.mv (.t 11)),
  ⟨some 13, .mv (.t 0), (some (12, false)), false⟩,
  ⟨some 14, .mv (.t 1), (some (12, false)), false⟩,
  ⟨some 15, .bin .lss (.t 13) (.t 14), (some (12, false)), false⟩,
  o 16 (.pick (.t 12) (.c (.bool true)) (.t 15)),
  o 4 (.mv (.t 16))]
def c118 : ACode := .seq (.reg r118_0) (.seq (.reg r118_1) (.ret))
/-- cmp.Less[int] -/
def a118 : AFunc := ⟨2, 17, [.tmp 4], c118⟩
def r119_0 : List AOper := [o 8 (.mv (i64 0))]
def r119_1 : List AOper := [o 11 (.mv (.t 0)),
  o 12 (.mv (.t 1)),
  o 13 (.mv (.t 0)),
  o 14 (.mv (.t 3)),
  o 15 (.mv (.t 0)),
  o 16 (.mv (.t 3)),
  o 17 (.iaddr 1 (.t 15) (.t 16)),
  o 18 (.load none (.t 17)),
  o 19 (.mv (.t 0)),
  o 20 (.mv (.t 1)),
  o 21 (.iaddr 1 (.t 19) (.t 20)),
  o 22 (.load none (.t 21)),
  o 23 (.iaddr 1 (.t 11) (.t 12)),
  ⟨none, .store 1 (.t 23) (.t 18), none, false⟩,
  o 24 (.iaddr 1 (.t 13) (.t 14)),
  ⟨none, .store 1 (.t 24) (.t 22), none, false⟩]
def b119_1 : List (List Nat) := [[], [], [], [], [], [], [4, 5], [4, 5, 6], [], [], [8, 9], [8, 9, 10], [0, 1, 4, 5, 6, 7, 8, 9, 10, 11], [0, 1, 4, 5, 6, 7, 8, 9, 10, 11, 12], [0, 1, 2, 3, 4, 5, 6, 7, 8, 9, 10, 11, 12, 13], [0, 1, 2, 3, 4, 5, 6, 7, 8, 9, 10, 11, 12, 13, 14]]
def r119_2 : List AOper := [o 25 (.mv (.t 1)),
  o 26 (.bin .add (.t 25) (i64 1)),
  o 27 (.mv (.t 2)),
  o 28 (.bin .sub (.t 27) (i64 1)),
  o 9 (.mv (.t 26)),
  o 10 (.mv (.t 28))]
def r119_3 : List AOper := [o 29 (.mv (.t 9)),
  o 30 (.mv (.t 10)),
  o 31 (.bin .leq (.t 29) (.t 30)),
  o 32 (.mv (.t 31)),
  ⟨some 33, .mv (.t 0), (some (32, true)), false⟩,
  ⟨some 34, .mv (.t 1), (some (32, true)), false⟩,
  ⟨some 35, .iaddr 1 (.t 33) (.t 34), (some (32, true)), false⟩,
  ⟨some 36, .load none (.t 35), (some (32, true)), false⟩,
  ⟨some 37, .mv (.t 0), (some (32, true)), false⟩,
  ⟨some 38, .mv (.t 9), (some (32, true)), false⟩,
  ⟨some 39, .iaddr 1 (.t 37) (.t 38), (some (32, true)), false⟩,
  ⟨some 40, .load none (.t 39), (some (32, true)), false⟩,
  ⟨some 41, .call 118 [(.t 36), (.t 40)] .borrow, (some (32, true)), false⟩,
  ⟨some 42, .un .not (.t 41), (some (32, true)), false⟩,
  o 43 (.pick (.t 32) (.t 42) (.c (.bool false)))]
def b119_3 : List (List Nat) := [[], [], [0, 1], [0, 1, 2], [0, 1, 2, 3], [0, 1, 2, 3], [0, 1, 2, 3, 4, 5], [0, 1, 2, 3, 4, 5, 6], [0, 1, 2, 3], [0, 1, 2, 3], [0, 1, 2, 3, 8, 9], [0, 1, 2, 3, 8, 9, 10], [0, 1, 2, 3, 4, 5, 6, 7, 8, 9, 10, 11], [0, 1, 2, 3, 4, 5, 6, 7, 8, 9, 10, 11, 12], [0, 1, 2, 3, 4, 5, 6, 7, 8, 9, 10, 11, 12, 13]]
def r119_4 : List AOper := [o 44 (.mv (.t 9)),
  o 45 (.bin .add (.t 44) (i64 1)),
  o 9 (.mv (.t 45))]
def l119_0 : ACode := .seq (.seq (.dreg r119_3 b119_3 []) (.cond (.t 43) (.skip) (.exit 2))) (.block 3 (.reg r119_4))
def r119_5 : List AOper := [o 46 (.mv (.t 9)),
  o 47 (.mv (.t 10)),
  o 48 (.bin .leq (.t 46) (.t 47)),
  o 49 (.mv (.t 48)),
  ⟨some 50, .mv (.t 0), (some (49, true)), false⟩,
  ⟨some 51, .mv (.t 1), (some (49, true)), false⟩,
  ⟨some 52, .iaddr 1 (.t 50) (.t 51), (some (49, true)), false⟩,
  ⟨some 53, .load none (.t 52), (some (49, true)), false⟩,
  ⟨some 54, .mv (.t 0), (some (49, true)), false⟩,
  ⟨some 55, .mv (.t 10), (some (49, true)), false⟩,
  ⟨some 56, .iaddr 1 (.t 54) (.t 55), (some (49, true)), false⟩,
  ⟨some 57, .load none (.t 56), (some (49, true)), false⟩,
  ⟨some 58, .call 118 [(.t 53), (.t 57)] .borrow, (some (49, true)), false⟩,
  o 59 (.pick (.t 49) (.t 58) (.c (.bool false)))]
def b119_5 : List (List Nat) := [[], [], [0, 1], [0, 1, 2], [0, 1, 2, 3], [0, 1, 2, 3], [0, 1, 2, 3, 4, 5], [0, 1, 2, 3, 4, 5, 6], [0, 1, 2, 3], [0, 1, 2, 3], [0, 1, 2, 3, 8, 9], [0, 1, 2, 3, 8, 9, 10], [0, 1, 2, 3, 4, 5, 6, 7, 8, 9, 10, 11], [0, 1, 2, 3, 4, 5, 6, 7, 8, 9, 10, 11, 12]]
def r119_6 : List AOper := [o 60 (.mv (.t 10)),
  o 61 (.bin .sub (.t 60) (i64 1)),
  o 10 (.mv (.t 61))]
def l119_1 : ACode := .seq (.seq (.dreg r119_5 b119_5 []) (.cond (.t 59) (.skip) (.exit 4))) (.block 5 (.reg r119_6))
def r119_7 : List AOper := [o 62 (.mv (.t 9)),
  o 63 (.mv (.t 10)),
  o 64 (.bin .gtr (.t 62) (.t 63))]
def r119_8 : List AOper := [o 65 (.mv (.t 0)),
  o 66 (.mv (.t 9)),
  o 67 (.mv (.t 0)),
  o 68 (.mv (.t 10)),
  o 69 (.mv (.t 0)),
  o 70 (.mv (.t 10)),
  o 71 (.iaddr 1 (.t 69) (.t 70)),
  o 72 (.load none (.t 71)),
  o 73 (.mv (.t 0)),
  o 74 (.mv (.t 9)),
  o 75 (.iaddr 1 (.t 73) (.t 74)),
  o 76 (.load none (.t 75)),
  o 77 (.iaddr 1 (.t 65) (.t 66)),
  ⟨none, .store 1 (.t 77) (.t 72), none, false⟩,
  o 78 (.iaddr 1 (.t 67) (.t 68)),
  ⟨none, .store 1 (.t 78) (.t 76), none, false⟩]
def b119_8 : List (List Nat) := [[], [], [], [], [], [], [4, 5], [4, 5, 6], [], [], [8, 9], [8, 9, 10], [0, 1, 4, 5, 6, 7, 8, 9, 10, 11], [0, 1, 4, 5, 6, 7, 8, 9, 10, 11, 12], [0, 1, 2, 3, 4, 5, 6, 7, 8, 9, 10, 11, 12, 13], [0, 1, 2, 3, 4, 5, 6, 7, 8, 9, 10, 11, 12, 13, 14]]
def r119_9 : List AOper := [o 79 (.mv (.t 9)),
  o 80 (.bin .add (.t 79) (i64 1)),
  o 9 (.mv (.t 80))]
def r119_10 : List AOper := [o 81 (.mv (.t 10)),
  o 82 (.bin .sub (.t 81) (i64 1)),
  o 10 (.mv (.t 82))]
def l119_2 : ACode := .block 1 (.seq (.block 2 (.loop l119_0)) (.seq (.block 4 (.loop l119_1)) (.seq (.seq (.reg r119_7) (.cond (.t 64) (.exit 0) (.skip))) (.seq (.dreg r119_8 b119_8 []) (.seq (.reg r119_9) (.reg r119_10))))))
def r119_11 : List AOper := [o 83 (.mv (.t 9)),
  o 8 (.mv (.t 83))]
def c119 : ACode := .seq (.reg r119_0) (.seq (.dreg r119_1 b119_1 []) (.seq (.reg r119_2) (.seq (.block 0 (.loop l119_2)) (.seq (.reg r119_11) (.ret)))))
/-- slices.partitionEqualOrdered[int] -/
def a119 : AFunc := ⟨4, 84, [.tmp 8], c119⟩
def r120_0 : List AOper := [o 8 (.mv (i64 0)),
  o 9 (.mv (.c (.bool false)))]
def r120_1 : List AOper := [o 12 (.mv (.t 0)),
  o 13 (.mv (.t 1)),
  o 14 (.mv (.t 0)),
  o 15 (.mv (.t 3)),
  o 16 (.mv (.t 0)),
  o 17 (.mv (.t 3)),
  o 18 (.iaddr 1 (.t 16) (.t 17)),
  o 19 (.load none (.t 18)),
  o 20 (.mv (.t 0)),
  o 21 (.mv (.t 1)),
  o 22 (.iaddr 1 (.t 20) (.t 21)),
  o 23 (.load none (.t 22)),
  o 24 (.iaddr 1 (.t 12) (.t 13)),
  ⟨none, .store 1 (.t 24) (.t 19), none, false⟩,
  o 25 (.iaddr 1 (.t 14) (.t 15)),
  ⟨none, .store 1 (.t 25) (.t 23), none, false⟩]
def b120_1 : List (List Nat) := [[], [], [], [], [], [], [4, 5], [4, 5, 6], [], [], [8, 9], [8, 9, 10], [0, 1, 4, 5, 6, 7, 8, 9, 10, 11], [0, 1, 4, 5, 6, 7, 8, 9, 10, 11, 12], [0, 1, 2, 3, 4, 5, 6, 7, 8, 9, 10, 11, 12, 13], [0, 1, 2, 3, 4, 5, 6, 7, 8, 9, 10, 11, 12, 13, 14]]
def r120_2 : List AOper := [o 26 (.mv (.t 1)),
  o 27 (.bin .add (.t 26) (i64 1)),
  o 28 (.mv (.t 2)),
  o 29 (.bin .sub (.t 28) (i64 1)),
  o 10 (.mv (.t 27)),
  o 11 (.mv (.t 29))]
def r120_3 : List AOper := [o 30 (.mv (.t 10)),
  o 31 (.mv (.t 11)),
  o 32 (.bin .leq (.t 30) (.t 31)),
  o 33 (.mv (.t 32)),
  ⟨some 34, .mv (.t 0), (some (33, true)), false⟩,
  ⟨some 35, .mv (.t 10), (some (33, true)), false⟩,
  ⟨some 36, .iaddr 1 (.t 34) (.t 35), (some (33, true)), false⟩,
  ⟨some 37, .load none (.t 36), (some (33, true)), false⟩,
  ⟨some 38, .mv (.t 0), (some (33, true)), false⟩,
  ⟨some 39, .mv (.t 1), (some (33, true)), false⟩,
  ⟨some 40, .iaddr 1 (.t 38) (.t 39), (some (33, true)), false⟩,
  ⟨some 41, .load none (.t 40), (some (33, true)), false⟩,
  ⟨some 42, .call 118 [(.t 37), (.t 41)] .borrow, (some (33, true)), false⟩,
  o 43 (.pick (.t 33) (.t 42) (.c (.bool false)))]
def b120_3 : List (List Nat) := [[], [], [0, 1], [0, 1, 2], [0, 1, 2, 3], [0, 1, 2, 3], [0, 1, 2, 3, 4, 5], [0, 1, 2, 3, 4, 5, 6], [0, 1, 2, 3], [0, 1, 2, 3], [0, 1, 2, 3, 8, 9], [0, 1, 2, 3, 8, 9, 10], [0, 1, 2, 3, 4, 5, 6, 7, 8, 9, 10, 11], [0, 1, 2, 3, 4, 5, 6, 7, 8, 9, 10, 11, 12]]
def r120_4 : List AOper := [o 44 (.mv (.t 10)),
  o 45 (.bin .add (.t 44) (i64 1)),
  o 10 (.mv (.t 45))]
def l120_0 : ACode := .seq (.seq (.dreg r120_3 b120_3 []) (.cond (.t 43) (.skip) (.exit 0))) (.block 1 (.reg r120_4))
def r120_5 : List AOper := [o 46 (.mv (.t 10)),
  o 47 (.mv (.t 11)),
  o 48 (.bin .leq (.t 46) (.t 47)),
  o 49 (.mv (.t 48)),
  ⟨some 50, .mv (.t 0), (some (49, true)), false⟩,
  ⟨some 51, .mv (.t 11), (some (49, true)), false⟩,
  ⟨some 52, .iaddr 1 (.t 50) (.t 51), (some (49, true)), false⟩,
  ⟨some 53, .load none (.t 52), (some (49, true)), false⟩,
  ⟨some 54, .mv (.t 0), (some (49, true)), false⟩,
  ⟨some 55, .mv (.t 1), (some (49, true)), false⟩,
  ⟨some 56, .iaddr 1 (.t 54) (.t 55), (some (49, true)), false⟩,
  ⟨some 57, .load none (.t 56), (some (49, true)), false⟩,
  ⟨some 58, .call 118 [(.t 53), (.t 57)] .borrow, (some (49, true)), false⟩,
  ⟨some 59, .un .not (.t 58), (some (49, true)), false⟩,
  o 60 (.pick (.t 49) (.t 59) (.c (.bool false)))]
def b120_5 : List (List Nat) := [[], [], [0, 1], [0, 1, 2], [0, 1, 2, 3], [0, 1, 2, 3], [0, 1, 2, 3, 4, 5], [0, 1, 2, 3, 4, 5, 6], [0, 1, 2, 3], [0, 1, 2, 3], [0, 1, 2, 3, 8, 9], [0, 1, 2, 3, 8, 9, 10], [0, 1, 2, 3, 4, 5, 6, 7, 8, 9, 10, 11], [0, 1, 2, 3, 4, 5, 6, 7, 8, 9, 10, 11, 12], [0, 1, 2, 3, 4, 5, 6, 7, 8, 9, 10, 11, 12, 13]]
def r120_6 : List AOper := [o 61 (.mv (.t 11)),
  o 62 (.bin .sub (.t 61) (i64 1)),
  o 11 (.mv (.t 62))]
def l120_1 : ACode := .seq (.seq (.dreg r120_5 b120_5 []) (.cond (.t 60) (.skip) (.exit 2))) (.block 3 (.reg r120_6))
def r120_7 : List AOper := [o 63 (.mv (.t 10)),
  o 64 (.mv (.t 11)),
  o 65 (.bin .gtr (.t 63) (.t 64))]
def r120_8 : List AOper := [o 66 (.mv (.t 0)),
  o 67 (.mv (.t 11)),
  o 68 (.mv (.t 0)),
  o 69 (.mv (.t 1)),
  o 70 (.mv (.t 0)),
  o 71 (.mv (.t 1)),
  o 72 (.iaddr 1 (.t 70) (.t 71)),
  o 73 (.load none (.t 72)),
  o 74 (.mv (.t 0)),
  o 75 (.mv (.t 11)),
  o 76 (.iaddr 1 (.t 74) (.t 75)),
  o 77 (.load none (.t 76)),
  o 78 (.iaddr 1 (.t 66) (.t 67)),
  ⟨none, .store 1 (.t 78) (.t 73), none, false⟩,
  o 79 (.iaddr 1 (.t 68) (.t 69)),
  ⟨none, .store 1 (.t 79) (.t 77), none, false⟩]
def b120_8 : List (List Nat) := [[], [], [], [], [], [], [4, 5], [4, 5, 6], [], [], [8, 9], [8, 9, 10], [0, 1, 4, 5, 6, 7, 8, 9, 10, 11], [0, 1, 4, 5, 6, 7, 8, 9, 10, 11, 12], [0, 1, 2, 3, 4, 5, 6, 7, 8, 9, 10, 11, 12, 13], [0, 1, 2, 3, 4, 5, 6, 7, 8, 9, 10, 11, 12, 13, 14]]
def r120_9 : List AOper := [o 80 (.mv (.t 11)),
  o 8 (.mv (.t 80)),
  o 9 (.mv (.c (.bool true)))]
def r120_10 : List AOper := [o 81 (.mv (.t 0)),
  o 82 (.mv (.t 10)),
  o 83 (.mv (.t 0)),
  o 84 (.mv (.t 11)),
  o 85 (.mv (.t 0)),
  o 86 (.mv (.t 11)),
  o 87 (.iaddr 1 (.t 85) (.t 86)),
  o 88 (.load none (.t 87)),
  o 89 (.mv (.t 0)),
  o 90 (.mv (.t 10)),
  o 91 (.iaddr 1 (.t 89) (.t 90)),
  o 92 (.load none (.t 91)),
  o 93 (.iaddr 1 (.t 81) (.t 82)),
  ⟨none, .store 1 (.t 93) (.t 88), none, false⟩,
  o 94 (.iaddr 1 (.t 83) (.t 84)),
  ⟨none, .store 1 (.t 94) (.t 92), none, false⟩]
def b120_10 : List (List Nat) := [[], [], [], [], [], [], [4, 5], [4, 5, 6], [], [], [8, 9], [8, 9, 10], [0, 1, 4, 5, 6, 7, 8, 9, 10, 11], [0, 1, 4, 5, 6, 7, 8, 9, 10, 11, 12], [0, 1, 2, 3, 4, 5, 6, 7, 8, 9, 10, 11, 12, 13], [0, 1, 2, 3, 4, 5, 6, 7, 8, 9, 10, 11, 12, 13, 14]]
def r120_11 : List AOper := [o 95 (.mv (.t 10)),
  o 96 (.bin .add (.t 95) (i64 1)),
  o 10 (.mv (.t 96))]
def r120_12 : List AOper := [o 97 (.mv (.t 11)),
  o 98 (.bin .sub (.t 97) (i64 1)),
  o 11 (.mv (.t 98))]
def r120_13 : List AOper := [o 99 (.mv (.t 10)),
  o 100 (.mv (.t 11)),
  o 101 (.bin .leq (.t 99) (.t 100)),
  o 102 (.mv (.t 101)),
  ⟨some 103, .mv (.t 0), (some (102, true)), false⟩,
  ⟨some 104, .mv (.t 10), (some (102, true)), false⟩,
  ⟨some 105, .iaddr 1 (.t 103) (.t 104), (some (102, true)), false⟩,
  ⟨some 106, .load none (.t 105), (some (102, true)), false⟩,
  ⟨some 107, .mv (.t 0), (some (102, true)), false⟩,
  ⟨some 108, .mv (.t 1), (some (102, true)), false⟩,
  ⟨some 109, .iaddr 1 (.t 107) (.t 108), (some (102, true)), false⟩,
  ⟨some 110, .load none (.t 109), (some (102, true)), false⟩,
  ⟨some 111, .call 118 [(.t 106), (.t 110)] .borrow, (some (102, true)), false⟩,
  o 112 (.pick (.t 102) (.t 111) (.c (.bool false)))]
def b120_13 : List (List Nat) := [[], [], [0, 1], [0, 1, 2], [0, 1, 2, 3], [0, 1, 2, 3], [0, 1, 2, 3, 4, 5], [0, 1, 2, 3, 4, 5, 6], [0, 1, 2, 3], [0, 1, 2, 3], [0, 1, 2, 3, 8, 9], [0, 1, 2, 3, 8, 9, 10], [0, 1, 2, 3, 4, 5, 6, 7, 8, 9, 10, 11], [0, 1, 2, 3, 4, 5, 6, 7, 8, 9, 10, 11, 12]]
def r120_14 : List AOper := [o 113 (.mv (.t 10)),
  o 114 (.bin .add (.t 113) (i64 1)),
  o 10 (.mv (.t 114))]
def l120_2 : ACode := .seq (.seq (.dreg r120_13 b120_13 []) (.cond (.t 112) (.skip) (.exit 6))) (.block 7 (.reg r120_14))
def r120_15 : List AOper := [o 115 (.mv (.t 10)),
  o 116 (.mv (.t 11)),
  o 117 (.bin .leq (.t 115) (.t 116)),
  o 118 (.mv (.t 117)),
  ⟨some 119, .mv (.t 0), (some (118, true)), false⟩,
  ⟨some 120, .mv (.t 11), (some (118, true)), false⟩,
  ⟨some 121, .iaddr 1 (.t 119) (.t 120), (some (118, true)), false⟩,
  ⟨some 122, .load none (.t 121), (some (118, true)), false⟩,
  ⟨some 123, .mv (.t 0), (some (118, true)), false⟩,
  ⟨some 124, .mv (.t 1), (some (118, true)), false⟩,
  ⟨some 125, .iaddr 1 (.t 123) (.t 124), (some (118, true)), false⟩,
  ⟨some 126, .load none (.t 125), (some (118, true)), false⟩,
  ⟨some 127, .call 118 [(.t 122), (.t 126)] .borrow, (some (118, true)), false⟩,
  ⟨some 128, .un .not (.t 127), (some (118, true)), false⟩,
  o 129 (.pick (.t 118) (.t 128) (.c (.bool false)))]
def b120_15 : List (List Nat) := [[], [], [0, 1], [0, 1, 2], [0, 1, 2, 3], [0, 1, 2, 3], [0, 1, 2, 3, 4, 5], [0, 1, 2, 3, 4, 5, 6], [0, 1, 2, 3], [0, 1, 2, 3], [0, 1, 2, 3, 8, 9], [0, 1, 2, 3, 8, 9, 10], [0, 1, 2, 3, 4, 5, 6, 7, 8, 9, 10, 11], [0, 1, 2, 3, 4, 5, 6, 7, 8, 9, 10, 11, 12], [0, 1, 2, 3, 4, 5, 6, 7, 8, 9, 10, 11, 12, 13]]
def r120_16 : List AOper := [o 130 (.mv (.t 11)),
  o 131 (.bin .sub (.t 130) (i64 1)),
  o 11 (.mv (.t 131))]
def l120_3 : ACode := .seq (.seq (.dreg r120_15 b120_15 []) (.cond (.t 129) (.skip) (.exit 8))) (.block 9 (.reg r120_16))
def r120_17 : List AOper := [o 132 (.mv (.t 10)),
  o 133 (.mv (.t 11)),
  o 134 (.bin .gtr (.t 132) (.t 133))]
def r120_18 : List AOper := [o 135 (.mv (.t 0)),
  o 136 (.mv (.t 10)),
  o 137 (.mv (.t 0)),
  o 138 (.mv (.t 11)),
  o 139 (.mv (.t 0)),
  o 140 (.mv (.t 11)),
  o 141 (.iaddr 1 (.t 139) (.t 140)),
  o 142 (.load none (.t 141)),
  o 143 (.mv (.t 0)),
  o 144 (.mv (.t 10)),
  o 145 (.iaddr 1 (.t 143) (.t 144)),
  o 146 (.load none (.t 145)),
  o 147 (.iaddr 1 (.t 135) (.t 136)),
  ⟨none, .store 1 (.t 147) (.t 142), none, false⟩,
  o 148 (.iaddr 1 (.t 137) (.t 138)),
  ⟨none, .store 1 (.t 148) (.t 146), none, false⟩]
def b120_18 : List (List Nat) := [[], [], [], [], [], [], [4, 5], [4, 5, 6], [], [], [8, 9], [8, 9, 10], [0, 1, 4, 5, 6, 7, 8, 9, 10, 11], [0, 1, 4, 5, 6, 7, 8, 9, 10, 11, 12], [0, 1, 2, 3, 4, 5, 6, 7, 8, 9, 10, 11, 12, 13], [0, 1, 2, 3, 4, 5, 6, 7, 8, 9, 10, 11, 12, 13, 14]]
def r120_19 : List AOper := [o 149 (.mv (.t 10)),
  o 150 (.bin .add (.t 149) (i64 1)),
  o 10 (.mv (.t 150))]
def r120_20 : List AOper := [o 151 (.mv (.t 11)),
  o 152 (.bin .sub (.t 151) (i64 1)),
  o 11 (.mv (.t 152))]
def l120_4 : ACode := .block 5 (.seq (.block 6 (.loop l120_2)) (.seq (.block 8 (.loop l120_3)) (.seq (.seq (.reg r120_17) (.cond (.t 134) (.exit 4) (.skip))) (.seq (.dreg r120_18 b120_18 []) (.seq (.reg r120_19) (.reg r120_20))))))
def r120_21 : List AOper := [o 153 (.mv (.t 0)),
  o 154 (.mv (.t 11)),
  o 155 (.mv (.t 0)),
  o 156 (.mv (.t 1)),
  o 157 (.mv (.t 0)),
  o 158 (.mv (.t 1)),
  o 159 (.iaddr 1 (.t 157) (.t 158)),
  o 160 (.load none (.t 159)),
  o 161 (.mv (.t 0)),
  o 162 (.mv (.t 11)),
  o 163 (.iaddr 1 (.t 161) (.t 162)),
  o 164 (.load none (.t 163)),
  o 165 (.iaddr 1 (.t 153) (.t 154)),
  ⟨none, .store 1 (.t 165) (.t 160), none, false⟩,
  o 166 (.iaddr 1 (.t 155) (.t 156)),
  ⟨none, .store 1 (.t 166) (.t 164), none, false⟩]
def b120_21 : List (List Nat) := [[], [], [], [], [], [], [4, 5], [4, 5, 6], [], [], [8, 9], [8, 9, 10], [0, 1, 4, 5, 6, 7, 8, 9, 10, 11], [0, 1, 4, 5, 6, 7, 8, 9, 10, 11, 12], [0, 1, 2, 3, 4, 5, 6, 7, 8, 9, 10, 11, 12, 13], [0, 1, 2, 3, 4, 5, 6, 7, 8, 9, 10, 11, 12, 13, 14]]
def r120_22 : List AOper := [o 167 (.mv (.t 11)),
  o 8 (.mv (.t 167)),
  o 9 (.mv (.c (.bool false)))]
def c120 : ACode := .seq (.reg r120_0) (.seq (.dreg r120_1 b120_1 []) (.seq (.reg r120_2) (.seq (.block 0 (.loop l120_0)) (.seq (.block 2 (.loop l120_1)) (.seq (.seq (.reg r120_7) (.cond (.t 65) (.seq (.dreg r120_8 b120_8 []) (.seq (.reg r120_9) (.ret))) (.skip))) (.seq (.dreg r120_10 b120_10 []) (.seq (.reg r120_11) (.seq (.reg r120_12) (.seq (.block 4 (.loop l120_4)) (.seq (.dreg r120_21 b120_21 []) (.seq (.reg r120_22) (.ret))))))))))))
/-- slices.partitionOrdered[int] -/
def a120 : AFunc := ⟨4, 168, [.tmp 8, .tmp 9], c120⟩
def r121_0 : List AOper := [o 2 (.mv (i64 0))]
def r121_1 : List AOper := [o 3 (.mv (.t 0)),
  o 4 (.bin .geq (.t 3) (.c (.int .u32 65536)))]
def r121_2 : List AOper := [o 5 (.mv (.t 0)),
  o 6 (.bin .shr (.t 5) (.c (.int .u64 16))),
  o 0 (.mv (.t 6))]
def r121_3 : List AOper := [o 2 (.mv (i64 16))]
def r121_4 : List AOper := [o 7 (.mv (.t 0)),
  o 8 (.bin .geq (.t 7) (.c (.int .u32 256)))]
def r121_5 : List AOper := [o 9 (.mv (.t 0)),
  o 10 (.bin .shr (.t 9) (.c (.int .u64 8))),
  o 0 (.mv (.t 10))]
def r121_6 : List AOper := [o 11 (.mv (.t 2)),
  o 12 (.bin .add (.t 11) (i64 8)),
  o 2 (.mv (.t 12))]
def r121_7 : List AOper := [o 13 (.mv (.t 2)),
  o 14 (.mv (.t 0)),
  o 15 (.conv .u8 (.t 14)),
  o 16 (.idx (.c (.str ⟨#[0, 1, 2, 2, 3, 3, 3, 3, 4, 4, 4, 4, 4, 4, 4, 4, 5, 5, 5, 5, 5, 5, 5, 5, 5, 5, 5, 5, 5, 5, 5, 5, 6, 6, 6, 6, 6, 6, 6, 6, 6, 6, 6, 6, 6, 6, 6, 6, 6, 6, 6, 6, 6, 6, 6, 6, 6, 6, 6, 6, 6, 6, 6, 6, 7, 7, 7, 7, 7, 7, 7, 7, 7, 7, 7, 7, 7, 7, 7, 7, 7, 7, 7, 7, 7, 7, 7, 7, 7, 7, 7, 7, 7, 7, 7, 7, 7, 7, 7, 7, 7, 7, 7, 7, 7, 7, 7, 7, 7, 7, 7, 7, 7, 7, 7, 7, 7, 7, 7, 7, 7, 7, 7, 7, 7, 7, 7, 7, 8, 8, 8, 8, 8, 8, 8, 8, 8, 8, 8, 8, 8, 8, 8, 8, 8, 8, 8, 8, 8, 8, 8, 8, 8, 8, 8, 8, 8, 8, 8, 8, 8, 8, 8, 8, 8, 8, 8, 8, 8, 8, 8, 8, 8, 8, 8, 8, 8, 8, 8, 8, 8, 8, 8, 8, 8, 8, 8, 8, 8, 8, 8, 8, 8, 8, 8, 8, 8, 8, 8, 8, 8, 8, 8, 8, 8, 8, 8, 8, 8, 8, 8, 8, 8, 8, 8, 8, 8, 8, 8, 8, 8, 8, 8, 8, 8, 8, 8, 8, 8, 8, 8, 8, 8, 8, 8, 8, 8, 8, 8, 8, 8, 8, 8, 8, 8, 8, 8, 8, 8, 8, 8, 8, 8, 8, 8, 8]⟩)) (.t 15)),
  o 17 (.conv .i64 (.t 16)),
  o 18 (.bin .add (.t 13) (.t 17)),
  o 2 (.mv (.t 18))]
def c121 : ACode := .seq (.reg r121_0) (.seq (.seq (.reg r121_1) (.cond (.t 4) (.seq (.reg r121_2) (.reg r121_3)) (.skip))) (.seq (.seq (.reg r121_4) (.cond (.t 8) (.seq (.reg r121_5) (.reg r121_6)) (.skip))) (.seq (.reg r121_7) (.ret))))
/-- math/bits.Len32 -/
def a121 : AFunc := ⟨1, 19, [.tmp 2], c121⟩
def r122_0 : List AOper := [o 2 (.mv (i64 0))]
def r122_1 : List AOper := [o 3 (.mv (.t 0)),
  o 4 (.bin .geq (.t 3) (.c (.int .u64 4294967296)))]
def r122_2 : List AOper := [o 5 (.mv (.t 0)),
  o 6 (.bin .shr (.t 5) (.c (.int .u64 32))),
  o 0 (.mv (.t 6))]
def r122_3 : List AOper := [o 2 (.mv (i64 32))]
def r122_4 : List AOper := [o 7 (.mv (.t 0)),
  o 8 (.bin .geq (.t 7) (.c (.int .u64 65536)))]
def r122_5 : List AOper := [o 9 (.mv (.t 0)),
  o 10 (.bin .shr (.t 9) (.c (.int .u64 16))),
  o 0 (.mv (.t 10))]
def r122_6 : List AOper := [o 11 (.mv (.t 2)),
  o 12 (.bin .add (.t 11) (i64 16)),
  o 2 (.mv (.t 12))]
def r122_7 : List AOper := [o 13 (.mv (.t 0)),
  o 14 (.bin .geq (.t 13) (.c (.int .u64 256)))]
def r122_8 : List AOper := [o 15 (.mv (.t 0)),
  o 16 (.bin .shr (.t 15) (.c (.int .u64 8))),
  o 0 (.mv (.t 16))]
def r122_9 : List AOper := [o 17 (.mv (.t 2)),
  o 18 (.bin .add (.t 17) (i64 8)),
  o 2 (.mv (.t 18))]
def r122_10 : List AOper := [o 19 (.mv (.t 2)),
  o 20 (.mv (.t 0)),
  o 21 (.conv .u8 (.t 20)),
  o 22 (.idx (.c (.str ⟨#[0, 1, 2, 2, 3, 3, 3, 3, 4, 4, 4, 4, 4, 4, 4, 4, 5, 5, 5, 5, 5, 5, 5, 5, 5, 5, 5, 5, 5, 5, 5, 5, 6, 6, 6, 6, 6, 6, 6, 6, 6, 6, 6, 6, 6, 6, 6, 6, 6, 6, 6, 6, 6, 6, 6, 6, 6, 6, 6, 6, 6, 6, 6, 6, 7, 7, 7, 7, 7, 7, 7, 7, 7, 7, 7, 7, 7, 7, 7, 7, 7, 7, 7, 7, 7, 7, 7, 7, 7, 7, 7, 7, 7, 7, 7, 7, 7, 7, 7, 7, 7, 7, 7, 7, 7, 7, 7, 7, 7, 7, 7, 7, 7, 7, 7, 7, 7, 7, 7, 7, 7, 7, 7, 7, 7, 7, 7, 7, 8, 8, 8, 8, 8, 8, 8, 8, 8, 8, 8, 8, 8, 8, 8, 8, 8, 8, 8, 8, 8, 8, 8, 8, 8, 8, 8, 8, 8, 8, 8, 8, 8, 8, 8, 8, 8, 8, 8, 8, 8, 8, 8, 8, 8, 8, 8, 8, 8, 8, 8, 8, 8, 8, 8, 8, 8, 8, 8, 8, 8, 8, 8, 8, 8, 8, 8, 8, 8, 8, 8, 8, 8, 8, 8, 8, 8, 8, 8, 8, 8, 8, 8, 8, 8, 8, 8, 8, 8, 8, 8, 8, 8, 8, 8, 8, 8, 8, 8, 8, 8, 8, 8, 8, 8, 8, 8, 8, 8, 8, 8, 8, 8, 8, 8, 8, 8, 8, 8, 8, 8, 8, 8, 8, 8, 8, 8, 8]⟩)) (.t 21)),
  o 23 (.conv .i64 (.t 22)),
  o 24 (.bin .add (.t 19) (.t 23)),
  o 2 (.mv (.t 24))]
def c122 : ACode := .seq (.reg r122_0) (.seq (.seq (.reg r122_1) (.cond (.t 4) (.seq (.reg r122_2) (.reg r122_3)) (.skip))) (.seq (.seq (.reg r122_4) (.cond (.t 8) (.seq (.reg r122_5) (.reg r122_6)) (.skip))) (.seq (.seq (.reg r122_7) (.cond (.t 14) (.seq (.reg r122_8) (.reg r122_9)) (.skip))) (.seq (.reg r122_10) (.ret)))))
/-- math/bits.Len64 -/
def a122 : AFunc := ⟨1, 25, [.tmp 2], c122⟩
def r136_0 : List AOper := [o 1 (.box (.t 0)),
  o 2 (.mv (.c (.nils))),
  o 3 (.mv (.c (.bool false)))]
def r136_1 : List AOper := [o 7 (.faddr 2 (.t 1)),
  o 8 (.load none (.t 7)),
  o 9 (.bin .eql (.t 8) (i64 0))]
def r136_2 : List AOper := [o 10 (.faddr 4 (.t 1)),
  o 11 (.load none (.t 10)),
  o 12 (.faddr 5 (.t 1)),
  o 13 (.load none (.t 12)),
  o 14 (.faddr 6 (.t 1)),
  o 15 (.load (some 4) (.t 14)),
  o 16 (.faddr 10 (.t 1)),
  o 17 (.load (some 9) (.t 16)),
  o 18 (.build [.int .i64 0, .int .i64 0, .int .i64 0, .int .i64 0, .int .i64 0, .int .i64 0, .int .i64 0, .nils, .int .i64 0, .int .i64 0, .int .i64 0, .int .i64 0, .nils, .int .i64 0, .int .i64 0, .int .i64 0, .nils, .nils, .nils, .nils] [(0, 1, (i64 7)), (2, 1, (.t 11)), (3, 1, (.t 13)), (4, 4, (.t 15)), (8, 9, (.t 17))]),
  o 4 (.alloc [.int .i64 0, .int .i64 0, .int .i64 0, .int .i64 0, .int .i64 0, .int .i64 0, .int .i64 0, .nils, .int .i64 0, .int .i64 0, .int .i64 0, .int .i64 0, .nils, .int .i64 0, .int .i64 0, .int .i64 0, .nils, .nils, .nils, .nils]),
  ⟨none, .store 20 (.t 4) (.t 18), none, false⟩]
def r136_3 : List AOper := [o 19 (.load (some 20) (.t 4)),
  ⟨some 20, .islice 1 [.int .i64 0, .int .i64 0, .int .i64 0, .int .i64 0, .int .i64 0, .int .i64 0, .int .i64 0, .nils, .int .i64 0, .int .i64 0, .int .i64 0, .int .i64 0, .nils, .int .i64 0, .int .i64 0, .int .i64 0, .nils, .nils, .nils, .nils] [(0, 20, (.t 19))], none, true⟩,
  o 21 (.faddr 3 (.t 1)),
  o 22 (.load none (.t 21)),
  o 23 (.bin .eql (.t 22) (i64 0)),
  o 2 (.mv (.t 20)),
  o 3 (.mv (.t 23))]
def b136_3 : List (List Nat) := [[], [0], [], [2], [2, 3], [0, 1], [0, 1, 2, 3, 4, 5]]
def r136_4 : List AOper := [o 25 (.load (some 19) (.t 1)),
  o 26 (.call 163 [(.t 25)] .borrow),
  o 24 (.mv (.t 26)),
  o 27 (.ext 0 (.t 24)),
  o 28 (.ext 1 (.t 24)),
  o 5 (.alloc [.int .i64 0, .int .i64 0, .int .i64 0, .int .i64 0, .int .i64 0, .int .i64 0, .int .i64 0, .nils, .int .i64 0, .int .i64 0, .int .i64 0, .int .i64 0, .nils, .int .i64 0, .int .i64 0, .int .i64 0, .nils, .nils, .nils, .nils]),
  ⟨none, .store 20 (.t 5) (.t 27), none, false⟩,
  o 6 (.mv (.t 28))]
def r136_5 : List AOper := [o 29 (.load (some 20) (.t 5)),
  ⟨some 30, .islice 1 [.int .i64 0, .int .i64 0, .int .i64 0, .int .i64 0, .int .i64 0, .int .i64 0, .int .i64 0, .nils, .int .i64 0, .int .i64 0, .int .i64 0, .int .i64 0, .nils, .int .i64 0, .int .i64 0, .int .i64 0, .nils, .nils, .nils, .nils] [(0, 20, (.t 29))], none, true⟩,
  o 31 (.mv (.t 6)),
  o 2 (.mv (.t 30)),
  o 3 (.mv (.t 31))]
def c136 : ACode := .seq (.reg r136_0) (.seq (.seq (.reg r136_1) (.cond (.t 9) (.seq (.reg r136_2) (.seq (.dreg r136_3 b136_3 [(1, 3)]) (.ret))) (.skip))) (.seq (.reg r136_4) (.seq (.reg r136_5) (.ret))))
/-- jetsam/flow.body -/
def a136 : AFunc := ⟨1, 32, [.tmp 2, .tmp 3], c136⟩
def r137_0 : List AOper := [o 2 (.mv (.c (.nils)))]
def r137_1 : List AOper := [o 3 (.mv (.t 0)),
  o 4 (.eq .slice false (.t 3) (.c (.nils)))]
def r137_2 : List AOper := [o 2 (.mv (.c (.nils)))]
def r137_3 : List AOper := [o 5 (.islice 0 [] []),
  o 6 (.mv (.t 0)),
  o 7 (.app 2 32 (.t 5) (.t 6)),
  o 2 (.mv (.t 7))]
def c137 : ACode := .seq (.reg r137_0) (.seq (.seq (.reg r137_1) (.cond (.t 4) (.seq (.reg r137_2) (.ret)) (.skip))) (.seq (.reg r137_3) (.ret)))
/-- slices.Clone[[]jetsam/check.Proc,jetsam/check.Proc] -/
def a137 : AFunc := ⟨1, 8, [.tmp 2], c137⟩
def r138_0 : List AOper := [o 2 (.mv (.c (.bool false)))]
def r138_1 : List AOper := [o 3 (.alloc [.bool false, .bool false, .bool false, .bool false])]
def r138_2 : List AOper := [o 6 (.mv (.t 0)),
  o 7 (.len false (.t 6)),
  o 8 (.mv (i64 0))]
def r138_3 : List AOper := [o 9 (.bin .lss (.t 8) (.t 7))]
def r138_4 : List AOper := [o 10 (.iaddr 19 (.t 6) (.t 8)),
  o 11 (.load (some 19) (.t 10)),
  o 5 (.alloc [.int .i64 0, .int .i64 0, .int .i64 0, .int .i64 0, .int .i64 0, .int .i64 0, .int .i64 0, .int .i64 0, .int .i64 0, .nils, .int .i64 0, .int .i64 0, .int .i64 0, .int .i64 0, .nils, .int .i64 0, .int .i64 0, .int .i64 0, .nils]),
  ⟨none, .store 19 (.t 5) (.t 11), none, false⟩]
def r138_5 : List AOper := [o 12 (.faddr 2 (.t 5)),
  o 13 (.load none (.t 12)),
  o 14 (.bin .neq (.t 13) (i64 4)),
  o 15 (.mv (.t 14)),
  ⟨some 16, .faddr 4 (.t 5), (some (15, false)), false⟩,
  ⟨some 17, .load none (.t 16), (some (15, false)), false⟩,
  ⟨some 18, .mv (.t 0), (some (15, false)), false⟩,
  ⟨some 19, .iaddr 19 (.t 18) (i64 0), (some (15, false)), false⟩,
  ⟨some 20, .faddr 4 (.t 19), (some (15, false)), false⟩,
  ⟨some 21, .load none (.t 20), (some (15, false)), false⟩,
  ⟨some 22, .bin .neq (.t 17) (.t 21), (some (15, false)), false⟩,
  o 23 (.pick (.t 15) (.c (.bool true)) (.t 22)),
  o 24 (.mv (.t 23)),
  ⟨some 25, .faddr 5 (.t 5), (some (24, false)), false⟩,
  ⟨some 26, .load none (.t 25), (some (24, false)), false⟩,
  ⟨some 27, .iarr 4 1 (.t 3) (.t 26), (some (24, false)), false⟩,
  ⟨some 28, .load none (.t 27), (some (24, false)), false⟩,
  o 29 (.pick (.t 24) (.c (.bool true)) (.t 28))]
def b138_5 : List (List Nat) := [[], [0], [0, 1], [0, 1, 2], [0, 1, 2, 3], [0, 1, 2, 3, 4], [0, 1, 2, 3], [0, 1, 2, 3, 6], [0, 1, 2, 3, 6, 7], [0, 1, 2, 3, 6, 7, 8], [0, 1, 2, 3, 4, 5, 6, 7, 8, 9], [0, 1, 2, 3, 4, 5, 6, 7, 8, 9, 10], [0, 1, 2, 3, 4, 5, 6, 7, 8, 9, 10, 11], [0, 1, 2, 3, 4, 5, 6, 7, 8, 9, 10, 11, 12], [0, 1, 2, 3, 4, 5, 6, 7, 8, 9, 10, 11, 12, 13], [0, 1, 2, 3, 4, 5, 6, 7, 8, 9, 10, 11, 12, 13, 14], [0, 1, 2, 3, 4, 5, 6, 7, 8, 9, 10, 11, 12, 13, 14, 15], [0, 1, 2, 3, 4, 5, 6, 7, 8, 9, 10, 11, 12, 13, 14, 15, 16]]
def r138_6 : List AOper := [o 2 (.mv (.c (.bool false)))]
def r138_7 : List AOper := [o 30 (.faddr 5 (.t 5)),
  o 31 (.load none (.t 30)),
  o 32 (.iarr 4 1 (.t 3) (.t 31)),
  ⟨none, .store 1 (.t 32) (.c (.bool true)), none, false⟩]
def r138_8 : List AOper := [o 33 (.bin .add (.t 8) (i64 1)),
  o 8 (.mv (.t 33))]
def l138_0 : ACode := .seq (.reg r138_3) (.seq (.cond (.t 9) (.skip) (.exit 0)) (.seq (.block 1 (.seq (.reg r138_4) (.seq (.seq (.dreg r138_5 b138_5 []) (.cond (.t 29) (.seq (.reg r138_6) (.ret)) (.skip))) (.reg r138_7)))) (.reg r138_8)))
def r138_9 : List AOper := [o 2 (.mv (.c (.bool true)))]
def c138 : ACode := .seq (.reg r138_0) (.seq (.reg r138_1) (.seq (.seq (.reg r138_2) (.block 0 (.loop l138_0))) (.seq (.reg r138_9) (.ret))))
/-- jetsam/flow.arms -/
def a138 : AFunc := ⟨1, 34, [.tmp 2], c138⟩
def r139_0 : List AOper := [o 2 (.box (.t 0)),
  o 3 (.box (.t 1)),
  o 4 (.mv (.c (.bool false)))]
def r139_1 : List AOper := [o 6 (.faddr 10 (.t 2)),
  o 7 (.load (some 9) (.t 6)),
  o 8 (.call 109 [(.t 7)] .borrow),
  o 5 (.alloc [.int .i64 0, .int .i64 0, .int .i64 0, .int .i64 0, .nils, .int .i64 0, .int .i64 0, .int .i64 0, .nils]),
  ⟨none, .store 9 (.t 5) (.t 8), none, false⟩]
def r139_2 : List AOper := [o 9 (.faddr 2 (.t 2)),
  o 10 (.load none (.t 9)),
  o 11 (.bin .eql (.t 10) (i64 2)),
  o 12 (.mv (.t 11)),
  ⟨some 13, .faddr 2 (.t 3), (some (12, true)), false⟩,
  ⟨some 14, .load none (.t 13), (some (12, true)), false⟩,
  ⟨some 15, .bin .eql (.t 14) (i64 2), (some (12, true)), false⟩,
  o 16 (.pick (.t 12) (.t 15) (.c (.bool false))),
  o 17 (.mv (.t 16)),
  ⟨some 18, .faddr 0 (.t 5), (some (17, true)), false⟩,
  ⟨some 19, .load none (.t 18), (some (17, true)), false⟩,
  ⟨some 20, .faddr 10 (.t 3), (some (17, true)), false⟩,
  ⟨some 21, .faddr 0 (.t 20), (some (17, true)), false⟩,
  ⟨some 22, .load none (.t 21), (some (17, true)), false⟩,
  ⟨some 23, .bin .eql (.t 19) (.t 22), (some (17, true)), false⟩,
  o 24 (.pick (.t 17) (.t 23) (.c (.bool false))),
  o 25 (.mv (.t 24)),
  ⟨some 26, .faddr 1 (.t 5), (some (25, true)), false⟩,
  ⟨some 27, .load (some 4) (.t 26), (some (25, true)), false⟩,
  ⟨some 28, .faddr 10 (.t 3), (some (25, true)), false⟩,
  ⟨some 29, .faddr 1 (.t 28), (some (25, true)), false⟩,
  ⟨some 30, .load (some 4) (.t 29), (some (25, true)), false⟩,
  ⟨some 31, .call 164 [(.t 27), (.t 30)] .borrow, (some (25, true)), false⟩,
  o 32 (.pick (.t 25) (.t 31) (.c (.bool false))),
  o 33 (.mv (.t 32)),
  ⟨some 34, .faddr 5 (.t 5), (some (33, true)), false⟩,
  ⟨some 35, .load (some 4) (.t 34), (some (33, true)), false⟩,
  ⟨some 36, .faddr 10 (.t 3), (some (33, true)), false⟩,
  ⟨some 37, .faddr 5 (.t 36), (some (33, true)), false⟩,
  ⟨some 38, .load (some 4) (.t 37), (some (33, true)), false⟩,
  ⟨some 39, .call 164 [(.t 35), (.t 38)] .borrow, (some (33, true)), false⟩,
  o 40 (.pick (.t 33) (.t 39) (.c (.bool false))),
  o 4 (.mv (.t 40))]
def c139 : ACode := .seq (.reg r139_0) (.seq (.reg r139_1) (.seq (.reg r139_2) (.ret)))
/-- jetsam/flow.pairs -/
def a139 : AFunc := ⟨2, 41, [.tmp 4], c139⟩
def r140_0 : List AOper := [o 4 (.mv (.c (.bool false)))]
def r140_1 : List AOper := [o 5 (.mv (.t 0)),
  o 6 (.mv (.t 1)),
  o 7 (.call 165 [(.t 5), (.t 6)] .borrow),
  o 8 (.bin .geq (.t 7) (i64 0)),
  o 4 (.mv (.t 8))]
def c140 : ACode := .seq (.reg r140_0) (.seq (.reg r140_1) (.ret))
/-- slices.Contains[[]int,int] -/
def a140 : AFunc := ⟨2, 9, [.tmp 4], c140⟩
def r141_0 : List AOper := [o 1 (.box (.t 0)),
  o 2 (.mv (.c (.bool false)))]
def r141_1 : List AOper := [o 3 (.faddr 0 (.t 1)),
  o 4 (.load none (.t 3)),
  o 5 (.bin .eql (.t 4) (i64 0)),
  o 6 (.mv (.t 5)),
  ⟨some 7, .faddr 1 (.t 1), (some (6, true)), false⟩,
  ⟨some 8, .load none (.t 7), (some (6, true)), false⟩,
  ⟨some 9, .bin .eql (.t 8) (i64 0), (some (6, true)), false⟩,
  o 10 (.pick (.t 6) (.t 9) (.c (.bool false))),
  o 11 (.mv (.t 10)),
  ⟨some 12, .faddr 2 (.t 1), (some (11, true)), false⟩,
  ⟨some 13, .load none (.t 12), (some (11, true)), false⟩,
  ⟨some 14, .bin .eql (.t 13) (i64 0), (some (11, true)), false⟩,
  o 15 (.pick (.t 11) (.t 14) (.c (.bool false))),
  o 16 (.mv (.t 15)),
  ⟨some 17, .faddr 3 (.t 1), (some (16, true)), false⟩,
  ⟨some 18, .load none (.t 17), (some (16, true)), false⟩,
  ⟨some 19, .len false (.t 18), (some (16, true)), false⟩,
  ⟨some 20, .bin .eql (.t 19) (i64 0), (some (16, true)), false⟩,
  o 21 (.pick (.t 16) (.t 20) (.c (.bool false))),
  o 2 (.mv (.t 21))]
def c141 : ACode := .seq (.reg r141_0) (.seq (.reg r141_1) (.ret))
/-- jetsam/check.none -/
def a141 : AFunc := ⟨1, 22, [.tmp 2], c141⟩
def r142_0 : List AOper := [o 1 (.box (.t 0)),
  o 2 (.mv (.c (.bool false)))]
def r142_1 : List AOper := [o 3 (.faddr 0 (.t 1)),
  o 4 (.load none (.t 3)),
  o 5 (.bin .eql (.t 4) (i64 0)),
  o 6 (.mv (.t 5)),
  ⟨some 7, .faddr 1 (.t 1), (some (6, true)), false⟩,
  ⟨some 8, .load (some 4) (.t 7), (some (6, true)), false⟩,
  ⟨some 9, .call 141 [(.t 8)] .borrow, (some (6, true)), false⟩,
  o 10 (.pick (.t 6) (.t 9) (.c (.bool false))),
  o 11 (.mv (.t 10)),
  ⟨some 12, .faddr 5 (.t 1), (some (11, true)), false⟩,
  ⟨some 13, .load (some 4) (.t 12), (some (11, true)), false⟩,
  ⟨some 14, .call 141 [(.t 13)] .borrow, (some (11, true)), false⟩,
  o 15 (.pick (.t 11) (.t 14) (.c (.bool false))),
  o 2 (.mv (.t 15))]
def c142 : ACode := .seq (.reg r142_0) (.seq (.reg r142_1) (.ret))
/-- jetsam/check.noCond -/
def a142 : AFunc := ⟨1, 16, [.tmp 2], c142⟩
def r143_0 : List AOper := [o 2 (.box (.t 0)),
  o 4 (.mv (.c (.bool false)))]
def r143_1 : List AOper := [o 7 (.faddr 3 (.t 2)),
  o 8 (.load none (.t 7)),
  o 9 (.len false (.t 8)),
  o 10 (.faddr 0 (.t 2)),
  o 11 (.load none (.t 10)),
  o 12 (.call 166 [(.t 11)] .borrow),
  o 13 (.bin .neq (.t 9) (.t 12))]
def b143_1 : List (List Nat) := [[], [0], [0, 1], [], [3], [3, 4], [0, 1, 2, 3, 4, 5]]
def r143_2 : List AOper := [o 4 (.mv (.c (.bool false)))]
def r143_3 : List AOper := [o 14 (.faddr 0 (.t 2)),
  o 15 (.load none (.t 14)),
  o 16 (.bin .neq (.t 15) (i64 1)),
  o 17 (.mv (.t 16)),
  ⟨some 18, .faddr 1 (.t 2), (some (17, true)), false⟩,
  ⟨some 19, .load none (.t 18), (some (17, true)), false⟩,
  ⟨some 20, .bin .neq (.t 19) (i64 0), (some (17, true)), false⟩,
  o 21 (.pick (.t 17) (.t 20) (.c (.bool false))),
  o 22 (.mv (.t 21)),
  ⟨some 23, .faddr 0 (.t 2), (some (22, false)), false⟩,
  ⟨some 24, .load none (.t 23), (some (22, false)), false⟩,
  ⟨some 25, .bin .neq (.t 24) (i64 2), (some (22, false)), false⟩,
  ⟨some 26, .mv (.t 25), (some (22, false)), false⟩,
  ⟨some 27, .faddr 2 (.t 2), (some (26, true)), false⟩,
  ⟨some 28, .load none (.t 27), (some (26, true)), false⟩,
  ⟨some 29, .bin .neq (.t 28) (i64 0), (some (26, true)), false⟩,
  ⟨some 30, .pick (.t 26) (.t 29) (.c (.bool false)), (some (22, false)), false⟩,
  o 31 (.pick (.t 22) (.c (.bool true)) (.t 30)),
  o 32 (.mv (.t 31)),
  ⟨some 33, .faddr 0 (.t 2), (some (32, false)), false⟩,
  ⟨some 34, .load none (.t 33), (some (32, false)), false⟩,
  ⟨some 35, .bin .eql (.t 34) (i64 2), (some (32, false)), false⟩,
  ⟨some 36, .mv (.t 35), (some (32, false)), false⟩,
  ⟨some 37, .faddr 2 (.t 2), (some (36, true)), false⟩,
  ⟨some 38, .load none (.t 37), (some (36, true)), false⟩,
  ⟨some 39, .mv (.t 1), (some (36, true)), false⟩,
  ⟨some 40, .bin .sub (.t 39) (i64 1), (some (36, true)), false⟩,
  ⟨some 41, .call 81 [(.t 38), (i64 0), (.t 40)] .borrow, (some (36, true)), false⟩,
  ⟨some 42, .un .not (.t 41), (some (36, true)), false⟩,
  ⟨some 43, .pick (.t 36) (.t 42) (.c (.bool false)), (some (32, false)), false⟩,
  o 44 (.pick (.t 32) (.c (.bool true)) (.t 43))]
def r143_4 : List AOper := [o 4 (.mv (.c (.bool false)))]
def r143_5 : List AOper := [o 45 (.faddr 3 (.t 2)),
  o 46 (.load none (.t 45)),
  o 47 (.len false (.t 46)),
  o 48 (.mv (i64 0))]
def r143_6 : List AOper := [o 49 (.bin .lss (.t 48) (.t 47))]
def r143_7 : List AOper := [o 50 (.iaddr 4 (.t 46) (.t 48)),
  o 51 (.load (some 4) (.t 50)),
  o 6 (.alloc [.int .i64 0, .int .i64 0, .int .i64 0, .nils]),
  ⟨none, .store 4 (.t 6) (.t 51), none, false⟩]
def r143_8 : List AOper := [o 52 (.load (some 4) (.t 6)),
  o 53 (.mv (.t 1)),
  o 54 (.call 143 [(.t 52), (.t 53)] .borrow),
  o 55 (.un .not (.t 54))]
def r143_9 : List AOper := [o 4 (.mv (.c (.bool false)))]
def r143_10 : List AOper := [o 56 (.bin .add (.t 48) (i64 1)),
  o 48 (.mv (.t 56))]
def l143_0 : ACode := .seq (.reg r143_6) (.seq (.cond (.t 49) (.skip) (.exit 0)) (.seq (.block 1 (.seq (.reg r143_7) (.seq (.reg r143_8) (.cond (.t 55) (.seq (.reg r143_9) (.ret)) (.skip))))) (.reg r143_10)))
def r143_11 : List AOper := [o 57 (.faddr 1 (.t 2)),
  o 58 (.load none (.t 57)),
  o 59 (.call 81 [(.t 58), (i64 0), (i64 2147483647)] .borrow),
  o 4 (.mv (.t 59))]
def c143 : ACode := .seq (.reg r143_0) (.seq (.seq (.dreg r143_1 b143_1 []) (.cond (.t 13) (.seq (.reg r143_2) (.ret)) (.skip))) (.seq (.seq (.reg r143_3) (.cond (.t 44) (.seq (.reg r143_4) (.ret)) (.skip))) (.seq (.seq (.reg r143_5) (.block 0 (.loop l143_0))) (.seq (.reg r143_11) (.ret)))))
/-- jetsam/check.expr -/
def a143 : AFunc := ⟨2, 60, [.tmp 4], c143⟩
def r144_0 : List AOper := [o 2 (.box (.t 0)),
  o 4 (.mv (.c (.bool false)))]
def r144_1 : List AOper := [o 5 (.faddr 0 (.t 2)),
  o 6 (.load none (.t 5)),
  o 7 (.call 81 [(.t 6), (i64 1), (i64 6)] .borrow),
  o 8 (.mv (.t 7)),
  ⟨some 9, .faddr 1 (.t 2), (some (8, true)), false⟩,
  ⟨some 10, .load (some 4) (.t 9), (some (8, true)), false⟩,
  ⟨some 11, .mv (.t 1), (some (8, true)), false⟩,
  ⟨some 12, .call 143 [(.t 10), (.t 11)] .borrow, (some (8, true)), false⟩,
  o 13 (.pick (.t 8) (.t 12) (.c (.bool false))),
  o 14 (.mv (.t 13)),
  ⟨some 15, .faddr 5 (.t 2), (some (14, true)), false⟩,
  ⟨some 16, .load (some 4) (.t 15), (some (14, true)), false⟩,
  ⟨some 17, .mv (.t 1), (some (14, true)), false⟩,
  ⟨some 18, .call 143 [(.t 16), (.t 17)] .borrow, (some (14, true)), false⟩,
  o 19 (.pick (.t 14) (.t 18) (.c (.bool false))),
  o 4 (.mv (.t 19))]
def c144 : ACode := .seq (.reg r144_0) (.seq (.reg r144_1) (.ret))
/-- jetsam/check.cond -/
def a144 : AFunc := ⟨2, 20, [.tmp 4], c144⟩
def r145_0 : List AOper := [o 3 (.box (.t 0)),
  o 6 (.mv (.c (.bool false)))]
def r145_1 : List AOper := [o 7 (.mv (.t 1)),
  o 8 (.faddr 0 (.t 3)),
  o 9 (.faddr 0 (.t 8)),
  o 10 (.load none (.t 9)),
  o 11 (.len false (.t 10)),
  o 12 (.bin .sub (.t 11) (i64 1)),
  o 13 (.call 81 [(.t 7), (i64 0), (.t 12)] .borrow),
  o 14 (.mv (.t 13)),
  ⟨some 15, .mv (.t 2), (some (14, true)), false⟩,
  ⟨some 16, .faddr 0 (.t 3), (some (14, true)), false⟩,
  ⟨some 17, .faddr 0 (.t 16), (some (14, true)), false⟩,
  ⟨some 18, .load none (.t 17), (some (14, true)), false⟩,
  ⟨some 19, .mv (.t 1), (some (14, true)), false⟩,
  ⟨some 20, .iaddr 6 (.t 18) (.t 19), (some (14, true)), false⟩,
  ⟨some 21, .load (some 6) (.t 20), (some (14, true)), false⟩,
  ⟨some 22, .callv (.t 15) [(.t 21)] .borrow, (some (14, true)), false⟩,
  ⟨some 23, .faddr 2 (.t 3), (some (14, true)), false⟩,
  ⟨some 24, .load none (.t 23), (some (14, true)), false⟩,
  ⟨some 25, .bin .eql (.t 22) (.t 24), (some (14, true)), false⟩,
  o 26 (.pick (.t 14) (.t 25) (.c (.bool false))),
  o 6 (.mv (.t 26))]
def b145_1 : List (List Nat) := [[], [], [1], [1, 2], [1, 2, 3], [1, 2, 3, 4], [0, 1, 2, 3, 4, 5], [0, 1, 2, 3, 4, 5, 6], [0, 1, 2, 3, 4, 5, 6, 7], [0, 1, 2, 3, 4, 5, 6, 7], [0, 1, 2, 3, 4, 5, 6, 7, 9], [0, 1, 2, 3, 4, 5, 6, 7, 9, 10], [0, 1, 2, 3, 4, 5, 6, 7], [0, 1, 2, 3, 4, 5, 6, 7, 9, 10, 11, 12], [0, 1, 2, 3, 4, 5, 6, 7, 9, 10, 11, 12, 13], [0, 1, 2, 3, 4, 5, 6, 7, 8, 9, 10, 11, 12, 13, 14], [0, 1, 2, 3, 4, 5, 6, 7], [0, 1, 2, 3, 4, 5, 6, 7, 16], [0, 1, 2, 3, 4, 5, 6, 7, 8, 9, 10, 11, 12, 13, 14, 15, 16, 17], [0, 1, 2, 3, 4, 5, 6, 7, 8, 9, 10, 11, 12, 13, 14, 15, 16, 17, 18], [0, 1, 2, 3, 4, 5, 6, 7, 8, 9, 10, 11, 12, 13, 14, 15, 16, 17, 18, 19]]
def c145 : ACode := .seq (.reg r145_0) (.seq (.dreg r145_1 b145_1 []) (.ret))
/-- (jetsam/check.looker).end -/
def a145 : AFunc := ⟨3, 27, [.tmp 6], c145⟩
def r146_0 : List AOper := [o 1 (.box (.t 0)),
  o 2 (.mv (i64 0))]
def r146_1 : List AOper := [o 3 (.faddr 2 (.t 1)),
  o 4 (.load none (.t 3)),
  o 2 (.mv (.t 4))]
def c146 : ACode := .seq (.reg r146_0) (.seq (.reg r146_1) (.ret))
/-- jetsam/check.from -/
def a146 : AFunc := ⟨1, 5, [.tmp 2], c146⟩
def r147_0 : List AOper := [o 3 (.box (.t 0)),
  o 6 (.mv (.c (.bool false)))]
def r147_1 : List AOper := [o 7 (.mv (.t 2)),
  o 8 (.faddr 0 (.t 3)),
  o 9 (.faddr 0 (.t 8)),
  o 10 (.load none (.t 9)),
  o 11 (.mv (.t 1)),
  o 12 (.iaddr 6 (.t 10) (.t 11)),
  o 13 (.faddr 4 (.t 12)),
  o 14 (.load none (.t 13)),
  o 15 (.bin .sub (.t 14) (i64 1)),
  o 16 (.call 81 [(.t 7), (i64 0), (.t 15)] .borrow),
  o 6 (.mv (.t 16))]
def c147 : ACode := .seq (.reg r147_0) (.seq (.reg r147_1) (.ret))
/-- (jetsam/check.looker).tag -/
def a147 : AFunc := ⟨3, 17, [.tmp 6], c147⟩
def r148_0 : List AOper := [o 1 (.box (.t 0)),
  o 2 (.mv (i64 0))]
def r148_1 : List AOper := [o 3 (.faddr 3 (.t 1)),
  o 4 (.load none (.t 3)),
  o 2 (.mv (.t 4))]
def c148 : ACode := .seq (.reg r148_0) (.seq (.reg r148_1) (.ret))
/-- jetsam/check.to -/
def a148 : AFunc := ⟨1, 5, [.tmp 2], c148⟩
def r149_0 : List AOper := [o 3 (.box (.t 0)),
  o 6 (.mv (.c (.bool false)))]
def r149_1 : List AOper := [o 7 (.alloc [.bool false, .bool false, .bool false, .bool false])]
def r149_2 : List AOper := [o 10 (.mv (.t 2)),
  o 11 (.len false (.t 10)),
  o 12 (.mv (i64 0))]
def r149_3 : List AOper := [o 13 (.bin .lss (.t 12) (.t 11))]
def r149_4 : List AOper := [o 14 (.iaddr 3 (.t 10) (.t 12)),
  o 15 (.load (some 3) (.t 14)),
  o 9 (.alloc [.int .i64 0, .int .i64 0, .nils]),
  ⟨none, .store 3 (.t 9) (.t 15), none, false⟩]
def r149_5 : List AOper := [o 16 (.load (some 4) (.t 3)),
  o 17 (.mv (.t 1)),
  o 18 (.faddr 0 (.t 9)),
  o 19 (.load none (.t 18)),
  o 20 (.call 147 [(.t 16), (.t 17), (.t 19)] .borrow),
  o 21 (.un .not (.t 20)),
  o 22 (.mv (.t 21)),
  ⟨some 23, .faddr 0 (.t 9), (some (22, false)), false⟩,
  ⟨some 24, .load none (.t 23), (some (22, false)), false⟩,
  ⟨some 25, .iarr 4 1 (.t 7) (.t 24), (some (22, false)), false⟩,
  ⟨some 26, .load none (.t 25), (some (22, false)), false⟩,
  o 27 (.pick (.t 22) (.c (.bool true)) (.t 26)),
  o 28 (.mv (.t 27)),
  ⟨some 29, .faddr 1 (.t 9), (some (28, false)), false⟩,
  ⟨some 30, .load none (.t 29), (some (28, false)), false⟩,
  ⟨some 31, .faddr 3 (.t 3), (some (28, false)), false⟩,
  ⟨some 32, .load none (.t 31), (some (28, false)), false⟩,
  ⟨some 33, .bin .sub (.t 32) (i64 1), (some (28, false)), false⟩,
  ⟨some 34, .call 81 [(.t 30), (i64 0), (.t 33)] .borrow, (some (28, false)), false⟩,
  ⟨some 35, .un .not (.t 34), (some (28, false)), false⟩,
  o 36 (.pick (.t 28) (.c (.bool true)) (.t 35)),
  o 37 (.mv (.t 36)),
  ⟨some 38, .load (some 4) (.t 3), (some (37, false)), false⟩,
  ⟨some 39, .faddr 2 (.t 9), (some (37, false)), false⟩,
  ⟨some 40, .load none (.t 39), (some (37, false)), false⟩,
  ⟨some 41, .call 83 [(.t 38), (.t 40)] .borrow, (some (37, false)), false⟩,
  ⟨some 42, .un .not (.t 41), (some (37, false)), false⟩,
  o 43 (.pick (.t 37) (.c (.bool true)) (.t 42))]
def r149_6 : List AOper := [o 6 (.mv (.c (.bool false)))]
def r149_7 : List AOper := [o 44 (.faddr 0 (.t 9)),
  o 45 (.load none (.t 44)),
  o 46 (.iarr 4 1 (.t 7) (.t 45)),
  ⟨none, .store 1 (.t 46) (.c (.bool true)), none, false⟩]
def r149_8 : List AOper := [o 47 (.bin .add (.t 12) (i64 1)),
  o 12 (.mv (.t 47))]
def l149_0 : ACode := .seq (.reg r149_3) (.seq (.cond (.t 13) (.skip) (.exit 0)) (.seq (.block 1 (.seq (.reg r149_4) (.seq (.seq (.reg r149_5) (.cond (.t 43) (.seq (.reg r149_6) (.ret)) (.skip))) (.reg r149_7)))) (.reg r149_8)))
def r149_9 : List AOper := [o 48 (.mv (.t 2)),
  o 49 (.len false (.t 48)),
  o 50 (.bin .gtr (.t 49) (i64 0)),
  o 6 (.mv (.t 50))]
def c149 : ACode := .seq (.reg r149_0) (.seq (.reg r149_1) (.seq (.seq (.reg r149_2) (.block 0 (.loop l149_0))) (.seq (.reg r149_9) (.ret))))
/-- (jetsam/check.looker).arms -/
def a149 : AFunc := ⟨3, 51, [.tmp 6], c149⟩
def r150_0 : List AOper := [o 10 (.mv (.t 1)),
  o 8 (.mv (.t 10))]
def r150_1 : List AOper := [o 11 (.mv (.t 8)),
  o 12 (.bin .mul (i64 2) (.t 11)),
  o 13 (.bin .add (.t 12) (i64 1)),
  o 9 (.mv (.t 13))]
def r150_2 : List AOper := [o 14 (.mv (.t 9)),
  o 15 (.mv (.t 2)),
  o 16 (.bin .geq (.t 14) (.t 15))]
def r150_3 : List AOper := [o 17 (.mv (.t 9)),
  o 18 (.bin .add (.t 17) (i64 1)),
  o 19 (.mv (.t 2)),
  o 20 (.bin .lss (.t 18) (.t 19)),
  o 21 (.mv (.t 20)),
  ⟨some 22, .mv (.t 0), (some (21, true)), false⟩,
  ⟨some 23, .mv (.t 3), (some (21, true)), false⟩,
  ⟨some 24, .mv (.t 9), (some (21, true)), false⟩,
  ⟨some 25, .bin .add (.t 23) (.t 24), (some (21, true)), false⟩,
  ⟨some 26, .iaddr 1 (.t 22) (.t 25), (some (21, true)), false⟩,
  ⟨some 27, .load none (.t 26), (some (21, true)), false⟩,
  ⟨some 28, .mv (.t 0), (some (21, true)), false⟩,
  ⟨some 29, .mv (.t 3), (some (21, true)), false⟩,
  ⟨some 30, .mv (.t 9), (some (21, true)), false⟩,
  ⟨some 31, .bin .add (.t 29) (.t 30), (some (21, true)), false⟩,
  ⟨some 32, .bin .add (.t 31) (i64 1), (some (21, true)), false⟩,
  ⟨some 33, .iaddr 1 (.t 28) (.t 32), (some (21, true)), false⟩,
  ⟨some 34, .load none (.t 33), (some (21, true)), false⟩,
  ⟨some 35, .call 118 [(.t 27), (.t 34)] .borrow, (some (21, true)), false⟩,
  o 36 (.pick (.t 21) (.t 35) (.c (.bool false)))]
def b150_3 : List (List Nat) := [[], [0], [], [0, 1, 2], [0, 1, 2, 3], [0, 1, 2, 3, 4], [0, 1, 2, 3, 4], [0, 1, 2, 3, 4], [0, 1, 2, 3, 4, 6, 7], [0, 1, 2, 3, 4, 5, 6, 7, 8], [0, 1, 2, 3, 4, 5, 6, 7, 8, 9], [0, 1, 2, 3, 4], [0, 1, 2, 3, 4], [0, 1, 2, 3, 4], [0, 1, 2, 3, 4, 12, 13], [0, 1, 2, 3, 4, 12, 13, 14], [0, 1, 2, 3, 4, 11, 12, 13, 14, 15], [0, 1, 2, 3, 4, 11, 12, 13, 14, 15, 16], [0, 1, 2, 3, 4, 5, 6, 7, 8, 9, 10, 11, 12, 13, 14, 15, 16, 17], [0, 1, 2, 3, 4, 5, 6, 7, 8, 9, 10, 11, 12, 13, 14, 15, 16, 17, 18]]
def r150_4 : List AOper := [o 37 (.mv (.t 9)),
  o 38 (.bin .add (.t 37) (i64 1)),
  o 9 (.mv (.t 38))]
def r150_5 : List AOper := [o 39 (.mv (.t 0)),
  o 40 (.mv (.t 3)),
  o 41 (.mv (.t 8)),
  o 42 (.bin .add (.t 40) (.t 41)),
  o 43 (.iaddr 1 (.t 39) (.t 42)),
  o 44 (.load none (.t 43)),
  o 45 (.mv (.t 0)),
  o 46 (.mv (.t 3)),
  o 47 (.mv (.t 9)),
  o 48 (.bin .add (.t 46) (.t 47)),
  o 49 (.iaddr 1 (.t 45) (.t 48)),
  o 50 (.load none (.t 49)),
  o 51 (.call 118 [(.t 44), (.t 50)] .borrow),
  o 52 (.un .not (.t 51))]
def b150_5 : List (List Nat) := [[], [], [], [1, 2], [0, 1, 2, 3], [0, 1, 2, 3, 4], [], [], [], [7, 8], [6, 7, 8, 9], [6, 7, 8, 9, 10], [0, 1, 2, 3, 4, 5, 6, 7, 8, 9, 10, 11], [0, 1, 2, 3, 4, 5, 6, 7, 8, 9, 10, 11, 12]]
def r150_6 : List AOper := [o 53 (.mv (.t 0)),
  o 54 (.mv (.t 3)),
  o 55 (.mv (.t 8)),
  o 56 (.bin .add (.t 54) (.t 55)),
  o 57 (.mv (.t 0)),
  o 58 (.mv (.t 3)),
  o 59 (.mv (.t 9)),
  o 60 (.bin .add (.t 58) (.t 59)),
  o 61 (.mv (.t 0)),
  o 62 (.mv (.t 3)),
  o 63 (.mv (.t 9)),
  o 64 (.bin .add (.t 62) (.t 63)),
  o 65 (.iaddr 1 (.t 61) (.t 64)),
  o 66 (.load none (.t 65)),
  o 67 (.mv (.t 0)),
  o 68 (.mv (.t 3)),
  o 69 (.mv (.t 8)),
  o 70 (.bin .add (.t 68) (.t 69)),
  o 71 (.iaddr 1 (.t 67) (.t 70)),
  o 72 (.load none (.t 71)),
  o 73 (.iaddr 1 (.t 53) (.t 56)),
  ⟨none, .store 1 (.t 73) (.t 66), none, false⟩,
  o 74 (.iaddr 1 (.t 57) (.t 60)),
  ⟨none, .store 1 (.t 74) (.t 72), none, false⟩]
def b150_6 : List (List Nat) := [[], [], [], [1, 2], [], [], [], [5, 6], [], [], [], [9, 10], [8, 9, 10, 11], [8, 9, 10, 11, 12], [], [], [], [15, 16], [14, 15, 16, 17], [14, 15, 16, 17, 18], [0, 1, 2, 3, 8, 9, 10, 11, 12, 13, 14, 15, 16, 17, 18, 19], [0, 1, 2, 3, 8, 9, 10, 11, 12, 13, 14, 15, 16, 17, 18, 19, 20], [0, 1, 2, 3, 4, 5, 6, 7, 8, 9, 10, 11, 12, 13, 14, 15, 16, 17, 18, 19, 20, 21], [0, 1, 2, 3, 4, 5, 6, 7, 8, 9, 10, 11, 12, 13, 14, 15, 16, 17, 18, 19, 20, 21, 22]]
def r150_7 : List AOper := [o 75 (.mv (.t 9)),
  o 8 (.mv (.t 75))]
def l150_0 : ACode := .block 1 (.seq (.reg r150_1) (.seq (.seq (.reg r150_2) (.cond (.t 16) (.exit 0) (.skip))) (.seq (.seq (.dreg r150_3 b150_3 []) (.cond (.t 36) (.reg r150_4) (.skip))) (.seq (.seq (.dreg r150_5 b150_5 []) (.cond (.t 52) (.ret) (.skip))) (.seq (.dreg r150_6 b150_6 []) (.reg r150_7))))))
def c150 : ACode := .seq (.reg r150_0) (.block 0 (.loop l150_0))
/-- slices.siftDownOrdered[int] -/
def a150 : AFunc := ⟨4, 76, [], c150⟩
def r151_0 : List AOper := [o 2 (.mv (.c (.int .u64 0)))]
def r151_1 : List AOper := [o 3 (.mv (.t 0)),
  o 4 (.conv .u64 (.t 3)),
  o 5 (.call 88 [(.t 4)] .borrow),
  o 6 (.bin .shl (.c (.int .u64 1)) (.t 5)),
  o 2 (.mv (.t 6))]
def c151 : ACode := .seq (.reg r151_0) (.seq (.reg r151_1) (.ret))
/-- slices.nextPowerOfTwo -/
def a151 : AFunc := ⟨1, 7, [.tmp 2], c151⟩
def r152_0 : List AOper := [o 2 (.mv (.c (.int .u64 0)))]
def r152_1 : List AOper := [o 3 (.mv (.t 0)),
  o 4 (.nilck (.t 3)),
  o 5 (.load none (.t 4)),
  o 6 (.mv (.t 0)),
  o 7 (.nilck (.t 6)),
  o 8 (.load none (.t 7)),
  o 9 (.bin .shl (.t 8) (.c (.int .u64 13))),
  o 10 (.bin .xor (.t 5) (.t 9)),
  o 11 (.nilck (.t 3)),
  ⟨none, .store 1 (.t 11) (.t 10), none, false⟩]
def b152_1 : List (List Nat) := [[], [0], [0, 1], [], [3], [3, 4], [3, 4, 5], [0, 1, 2, 3, 4, 5, 6], [0, 1, 2, 3, 4, 5, 6, 7], [0, 1, 2, 3, 4, 5, 6, 7, 8]]
def r152_2 : List AOper := [o 12 (.mv (.t 0)),
  o 13 (.nilck (.t 12)),
  o 14 (.load none (.t 13)),
  o 15 (.mv (.t 0)),
  o 16 (.nilck (.t 15)),
  o 17 (.load none (.t 16)),
  o 18 (.bin .shr (.t 17) (.c (.int .u64 7))),
  o 19 (.bin .xor (.t 14) (.t 18)),
  o 20 (.nilck (.t 12)),
  ⟨none, .store 1 (.t 20) (.t 19), none, false⟩]
def b152_2 : List (List Nat) := [[], [0], [0, 1], [], [3], [3, 4], [3, 4, 5], [0, 1, 2, 3, 4, 5, 6], [0, 1, 2, 3, 4, 5, 6, 7], [0, 1, 2, 3, 4, 5, 6, 7, 8]]
def r152_3 : List AOper := [o 21 (.mv (.t 0)),
  o 22 (.nilck (.t 21)),
  o 23 (.load none (.t 22)),
  o 24 (.mv (.t 0)),
  o 25 (.nilck (.t 24)),
  o 26 (.load none (.t 25)),
  o 27 (.bin .shl (.t 26) (.c (.int .u64 17))),
  o 28 (.bin .xor (.t 23) (.t 27)),
  o 29 (.nilck (.t 21)),
  ⟨none, .store 1 (.t 29) (.t 28), none, false⟩]
def b152_3 : List (List Nat) := [[], [0], [0, 1], [], [3], [3, 4], [3, 4, 5], [0, 1, 2, 3, 4, 5, 6], [0, 1, 2, 3, 4, 5, 6, 7], [0, 1, 2, 3, 4, 5, 6, 7, 8]]
def r152_4 : List AOper := [o 30 (.mv (.t 0)),
  o 31 (.nilck (.t 30)),
  o 32 (.load none (.t 31)),
  o 2 (.mv (.t 32))]
def c152 : ACode := .seq (.reg r152_0) (.seq (.dreg r152_1 b152_1 []) (.seq (.dreg r152_2 b152_2 []) (.seq (.dreg r152_3 b152_3 []) (.seq (.reg r152_4) (.ret)))))
/-- (*slices.xorshift).Next -/
def a152 : AFunc := ⟨1, 33, [.tmp 2], c152⟩
def r153_0 : List AOper := [o 6 (.mv (i64 0))]
def r153_1 : List AOper := [o 7 (.mv (.t 0)),
  o 8 (.mv (.t 1)),
  o 9 (.bin .sub (.t 8) (i64 1)),
  o 10 (.mv (.t 1)),
  o 11 (.mv (.t 1)),
  o 12 (.bin .add (.t 11) (i64 1)),
  o 13 (.mv (.t 2)),
  o 14 (.call 154 [(.t 7), (.t 9), (.t 10), (.t 12), (.t 13)] .share),
  o 6 (.mv (.t 14))]
def c153 : ACode := .seq (.reg r153_0) (.seq (.reg r153_1) (.ret))
/-- slices.medianAdjacentOrdered[int] -/
def a153 : AFunc := ⟨3, 15, [.tmp 6], c153⟩
def r154_0 : List AOper := [o 10 (.mv (i64 0))]
def r154_1 : List AOper := [o 12 (.mv (.t 0)),
  o 13 (.mv (.t 1)),
  o 14 (.mv (.t 2)),
  o 15 (.mv (.t 4)),
  o 16 (.call 167 [(.t 12), (.t 13), (.t 14), (.t 15)] .share),
  o 11 (.mv (.t 16)),
  o 17 (.ext 0 (.t 11)),
  o 18 (.ext 1 (.t 11)),
  o 1 (.mv (.t 17)),
  o 2 (.mv (.t 18))]
def r154_2 : List AOper := [o 20 (.mv (.t 0)),
  o 21 (.mv (.t 2)),
  o 22 (.mv (.t 3)),
  o 23 (.mv (.t 4)),
  o 24 (.call 167 [(.t 20), (.t 21), (.t 22), (.t 23)] .share),
  o 19 (.mv (.t 24)),
  o 25 (.ext 0 (.t 19)),
  o 26 (.ext 1 (.t 19)),
  o 2 (.mv (.t 25)),
  o 3 (.mv (.t 26))]
def r154_3 : List AOper := [o 28 (.mv (.t 0)),
  o 29 (.mv (.t 1)),
  o 30 (.mv (.t 2)),
  o 31 (.mv (.t 4)),
  o 32 (.call 167 [(.t 28), (.t 29), (.t 30), (.t 31)] .share),
  o 27 (.mv (.t 32)),
  o 33 (.ext 0 (.t 27)),
  o 34 (.ext 1 (.t 27)),
  o 1 (.mv (.t 33)),
  o 2 (.mv (.t 34))]
def r154_4 : List AOper := [o 35 (.mv (.t 2)),
  o 10 (.mv (.t 35))]
def c154 : ACode := .seq (.reg r154_0) (.seq (.reg r154_1) (.seq (.reg r154_2) (.seq (.reg r154_3) (.seq (.reg r154_4) (.ret)))))
/-- slices.medianOrdered[int] -/
def a154 : AFunc := ⟨5, 36, [.tmp 10], c154⟩
def r155_0 : List AOper := [o 2 (.mv (.c (.bool false)))]
def r155_1 : List AOper := [o 3 (.mv (.t 0)),
  o 4 (.mv (.t 0)),
  o 5 (.bin .neq (.t 3) (.t 4)),
  o 2 (.mv (.t 5))]
def c155 : ACode := .seq (.reg r155_0) (.seq (.reg r155_1) (.ret))
/-- cmp.isNaN[int] -/
def a155 : AFunc := ⟨1, 6, [.tmp 2], c155⟩
def r163_0 : List AOper := [o 1 (.box (.t 0)),
  o 2 (.alloc [.int .i64 0, .int .i64 0, .int .i64 0, .int .i64 0, .int .i64 0, .int .i64 0, .int .i64 0, .nils, .int .i64 0, .int .i64 0, .int .i64 0, .int .i64 0, .nils, .int .i64 0, .int .i64 0, .int .i64 0, .nils, .nils, .nils, .nils]),
  o 3 (.mv (.c (.bool false)))]
def r163_1 : List AOper := [o 5 (.faddr 3 (.t 1)),
  o 6 (.load none (.t 5)),
  o 7 (.faddr 4 (.t 1)),
  o 8 (.load none (.t 7)),
  o 9 (.faddr 5 (.t 1)),
  o 10 (.load none (.t 9)),
  o 11 (.faddr 6 (.t 1)),
  o 12 (.load (some 4) (.t 11)),
  o 13 (.faddr 10 (.t 1)),
  o 14 (.load (some 9) (.t 13)),
  o 15 (.build [.int .i64 0, .int .i64 0, .int .i64 0, .int .i64 0, .int .i64 0, .int .i64 0, .int .i64 0, .nils, .int .i64 0, .int .i64 0, .int .i64 0, .int .i64 0, .nils, .int .i64 0, .int .i64 0, .int .i64 0, .nils, .nils, .nils, .nils] [(1, 1, (.t 6)), (2, 1, (.t 8)), (3, 1, (.t 10)), (4, 4, (.t 12)), (8, 9, (.t 14))]),
  o 4 (.alloc [.int .i64 0, .int .i64 0, .int .i64 0, .int .i64 0, .int .i64 0, .int .i64 0, .int .i64 0, .nils, .int .i64 0, .int .i64 0, .int .i64 0, .int .i64 0, .nils, .int .i64 0, .int .i64 0, .int .i64 0, .nils, .nils, .nils, .nils]),
  ⟨none, .store 20 (.t 4) (.t 15), none, false⟩]
def r163_2 : List AOper := [o 16 (.faddr 2 (.t 1)),
  o 17 (.load none (.t 16))]
def r163_4 : List AOper := [o 20 (.bin .eql (.t 17) (i64 1)),
  o 19 (.mv (.t 20))]
def r163_5 : List AOper := [o 21 (.faddr 0 (.t 4)),
  ⟨none, .store 1 (.t 21) (i64 1), none, false⟩]
def r163_6 : List AOper := [o 23 (.bin .eql (.t 17) (i64 2)),
  o 22 (.mv (.t 23))]
def r163_7 : List AOper := [o 24 (.bin .eql (.t 17) (i64 5)),
  o 22 (.mv (.t 24))]
def r163_8 : List AOper := [o 25 (.faddr 0 (.t 4)),
  ⟨none, .store 1 (.t 25) (i64 6), none, false⟩]
def r163_9 : List AOper := [o 27 (.bin .eql (.t 17) (i64 3)),
  o 26 (.mv (.t 27))]
def r163_10 : List AOper := [o 28 (.faddr 0 (.t 4)),
  ⟨none, .store 1 (.t 28) (i64 4), none, false⟩]
def r163_11 : List AOper := [o 30 (.bin .eql (.t 17) (i64 6)),
  o 29 (.mv (.t 30))]
def r163_12 : List AOper := [o 31 (.faddr 0 (.t 4)),
  ⟨none, .store 1 (.t 31) (i64 7), none, false⟩]
def r163_13 : List AOper := [o 33 (.bin .eql (.t 17) (i64 4)),
  o 32 (.mv (.t 33))]
def r163_14 : List AOper := [o 34 (.faddr 0 (.t 4)),
  ⟨none, .store 1 (.t 34) (i64 5), none, false⟩]
def r163_15 : List AOper := [o 35 (.faddr 5 (.t 1)),
  o 36 (.load none (.t 35)),
  o 37 (.faddr 3 (.t 1)),
  o 38 (.load none (.t 37)),
  o 39 (.build [.int .i64 0, .int .i64 0, .nils] [(0, 1, (.t 36)), (1, 1, (.t 38))]),
  ⟨some 40, .islice 1 [.int .i64 0, .int .i64 0, .nils] [(0, 3, (.t 39))], none, true⟩,
  o 41 (.faddr 19 (.t 4)),
  ⟨none, .store 1 (.t 41) (.t 40), none, false⟩]
def r163_16 : List AOper := [o 42 (.faddr 1 (.t 4)),
  ⟨none, .store 1 (.t 42) (i64 0), none, false⟩,
  o 43 (.faddr 3 (.t 4)),
  ⟨none, .store 1 (.t 43) (i64 0), none, false⟩]
def r163_3 : List AOper := [o 18 (.load (some 20) (.t 4)),
  ⟨none, .store 20 (.t 2) (.t 18), none, false⟩,
  o 3 (.mv (.c (.bool false)))]
def r163_17 : List AOper := [o 44 (.load (some 20) (.t 4)),
  ⟨none, .store 20 (.t 2) (.t 44), none, false⟩,
  o 3 (.mv (.c (.bool true)))]
def c163 : ACode := .seq (.reg r163_0) (.seq (.reg r163_1) (.seq (.seq (.reg r163_2) (.block 0 (.seq (.reg r163_4) (.cond (.t 19) (.reg r163_5) (.seq (.seq (.reg r163_6) (.cond (.t 22) (.skip) (.reg r163_7))) (.cond (.t 22) (.reg r163_8) (.seq (.reg r163_9) (.cond (.t 26) (.reg r163_10) (.seq (.reg r163_11) (.cond (.t 29) (.reg r163_12) (.seq (.reg r163_13) (.cond (.t 32) (.seq (.reg r163_14) (.seq (.reg r163_15) (.reg r163_16))) (.seq (.reg r163_3) (.ret)))))))))))))) (.seq (.reg r163_17) (.ret))))
/-- jetsam/flow.stmt -/
def a163 : AFunc := ⟨1, 45, [.cell 2 (some 20), .tmp 3], c163⟩
def r164_0 : List AOper := [o 2 (.box (.t 0)),
  o 3 (.box (.t 1)),
  o 4 (.mv (.c (.bool false)))]
def r164_1 : List AOper := [o 5 (.faddr 0 (.t 2)),
  o 6 (.load none (.t 5)),
  o 7 (.faddr 0 (.t 3)),
  o 8 (.load none (.t 7)),
  o 9 (.bin .eql (.t 6) (.t 8)),
  o 10 (.mv (.t 9)),
  ⟨some 11, .faddr 1 (.t 2), (some (10, true)), false⟩,
  ⟨some 12, .load none (.t 11), (some (10, true)), false⟩,
  ⟨some 13, .faddr 1 (.t 3), (some (10, true)), false⟩,
  ⟨some 14, .load none (.t 13), (some (10, true)), false⟩,
  ⟨some 15, .bin .eql (.t 12) (.t 14), (some (10, true)), false⟩,
  o 16 (.pick (.t 10) (.t 15) (.c (.bool false))),
  o 17 (.mv (.t 16)),
  ⟨some 18, .faddr 2 (.t 2), (some (17, true)), false⟩,
  ⟨some 19, .load none (.t 18), (some (17, true)), false⟩,
  ⟨some 20, .faddr 2 (.t 3), (some (17, true)), false⟩,
  ⟨some 21, .load none (.t 20), (some (17, true)), false⟩,
  ⟨some 22, .bin .eql (.t 19) (.t 21), (some (17, true)), false⟩,
  o 23 (.pick (.t 17) (.t 22) (.c (.bool false))),
  o 24 (.mv (.t 23)),
  ⟨some 25, .faddr 3 (.t 2), (some (24, true)), false⟩,
  ⟨some 26, .load none (.t 25), (some (24, true)), false⟩,
  ⟨some 27, .faddr 3 (.t 3), (some (24, true)), false⟩,
  ⟨some 28, .load none (.t 27), (some (24, true)), false⟩,
  ⟨some 29, .call 169 [(.t 26), (.t 28), (.c (.func 164))] .borrow, (some (24, true)), false⟩,
  o 30 (.pick (.t 24) (.t 29) (.c (.bool false))),
  o 4 (.mv (.t 30))]
def c164 : ACode := .seq (.reg r164_0) (.seq (.reg r164_1) (.ret))
/-- jetsam/flow.sameExpr -/
def a164 : AFunc := ⟨2, 31, [.tmp 4], c164⟩
def r165_0 : List AOper := [o 4 (.mv (i64 0))]
def r165_1 : List AOper := [o 6 (.mv (.t 0)),
  o 7 (.len false (.t 6)),
  o 8 (.mv (i64 0))]
def r165_2 : List AOper := [o 9 (.bin .lss (.t 8) (.t 7))]
def r165_3 : List AOper := [o 10 (.mv (.t 8)),
  o 5 (.mv (.t 10))]
def r165_4 : List AOper := [o 11 (.mv (.t 1)),
  o 12 (.mv (.t 0)),
  o 13 (.mv (.t 5)),
  o 14 (.iaddr 1 (.t 12) (.t 13)),
  o 15 (.load none (.t 14)),
  o 16 (.bin .eql (.t 11) (.t 15))]
def r165_5 : List AOper := [o 17 (.mv (.t 5)),
  o 4 (.mv (.t 17))]
def r165_6 : List AOper := [o 18 (.bin .add (.t 8) (i64 1)),
  o 8 (.mv (.t 18))]
def l165_0 : ACode := .seq (.reg r165_2) (.seq (.cond (.t 9) (.skip) (.exit 0)) (.seq (.block 1 (.seq (.reg r165_3) (.seq (.reg r165_4) (.cond (.t 16) (.seq (.reg r165_5) (.ret)) (.skip))))) (.reg r165_6)))
def r165_7 : List AOper := [o 4 (.mv (i64 (-1)))]
def c165 : ACode := .seq (.reg r165_0) (.seq (.seq (.reg r165_1) (.block 0 (.loop l165_0))) (.seq (.reg r165_7) (.ret)))
/-- slices.Index[[]int,int] -/
def a165 : AFunc := ⟨2, 19, [.tmp 4], c165⟩
def r166_0 : List AOper := [o 2 (.mv (i64 0))]
def r166_1 : List AOper := [o 4 (.mv (.t 0)),
  o 5 (.bin .eql (.t 4) (i64 1)),
  o 6 (.mv (.t 5)),
  ⟨some 7, .mv (.t 0), (some (6, false)), false⟩,
  ⟨some 8, .bin .eql (.t 7) (i64 2), (some (6, false)), false⟩,
  o 9 (.pick (.t 6) (.c (.bool true)) (.t 8)),
  o 3 (.mv (.t 9))]
def r166_2 : List AOper := [o 2 (.mv (i64 0))]
def r166_3 : List AOper := [o 11 (.mv (.t 0)),
  o 12 (.bin .eql (.t 11) (i64 3)),
  o 10 (.mv (.t 12))]
def r166_4 : List AOper := [o 2 (.mv (i64 1))]
def r166_5 : List AOper := [o 14 (.mv (.t 0)),
  o 15 (.call 81 [(.t 14), (i64 4), (i64 8)] .borrow),
  o 13 (.mv (.t 15))]
def r166_6 : List AOper := [o 2 (.mv (i64 2))]
def r166_7 : List AOper := [o 2 (.mv (i64 (-1)))]
def c166 : ACode := .seq (.reg r166_0) (.seq (.block 0 (.seq (.reg r166_1) (.cond (.t 3) (.seq (.reg r166_2) (.ret)) (.seq (.reg r166_3) (.cond (.t 10) (.seq (.reg r166_4) (.ret)) (.seq (.reg r166_5) (.cond (.t 13) (.seq (.reg r166_6) (.ret)) (.skip)))))))) (.seq (.reg r166_7) (.ret)))
/-- jetsam/check.kids -/
def a166 : AFunc := ⟨1, 16, [.tmp 2], c166⟩
def r167_0 : List AOper := [o 8 (.mv (i64 0)),
  o 9 (.mv (i64 0))]
def r167_1 : List AOper := [o 10 (.mv (.t 0)),
  o 11 (.mv (.t 2)),
  o 12 (.iaddr 1 (.t 10) (.t 11)),
  o 13 (.load none (.t 12)),
  o 14 (.mv (.t 0)),
  o 15 (.mv (.t 1)),
  o 16 (.iaddr 1 (.t 14) (.t 15)),
  o 17 (.load none (.t 16)),
  o 18 (.call 118 [(.t 13), (.t 17)] .borrow)]
def b167_1 : List (List Nat) := [[], [], [0, 1], [0, 1, 2], [], [], [4, 5], [4, 5, 6], [0, 1, 2, 3, 4, 5, 6, 7]]
def r167_2 : List AOper := [o 19 (.mv (.t 3)),
  o 20 (.nilck (.t 19)),
  o 21 (.load none (.t 20)),
  o 22 (.bin .add (.t 21) (i64 1)),
  o 23 (.nilck (.t 19)),
  ⟨none, .store 1 (.t 23) (.t 22), none, false⟩]
def r167_3 : List AOper := [o 24 (.mv (.t 2)),
  o 25 (.mv (.t 1)),
  o 8 (.mv (.t 24)),
  o 9 (.mv (.t 25))]
def r167_4 : List AOper := [o 26 (.mv (.t 1)),
  o 27 (.mv (.t 2)),
  o 8 (.mv (.t 26)),
  o 9 (.mv (.t 27))]
def c167 : ACode := .seq (.reg r167_0) (.seq (.seq (.dreg r167_1 b167_1 []) (.cond (.t 18) (.seq (.reg r167_2) (.seq (.reg r167_3) (.ret))) (.skip))) (.seq (.reg r167_4) (.ret)))
/-- slices.order2Ordered[int] -/
def a167 : AFunc := ⟨4, 28, [.tmp 8, .tmp 9], c167⟩
def r169_0 : List AOper := [o 6 (.mv (.c (.bool false)))]
def r169_1 : List AOper := [o 10 (.mv (.t 0)),
  o 11 (.len false (.t 10)),
  o 12 (.mv (.t 1)),
  o 13 (.len false (.t 12)),
  o 14 (.bin .neq (.t 11) (.t 13))]
def r169_2 : List AOper := [o 6 (.mv (.c (.bool false)))]
def r169_3 : List AOper := [o 15 (.mv (.t 0)),
  o 16 (.len false (.t 15)),
  o 17 (.mv (i64 0))]
def r169_4 : List AOper := [o 18 (.bin .lss (.t 17) (.t 16))]
def r169_5 : List AOper := [o 19 (.mv (.t 17)),
  o 20 (.iaddr 4 (.t 15) (.t 17)),
  o 21 (.load (some 4) (.t 20)),
  o 8 (.alloc [.int .i64 0, .int .i64 0, .int .i64 0, .nils]),
  o 7 (.mv (.t 19)),
  ⟨none, .store 4 (.t 8) (.t 21), none, false⟩]
def r169_6 : List AOper := [o 22 (.mv (.t 1)),
  o 23 (.mv (.t 7)),
  o 24 (.iaddr 4 (.t 22) (.t 23)),
  o 25 (.load (some 4) (.t 24)),
  o 9 (.alloc [.int .i64 0, .int .i64 0, .int .i64 0, .nils]),
  ⟨none, .store 4 (.t 9) (.t 25), none, false⟩]
def r169_7 : List AOper := [o 26 (.mv (.t 2)),
  o 27 (.load (some 4) (.t 8)),
  o 28 (.load (some 4) (.t 9)),
  o 29 (.callv (.t 26) [(.t 27), (.t 28)] .borrow),
  o 30 (.un .not (.t 29))]
def r169_8 : List AOper := [o 6 (.mv (.c (.bool false)))]
def r169_9 : List AOper := [o 31 (.bin .add (.t 17) (i64 1)),
  o 17 (.mv (.t 31))]
def l169_0 : ACode := .seq (.reg r169_4) (.seq (.cond (.t 18) (.skip) (.exit 0)) (.seq (.block 1 (.seq (.reg r169_5) (.seq (.reg r169_6) (.seq (.reg r169_7) (.cond (.t 30) (.seq (.reg r169_8) (.ret)) (.skip)))))) (.reg r169_9)))
def r169_10 : List AOper := [o 6 (.mv (.c (.bool true)))]
def c169 : ACode := .seq (.reg r169_0) (.seq (.seq (.reg r169_1) (.cond (.t 14) (.seq (.reg r169_2) (.ret)) (.skip))) (.seq (.seq (.reg r169_3) (.block 0 (.loop l169_0))) (.seq (.reg r169_10) (.ret))))
/-- slices.EqualFunc[[]jetsam/check.Expr,[]jetsam/check.Expr,jetsam/check.Expr,jetsam/check.Expr] -/
def a169 : AFunc := ⟨3, 32, [.tmp 6], c169⟩
def prog : Map AFunc := .node none (.node none (.node none (.node none (.node none (.node none (.node (some a63) (.leaf) (.leaf)) (.leaf)) (.node none (.node none (.node (some a143) (.leaf) (.leaf)) (.leaf)) (.node (some a111) (.leaf) (.leaf)))) (.node none (.node none (.leaf) (.node none (.node (some a167) (.leaf) (.leaf)) (.leaf))) (.node none (.node (some a87) (.node (some a151) (.leaf) (.leaf)) (.leaf)) (.node (some a119) (.leaf) (.leaf))))) (.node none (.node none (.node none (.leaf) (.node (some a99) (.node (some a163) (.leaf) (.leaf)) (.leaf))) (.node none (.node (some a83) (.node (some a147) (.leaf) (.leaf)) (.leaf)) (.node (some a115) (.leaf) (.leaf)))) (.node none (.node (some a43) (.node (some a75) (.node (some a139) (.leaf) (.leaf)) (.leaf)) (.node (some a107) (.leaf) (.leaf))) (.node none (.node none (.node (some a155) (.leaf) (.leaf)) (.leaf)) (.leaf))))) (.node none (.node none (.node none (.leaf) (.node none (.node (some a81) (.node (some a145) (.leaf) (.leaf)) (.leaf)) (.node (some a113) (.leaf) (.leaf)))) (.node none (.node (some a41) (.node none (.node (some a137) (.leaf) (.leaf)) (.leaf)) (.node (some a105) (.node (some a169) (.leaf) (.leaf)) (.leaf))) (.node none (.node none (.node (some a153) (.leaf) (.leaf)) (.leaf)) (.node (some a121) (.leaf) (.leaf))))) (.node none (.node none (.node none (.leaf) (.node (some a101) (.node (some a165) (.leaf) (.leaf)) (.leaf))) (.node (some a53) (.node (some a85) (.node (some a149) (.leaf) (.leaf)) (.leaf)) (.node (some a117) (.leaf) (.leaf)))) (.node none (.node none (.node none (.node (some a141) (.leaf) (.leaf)) (.leaf)) (.node (some a109) (.leaf) (.leaf))) (.node (some a61) (.leaf) (.leaf)))))) (.node none (.node none (.node none (.node none (.leaf) (.node (some a48) (.node none (.node (some a144) (.leaf) (.leaf)) (.leaf)) (.node (some a112) (.leaf) (.leaf)))) (.node none (.node none (.node none (.node (some a136) (.leaf) (.leaf)) (.leaf)) (.node (some a104) (.leaf) (.leaf))) (.node (some a56) (.node (some a88) (.node (some a152) (.leaf) (.leaf)) (.leaf)) (.node (some a120) (.leaf) (.leaf))))) (.node (some a12) (.node none (.node none (.leaf) (.node (some a100) (.node (some a164) (.leaf) (.leaf)) (.leaf))) (.node none (.node (some a84) (.node (some a148) (.leaf) (.leaf)) (.leaf)) (.node (some a116) (.leaf) (.leaf)))) (.node none (.node none (.node none (.node (some a140) (.leaf) (.leaf)) (.leaf)) (.node (some a108) (.leaf) (.leaf))) (.node (some a60) (.leaf) (.leaf))))) (.node none (.node none (.node none (.leaf) (.node (some a50) (.node (some a82) (.node (some a146) (.leaf) (.leaf)) (.leaf)) (.node (some a114) (.leaf) (.leaf)))) (.node none (.node none (.node (some a74) (.node (some a138) (.leaf) (.leaf)) (.leaf)) (.node (some a106) (.leaf) (.leaf))) (.node none (.node none (.node (some a154) (.leaf) (.leaf)) (.leaf)) (.node (some a122) (.leaf) (.leaf))))) (.node none (.node none (.node none (.leaf) (.node (some a102) (.node (some a166) (.leaf) (.leaf)) (.leaf))) (.node none (.node (some a86) (.node (some a150) (.leaf) (.leaf)) (.leaf)) (.node (some a118) (.leaf) (.leaf)))) (.node none (.node (some a46) (.node none (.node (some a142) (.leaf) (.leaf)) (.leaf)) (.node (some a110) (.leaf) (.leaf))) (.node (some a62) (.leaf) (.leaf))))))
end Go.Ax.TryLn
