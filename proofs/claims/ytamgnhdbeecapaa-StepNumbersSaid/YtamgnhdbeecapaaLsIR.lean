import Derived.Test.YtamgnhdbeecapaaAx0

namespace Go.Ax.TryLs
open Go Go.Ax

def r10_0 : List AOper := [o 4 (.mv (.c (.bool false)))]
def r10_1 : List AOper := [o 15 (.mv (.t 0)),
  o 16 (.conv .i64 (.t 15)),
  o 17 (.mv (.t 1)),
  o 18 (.conv .i64 (.t 17)),
  o 5 (.mv (.t 16)),
  o 6 (.mv (.t 18))]
def r10_2 : List AOper := [o 19 (.mv (.t 5)),
  o 20 (.mv (.t 6)),
  o 21 (.islice 2 [.int .i64 0, .int .i64 0] [(0, 1, (.t 19)), (1, 1, (.t 20))]),
  o 7 (.mv (.t 21))]
def r10_3 : List AOper := [o 22 (.call 42 [(i64 7)] .borrow),
  o 8 (.alloc [.int .i64 0, .int .i64 0, .int .i64 0, .nils]),
  ⟨none, .store 4 (.t 8) (.t 22), none, false⟩]
def r10_4 : List AOper := [o 24 (.load (some 4) (.t 8)),
  o 25 (.mv (.t 7)),
  o 26 (.call 35 [(.t 24), (.t 25)] .borrow),
  o 23 (.mv (.t 26)),
  o 27 (.ext 0 (.t 23)),
  o 28 (.ext 1 (.t 23)),
  o 9 (.mv (.t 27)),
  o 10 (.mv (.t 28))]
def r10_5 : List AOper := [o 29 (.faddr 0 (.t 8)),
  ⟨none, .store 1 (.t 29) (i64 8), none, false⟩]
def r10_6 : List AOper := [o 31 (.load (some 4) (.t 8)),
  o 32 (.mv (.t 7)),
  o 33 (.call 35 [(.t 31), (.t 32)] .borrow),
  o 30 (.mv (.t 33)),
  o 34 (.ext 0 (.t 30)),
  o 35 (.ext 1 (.t 30)),
  o 11 (.mv (.t 34)),
  o 12 (.mv (.t 35))]
def r10_7 : List AOper := [o 36 (.faddr 0 (.t 8)),
  ⟨none, .store 1 (.t 36) (i64 6), none, false⟩]
def r10_8 : List AOper := [o 38 (.load (some 4) (.t 8)),
  o 39 (.mv (.t 7)),
  o 40 (.call 35 [(.t 38), (.t 39)] .borrow),
  o 37 (.mv (.t 40)),
  o 41 (.ext 0 (.t 37)),
  o 42 (.ext 1 (.t 37)),
  o 13 (.mv (.t 41)),
  o 14 (.mv (.t 42))]
def r10_9 : List AOper := [o 43 (.call 38 [] .borrow),
  o 44 (.un .not (.t 43)),
  o 45 (.mv (.t 44)),
  ⟨some 46, .mv (.t 13), (some (45, false)), false⟩,
  ⟨some 47, .mv (.t 5), (some (45, false)), false⟩,
  ⟨some 48, .mv (.t 6), (some (45, false)), false⟩,
  ⟨some 49, .bin .mul (.t 47) (.t 48), (some (45, false)), false⟩,
  ⟨some 50, .bin .neq (.t 46) (.t 49), (some (45, false)), false⟩,
  ⟨some 51, .mv (.t 50), (some (45, false)), false⟩,
  ⟨some 52, .mv (.t 14), (some (51, false)), false⟩,
  ⟨some 53, .bin .neq (.t 52) (i64 0), (some (51, false)), false⟩,
  ⟨some 54, .pick (.t 51) (.c (.bool true)) (.t 53), (some (45, false)), false⟩,
  ⟨some 55, .mv (.t 54), (some (45, false)), false⟩,
  ⟨some 56, .mv (.t 14), (some (55, true)), false⟩,
  ⟨some 57, .bin .neq (.t 56) (i64 2), (some (55, true)), false⟩,
  ⟨some 58, .mv (.t 57), (some (55, true)), false⟩,
  ⟨some 59, .mv (.t 13), (some (58, false)), false⟩,
  ⟨some 60, .bin .neq (.t 59) (i64 0), (some (58, false)), false⟩,
  ⟨some 61, .pick (.t 58) (.c (.bool true)) (.t 60), (some (55, true)), false⟩,
  ⟨some 62, .mv (.t 61), (some (55, true)), false⟩,
  ⟨some 63, .mv (.t 5), (some (62, false)), false⟩,
  ⟨some 64, .mv (.t 6), (some (62, false)), false⟩,
  ⟨some 65, .bin .mul (.t 63) (.t 64), (some (62, false)), false⟩,
  ⟨some 66, .bin .geq (.t 65) (i64 (-2147483648)), (some (62, false)), false⟩,
  ⟨some 67, .mv (.t 66), (some (62, false)), false⟩,
  ⟨some 68, .mv (.t 5), (some (67, true)), false⟩,
  ⟨some 69, .mv (.t 6), (some (67, true)), false⟩,
  ⟨some 70, .bin .mul (.t 68) (.t 69), (some (67, true)), false⟩,
  ⟨some 71, .bin .leq (.t 70) (i64 2147483647), (some (67, true)), false⟩,
  ⟨some 72, .pick (.t 67) (.t 71) (.c (.bool false)), (some (62, false)), false⟩,
  ⟨some 73, .pick (.t 62) (.c (.bool true)) (.t 72), (some (55, true)), false⟩,
  ⟨some 74, .pick (.t 55) (.t 73) (.c (.bool false)), (some (45, false)), false⟩,
  o 75 (.pick (.t 45) (.c (.bool true)) (.t 74))]
def r10_10 : List AOper := [o 4 (.mv (.c (.bool false)))]
def r10_11 : List AOper := [o 76 (.mv (.t 6)),
  o 77 (.bin .eql (.t 76) (i64 0))]
def r10_12 : List AOper := [o 78 (.mv (.t 10)),
  o 79 (.bin .eql (.t 78) (i64 3)),
  o 80 (.mv (.t 79)),
  ⟨some 81, .mv (.t 12), (some (80, true)), false⟩,
  ⟨some 82, .bin .eql (.t 81) (i64 3), (some (80, true)), false⟩,
  o 83 (.pick (.t 80) (.t 82) (.c (.bool false))),
  o 84 (.mv (.t 83)),
  ⟨some 85, .mv (.t 9), (some (84, true)), false⟩,
  ⟨some 86, .bin .eql (.t 85) (i64 0), (some (84, true)), false⟩,
  o 87 (.pick (.t 84) (.t 86) (.c (.bool false))),
  o 88 (.mv (.t 87)),
  ⟨some 89, .mv (.t 11), (some (88, true)), false⟩,
  ⟨some 90, .bin .eql (.t 89) (i64 0), (some (88, true)), false⟩,
  o 91 (.pick (.t 88) (.t 90) (.c (.bool false))),
  o 4 (.mv (.t 91))]
def r10_13 : List AOper := [o 92 (.mv (.t 5)),
  o 93 (.bin .eql (.t 92) (i64 (-2147483648))),
  o 94 (.mv (.t 93)),
  ⟨some 95, .mv (.t 6), (some (94, true)), false⟩,
  ⟨some 96, .bin .eql (.t 95) (i64 (-1)), (some (94, true)), false⟩,
  o 97 (.pick (.t 94) (.t 96) (.c (.bool false)))]
def r10_14 : List AOper := [o 98 (.mv (.t 10)),
  o 99 (.bin .eql (.t 98) (i64 2)),
  o 100 (.mv (.t 99)),
  ⟨some 101, .mv (.t 12), (some (100, true)), false⟩,
  ⟨some 102, .bin .eql (.t 101) (i64 0), (some (100, true)), false⟩,
  o 103 (.pick (.t 100) (.t 102) (.c (.bool false))),
  o 104 (.mv (.t 103)),
  ⟨some 105, .mv (.t 11), (some (104, true)), false⟩,
  ⟨some 106, .bin .eql (.t 105) (i64 0), (some (104, true)), false⟩,
  o 107 (.pick (.t 104) (.t 106) (.c (.bool false))),
  o 4 (.mv (.t 107))]
def r10_15 : List AOper := [o 108 (.mv (.t 10)),
  o 109 (.bin .eql (.t 108) (i64 0)),
  o 110 (.mv (.t 109)),
  ⟨some 111, .mv (.t 12), (some (110, true)), false⟩,
  ⟨some 112, .bin .eql (.t 111) (i64 0), (some (110, true)), false⟩,
  o 113 (.pick (.t 110) (.t 112) (.c (.bool false))),
  o 114 (.mv (.t 113)),
  ⟨some 115, .mv (.t 9), (some (114, true)), false⟩,
  ⟨some 116, .mv (.t 6), (some (114, true)), false⟩,
  ⟨some 117, .bin .mul (.t 115) (.t 116), (some (114, true)), false⟩,
  ⟨some 118, .mv (.t 11), (some (114, true)), false⟩,
  ⟨some 119, .bin .add (.t 117) (.t 118), (some (114, true)), false⟩,
  ⟨some 120, .mv (.t 5), (some (114, true)), false⟩,
  ⟨some 121, .bin .eql (.t 119) (.t 120), (some (114, true)), false⟩,
  o 122 (.pick (.t 114) (.t 121) (.c (.bool false))),
  o 123 (.mv (.t 122)),
  ⟨some 124, .mv (.t 11), (some (123, true)), false⟩,
  ⟨some 125, .mv (.t 11), (some (123, true)), false⟩,
  ⟨some 126, .bin .mul (.t 124) (.t 125), (some (123, true)), false⟩,
  ⟨some 127, .mv (.t 6), (some (123, true)), false⟩,
  ⟨some 128, .mv (.t 6), (some (123, true)), false⟩,
  ⟨some 129, .bin .mul (.t 127) (.t 128), (some (123, true)), false⟩,
  ⟨some 130, .bin .lss (.t 126) (.t 129), (some (123, true)), false⟩,
  o 131 (.pick (.t 123) (.t 130) (.c (.bool false))),
  o 132 (.mv (.t 131)),
  ⟨some 133, .mv (.t 11), (some (132, true)), false⟩,
  ⟨some 134, .bin .eql (.t 133) (i64 0), (some (132, true)), false⟩,
  ⟨some 135, .mv (.t 134), (some (132, true)), false⟩,
  ⟨some 136, .mv (.t 11), (some (135, false)), false⟩,
  ⟨some 137, .bin .lss (.t 136) (i64 0), (some (135, false)), false⟩,
  ⟨some 138, .mv (.t 5), (some (135, false)), false⟩,
  ⟨some 139, .bin .lss (.t 138) (i64 0), (some (135, false)), false⟩,
  ⟨some 140, .eq (.one .bool) false (.t 137) (.t 139), (some (135, false)), false⟩,
  ⟨some 141, .pick (.t 135) (.c (.bool true)) (.t 140), (some (132, true)), false⟩,
  o 142 (.pick (.t 132) (.t 141) (.c (.bool false))),
  o 4 (.mv (.t 142))]
def c10 : ACode := .seq (.reg r10_0) (.seq (.reg r10_1) (.seq (.reg r10_2) (.seq (.reg r10_3) (.seq (.reg r10_4) (.seq (.reg r10_5) (.seq (.reg r10_6) (.seq (.reg r10_7) (.seq (.reg r10_8) (.seq (.seq (.reg r10_9) (.cond (.t 75) (.seq (.reg r10_10) (.ret)) (.skip))) (.seq (.seq (.reg r10_11) (.cond (.t 77) (.seq (.reg r10_12) (.ret)) (.skip))) (.seq (.seq (.reg r10_13) (.cond (.t 97) (.seq (.reg r10_14) (.ret)) (.skip))) (.seq (.reg r10_15) (.ret)))))))))))))
/-- jetsam/jetsamlaw07.StepNumbers -/
def a10 : AFunc := ⟨2, 143, [.tmp 4], c10⟩
def r31_0 : List AOper := [o 1 (.box (.t 0)),
  o 2 (.alloc [.nils, .nils, .nils, .nils]),
  o 3 (.mv (i64 0))]
def r31_1 : List AOper := [o 7 (.load (some 3) (.t 1)),
  o 8 (.call 53 [(.t 7)] .borrow),
  o 9 (.un .not (.t 8))]
def r31_2 : List AOper := [o 10 (.build [.nils, .nils, .nils, .nils] []),
  ⟨none, .store 4 (.t 2) (.t 10), none, false⟩,
  o 3 (.mv (i64 1))]
def r31_3 : List AOper := [o 11 (.faddr 1 (.t 1)),
  o 12 (.load none (.t 11)),
  o 13 (.len false (.t 12)),
  o 14 (.mksl 1 8 [.int .i64 0] (.t 13)),
  o 15 (.faddr 0 (.t 1)),
  o 16 (.load none (.t 15)),
  o 17 (.len false (.t 16)),
  o 18 (.mksl 1 24 [.nils] (.t 17)),
  o 19 (.faddr 0 (.t 1)),
  o 20 (.load none (.t 19)),
  o 21 (.len false (.t 20)),
  o 22 (.mksl 1 8 [.int .i64 0] (.t 21)),
  o 23 (.build [.nils, .nils, .nils, .nils] [(0, 1, (.t 14)), (2, 1, (.t 18)), (3, 1, (.t 22))]),
  o 4 (.alloc [.nils, .nils, .nils, .nils]),
  ⟨none, .store 4 (.t 4) (.t 23), none, false⟩]
def b31_3 : List (List Nat) := [[], [0], [0, 1], [0, 1, 2], [], [4], [4, 5], [4, 5, 6], [], [8], [8, 9], [8, 9, 10], [0, 1, 2, 3, 4, 5, 6, 7, 8, 9, 10, 11], [], [0, 1, 2, 3, 4, 5, 6, 7, 8, 9, 10, 11, 12, 13]]
def r31_4 : List AOper := [o 24 (.faddr 2 (.t 1)),
  o 25 (.load none (.t 24)),
  o 26 (.len false (.t 25)),
  o 27 (.mv (i64 0))]
def r31_5 : List AOper := [o 28 (.bin .lss (.t 27) (.t 26))]
def r31_6 : List AOper := [o 29 (.iaddr 1 (.t 25) (.t 27)),
  o 30 (.load none (.t 29)),
  o 6 (.mv (.t 30))]
def r31_7 : List AOper := [o 31 (.faddr 1 (.t 4)),
  o 32 (.load none (.t 31)),
  o 33 (.mv (.t 6)),
  o 34 (.mksl 1 8 [.int .i64 0] (.t 33)),
  o 35 (.bslice 1 1 [.nils] [(0, 1, (.t 34))]),
  o 36 (.app 1 24 (.t 32) (.t 35)),
  o 37 (.faddr 1 (.t 4)),
  ⟨none, .store 1 (.t 37) (.t 36), none, false⟩]
def b31_7 : List (List Nat) := [[], [0], [], [2], [2, 3], [0, 1, 2, 3, 4], [0, 1, 2, 3, 4, 5], [0, 1, 2, 3, 4, 5, 6]]
def r31_8 : List AOper := [o 38 (.bin .add (.t 27) (i64 1)),
  o 27 (.mv (.t 38))]
def l31_0 : ACode := .seq (.reg r31_5) (.seq (.cond (.t 28) (.skip) (.exit 0)) (.seq (.block 1 (.seq (.reg r31_6) (.dreg r31_7 b31_7 []))) (.reg r31_8)))
def r31_9 : List AOper := [o 39 (.load (some 4) (.t 4)),
  ⟨none, .store 4 (.t 2) (.t 39), none, false⟩,
  o 3 (.mv (i64 0))]
def c31 : ACode := .seq (.reg r31_0) (.seq (.seq (.reg r31_1) (.cond (.t 9) (.seq (.reg r31_2) (.ret)) (.skip))) (.seq (.dreg r31_3 b31_3 []) (.seq (.seq (.reg r31_4) (.block 0 (.loop l31_0))) (.seq (.reg r31_9) (.ret)))))
/-- jetsam/conf.Start -/
def a31 : AFunc := ⟨1, 40, [.cell 2 (some 4), .tmp 3], c31⟩
def r33_0 : List AOper := [o 1 (.box (.t 0)),
  o 2 (.alloc [.nils, .nils, .nils, .nils])]
def r33_1 : List AOper := [o 8 (.faddr 0 (.t 1)),
  o 9 (.load none (.t 8)),
  o 10 (.call 56 [(.t 9)] .share),
  o 11 (.faddr 3 (.t 1)),
  o 12 (.load none (.t 11)),
  o 13 (.call 56 [(.t 12)] .share),
  o 14 (.build [.nils, .nils, .nils, .nils] [(0, 1, (.t 10)), (3, 1, (.t 13))]),
  o 3 (.alloc [.nils, .nils, .nils, .nils]),
  ⟨none, .store 4 (.t 3) (.t 14), none, false⟩]
def b33_1 : List (List Nat) := [[], [0], [0, 1], [], [3], [0, 1, 2, 3, 4], [0, 1, 2, 3, 4, 5], [], [0, 1, 2, 3, 4, 5, 6, 7]]
def r33_2 : List AOper := [o 15 (.faddr 1 (.t 1)),
  o 16 (.load none (.t 15)),
  o 17 (.len false (.t 16)),
  o 18 (.mv (i64 0))]
def r33_3 : List AOper := [o 19 (.bin .lss (.t 18) (.t 17))]
def r33_4 : List AOper := [o 20 (.iaddr 1 (.t 16) (.t 18)),
  o 21 (.load none (.t 20)),
  o 5 (.mv (.t 21))]
def r33_5 : List AOper := [o 22 (.faddr 1 (.t 3)),
  o 23 (.load none (.t 22)),
  o 24 (.mv (.t 5)),
  o 25 (.call 56 [(.t 24)] .share),
  o 26 (.bslice 1 1 [.nils] [(0, 1, (.t 25))]),
  o 27 (.app 1 24 (.t 23) (.t 26)),
  o 28 (.faddr 1 (.t 3)),
  ⟨none, .store 1 (.t 28) (.t 27), none, false⟩]
def b33_5 : List (List Nat) := [[], [0], [], [2], [2, 3], [0, 1, 2, 3, 4], [0, 1, 2, 3, 4, 5], [0, 1, 2, 3, 4, 5, 6]]
def r33_6 : List AOper := [o 29 (.bin .add (.t 18) (i64 1)),
  o 18 (.mv (.t 29))]
def l33_0 : ACode := .seq (.reg r33_3) (.seq (.cond (.t 19) (.skip) (.exit 0)) (.seq (.block 1 (.seq (.reg r33_4) (.dreg r33_5 b33_5 [(1, 3)]))) (.reg r33_6)))
def r33_7 : List AOper := [o 30 (.faddr 2 (.t 1)),
  o 31 (.load none (.t 30)),
  o 32 (.len false (.t 31)),
  o 33 (.mv (i64 0))]
def r33_8 : List AOper := [o 34 (.bin .lss (.t 33) (.t 32))]
def r33_9 : List AOper := [o 35 (.iaddr 1 (.t 31) (.t 33)),
  o 36 (.load none (.t 35)),
  o 7 (.mv (.t 36))]
def r33_10 : List AOper := [o 37 (.faddr 2 (.t 3)),
  o 38 (.load none (.t 37)),
  o 39 (.mv (.t 7)),
  o 40 (.call 57 [(.t 39)] .share),
  o 41 (.bslice 1 1 [.nils] [(0, 1, (.t 40))]),
  o 42 (.app 1 24 (.t 38) (.t 41)),
  o 43 (.faddr 2 (.t 3)),
  ⟨none, .store 1 (.t 43) (.t 42), none, false⟩]
def b33_10 : List (List Nat) := [[], [0], [], [2], [2, 3], [0, 1, 2, 3, 4], [0, 1, 2, 3, 4, 5], [0, 1, 2, 3, 4, 5, 6]]
def r33_11 : List AOper := [o 44 (.bin .add (.t 33) (i64 1)),
  o 33 (.mv (.t 44))]
def l33_1 : ACode := .seq (.reg r33_8) (.seq (.cond (.t 34) (.skip) (.exit 2)) (.seq (.block 3 (.seq (.reg r33_9) (.dreg r33_10 b33_10 [(1, 3)]))) (.reg r33_11)))
def r33_12 : List AOper := [o 45 (.load (some 4) (.t 3)),
  ⟨none, .store 4 (.t 2) (.t 45), none, false⟩]
def c33 : ACode := .seq (.reg r33_0) (.seq (.dreg r33_1 b33_1 [(2, 4)]) (.seq (.seq (.reg r33_2) (.block 0 (.loop l33_0))) (.seq (.seq (.reg r33_7) (.block 2 (.loop l33_1))) (.seq (.reg r33_12) (.ret)))))
/-- jetsam/conf.Copy -/
def a33 : AFunc := ⟨1, 46, [.cell 2 (some 4)], c33⟩
def r35_0 : List AOper := [o 2 (.box (.t 0)),
  o 4 (.mv (i64 0)),
  o 5 (.mv (i64 0))]
def r35_1 : List AOper := [o 9 (.load (some 4) (.t 2)),
  o 10 (.mv (.t 1)),
  o 11 (.call 58 [(.t 9), (.t 10)] .borrow),
  o 8 (.mv (.t 11)),
  o 12 (.ext 0 (.t 8)),
  o 13 (.ext 1 (.t 8)),
  o 6 (.mv (.t 12)),
  o 7 (.mv (.t 13))]
def r35_2 : List AOper := [o 15 (.mv (.t 7)),
  o 16 (.bin .neq (.t 15) (i64 0)),
  o 14 (.mv (.t 16))]
def r35_3 : List AOper := [o 17 (.mv (.t 7)),
  o 4 (.mv (i64 0)),
  o 5 (.mv (.t 17))]
def r35_4 : List AOper := [o 19 (.mv (.t 6)),
  o 20 (.bin .lss (.t 19) (i64 (-2147483648))),
  o 21 (.mv (.t 20)),
  ⟨some 22, .mv (.t 6), (some (21, false)), false⟩,
  ⟨some 23, .bin .gtr (.t 22) (i64 2147483647), (some (21, false)), false⟩,
  o 24 (.pick (.t 21) (.c (.bool true)) (.t 23)),
  o 18 (.mv (.t 24))]
def r35_5 : List AOper := [o 4 (.mv (i64 0)),
  o 5 (.mv (i64 2))]
def r35_6 : List AOper := [o 25 (.mv (.t 6)),
  o 4 (.mv (.t 25)),
  o 5 (.mv (i64 0))]
def c35 : ACode := .seq (.reg r35_0) (.seq (.reg r35_1) (.seq (.block 0 (.seq (.reg r35_2) (.cond (.t 14) (.seq (.reg r35_3) (.ret)) (.seq (.reg r35_4) (.cond (.t 18) (.seq (.reg r35_5) (.ret)) (.skip)))))) (.seq (.reg r35_6) (.ret))))
/-- jetsam/step.Eval -/
def a35 : AFunc := ⟨2, 26, [.tmp 4, .tmp 5], c35⟩
def r38_0 : List AOper := [o 0 (.mv (.c (.bool false)))]
def r38_1 : List AOper := [o 11 (.build [.int .i64 0, .int .i64 0, .int .i64 0, .nils] [(0, 1, (i64 1)), (1, 1, (i64 7))]),
  o 12 (.build [.int .i64 0, .int .i64 0, .int .i64 0, .nils] [(0, 1, (i64 1))]),
  ⟨some 13, .islice 2 [.int .i64 0, .int .i64 0, .int .i64 0, .nils, .int .i64 0, .int .i64 0, .int .i64 0, .nils] [(0, 4, (.t 11)), (4, 4, (.t 12))], none, true⟩,
  o 14 (.build [.int .i64 0, .int .i64 0, .int .i64 0, .nils] [(0, 1, (i64 7)), (3, 1, (.t 13))]),
  o 1 (.alloc [.int .i64 0, .int .i64 0, .int .i64 0, .nils]),
  ⟨none, .store 4 (.t 1) (.t 14), none, false⟩]
def r38_2 : List AOper := [o 16 (.load (some 4) (.t 1)),
  o 17 (.call 35 [(.t 16), (.c (.nils))] .borrow),
  o 15 (.mv (.t 17)),
  o 18 (.ext 0 (.t 15)),
  o 19 (.ext 1 (.t 15)),
  o 2 (.mv (.t 18)),
  o 3 (.mv (.t 19))]
def r38_3 : List AOper := [o 21 (.build [.int .i64 0, .int .i64 0, .int .i64 0, .nils] [(0, 1, (i64 1)), (1, 1, (i64 2147483647))]),
  o 22 (.build [.int .i64 0, .int .i64 0, .int .i64 0, .nils] [(0, 1, (i64 2))]),
  ⟨some 23, .islice 2 [.int .i64 0, .int .i64 0, .int .i64 0, .nils, .int .i64 0, .int .i64 0, .int .i64 0, .nils] [(0, 4, (.t 21)), (4, 4, (.t 22))], none, true⟩,
  o 24 (.build [.int .i64 0, .int .i64 0, .int .i64 0, .nils] [(0, 1, (i64 4)), (3, 1, (.t 23))]),
  o 25 (.islice 1 [.int .i64 0] [(0, 1, (i64 0))]),
  o 26 (.call 35 [(.t 24), (.t 25)] .borrow),
  o 20 (.mv (.t 26)),
  o 27 (.ext 0 (.t 20)),
  o 28 (.ext 1 (.t 20)),
  o 4 (.mv (.t 27)),
  o 5 (.mv (.t 28))]
def r38_4 : List AOper := [o 30 (.build [.int .i64 0, .int .i64 0, .int .i64 0, .nils] [(0, 1, (i64 1)), (1, 1, (i64 2147483647))]),
  o 31 (.build [.int .i64 0, .int .i64 0, .int .i64 0, .nils] [(0, 1, (i64 2))]),
  ⟨some 32, .islice 2 [.int .i64 0, .int .i64 0, .int .i64 0, .nils, .int .i64 0, .int .i64 0, .int .i64 0, .nils] [(0, 4, (.t 30)), (4, 4, (.t 31))], none, true⟩,
  o 33 (.build [.int .i64 0, .int .i64 0, .int .i64 0, .nils] [(0, 1, (i64 4)), (3, 1, (.t 32))]),
  o 34 (.islice 1 [.int .i64 0] [(0, 1, (i64 1))]),
  o 35 (.call 35 [(.t 33), (.t 34)] .borrow),
  o 29 (.mv (.t 35)),
  o 36 (.ext 0 (.t 29)),
  o 37 (.ext 1 (.t 29)),
  o 6 (.mv (.t 36)),
  o 7 (.mv (.t 37))]
def r38_5 : List AOper := [o 39 (.load (some 4) (.t 1)),
  o 40 (.build [.int .i64 0, .int .i64 0, .int .i64 0, .int .i64 0, .int .i64 0, .int .i64 0, .int .i64 0, .int .i64 0, .int .i64 0, .nils, .int .i64 0, .int .i64 0, .int .i64 0, .int .i64 0, .nils, .int .i64 0, .int .i64 0, .int .i64 0, .nils] [(1, 1, (i64 1)), (2, 1, (i64 1)), (6, 4, (.t 39))]),
  ⟨some 41, .islice 1 [.int .i64 0, .int .i64 0, .int .i64 0, .int .i64 0, .int .i64 0, .int .i64 0, .int .i64 0, .int .i64 0, .int .i64 0, .nils, .int .i64 0, .int .i64 0, .int .i64 0, .int .i64 0, .nils, .int .i64 0, .int .i64 0, .int .i64 0, .nils] [(0, 19, (.t 40))], none, true⟩,
  o 42 (.build [.int .i64 0, .nils, .nils] [(0, 1, (i64 2)), (1, 1, (.t 41))]),
  ⟨some 43, .islice 1 [.int .i64 0, .nils, .nils] [(0, 3, (.t 42))], none, true⟩,
  o 44 (.islice 1 [.int .i64 0] [(0, 1, (i64 1))]),
  o 45 (.build [.nils, .nils, .nils] [(1, 1, (.t 43)), (2, 1, (.t 44))]),
  o 46 (.build [.int .i64 0, .bool false, .int .i64 0] []),
  o 47 (.islice 1 [.int .i64 0, .bool false, .int .i64 0] [(0, 3, (.t 46))]),
  o 48 (.call 59 [(.t 45), (.t 47)] .borrow),
  o 38 (.mv (.t 48)),
  o 49 (.ext 0 (.t 38)),
  o 50 (.ext 1 (.t 38)),
  o 51 (.ext 2 (.t 38)),
  o 9 (.alloc [.bool false, .int .i64 0, .int .i64 0, .int .i64 0]),
  o 8 (.mv (.t 49)),
  ⟨none, .store 4 (.t 9) (.t 50), none, false⟩,
  o 10 (.mv (.t 51))]
def r38_6 : List AOper := [o 52 (.mv (.t 3)),
  o 53 (.bin .eql (.t 52) (i64 3)),
  o 54 (.mv (.t 53)),
  ⟨some 55, .mv (.t 4), (some (54, true)), false⟩,
  ⟨some 56, .bin .eql (.t 55) (i64 2147483647), (some (54, true)), false⟩,
  o 57 (.pick (.t 54) (.t 56) (.c (.bool false))),
  o 58 (.mv (.t 57)),
  ⟨some 59, .mv (.t 5), (some (58, true)), false⟩,
  ⟨some 60, .bin .eql (.t 59) (i64 0), (some (58, true)), false⟩,
  o 61 (.pick (.t 58) (.t 60) (.c (.bool false))),
  o 62 (.mv (.t 61)),
  ⟨some 63, .mv (.t 7), (some (62, true)), false⟩,
  ⟨some 64, .bin .eql (.t 63) (i64 2), (some (62, true)), false⟩,
  o 65 (.pick (.t 62) (.t 64) (.c (.bool false))),
  o 66 (.mv (.t 65)),
  ⟨some 67, .mv (.t 10), (some (66, true)), false⟩,
  ⟨some 68, .bin .eql (.t 67) (i64 0), (some (66, true)), false⟩,
  o 69 (.pick (.t 66) (.t 68) (.c (.bool false))),
  o 70 (.mv (.t 69)),
  ⟨some 71, .faddr 1 (.t 9), (some (70, true)), false⟩,
  ⟨some 72, .load none (.t 71), (some (70, true)), false⟩,
  ⟨some 73, .bin .eql (.t 72) (i64 3), (some (70, true)), false⟩,
  o 74 (.pick (.t 70) (.t 73) (.c (.bool false))),
  o 0 (.mv (.t 74))]
def c38 : ACode := .seq (.reg r38_0) (.seq (.reg r38_1) (.seq (.reg r38_2) (.seq (.reg r38_3) (.seq (.reg r38_4) (.seq (.reg r38_5) (.seq (.reg r38_6) (.ret)))))))
/-- jetsam/jetsamlaw07.steps -/
def a38 : AFunc := ⟨0, 75, [.tmp 0], c38⟩
def r39_0 : List AOper := [o 2 (.box (.t 0)),
  o 4 (.mv (.c (.bool false))),
  o 5 (.mv (i64 0))]
def r39_1 : List AOper := [o 10 (.faddr 1 (.t 2)),
  o 11 (.load (some 4) (.t 10)),
  o 12 (.mv (.t 1)),
  o 13 (.call 35 [(.t 11), (.t 12)] .borrow),
  o 9 (.mv (.t 13)),
  o 14 (.ext 0 (.t 9)),
  o 15 (.ext 1 (.t 9)),
  o 6 (.mv (.t 14)),
  o 7 (.mv (.t 15))]
def r39_2 : List AOper := [o 16 (.mv (.t 7)),
  o 17 (.bin .neq (.t 16) (i64 0))]
def r39_3 : List AOper := [o 18 (.mv (.t 7)),
  o 4 (.mv (.c (.bool false))),
  o 5 (.mv (.t 18))]
def r39_4 : List AOper := [o 20 (.faddr 5 (.t 2)),
  o 21 (.load (some 4) (.t 20)),
  o 22 (.mv (.t 1)),
  o 23 (.call 35 [(.t 21), (.t 22)] .borrow),
  o 19 (.mv (.t 23)),
  o 24 (.ext 0 (.t 19)),
  o 25 (.ext 1 (.t 19)),
  o 8 (.mv (.t 24)),
  o 7 (.mv (.t 25))]
def r39_5 : List AOper := [o 26 (.mv (.t 7)),
  o 27 (.bin .neq (.t 26) (i64 0))]
def r39_6 : List AOper := [o 28 (.mv (.t 7)),
  o 4 (.mv (.c (.bool false))),
  o 5 (.mv (.t 28))]
def r39_7 : List AOper := [o 29 (.faddr 0 (.t 2)),
  o 30 (.load none (.t 29))]
def r39_8 : List AOper := [o 32 (.bin .eql (.t 30) (i64 1)),
  o 31 (.mv (.t 32))]
def r39_9 : List AOper := [o 33 (.mv (.t 6)),
  o 34 (.mv (.t 8)),
  o 35 (.bin .eql (.t 33) (.t 34)),
  o 4 (.mv (.t 35)),
  o 5 (.mv (i64 0))]
def r39_10 : List AOper := [o 37 (.bin .eql (.t 30) (i64 2)),
  o 36 (.mv (.t 37))]
def r39_11 : List AOper := [o 38 (.mv (.t 6)),
  o 39 (.mv (.t 8)),
  o 40 (.bin .neq (.t 38) (.t 39)),
  o 4 (.mv (.t 40)),
  o 5 (.mv (i64 0))]
def r39_12 : List AOper := [o 42 (.bin .eql (.t 30) (i64 3)),
  o 41 (.mv (.t 42))]
def r39_13 : List AOper := [o 43 (.mv (.t 6)),
  o 44 (.mv (.t 8)),
  o 45 (.bin .lss (.t 43) (.t 44)),
  o 4 (.mv (.t 45)),
  o 5 (.mv (i64 0))]
def r39_14 : List AOper := [o 47 (.bin .eql (.t 30) (i64 4)),
  o 46 (.mv (.t 47))]
def r39_15 : List AOper := [o 48 (.mv (.t 6)),
  o 49 (.mv (.t 8)),
  o 50 (.bin .leq (.t 48) (.t 49)),
  o 4 (.mv (.t 50)),
  o 5 (.mv (i64 0))]
def r39_16 : List AOper := [o 52 (.bin .eql (.t 30) (i64 5)),
  o 51 (.mv (.t 52))]
def r39_17 : List AOper := [o 53 (.mv (.t 6)),
  o 54 (.mv (.t 8)),
  o 55 (.bin .gtr (.t 53) (.t 54)),
  o 4 (.mv (.t 55)),
  o 5 (.mv (i64 0))]
def r39_18 : List AOper := [o 57 (.bin .eql (.t 30) (i64 6)),
  o 56 (.mv (.t 57))]
def r39_19 : List AOper := [o 58 (.mv (.t 6)),
  o 59 (.mv (.t 8)),
  o 60 (.bin .geq (.t 58) (.t 59)),
  o 4 (.mv (.t 60)),
  o 5 (.mv (i64 0))]
def r39_20 : List AOper := [o 4 (.mv (.c (.bool false))),
  o 5 (.mv (i64 0))]
def c39 : ACode := .seq (.reg r39_0) (.seq (.reg r39_1) (.seq (.seq (.reg r39_2) (.cond (.t 17) (.seq (.reg r39_3) (.ret)) (.skip))) (.seq (.reg r39_4) (.seq (.seq (.reg r39_5) (.cond (.t 27) (.seq (.reg r39_6) (.ret)) (.skip))) (.seq (.seq (.reg r39_7) (.block 0 (.seq (.reg r39_8) (.cond (.t 31) (.seq (.reg r39_9) (.ret)) (.seq (.reg r39_10) (.cond (.t 36) (.seq (.reg r39_11) (.ret)) (.seq (.reg r39_12) (.cond (.t 41) (.seq (.reg r39_13) (.ret)) (.seq (.reg r39_14) (.cond (.t 46) (.seq (.reg r39_15) (.ret)) (.seq (.reg r39_16) (.cond (.t 51) (.seq (.reg r39_17) (.ret)) (.seq (.reg r39_18) (.cond (.t 56) (.seq (.reg r39_19) (.ret)) (.skip))))))))))))))) (.seq (.reg r39_20) (.ret)))))))
/-- jetsam/step.Holds -/
def a39 : AFunc := ⟨2, 61, [.tmp 4, .tmp 5], c39⟩
def r41_0 : List AOper := [o 2 (.mv (i64 0))]
def r41_1 : List AOper := [o 3 (.mv (.t 0))]
def r41_2 : List AOper := [o 5 (.bin .eql (.t 3) (i64 1)),
  o 4 (.mv (.t 5))]
def r41_3 : List AOper := [o 2 (.mv (i64 2))]
def r41_4 : List AOper := [o 7 (.bin .eql (.t 3) (i64 2)),
  o 6 (.mv (.t 7))]
def r41_5 : List AOper := [o 2 (.mv (i64 1))]
def r41_6 : List AOper := [o 9 (.bin .eql (.t 3) (i64 3)),
  o 8 (.mv (.t 9))]
def r41_7 : List AOper := [o 2 (.mv (i64 6))]
def r41_8 : List AOper := [o 11 (.bin .eql (.t 3) (i64 4)),
  o 10 (.mv (.t 11))]
def r41_9 : List AOper := [o 2 (.mv (i64 5))]
def r41_10 : List AOper := [o 13 (.bin .eql (.t 3) (i64 5)),
  o 12 (.mv (.t 13))]
def r41_11 : List AOper := [o 2 (.mv (i64 4))]
def r41_12 : List AOper := [o 15 (.bin .eql (.t 3) (i64 6)),
  o 14 (.mv (.t 15))]
def r41_13 : List AOper := [o 2 (.mv (i64 3))]
def r41_14 : List AOper := [o 2 (.mv (i64 0))]
def c41 : ACode := .seq (.reg r41_0) (.seq (.seq (.reg r41_1) (.block 0 (.seq (.reg r41_2) (.cond (.t 4) (.seq (.reg r41_3) (.ret)) (.seq (.reg r41_4) (.cond (.t 6) (.seq (.reg r41_5) (.ret)) (.seq (.reg r41_6) (.cond (.t 8) (.seq (.reg r41_7) (.ret)) (.seq (.reg r41_8) (.cond (.t 10) (.seq (.reg r41_9) (.ret)) (.seq (.reg r41_10) (.cond (.t 12) (.seq (.reg r41_11) (.ret)) (.seq (.reg r41_12) (.cond (.t 14) (.seq (.reg r41_13) (.ret)) (.skip))))))))))))))) (.seq (.reg r41_14) (.ret)))
/-- jetsam/flow.Not -/
def a41 : AFunc := ⟨1, 16, [.tmp 2], c41⟩
def r42_0 : List AOper := [o 2 (.alloc [.int .i64 0, .int .i64 0, .int .i64 0, .nils])]
def r42_1 : List AOper := [o 3 (.mv (.t 0)),
  o 4 (.build [.int .i64 0, .int .i64 0, .int .i64 0, .nils] [(0, 1, (i64 2))]),
  o 5 (.build [.int .i64 0, .int .i64 0, .int .i64 0, .nils] [(0, 1, (i64 2)), (2, 1, (i64 1))]),
  ⟨some 6, .islice 2 [.int .i64 0, .int .i64 0, .int .i64 0, .nils, .int .i64 0, .int .i64 0, .int .i64 0, .nils] [(0, 4, (.t 4)), (4, 4, (.t 5))], none, true⟩,
  o 7 (.build [.int .i64 0, .int .i64 0, .int .i64 0, .nils] [(0, 1, (.t 3)), (3, 1, (.t 6))]),
  ⟨none, .store 4 (.t 2) (.t 7), none, false⟩]
def c42 : ACode := .seq (.reg r42_0) (.seq (.reg r42_1) (.ret))
/-- jetsam/jetsamlaw07.pair -/
def a42 : AFunc := ⟨1, 8, [.cell 2 (some 4)], c42⟩
def r50_0 : List AOper := [o 2 (.box (.t 0)),
  o 4 (.mv (.c (.nils)))]
def r50_1 : List AOper := [o 5 (.mv (.c (.nils)))]
def r50_2 : List AOper := [o 8 (.faddr 1 (.t 2)),
  o 9 (.load none (.t 8)),
  o 10 (.len false (.t 9)),
  o 11 (.mv (i64 0))]
def r50_3 : List AOper := [o 12 (.bin .lss (.t 11) (.t 10))]
def r50_4 : List AOper := [o 13 (.mv (.t 11)),
  o 14 (.iaddr 19 (.t 9) (.t 11)),
  o 15 (.load (some 19) (.t 14)),
  o 7 (.alloc [.int .i64 0, .int .i64 0, .int .i64 0, .int .i64 0, .int .i64 0, .int .i64 0, .int .i64 0, .int .i64 0, .int .i64 0, .nils, .int .i64 0, .int .i64 0, .int .i64 0, .int .i64 0, .nils, .int .i64 0, .int .i64 0, .int .i64 0, .nils]),
  o 6 (.mv (.t 13)),
  ⟨none, .store 19 (.t 7) (.t 15), none, false⟩]
def r50_5 : List AOper := [o 16 (.faddr 0 (.t 7)),
  o 17 (.load none (.t 16)),
  o 18 (.mv (.t 1)),
  o 19 (.bin .eql (.t 17) (.t 18))]
def r50_6 : List AOper := [o 20 (.mv (.t 5)),
  o 21 (.mv (.t 6)),
  o 22 (.islice 1 [.int .i64 0] [(0, 1, (.t 21))]),
  o 23 (.app 1 8 (.t 20) (.t 22)),
  o 5 (.mv (.t 23))]
def r50_7 : List AOper := [o 24 (.bin .add (.t 11) (i64 1)),
  o 11 (.mv (.t 24))]
def l50_0 : ACode := .seq (.reg r50_3) (.seq (.cond (.t 12) (.skip) (.exit 0)) (.seq (.block 1 (.seq (.reg r50_4) (.seq (.reg r50_5) (.cond (.t 19) (.reg r50_6) (.skip))))) (.reg r50_7)))
def r50_8 : List AOper := [o 25 (.mv (.t 5)),
  o 4 (.mv (.t 25))]
def c50 : ACode := .seq (.reg r50_0) (.seq (.reg r50_1) (.seq (.seq (.reg r50_2) (.block 0 (.loop l50_0))) (.seq (.reg r50_8) (.ret))))
/-- jetsam/flow.Out -/
def a50 : AFunc := ⟨2, 26, [.tmp 4], c50⟩
def r53_0 : List AOper := [o 1 (.box (.t 0)),
  o 2 (.mv (.c (.bool false)))]
def r53_1 : List AOper := [o 6 (.load (some 3) (.t 1)),
  o 7 (.call 74 [(.t 6)] .borrow),
  o 3 (.alloc [.nils, .nils]),
  ⟨none, .store 2 (.t 3) (.t 7), none, false⟩]
def r53_2 : List AOper := [o 8 (.faddr 1 (.t 1)),
  o 9 (.load none (.t 8)),
  o 10 (.len false (.t 9)),
  o 11 (.faddr 2 (.t 1)),
  o 12 (.load none (.t 11)),
  o 13 (.len false (.t 12)),
  o 14 (.bin .neq (.t 10) (.t 13)),
  o 15 (.mv (.t 14)),
  ⟨some 16, .load (some 2) (.t 3), (some (15, false)), false⟩,
  ⟨some 17, .call 60 [(.t 16)] .borrow, (some (15, false)), false⟩,
  ⟨some 18, .un .not (.t 17), (some (15, false)), false⟩,
  o 19 (.pick (.t 15) (.c (.bool true)) (.t 18))]
def r53_3 : List AOper := [o 2 (.mv (.c (.bool false)))]
def r53_4 : List AOper := [o 20 (.faddr 1 (.t 1)),
  o 21 (.load none (.t 20)),
  o 22 (.len false (.t 21)),
  o 23 (.mv (i64 0))]
def r53_5 : List AOper := [o 24 (.bin .lss (.t 23) (.t 22))]
def r53_6 : List AOper := [o 25 (.mv (.t 23)),
  o 26 (.iaddr 3 (.t 21) (.t 23)),
  o 27 (.load (some 3) (.t 26)),
  o 5 (.alloc [.int .i64 0, .nils, .nils]),
  o 4 (.mv (.t 25)),
  ⟨none, .store 3 (.t 5) (.t 27), none, false⟩]
def r53_7 : List AOper := [o 28 (.load (some 2) (.t 3)),
  o 29 (.mv (.t 4)),
  o 30 (.load (some 3) (.t 5)),
  o 31 (.call 75 [(.t 28), (.t 29), (.t 30)] .borrow),
  o 32 (.un .not (.t 31))]
def r53_8 : List AOper := [o 2 (.mv (.c (.bool false)))]
def r53_9 : List AOper := [o 33 (.bin .add (.t 23) (i64 1)),
  o 23 (.mv (.t 33))]
def l53_0 : ACode := .seq (.reg r53_5) (.seq (.cond (.t 24) (.skip) (.exit 0)) (.seq (.block 1 (.seq (.reg r53_6) (.seq (.reg r53_7) (.cond (.t 32) (.seq (.reg r53_8) (.ret)) (.skip))))) (.reg r53_9)))
def r53_10 : List AOper := [o 2 (.mv (.c (.bool true)))]
def c53 : ACode := .seq (.reg r53_0) (.seq (.reg r53_1) (.seq (.seq (.reg r53_2) (.cond (.t 19) (.seq (.reg r53_3) (.ret)) (.skip))) (.seq (.seq (.reg r53_4) (.block 0 (.loop l53_0))) (.seq (.reg r53_10) (.ret)))))
/-- jetsam/flow.Right -/
def a53 : AFunc := ⟨1, 34, [.tmp 2], c53⟩
def r56_0 : List AOper := [o 2 (.mv (.c (.nils)))]
def r56_1 : List AOper := [o 3 (.mv (.t 0)),
  o 4 (.eq .slice false (.t 3) (.c (.nils)))]
def r56_2 : List AOper := [o 2 (.mv (.c (.nils)))]
def r56_3 : List AOper := [o 5 (.islice 0 [] []),
  o 6 (.mv (.t 0)),
  o 7 (.app 1 8 (.t 5) (.t 6)),
  o 2 (.mv (.t 7))]
def c56 : ACode := .seq (.reg r56_0) (.seq (.seq (.reg r56_1) (.cond (.t 4) (.seq (.reg r56_2) (.ret)) (.skip))) (.seq (.reg r56_3) (.ret)))
/-- slices.Clone[[]int,int] -/
def a56 : AFunc := ⟨1, 8, [.tmp 2], c56⟩
def r57_0 : List AOper := [o 2 (.mv (.c (.nils)))]
def r57_1 : List AOper := [o 3 (.mv (.t 0)),
  o 4 (.eq .slice false (.t 3) (.c (.nils)))]
def r57_2 : List AOper := [o 2 (.mv (.c (.nils)))]
def r57_3 : List AOper := [o 5 (.islice 0 [] []),
  o 6 (.mv (.t 0)),
  o 7 (.app 2 16 (.t 5) (.t 6)),
  o 2 (.mv (.t 7))]
def c57 : ACode := .seq (.reg r57_0) (.seq (.seq (.reg r57_1) (.cond (.t 4) (.seq (.reg r57_2) (.ret)) (.skip))) (.seq (.reg r57_3) (.ret)))
/-- slices.Clone[[]jetsam/conf.Msg,jetsam/conf.Msg] -/
def a57 : AFunc := ⟨1, 8, [.tmp 2], c57⟩
def r58_0 : List AOper := [o 2 (.box (.t 0)),
  o 4 (.mv (i64 0)),
  o 5 (.mv (i64 0))]
def r58_1 : List AOper := [o 9 (.faddr 0 (.t 2)),
  o 10 (.load none (.t 9)),
  o 11 (.bin .eql (.t 10) (i64 1)),
  o 8 (.mv (.t 11))]
def r58_2 : List AOper := [o 12 (.faddr 1 (.t 2)),
  o 13 (.load none (.t 12)),
  o 4 (.mv (.t 13)),
  o 5 (.mv (i64 0))]
def r58_3 : List AOper := [o 15 (.faddr 0 (.t 2)),
  o 16 (.load none (.t 15)),
  o 17 (.bin .eql (.t 16) (i64 2)),
  o 18 (.mv (.t 17)),
  ⟨some 19, .faddr 2 (.t 2), (some (18, true)), false⟩,
  ⟨some 20, .load none (.t 19), (some (18, true)), false⟩,
  ⟨some 21, .bin .geq (.t 20) (i64 0), (some (18, true)), false⟩,
  o 22 (.pick (.t 18) (.t 21) (.c (.bool false))),
  o 23 (.mv (.t 22)),
  ⟨some 24, .faddr 2 (.t 2), (some (23, true)), false⟩,
  ⟨some 25, .load none (.t 24), (some (23, true)), false⟩,
  ⟨some 26, .mv (.t 1), (some (23, true)), false⟩,
  ⟨some 27, .len false (.t 26), (some (23, true)), false⟩,
  ⟨some 28, .bin .lss (.t 25) (.t 27), (some (23, true)), false⟩,
  o 29 (.pick (.t 23) (.t 28) (.c (.bool false))),
  o 14 (.mv (.t 29))]
def r58_4 : List AOper := [o 30 (.mv (.t 1)),
  o 31 (.faddr 2 (.t 2)),
  o 32 (.load none (.t 31)),
  o 33 (.iaddr 1 (.t 30) (.t 32)),
  o 34 (.load none (.t 33)),
  o 4 (.mv (.t 34)),
  o 5 (.mv (i64 0))]
def r58_5 : List AOper := [o 36 (.faddr 0 (.t 2)),
  o 37 (.load none (.t 36)),
  o 38 (.bin .eql (.t 37) (i64 3)),
  o 39 (.mv (.t 38)),
  ⟨some 40, .faddr 3 (.t 2), (some (39, true)), false⟩,
  ⟨some 41, .load none (.t 40), (some (39, true)), false⟩,
  ⟨some 42, .len false (.t 41), (some (39, true)), false⟩,
  ⟨some 43, .bin .eql (.t 42) (i64 1), (some (39, true)), false⟩,
  o 44 (.pick (.t 39) (.t 43) (.c (.bool false))),
  o 35 (.mv (.t 44))]
def r58_6 : List AOper := [o 46 (.faddr 3 (.t 2)),
  o 47 (.load none (.t 46)),
  o 48 (.iaddr 4 (.t 47) (i64 0)),
  o 49 (.load (some 4) (.t 48)),
  o 50 (.mv (.t 1)),
  o 51 (.call 35 [(.t 49), (.t 50)] .borrow),
  o 45 (.mv (.t 51)),
  o 52 (.ext 0 (.t 45)),
  o 53 (.ext 1 (.t 45)),
  o 6 (.mv (.t 52)),
  o 7 (.mv (.t 53))]
def r58_7 : List AOper := [o 54 (.mv (.t 6)),
  o 55 (.un .neg (.t 54)),
  o 56 (.mv (.t 7)),
  o 4 (.mv (.t 55)),
  o 5 (.mv (.t 56))]
def r58_8 : List AOper := [o 58 (.faddr 0 (.t 2)),
  o 59 (.load none (.t 58)),
  o 60 (.bin .geq (.t 59) (i64 4)),
  o 61 (.mv (.t 60)),
  ⟨some 62, .faddr 0 (.t 2), (some (61, true)), false⟩,
  ⟨some 63, .load none (.t 62), (some (61, true)), false⟩,
  ⟨some 64, .bin .leq (.t 63) (i64 8), (some (61, true)), false⟩,
  o 65 (.pick (.t 61) (.t 64) (.c (.bool false))),
  o 66 (.mv (.t 65)),
  ⟨some 67, .faddr 3 (.t 2), (some (66, true)), false⟩,
  ⟨some 68, .load none (.t 67), (some (66, true)), false⟩,
  ⟨some 69, .len false (.t 68), (some (66, true)), false⟩,
  ⟨some 70, .bin .eql (.t 69) (i64 2), (some (66, true)), false⟩,
  o 71 (.pick (.t 66) (.t 70) (.c (.bool false))),
  o 57 (.mv (.t 71))]
def r58_9 : List AOper := [o 72 (.load (some 4) (.t 2)),
  o 73 (.mv (.t 1)),
  o 74 (.call 80 [(.t 72), (.t 73)] .borrow),
  o 75 (.ext 0 (.t 74)),
  o 76 (.ext 1 (.t 74)),
  o 4 (.mv (.t 75)),
  o 5 (.mv (.t 76))]
def r58_10 : List AOper := [o 4 (.mv (i64 0)),
  o 5 (.mv (i64 0))]
def c58 : ACode := .seq (.reg r58_0) (.seq (.block 0 (.seq (.reg r58_1) (.cond (.t 8) (.seq (.reg r58_2) (.ret)) (.seq (.reg r58_3) (.cond (.t 14) (.seq (.reg r58_4) (.ret)) (.seq (.reg r58_5) (.cond (.t 35) (.seq (.reg r58_6) (.seq (.reg r58_7) (.ret))) (.seq (.reg r58_8) (.cond (.t 57) (.seq (.reg r58_9) (.ret)) (.skip)))))))))) (.seq (.reg r58_10) (.ret)))
/-- jetsam/step.plain -/
def a58 : AFunc := ⟨2, 77, [.tmp 4, .tmp 5], c58⟩
def r59_0 : List AOper := [o 2 (.box (.t 0)),
  o 4 (.mv (.c (.nils))),
  o 5 (.alloc [.bool false, .int .i64 0, .int .i64 0, .int .i64 0]),
  o 6 (.mv (i64 0))]
def r59_1 : List AOper := [o 15 (.load (some 3) (.t 2)),
  o 16 (.call 31 [(.t 15)] .borrow),
  o 14 (.mv (.t 16)),
  o 17 (.ext 0 (.t 14)),
  o 18 (.ext 1 (.t 14)),
  o 7 (.alloc [.nils, .nils, .nils, .nils]),
  ⟨none, .store 4 (.t 7) (.t 17), none, false⟩,
  o 8 (.mv (.t 18))]
def r59_2 : List AOper := [o 19 (.mv (.t 8)),
  o 20 (.bin .neq (.t 19) (i64 0))]
def r59_3 : List AOper := [o 21 (.build [.bool false, .int .i64 0, .int .i64 0, .int .i64 0] []),
  o 22 (.mv (.t 8)),
  o 4 (.mv (.c (.nils))),
  ⟨none, .store 4 (.t 5) (.t 21), none, false⟩,
  o 6 (.mv (.t 22))]
def r59_4 : List AOper := [o 23 (.load (some 4) (.t 7)),
  ⟨some 24, .islice 1 [.nils, .nils, .nils, .nils] [(0, 4, (.t 23))], none, true⟩,
  o 9 (.mv (.t 24))]
def r59_5 : List AOper := [o 25 (.mv (.t 1)),
  o 26 (.len false (.t 25)),
  o 27 (.mv (i64 0))]
def r59_6 : List AOper := [o 28 (.bin .lss (.t 27) (.t 26))]
def r59_7 : List AOper := [o 29 (.iaddr 3 (.t 25) (.t 27)),
  o 30 (.load (some 3) (.t 29)),
  o 11 (.alloc [.int .i64 0, .bool false, .int .i64 0]),
  ⟨none, .store 3 (.t 11) (.t 30), none, false⟩]
def r59_8 : List AOper := [o 32 (.load (some 3) (.t 2)),
  o 33 (.load (some 4) (.t 7)),
  o 34 (.load (some 3) (.t 11)),
  o 35 (.call 73 [(.t 32), (.t 33), (.t 34)] .borrow),
  o 31 (.mv (.t 35)),
  o 36 (.ext 0 (.t 31)),
  o 37 (.ext 1 (.t 31)),
  o 12 (.alloc [.nils, .nils, .nils, .nils]),
  o 13 (.alloc [.bool false, .int .i64 0, .int .i64 0, .int .i64 0]),
  ⟨none, .store 4 (.t 12) (.t 36), none, false⟩,
  ⟨none, .store 4 (.t 13) (.t 37), none, false⟩]
def r59_9 : List AOper := [o 38 (.faddr 1 (.t 13)),
  o 39 (.load none (.t 38)),
  o 40 (.bin .neq (.t 39) (i64 0))]
def r59_10 : List AOper := [o 41 (.mv (.t 9)),
  o 42 (.load (some 4) (.t 13)),
  o 4 (.mv (.t 41)),
  ⟨none, .store 4 (.t 5) (.t 42), none, false⟩,
  o 6 (.mv (i64 0))]
def b59_10 : List (List Nat) := [[], [], [0], [0, 1, 2], [0, 1, 2, 3]]
def r59_11 : List AOper := [o 43 (.load (some 4) (.t 12)),
  ⟨none, .store 4 (.t 7) (.t 43), none, false⟩]
def r59_12 : List AOper := [o 44 (.mv (.t 9)),
  o 45 (.load (some 4) (.t 7)),
  ⟨some 46, .islice 1 [.nils, .nils, .nils, .nils] [(0, 4, (.t 45))], none, true⟩,
  o 47 (.app 4 96 (.t 44) (.t 46)),
  o 9 (.mv (.t 47))]
def r59_13 : List AOper := [o 48 (.bin .add (.t 27) (i64 1)),
  o 27 (.mv (.t 48))]
def l59_0 : ACode := .seq (.reg r59_6) (.seq (.cond (.t 28) (.skip) (.exit 0)) (.seq (.block 1 (.seq (.reg r59_7) (.seq (.reg r59_8) (.seq (.seq (.reg r59_9) (.cond (.t 40) (.seq (.dreg r59_10 b59_10 []) (.ret)) (.skip))) (.seq (.reg r59_11) (.reg r59_12)))))) (.reg r59_13)))
def r59_14 : List AOper := [o 49 (.mv (.t 9)),
  o 50 (.build [.bool false, .int .i64 0, .int .i64 0, .int .i64 0] []),
  o 4 (.mv (.t 49)),
  ⟨none, .store 4 (.t 5) (.t 50), none, false⟩,
  o 6 (.mv (i64 0))]
def c59 : ACode := .seq (.reg r59_0) (.seq (.reg r59_1) (.seq (.seq (.reg r59_2) (.cond (.t 20) (.seq (.reg r59_3) (.ret)) (.skip))) (.seq (.reg r59_4) (.seq (.seq (.reg r59_5) (.block 0 (.loop l59_0))) (.seq (.reg r59_14) (.ret))))))
/-- jetsam/step.Run -/
def a59 : AFunc := ⟨2, 51, [.tmp 4, .cell 5 (some 4), .tmp 6], c59⟩
def r60_0 : List AOper := [o 1 (.box (.t 0)),
  o 2 (.mv (.c (.bool false)))]
def r60_1 : List AOper := [o 7 (.faddr 0 (.t 1)),
  o 8 (.load none (.t 7)),
  o 9 (.len false (.t 8)),
  o 10 (.bin .gtr (.t 9) (i64 4)),
  o 11 (.mv (.t 10)),
  ⟨some 12, .faddr 1 (.t 1), (some (11, false)), false⟩,
  ⟨some 13, .load none (.t 12), (some (11, false)), false⟩,
  ⟨some 14, .len false (.t 13), (some (11, false)), false⟩,
  ⟨some 15, .call 81 [(.t 14), (i64 1), (i64 4)] .borrow, (some (11, false)), false⟩,
  ⟨some 16, .un .not (.t 15), (some (11, false)), false⟩,
  o 17 (.pick (.t 11) (.c (.bool true)) (.t 16))]
def r60_2 : List AOper := [o 2 (.mv (.c (.bool false)))]
def r60_3 : List AOper := [o 18 (.faddr 0 (.t 1)),
  o 19 (.load none (.t 18)),
  o 20 (.len false (.t 19)),
  o 21 (.mv (i64 0))]
def r60_4 : List AOper := [o 22 (.bin .lss (.t 21) (.t 20))]
def r60_5 : List AOper := [o 23 (.iaddr 6 (.t 19) (.t 21)),
  o 24 (.load (some 6) (.t 23)),
  o 4 (.alloc [.int .i64 0, .int .i64 0, .int .i64 0, .int .i64 0, .int .i64 0, .nils]),
  ⟨none, .store 6 (.t 4) (.t 24), none, false⟩]
def r60_6 : List AOper := [o 25 (.load (some 6) (.t 4)),
  o 26 (.faddr 1 (.t 1)),
  o 27 (.load none (.t 26)),
  o 28 (.len false (.t 27)),
  o 29 (.call 82 [(.t 25), (.t 28)] .borrow),
  o 30 (.un .not (.t 29))]
def r60_7 : List AOper := [o 2 (.mv (.c (.bool false)))]
def r60_8 : List AOper := [o 31 (.bin .add (.t 21) (i64 1)),
  o 21 (.mv (.t 31))]
def l60_0 : ACode := .seq (.reg r60_4) (.seq (.cond (.t 22) (.skip) (.exit 0)) (.seq (.block 1 (.seq (.reg r60_5) (.seq (.reg r60_6) (.cond (.t 30) (.seq (.reg r60_7) (.ret)) (.skip))))) (.reg r60_8)))
def r60_9 : List AOper := [o 32 (.faddr 1 (.t 1)),
  o 33 (.load none (.t 32)),
  o 34 (.len false (.t 33)),
  o 35 (.mv (i64 0))]
def r60_10 : List AOper := [o 36 (.bin .lss (.t 35) (.t 34))]
def r60_11 : List AOper := [o 37 (.mv (.t 35)),
  o 38 (.iaddr 2 (.t 33) (.t 35)),
  o 39 (.load (some 2) (.t 38)),
  o 6 (.alloc [.int .i64 0, .nils]),
  o 5 (.mv (.t 37)),
  ⟨none, .store 2 (.t 6) (.t 39), none, false⟩]
def r60_12 : List AOper := [o 40 (.faddr 0 (.t 6)),
  o 41 (.load none (.t 40)),
  o 42 (.call 81 [(.t 41), (i64 0), (i64 6)] .borrow),
  o 43 (.un .not (.t 42)),
  o 44 (.mv (.t 43)),
  ⟨some 45, .load (some 2) (.t 1), (some (44, false)), false⟩,
  ⟨some 46, .mv (.t 5), (some (44, false)), false⟩,
  ⟨some 47, .faddr 0 (.t 6), (some (44, false)), false⟩,
  ⟨some 48, .load none (.t 47), (some (44, false)), false⟩,
  ⟨some 49, .build [.nils, .nils, .int .i64 0, .int .i64 0] [(0, 2, (.t 45)), (2, 1, (.t 46)), (3, 1, (.t 48))], (some (44, false)), false⟩,
  ⟨some 50, .faddr 1 (.t 6), (some (44, false)), false⟩,
  ⟨some 51, .load none (.t 50), (some (44, false)), false⟩,
  ⟨some 52, .call 83 [(.t 49), (.t 51)] .borrow, (some (44, false)), false⟩,
  ⟨some 53, .un .not (.t 52), (some (44, false)), false⟩,
  o 54 (.pick (.t 44) (.c (.bool true)) (.t 53))]
def r60_13 : List AOper := [o 2 (.mv (.c (.bool false)))]
def r60_14 : List AOper := [o 55 (.bin .add (.t 35) (i64 1)),
  o 35 (.mv (.t 55))]
def l60_1 : ACode := .seq (.reg r60_10) (.seq (.cond (.t 36) (.skip) (.exit 2)) (.seq (.block 3 (.seq (.reg r60_11) (.seq (.reg r60_12) (.cond (.t 54) (.seq (.reg r60_13) (.ret)) (.skip))))) (.reg r60_14)))
def r60_15 : List AOper := [o 2 (.mv (.c (.bool true)))]
def c60 : ACode := .seq (.reg r60_0) (.seq (.seq (.reg r60_1) (.cond (.t 17) (.seq (.reg r60_2) (.ret)) (.skip))) (.seq (.seq (.reg r60_3) (.block 0 (.loop l60_0))) (.seq (.seq (.reg r60_9) (.block 2 (.loop l60_1))) (.seq (.reg r60_15) (.ret)))))
/-- jetsam/check.Right -/
def a60 : AFunc := ⟨1, 56, [.tmp 2], c60⟩
def r73_0 : List AOper := [o 3 (.box (.t 0)),
  o 4 (.box (.t 1)),
  o 5 (.box (.t 2)),
  o 6 (.alloc [.nils, .nils, .nils, .nils]),
  o 7 (.alloc [.bool false, .int .i64 0, .int .i64 0, .int .i64 0])]
def r73_1 : List AOper := [o 13 (.load (some 4) (.t 4)),
  o 14 (.call 33 [(.t 13)] .share),
  ⟨none, .store 4 (.t 4) (.t 14), none, false⟩]
def r73_2 : List AOper := [o 15 (.faddr 0 (.t 5)),
  o 16 (.load none (.t 15)),
  o 17 (.bin .lss (.t 16) (i64 0)),
  o 18 (.mv (.t 17)),
  ⟨some 19, .faddr 0 (.t 5), (some (18, false)), false⟩,
  ⟨some 20, .load none (.t 19), (some (18, false)), false⟩,
  ⟨some 21, .faddr 1 (.t 3), (some (18, false)), false⟩,
  ⟨some 22, .load none (.t 21), (some (18, false)), false⟩,
  ⟨some 23, .len false (.t 22), (some (18, false)), false⟩,
  ⟨some 24, .bin .geq (.t 20) (.t 23), (some (18, false)), false⟩,
  o 25 (.pick (.t 18) (.c (.bool true)) (.t 24))]
def r73_3 : List AOper := [o 26 (.load (some 4) (.t 4)),
  o 27 (.build [.bool false, .int .i64 0, .int .i64 0, .int .i64 0] []),
  ⟨none, .store 4 (.t 6) (.t 26), none, false⟩,
  ⟨none, .store 4 (.t 7) (.t 27), none, false⟩]
def r73_4 : List AOper := [o 28 (.faddr 1 (.t 3)),
  o 29 (.load none (.t 28)),
  o 30 (.faddr 0 (.t 5)),
  o 31 (.load none (.t 30)),
  o 32 (.iaddr 3 (.t 29) (.t 31)),
  o 33 (.load (some 3) (.t 32)),
  o 8 (.alloc [.int .i64 0, .nils, .nils]),
  ⟨none, .store 3 (.t 8) (.t 33), none, false⟩]
def r73_5 : List AOper := [o 34 (.load (some 3) (.t 8)),
  o 35 (.faddr 0 (.t 4)),
  o 36 (.load none (.t 35)),
  o 37 (.faddr 0 (.t 5)),
  o 38 (.load none (.t 37)),
  o 39 (.iaddr 1 (.t 36) (.t 38)),
  o 40 (.load none (.t 39)),
  o 41 (.call 50 [(.t 34), (.t 40)] .borrow),
  o 9 (.mv (.t 41))]
def b73_5 : List (List Nat) := [[], [], [1], [], [3], [1, 2, 3, 4], [1, 2, 3, 4, 5], [0, 1, 2, 3, 4, 5, 6], [0, 1, 2, 3, 4, 5, 6, 7]]
def r73_6 : List AOper := [o 42 (.mv (.t 9)),
  o 43 (.len false (.t 42)),
  o 44 (.bin .eql (.t 43) (i64 0))]
def r73_7 : List AOper := [o 45 (.load (some 4) (.t 4)),
  o 46 (.build [.bool false, .int .i64 0, .int .i64 0, .int .i64 0] []),
  ⟨none, .store 4 (.t 6) (.t 45), none, false⟩,
  ⟨none, .store 4 (.t 7) (.t 46), none, false⟩]
def r73_8 : List AOper := [o 47 (.load (some 3) (.t 3)),
  o 48 (.load (some 4) (.t 4)),
  o 49 (.load (some 3) (.t 5)),
  o 50 (.load (some 3) (.t 8)),
  o 51 (.mv (.t 9)),
  o 52 (.faddr 1 (.t 8)),
  o 53 (.load none (.t 52)),
  o 54 (.mv (.t 9)),
  o 55 (.iaddr 1 (.t 54) (i64 0)),
  o 56 (.load none (.t 55)),
  o 57 (.iaddr 19 (.t 53) (.t 56)),
  o 58 (.load (some 19) (.t 57)),
  o 59 (.faddr 1 (.t 4)),
  o 60 (.load none (.t 59)),
  o 61 (.faddr 0 (.t 5)),
  o 62 (.load none (.t 61)),
  o 63 (.iaddr 1 (.t 60) (.t 62)),
  o 64 (.load none (.t 63)),
  o 65 (.build [.nils, .nils, .nils, .nils, .nils, .nils, .nils, .int .i64 0, .bool false, .int .i64 0, .int .i64 0, .nils, .nils, .nils, .int .i64 0, .int .i64 0, .int .i64 0, .int .i64 0, .int .i64 0, .int .i64 0, .int .i64 0, .int .i64 0, .int .i64 0, .nils, .int .i64 0, .int .i64 0, .int .i64 0, .int .i64 0, .nils, .int .i64 0, .int .i64 0, .int .i64 0, .nils, .nils] [(0, 3, (.t 47)), (3, 4, (.t 48)), (7, 3, (.t 49)), (10, 3, (.t 50)), (13, 1, (.t 51)), (14, 19, (.t 58)), (33, 1, (.t 64))]),
  o 66 (.box (.t 65)),
  o 10 (.mv (.t 66))]
def b73_8 : List (List Nat) := [[], [], [], [], [], [], [5], [], [7], [7, 8], [5, 6, 7, 8, 9], [5, 6, 7, 8, 9, 10], [], [12], [], [14], [12, 13, 14, 15], [12, 13, 14, 15, 16], [0, 1, 2, 3, 4, 5, 6, 7, 8, 9, 10, 11, 12, 13, 14, 15, 16, 17], [0, 1, 2, 3, 4, 5, 6, 7, 8, 9, 10, 11, 12, 13, 14, 15, 16, 17, 18], [0, 1, 2, 3, 4, 5, 6, 7, 8, 9, 10, 11, 12, 13, 14, 15, 16, 17, 18, 19]]
def r73_9 : List AOper := [o 68 (.mv (.t 10)),
  o 69 (.call 98 [(.t 68)] .share),
  o 67 (.mv (.t 69)),
  o 70 (.ext 0 (.t 67)),
  o 71 (.ext 1 (.t 67)),
  o 11 (.alloc [.bool false, .int .i64 0, .int .i64 0, .int .i64 0]),
  ⟨none, .store 4 (.t 11) (.t 70), none, false⟩,
  o 12 (.mv (.t 71))]
def r73_10 : List AOper := [o 72 (.mv (.t 10)),
  o 73 (.nilck (.t 72)),
  o 74 (.faddr 3 (.t 73)),
  o 75 (.load (some 4) (.t 74)),
  o 76 (.load (some 4) (.t 11)),
  ⟨none, .store 4 (.t 6) (.t 75), none, false⟩,
  ⟨none, .store 4 (.t 7) (.t 76), none, false⟩]
def b73_10 : List (List Nat) := [[], [0], [0, 1], [0, 1, 2], [], [0, 1, 2, 3], [0, 1, 2, 3, 4, 5]]
def c73 : ACode := .seq (.reg r73_0) (.seq (.reg r73_1) (.seq (.seq (.reg r73_2) (.cond (.t 25) (.seq (.reg r73_3) (.ret)) (.skip))) (.seq (.reg r73_4) (.seq (.dreg r73_5 b73_5 []) (.seq (.seq (.reg r73_6) (.cond (.t 44) (.seq (.reg r73_7) (.ret)) (.skip))) (.seq (.dreg r73_8 b73_8 []) (.seq (.reg r73_9) (.seq (.dreg r73_10 b73_10 [(4, 5)]) (.ret)))))))))
/-- jetsam/step.one -/
def a73 : AFunc := ⟨3, 77, [.cell 6 (some 4), .cell 7 (some 4)], c73⟩
def r74_0 : List AOper := [o 1 (.box (.t 0)),
  o 2 (.alloc [.nils, .nils])]
def r74_1 : List AOper := [o 6 (.faddr 0 (.t 1)),
  o 7 (.load none (.t 6)),
  o 8 (.build [.nils, .nils] [(0, 1, (.t 7))]),
  o 3 (.alloc [.nils, .nils]),
  ⟨none, .store 2 (.t 3) (.t 8), none, false⟩]
def r74_2 : List AOper := [o 9 (.faddr 2 (.t 1)),
  o 10 (.load none (.t 9)),
  o 11 (.len false (.t 10)),
  o 12 (.mv (i64 0))]
def r74_3 : List AOper := [o 13 (.bin .lss (.t 12) (.t 11))]
def r74_4 : List AOper := [o 14 (.iaddr 1 (.t 10) (.t 12)),
  o 15 (.load none (.t 14)),
  o 5 (.mv (.t 15))]
def r74_5 : List AOper := [o 16 (.faddr 1 (.t 3)),
  o 17 (.load none (.t 16)),
  o 18 (.mv (.t 5)),
  o 19 (.build [.int .i64 0, .nils] [(0, 1, (.t 18))]),
  ⟨some 20, .islice 1 [.int .i64 0, .nils] [(0, 2, (.t 19))], none, true⟩,
  o 21 (.app 2 32 (.t 17) (.t 20)),
  o 22 (.faddr 1 (.t 3)),
  ⟨none, .store 1 (.t 22) (.t 21), none, false⟩]
def r74_6 : List AOper := [o 23 (.bin .add (.t 12) (i64 1)),
  o 12 (.mv (.t 23))]
def l74_0 : ACode := .seq (.reg r74_3) (.seq (.cond (.t 13) (.skip) (.exit 0)) (.seq (.block 1 (.seq (.reg r74_4) (.reg r74_5))) (.reg r74_6)))
def r74_7 : List AOper := [o 24 (.load (some 2) (.t 3)),
  ⟨none, .store 2 (.t 2) (.t 24), none, false⟩]
def c74 : ACode := .seq (.reg r74_0) (.seq (.reg r74_1) (.seq (.seq (.reg r74_2) (.block 0 (.loop l74_0))) (.seq (.reg r74_7) (.ret))))
/-- jetsam/flow.frame -/
def a74 : AFunc := ⟨1, 25, [.cell 2 (some 2)], c74⟩
def r75_0 : List AOper := [o 3 (.box (.t 0)),
  o 5 (.box (.t 2)),
  o 6 (.mv (.c (.bool false)))]
def r75_1 : List AOper := [o 10 (.faddr 0 (.t 5)),
  o 11 (.load none (.t 10)),
  o 12 (.bin .lss (.t 11) (i64 2)),
  o 13 (.mv (.t 12)),
  ⟨some 14, .faddr 0 (.t 5), (some (13, false)), false⟩,
  ⟨some 15, .load none (.t 14), (some (13, false)), false⟩,
  ⟨some 16, .bin .gtr (.t 15) (i64 802), (some (13, false)), false⟩,
  o 17 (.pick (.t 13) (.c (.bool true)) (.t 16)),
  o 18 (.mv (.t 17)),
  ⟨some 19, .faddr 1 (.t 5), (some (18, false)), false⟩,
  ⟨some 20, .load none (.t 19), (some (18, false)), false⟩,
  ⟨some 21, .len false (.t 20), (some (18, false)), false⟩,
  ⟨some 22, .bin .gtr (.t 21) (i64 400), (some (18, false)), false⟩,
  o 23 (.pick (.t 18) (.c (.bool true)) (.t 22)),
  o 24 (.mv (.t 23)),
  ⟨some 25, .load (some 3) (.t 5), (some (24, false)), false⟩,
  ⟨some 26, .call 99 [(.t 25)] .borrow, (some (24, false)), false⟩,
  ⟨some 27, .un .not (.t 26), (some (24, false)), false⟩,
  o 28 (.pick (.t 24) (.c (.bool true)) (.t 27))]
def r75_2 : List AOper := [o 6 (.mv (.c (.bool false)))]
def r75_3 : List AOper := [o 29 (.faddr 1 (.t 5)),
  o 30 (.load none (.t 29)),
  o 31 (.len false (.t 30)),
  o 32 (.mv (i64 0))]
def r75_4 : List AOper := [o 33 (.bin .lss (.t 32) (.t 31))]
def r75_5 : List AOper := [o 34 (.iaddr 19 (.t 30) (.t 32)),
  o 35 (.load (some 19) (.t 34)),
  o 8 (.alloc [.int .i64 0, .int .i64 0, .int .i64 0, .int .i64 0, .int .i64 0, .int .i64 0, .int .i64 0, .int .i64 0, .int .i64 0, .nils, .int .i64 0, .int .i64 0, .int .i64 0, .int .i64 0, .nils, .int .i64 0, .int .i64 0, .int .i64 0, .nils]),
  ⟨none, .store 19 (.t 8) (.t 35), none, false⟩]
def r75_6 : List AOper := [o 36 (.load (some 2) (.t 3)),
  o 37 (.mv (.t 1)),
  o 38 (.load (some 3) (.t 5)),
  o 39 (.load (some 19) (.t 8)),
  o 40 (.call 100 [(.t 36), (.t 37), (.t 38), (.t 39)] .borrow),
  o 41 (.un .not (.t 40))]
def r75_7 : List AOper := [o 6 (.mv (.c (.bool false)))]
def r75_8 : List AOper := [o 42 (.bin .add (.t 32) (i64 1)),
  o 32 (.mv (.t 42))]
def l75_0 : ACode := .seq (.reg r75_4) (.seq (.cond (.t 33) (.skip) (.exit 0)) (.seq (.block 1 (.seq (.reg r75_5) (.seq (.reg r75_6) (.cond (.t 41) (.seq (.reg r75_7) (.ret)) (.skip))))) (.reg r75_8)))
def r75_9 : List AOper := [o 43 (.faddr 0 (.t 5)),
  o 44 (.load none (.t 43)),
  o 45 (.mv (i64 0))]
def r75_10 : List AOper := [o 46 (.bin .lss (.t 45) (.t 44))]
def r75_11 : List AOper := [o 47 (.mv (.t 45)),
  o 9 (.mv (.t 47))]
def r75_12 : List AOper := [o 48 (.load (some 3) (.t 5)),
  o 49 (.mv (.t 9)),
  o 50 (.call 101 [(.t 48), (.t 49)] .borrow),
  o 51 (.un .not (.t 50))]
def r75_13 : List AOper := [o 6 (.mv (.c (.bool false)))]
def r75_14 : List AOper := [o 52 (.bin .add (.t 45) (i64 1)),
  o 45 (.mv (.t 52))]
def l75_1 : ACode := .seq (.reg r75_10) (.seq (.cond (.t 46) (.skip) (.exit 2)) (.seq (.block 3 (.seq (.reg r75_11) (.seq (.reg r75_12) (.cond (.t 51) (.seq (.reg r75_13) (.ret)) (.skip))))) (.reg r75_14)))
def r75_15 : List AOper := [o 53 (.load (some 3) (.t 5)),
  o 54 (.call 102 [(.t 53)] .borrow),
  o 55 (.un .not (.t 54)),
  o 6 (.mv (.t 55))]
def c75 : ACode := .seq (.reg r75_0) (.seq (.seq (.reg r75_1) (.cond (.t 28) (.seq (.reg r75_2) (.ret)) (.skip))) (.seq (.seq (.reg r75_3) (.block 0 (.loop l75_0))) (.seq (.seq (.reg r75_9) (.block 2 (.loop l75_1))) (.seq (.reg r75_15) (.ret)))))
/-- jetsam/flow.graph -/
def a75 : AFunc := ⟨3, 56, [.tmp 6], c75⟩
def r80_0 : List AOper := [o 2 (.box (.t 0)),
  o 4 (.mv (i64 0)),
  o 5 (.mv (i64 0))]
def r80_1 : List AOper := [o 10 (.faddr 3 (.t 2)),
  o 11 (.load none (.t 10)),
  o 12 (.iaddr 4 (.t 11) (i64 0)),
  o 13 (.load (some 4) (.t 12)),
  o 14 (.mv (.t 1)),
  o 15 (.call 35 [(.t 13), (.t 14)] .borrow),
  o 9 (.mv (.t 15)),
  o 16 (.ext 0 (.t 9)),
  o 17 (.ext 1 (.t 9)),
  o 6 (.mv (.t 16)),
  o 7 (.mv (.t 17))]
def r80_2 : List AOper := [o 18 (.mv (.t 7)),
  o 19 (.bin .neq (.t 18) (i64 0))]
def r80_3 : List AOper := [o 20 (.mv (.t 7)),
  o 4 (.mv (i64 0)),
  o 5 (.mv (.t 20))]
def r80_4 : List AOper := [o 22 (.faddr 3 (.t 2)),
  o 23 (.load none (.t 22)),
  o 24 (.iaddr 4 (.t 23) (i64 1)),
  o 25 (.load (some 4) (.t 24)),
  o 26 (.mv (.t 1)),
  o 27 (.call 35 [(.t 25), (.t 26)] .borrow),
  o 21 (.mv (.t 27)),
  o 28 (.ext 0 (.t 21)),
  o 29 (.ext 1 (.t 21)),
  o 8 (.mv (.t 28)),
  o 7 (.mv (.t 29))]
def r80_5 : List AOper := [o 30 (.mv (.t 7)),
  o 31 (.bin .neq (.t 30) (i64 0))]
def r80_6 : List AOper := [o 32 (.mv (.t 7)),
  o 4 (.mv (i64 0)),
  o 5 (.mv (.t 32))]
def r80_7 : List AOper := [o 33 (.faddr 0 (.t 2)),
  o 34 (.load none (.t 33)),
  o 35 (.mv (.t 6)),
  o 36 (.mv (.t 8)),
  o 37 (.call 103 [(.t 34), (.t 35), (.t 36)] .borrow),
  o 38 (.ext 0 (.t 37)),
  o 39 (.ext 1 (.t 37)),
  o 4 (.mv (.t 38)),
  o 5 (.mv (.t 39))]
def c80 : ACode := .seq (.reg r80_0) (.seq (.reg r80_1) (.seq (.seq (.reg r80_2) (.cond (.t 19) (.seq (.reg r80_3) (.ret)) (.skip))) (.seq (.reg r80_4) (.seq (.seq (.reg r80_5) (.cond (.t 31) (.seq (.reg r80_6) (.ret)) (.skip))) (.seq (.reg r80_7) (.ret))))))
/-- jetsam/step.pair -/
def a80 : AFunc := ⟨2, 40, [.tmp 4, .tmp 5], c80⟩
def r81_0 : List AOper := [o 6 (.mv (.c (.bool false)))]
def r81_1 : List AOper := [o 7 (.mv (.t 0)),
  o 8 (.mv (.t 1)),
  o 9 (.bin .geq (.t 7) (.t 8)),
  o 10 (.mv (.t 9)),
  ⟨some 11, .mv (.t 0), (some (10, true)), false⟩,
  ⟨some 12, .mv (.t 2), (some (10, true)), false⟩,
  ⟨some 13, .bin .leq (.t 11) (.t 12), (some (10, true)), false⟩,
  o 14 (.pick (.t 10) (.t 13) (.c (.bool false))),
  o 6 (.mv (.t 14))]
def c81 : ACode := .seq (.reg r81_0) (.seq (.reg r81_1) (.ret))
/-- jetsam/check.within -/
def a81 : AFunc := ⟨3, 15, [.tmp 6], c81⟩
def r82_0 : List AOper := [o 2 (.box (.t 0)),
  o 4 (.mv (.c (.bool false)))]
def r82_1 : List AOper := [o 6 (.faddr 0 (.t 2)),
  o 7 (.load none (.t 6)),
  o 8 (.call 81 [(.t 7), (i64 0), (i64 2)] .borrow),
  o 9 (.mv (.t 8)),
  ⟨some 10, .faddr 1 (.t 2), (some (9, true)), false⟩,
  ⟨some 11, .load none (.t 10), (some (9, true)), false⟩,
  ⟨some 12, .call 81 [(.t 11), (i64 1), (i64 16)] .borrow, (some (9, true)), false⟩,
  o 13 (.pick (.t 9) (.t 12) (.c (.bool false))),
  o 14 (.mv (.t 13)),
  ⟨some 15, .faddr 4 (.t 2), (some (14, true)), false⟩,
  ⟨some 16, .load none (.t 15), (some (14, true)), false⟩,
  ⟨some 17, .call 81 [(.t 16), (i64 1), (i64 4)] .borrow, (some (14, true)), false⟩,
  o 18 (.pick (.t 14) (.t 17) (.c (.bool false))),
  o 5 (.mv (.t 18))]
def r82_2 : List AOper := [o 19 (.mv (.t 5)),
  o 20 (.mv (.t 19)),
  ⟨some 21, .faddr 2 (.t 2), (some (20, true)), false⟩,
  ⟨some 22, .load none (.t 21), (some (20, true)), false⟩,
  ⟨some 23, .mv (.t 1), (some (20, true)), false⟩,
  ⟨some 24, .bin .sub (.t 23) (i64 1), (some (20, true)), false⟩,
  ⟨some 25, .call 81 [(.t 22), (i64 0), (.t 24)] .borrow, (some (20, true)), false⟩,
  o 26 (.pick (.t 20) (.t 25) (.c (.bool false))),
  o 27 (.mv (.t 26)),
  ⟨some 28, .faddr 3 (.t 2), (some (27, true)), false⟩,
  ⟨some 29, .load none (.t 28), (some (27, true)), false⟩,
  ⟨some 30, .mv (.t 1), (some (27, true)), false⟩,
  ⟨some 31, .bin .sub (.t 30) (i64 1), (some (27, true)), false⟩,
  ⟨some 32, .call 81 [(.t 29), (i64 0), (.t 31)] .borrow, (some (27, true)), false⟩,
  o 33 (.pick (.t 27) (.t 32) (.c (.bool false))),
  o 34 (.mv (.t 33)),
  ⟨some 35, .faddr 2 (.t 2), (some (34, true)), false⟩,
  ⟨some 36, .load none (.t 35), (some (34, true)), false⟩,
  ⟨some 37, .faddr 3 (.t 2), (some (34, true)), false⟩,
  ⟨some 38, .load none (.t 37), (some (34, true)), false⟩,
  ⟨some 39, .bin .neq (.t 36) (.t 38), (some (34, true)), false⟩,
  o 40 (.pick (.t 34) (.t 39) (.c (.bool false))),
  o 41 (.mv (.t 40)),
  ⟨some 42, .load (some 6) (.t 2), (some (41, true)), false⟩,
  ⟨some 43, .call 104 [(.t 42)] .borrow, (some (41, true)), false⟩,
  o 44 (.pick (.t 41) (.t 43) (.c (.bool false))),
  o 4 (.mv (.t 44))]
def c82 : ACode := .seq (.reg r82_0) (.seq (.reg r82_1) (.seq (.reg r82_2) (.ret)))
/-- jetsam/check.channel -/
def a82 : AFunc := ⟨2, 45, [.tmp 4], c82⟩
def r83_0 : List AOper := [o 2 (.box (.t 0)),
  o 4 (.mv (.c (.bool false)))]
def r83_1 : List AOper := [o 7 (.mv (.t 1)),
  o 8 (.len false (.t 7)),
  o 9 (.mv (i64 0))]
def r83_2 : List AOper := [o 10 (.bin .lss (.t 9) (.t 8))]
def r83_3 : List AOper := [o 11 (.iaddr 20 (.t 7) (.t 9)),
  o 12 (.load (some 20) (.t 11)),
  o 6 (.alloc [.int .i64 0, .int .i64 0, .int .i64 0, .int .i64 0, .int .i64 0, .int .i64 0, .int .i64 0, .nils, .int .i64 0, .int .i64 0, .int .i64 0, .int .i64 0, .nils, .int .i64 0, .int .i64 0, .int .i64 0, .nils, .nils, .nils, .nils]),
  ⟨none, .store 20 (.t 6) (.t 12), none, false⟩]
def r83_4 : List AOper := [o 13 (.load (some 4) (.t 2)),
  o 14 (.load (some 20) (.t 6)),
  o 15 (.call 105 [(.t 13), (.t 14)] .borrow),
  o 16 (.un .not (.t 15))]
def r83_5 : List AOper := [o 4 (.mv (.c (.bool false)))]
def r83_6 : List AOper := [o 17 (.bin .add (.t 9) (i64 1)),
  o 9 (.mv (.t 17))]
def l83_0 : ACode := .seq (.reg r83_2) (.seq (.cond (.t 10) (.skip) (.exit 0)) (.seq (.block 1 (.seq (.reg r83_3) (.seq (.reg r83_4) (.cond (.t 16) (.seq (.reg r83_5) (.ret)) (.skip))))) (.reg r83_6)))
def r83_7 : List AOper := [o 4 (.mv (.c (.bool true)))]
def c83 : ACode := .seq (.reg r83_0) (.seq (.seq (.reg r83_1) (.block 0 (.loop l83_0))) (.seq (.reg r83_7) (.ret)))
/-- (jetsam/check.looker).stmts -/
def a83 : AFunc := ⟨2, 18, [.tmp 4], c83⟩
def r98_0 : List AOper := [o 2 (.alloc [.bool false, .int .i64 0, .int .i64 0, .int .i64 0]),
  o 3 (.mv (.c (.bool false)))]
def r98_1 : List AOper := [o 4 (.mv (.t 0)),
  o 5 (.nilck (.t 4)),
  o 6 (.faddr 14 (.t 5)),
  o 7 (.faddr 2 (.t 6)),
  o 8 (.load none (.t 7))]
def r98_2 : List AOper := [o 10 (.bin .eql (.t 8) (i64 1)),
  o 9 (.mv (.t 10))]
def r98_3 : List AOper := [o 11 (.mv (.t 0)),
  o 12 (.call 130 [(.t 11)] .share),
  o 13 (.ext 0 (.t 12)),
  o 14 (.ext 1 (.t 12)),
  ⟨none, .store 4 (.t 2) (.t 13), none, false⟩,
  o 3 (.mv (.t 14))]
def r98_4 : List AOper := [o 16 (.bin .eql (.t 8) (i64 2)),
  o 15 (.mv (.t 16))]
def r98_5 : List AOper := [o 17 (.mv (.t 0)),
  o 18 (.call 131 [(.t 17)] .share),
  o 19 (.ext 0 (.t 18)),
  o 20 (.ext 1 (.t 18)),
  ⟨none, .store 4 (.t 2) (.t 19), none, false⟩,
  o 3 (.mv (.t 20))]
def r98_6 : List AOper := [o 22 (.bin .eql (.t 8) (i64 5)),
  o 21 (.mv (.t 22))]
def r98_7 : List AOper := [o 23 (.mv (.t 0)),
  o 24 (.call 132 [(.t 23)] .share),
  o 25 (.ext 0 (.t 24)),
  o 26 (.ext 1 (.t 24)),
  ⟨none, .store 4 (.t 2) (.t 25), none, false⟩,
  o 3 (.mv (.t 26))]
def r98_8 : List AOper := [o 28 (.bin .eql (.t 8) (i64 3)),
  o 27 (.mv (.t 28))]
def r98_9 : List AOper := [o 29 (.mv (.t 0)),
  o 30 (.call 133 [(.t 29)] .share),
  o 31 (.ext 0 (.t 30)),
  o 32 (.ext 1 (.t 30)),
  ⟨none, .store 4 (.t 2) (.t 31), none, false⟩,
  o 3 (.mv (.t 32))]
def r98_10 : List AOper := [o 34 (.bin .eql (.t 8) (i64 4)),
  o 33 (.mv (.t 34))]
def r98_11 : List AOper := [o 35 (.mv (.t 0)),
  o 36 (.call 134 [(.t 35)] .share),
  o 37 (.ext 0 (.t 36)),
  o 38 (.ext 1 (.t 36)),
  ⟨none, .store 4 (.t 2) (.t 37), none, false⟩,
  o 3 (.mv (.t 38))]
def r98_12 : List AOper := [o 40 (.bin .eql (.t 8) (i64 6)),
  o 39 (.mv (.t 40))]
def r98_13 : List AOper := [o 41 (.mv (.t 0)),
  o 42 (.nilck (.t 41)),
  o 43 (.faddr 33 (.t 42)),
  o 44 (.load none (.t 43)),
  o 45 (.mv (.t 0)),
  o 46 (.nilck (.t 45)),
  o 47 (.faddr 14 (.t 46)),
  o 48 (.faddr 3 (.t 47)),
  o 49 (.load none (.t 48)),
  o 50 (.mv (.t 0)),
  o 51 (.nilck (.t 50)),
  o 52 (.faddr 7 (.t 51)),
  o 53 (.faddr 2 (.t 52)),
  o 54 (.load none (.t 53)),
  o 55 (.conv .i32 (.t 54)),
  o 56 (.conv .i64 (.t 55)),
  o 57 (.iaddr 1 (.t 44) (.t 49)),
  ⟨none, .store 1 (.t 57) (.t 56), none, false⟩]
def b98_13 : List (List Nat) := [[], [0], [0, 1], [0, 1, 2], [], [4], [4, 5], [4, 5, 6], [4, 5, 6, 7], [], [9], [9, 10], [9, 10, 11], [9, 10, 11, 12], [9, 10, 11, 12, 13], [9, 10, 11, 12, 13, 14], [0, 1, 2, 3, 4, 5, 6, 7, 8, 9, 10, 11, 12, 13, 14, 15], [0, 1, 2, 3, 4, 5, 6, 7, 8, 9, 10, 11, 12, 13, 14, 15, 16]]
def r98_14 : List AOper := [o 58 (.mv (.t 0)),
  o 59 (.mv (.t 0)),
  o 60 (.nilck (.t 59)),
  o 61 (.faddr 14 (.t 60)),
  o 62 (.faddr 1 (.t 61)),
  o 63 (.load none (.t 62)),
  o 64 (.call 135 [(.t 58), (.t 63)] .share),
  o 65 (.ext 0 (.t 64)),
  o 66 (.ext 1 (.t 64)),
  ⟨none, .store 4 (.t 2) (.t 65), none, false⟩,
  o 3 (.mv (.t 66))]
def c98 : ACode := .seq (.reg r98_0) (.seq (.seq (.reg r98_1) (.block 0 (.seq (.reg r98_2) (.cond (.t 9) (.seq (.reg r98_3) (.ret)) (.seq (.reg r98_4) (.cond (.t 15) (.seq (.reg r98_5) (.ret)) (.seq (.reg r98_6) (.cond (.t 21) (.seq (.reg r98_7) (.ret)) (.seq (.reg r98_8) (.cond (.t 27) (.seq (.reg r98_9) (.ret)) (.seq (.reg r98_10) (.cond (.t 33) (.seq (.reg r98_11) (.ret)) (.seq (.reg r98_12) (.cond (.t 39) (.dreg r98_13 b98_13 []) (.skip))))))))))))))) (.seq (.reg r98_14) (.ret)))
/-- (*jetsam/step.runner).step -/
def a98 : AFunc := ⟨1, 67, [.cell 2 (some 4), .tmp 3], c98⟩
def r99_0 : List AOper := [o 1 (.box (.t 0)),
  o 2 (.mv (.c (.bool false)))]
def r99_1 : List AOper := [o 5 (.faddr 2 (.t 1)),
  o 6 (.load none (.t 5)),
  o 7 (.len false (.t 6)),
  o 8 (.mv (i64 0))]
def r99_2 : List AOper := [o 9 (.bin .lss (.t 8) (.t 7))]
def r99_3 : List AOper := [o 10 (.mv (.t 8)),
  o 11 (.iaddr 1 (.t 6) (.t 8)),
  o 12 (.load none (.t 11)),
  o 3 (.mv (.t 10)),
  o 4 (.mv (.t 12))]
def r99_4 : List AOper := [o 13 (.mv (.t 4)),
  o 14 (.bin .lss (.t 13) (i64 0)),
  o 15 (.mv (.t 14)),
  ⟨some 16, .mv (.t 4), (some (15, false)), false⟩,
  ⟨some 17, .faddr 0 (.t 1), (some (15, false)), false⟩,
  ⟨some 18, .load none (.t 17), (some (15, false)), false⟩,
  ⟨some 19, .bin .geq (.t 16) (.t 18), (some (15, false)), false⟩,
  o 20 (.pick (.t 15) (.c (.bool true)) (.t 19)),
  o 21 (.mv (.t 20)),
  ⟨some 22, .mv (.t 3), (some (21, false)), false⟩,
  ⟨some 23, .bin .gtr (.t 22) (i64 0), (some (21, false)), false⟩,
  ⟨some 24, .mv (.t 23), (some (21, false)), false⟩,
  ⟨some 25, .faddr 2 (.t 1), (some (24, true)), false⟩,
  ⟨some 26, .load none (.t 25), (some (24, true)), false⟩,
  ⟨some 27, .mv (.t 3), (some (24, true)), false⟩,
  ⟨some 28, .bin .sub (.t 27) (i64 1), (some (24, true)), false⟩,
  ⟨some 29, .iaddr 1 (.t 26) (.t 28), (some (24, true)), false⟩,
  ⟨some 30, .load none (.t 29), (some (24, true)), false⟩,
  ⟨some 31, .mv (.t 4), (some (24, true)), false⟩,
  ⟨some 32, .bin .geq (.t 30) (.t 31), (some (24, true)), false⟩,
  ⟨some 33, .pick (.t 24) (.t 32) (.c (.bool false)), (some (21, false)), false⟩,
  o 34 (.pick (.t 21) (.c (.bool true)) (.t 33))]
def r99_5 : List AOper := [o 2 (.mv (.c (.bool false)))]
def r99_6 : List AOper := [o 35 (.bin .add (.t 8) (i64 1)),
  o 8 (.mv (.t 35))]
def l99_0 : ACode := .seq (.reg r99_2) (.seq (.cond (.t 9) (.skip) (.exit 0)) (.seq (.block 1 (.seq (.reg r99_3) (.seq (.reg r99_4) (.cond (.t 34) (.seq (.reg r99_5) (.ret)) (.skip))))) (.reg r99_6)))
def r99_7 : List AOper := [o 2 (.mv (.c (.bool true)))]
def c99 : ACode := .seq (.reg r99_0) (.seq (.seq (.reg r99_1) (.block 0 (.loop l99_0))) (.seq (.reg r99_7) (.ret)))
/-- jetsam/flow.heads -/
def a99 : AFunc := ⟨1, 36, [.tmp 2], c99⟩
def r100_0 : List AOper := [o 4 (.box (.t 0)),
  o 6 (.box (.t 2)),
  o 7 (.box (.t 3)),
  o 8 (.mv (.c (.bool false)))]
def r100_1 : List AOper := [o 12 (.faddr 0 (.t 7)),
  o 13 (.load none (.t 12)),
  o 14 (.bin .lss (.t 13) (i64 0)),
  o 15 (.mv (.t 14)),
  ⟨some 16, .faddr 0 (.t 7), (some (15, false)), false⟩,
  ⟨some 17, .load none (.t 16), (some (15, false)), false⟩,
  ⟨some 18, .faddr 0 (.t 6), (some (15, false)), false⟩,
  ⟨some 19, .load none (.t 18), (some (15, false)), false⟩,
  ⟨some 20, .bin .geq (.t 17) (.t 19), (some (15, false)), false⟩,
  o 21 (.pick (.t 15) (.c (.bool true)) (.t 20)),
  o 22 (.mv (.t 21)),
  ⟨some 23, .faddr 1 (.t 7), (some (22, false)), false⟩,
  ⟨some 24, .load none (.t 23), (some (22, false)), false⟩,
  ⟨some 25, .bin .lss (.t 24) (i64 0), (some (22, false)), false⟩,
  o 26 (.pick (.t 22) (.c (.bool true)) (.t 25)),
  o 27 (.mv (.t 26)),
  ⟨some 28, .faddr 1 (.t 7), (some (27, false)), false⟩,
  ⟨some 29, .load none (.t 28), (some (27, false)), false⟩,
  ⟨some 30, .faddr 0 (.t 6), (some (27, false)), false⟩,
  ⟨some 31, .load none (.t 30), (some (27, false)), false⟩,
  ⟨some 32, .bin .geq (.t 29) (.t 31), (some (27, false)), false⟩,
  o 33 (.pick (.t 27) (.c (.bool true)) (.t 32))]
def r100_2 : List AOper := [o 8 (.mv (.c (.bool false)))]
def r100_3 : List AOper := [o 35 (.load (some 19) (.t 7)),
  o 36 (.call 136 [(.t 35)] .borrow),
  o 34 (.mv (.t 36)),
  o 37 (.ext 0 (.t 34)),
  o 38 (.ext 1 (.t 34)),
  o 9 (.mv (.t 37)),
  o 10 (.mv (.t 38))]
def r100_4 : List AOper := [o 39 (.mv (.t 10)),
  o 40 (.un .not (.t 39))]
def r100_5 : List AOper := [o 8 (.mv (.c (.bool false)))]
def r100_6 : List AOper := [o 41 (.faddr 1 (.t 4)),
  o 42 (.load none (.t 41)),
  o 43 (.call 137 [(.t 42)] .share),
  o 11 (.mv (.t 43))]
def r100_7 : List AOper := [o 44 (.mv (.t 11)),
  o 45 (.mv (.t 1)),
  o 46 (.mv (.t 9)),
  o 47 (.iaddr 2 (.t 44) (.t 45)),
  o 48 (.faddr 1 (.t 47)),
  ⟨none, .store 1 (.t 48) (.t 46), none, false⟩]
def r100_8 : List AOper := [o 49 (.faddr 2 (.t 7)),
  o 50 (.load none (.t 49)),
  o 51 (.bin .eql (.t 50) (i64 0))]
def r100_9 : List AOper := [o 52 (.mv (.t 11)),
  o 53 (.mv (.t 1)),
  o 54 (.mv (.t 11)),
  o 55 (.mv (.t 1)),
  o 56 (.iaddr 2 (.t 54) (.t 55)),
  o 57 (.faddr 0 (.t 56)),
  o 58 (.load none (.t 57)),
  o 59 (.mnx true [(.t 58), (i64 1)]),
  o 60 (.iaddr 2 (.t 52) (.t 53)),
  o 61 (.faddr 0 (.t 60)),
  ⟨none, .store 1 (.t 61) (.t 59), none, false⟩]
def r100_10 : List AOper := [o 62 (.faddr 0 (.t 4)),
  o 63 (.load none (.t 62)),
  o 64 (.mv (.t 11)),
  o 65 (.build [.nils, .nils] [(0, 1, (.t 63)), (1, 1, (.t 64))]),
  o 66 (.call 60 [(.t 65)] .borrow),
  o 8 (.mv (.t 66))]
def c100 : ACode := .seq (.reg r100_0) (.seq (.seq (.reg r100_1) (.cond (.t 33) (.seq (.reg r100_2) (.ret)) (.skip))) (.seq (.reg r100_3) (.seq (.seq (.reg r100_4) (.cond (.t 40) (.seq (.reg r100_5) (.ret)) (.skip))) (.seq (.reg r100_6) (.seq (.reg r100_7) (.seq (.seq (.reg r100_8) (.cond (.t 51) (.reg r100_9) (.skip))) (.seq (.reg r100_10) (.ret))))))))
/-- jetsam/flow.edge -/
def a100 : AFunc := ⟨4, 67, [.tmp 8], c100⟩
def r101_0 : List AOper := [o 2 (.box (.t 0)),
  o 4 (.mv (.c (.bool false)))]
def r101_1 : List AOper := [o 5 (.mv (.c (.nils)))]
def r101_2 : List AOper := [o 8 (.load (some 3) (.t 2)),
  o 9 (.mv (.t 1)),
  o 10 (.call 50 [(.t 8), (.t 9)] .borrow),
  o 11 (.len false (.t 10)),
  o 12 (.mv (i64 0))]
def r101_3 : List AOper := [o 13 (.bin .lss (.t 12) (.t 11))]
def r101_4 : List AOper := [o 14 (.iaddr 1 (.t 10) (.t 12)),
  o 15 (.load none (.t 14)),
  o 7 (.mv (.t 15))]
def r101_5 : List AOper := [o 16 (.mv (.t 5)),
  o 17 (.faddr 1 (.t 2)),
  o 18 (.load none (.t 17)),
  o 19 (.mv (.t 7)),
  o 20 (.iaddr 19 (.t 18) (.t 19)),
  o 21 (.load (some 19) (.t 20)),
  ⟨some 22, .islice 1 [.int .i64 0, .int .i64 0, .int .i64 0, .int .i64 0, .int .i64 0, .int .i64 0, .int .i64 0, .int .i64 0, .int .i64 0, .nils, .int .i64 0, .int .i64 0, .int .i64 0, .int .i64 0, .nils, .int .i64 0, .int .i64 0, .int .i64 0, .nils] [(0, 19, (.t 21))], none, true⟩,
  o 23 (.app 19 200 (.t 16) (.t 22)),
  o 5 (.mv (.t 23))]
def r101_6 : List AOper := [o 24 (.bin .add (.t 12) (i64 1)),
  o 12 (.mv (.t 24))]
def l101_0 : ACode := .seq (.reg r101_3) (.seq (.cond (.t 13) (.skip) (.exit 0)) (.seq (.block 1 (.seq (.reg r101_4) (.reg r101_5))) (.reg r101_6)))
def r101_7 : List AOper := [o 26 (.mv (.t 5)),
  o 27 (.len false (.t 26)),
  o 28 (.bin .eql (.t 27) (i64 0)),
  o 25 (.mv (.t 28))]
def r101_8 : List AOper := [o 29 (.mv (.t 1)),
  o 30 (.bin .eql (.t 29) (i64 1)),
  o 4 (.mv (.t 30))]
def r101_9 : List AOper := [o 32 (.mv (.t 1)),
  o 33 (.bin .eql (.t 32) (i64 1)),
  o 31 (.mv (.t 33))]
def r101_10 : List AOper := [o 4 (.mv (.c (.bool false)))]
def r101_11 : List AOper := [o 35 (.mv (.t 5)),
  o 36 (.iaddr 19 (.t 35) (i64 0)),
  o 37 (.faddr 2 (.t 36)),
  o 38 (.load none (.t 37)),
  o 39 (.bin .eql (.t 38) (i64 4)),
  o 34 (.mv (.t 39))]
def r101_12 : List AOper := [o 40 (.mv (.t 5)),
  o 41 (.call 138 [(.t 40)] .borrow),
  o 4 (.mv (.t 41))]
def r101_13 : List AOper := [o 43 (.mv (.t 5)),
  o 44 (.iaddr 19 (.t 43) (i64 0)),
  o 45 (.faddr 2 (.t 44)),
  o 46 (.load none (.t 45)),
  o 47 (.bin .eql (.t 46) (i64 2)),
  o 42 (.mv (.t 47))]
def r101_14 : List AOper := [o 48 (.mv (.t 5)),
  o 49 (.len false (.t 48)),
  o 50 (.bin .eql (.t 49) (i64 2)),
  o 51 (.mv (.t 50)),
  ⟨some 52, .mv (.t 5), (some (51, true)), false⟩,
  ⟨some 53, .iaddr 19 (.t 52) (i64 0), (some (51, true)), false⟩,
  ⟨some 54, .load (some 19) (.t 53), (some (51, true)), false⟩,
  ⟨some 55, .mv (.t 5), (some (51, true)), false⟩,
  ⟨some 56, .iaddr 19 (.t 55) (i64 1), (some (51, true)), false⟩,
  ⟨some 57, .load (some 19) (.t 56), (some (51, true)), false⟩,
  ⟨some 58, .call 139 [(.t 54), (.t 57)] .borrow, (some (51, true)), false⟩,
  o 59 (.pick (.t 51) (.t 58) (.c (.bool false))),
  o 4 (.mv (.t 59))]
def b101_14 : List (List Nat) := [[], [0], [0, 1], [0, 1, 2], [0, 1, 2, 3], [0, 1, 2, 3, 4], [0, 1, 2, 3, 4, 5], [0, 1, 2, 3], [0, 1, 2, 3, 7], [0, 1, 2, 3, 7, 8], [0, 1, 2, 3, 4, 5, 6, 7, 8, 9], [0, 1, 2, 3, 4, 5, 6, 7, 8, 9, 10], [0, 1, 2, 3, 4, 5, 6, 7, 8, 9, 10, 11]]
def r101_15 : List AOper := [o 60 (.mv (.t 5)),
  o 61 (.len false (.t 60)),
  o 62 (.bin .eql (.t 61) (i64 1)),
  o 4 (.mv (.t 62))]
def c101 : ACode := .seq (.reg r101_0) (.seq (.reg r101_1) (.seq (.seq (.reg r101_2) (.block 0 (.loop l101_0))) (.seq (.block 2 (.seq (.reg r101_7) (.cond (.t 25) (.seq (.reg r101_8) (.ret)) (.seq (.reg r101_9) (.cond (.t 31) (.seq (.reg r101_10) (.ret)) (.seq (.reg r101_11) (.cond (.t 34) (.seq (.reg r101_12) (.ret)) (.seq (.reg r101_13) (.cond (.t 42) (.seq (.dreg r101_14 b101_14 []) (.ret)) (.skip)))))))))) (.seq (.reg r101_15) (.ret)))))
/-- jetsam/flow.leaves -/
def a101 : AFunc := ⟨2, 63, [.tmp 4], c101⟩
def r102_0 : List AOper := [o 1 (.box (.t 0)),
  o 2 (.mv (.c (.bool false)))]
def r102_1 : List AOper := [o 14 (.faddr 0 (.t 1)),
  o 15 (.load none (.t 14)),
  o 16 (.mksl 1 8 [.int .i64 0] (.t 15)),
  o 3 (.mv (.t 16))]
def r102_2 : List AOper := [o 17 (.faddr 1 (.t 1)),
  o 18 (.load none (.t 17)),
  o 19 (.len false (.t 18)),
  o 20 (.mv (i64 0))]
def r102_3 : List AOper := [o 21 (.bin .lss (.t 20) (.t 19))]
def r102_4 : List AOper := [o 22 (.iaddr 19 (.t 18) (.t 20)),
  o 23 (.load (some 19) (.t 22)),
  o 5 (.alloc [.int .i64 0, .int .i64 0, .int .i64 0, .int .i64 0, .int .i64 0, .int .i64 0, .int .i64 0, .int .i64 0, .int .i64 0, .nils, .int .i64 0, .int .i64 0, .int .i64 0, .int .i64 0, .nils, .int .i64 0, .int .i64 0, .int .i64 0, .nils]),
  ⟨none, .store 19 (.t 5) (.t 23), none, false⟩]
def r102_5 : List AOper := [o 24 (.faddr 2 (.t 1)),
  o 25 (.load none (.t 24)),
  o 26 (.faddr 0 (.t 5)),
  o 27 (.load none (.t 26)),
  o 28 (.call 140 [(.t 25), (.t 27)] .borrow),
  o 29 (.un .not (.t 28))]
def r102_6 : List AOper := [o 30 (.mv (.t 3)),
  o 31 (.faddr 1 (.t 5)),
  o 32 (.load none (.t 31)),
  o 33 (.iaddr 1 (.t 30) (.t 32)),
  o 34 (.load none (.t 33)),
  o 35 (.bin .add (.t 34) (i64 1)),
  o 36 (.iaddr 1 (.t 30) (.t 32)),
  ⟨none, .store 1 (.t 36) (.t 35), none, false⟩]
def r102_7 : List AOper := [o 37 (.bin .add (.t 20) (i64 1)),
  o 20 (.mv (.t 37))]
def l102_0 : ACode := .seq (.reg r102_3) (.seq (.cond (.t 21) (.skip) (.exit 0)) (.seq (.block 1 (.seq (.reg r102_4) (.seq (.reg r102_5) (.cond (.t 29) (.reg r102_6) (.skip))))) (.reg r102_7)))
def r102_8 : List AOper := [o 6 (.mv (.c (.nils)))]
def r102_9 : List AOper := [o 7 (.mv (i64 0))]
def r102_10 : List AOper := [o 38 (.mv (.t 3)),
  o 39 (.len false (.t 38)),
  o 40 (.mv (i64 0))]
def r102_11 : List AOper := [o 41 (.bin .lss (.t 40) (.t 39))]
def r102_12 : List AOper := [o 42 (.mv (.t 40)),
  o 43 (.iaddr 1 (.t 38) (.t 40)),
  o 44 (.load none (.t 43)),
  o 8 (.mv (.t 42)),
  o 9 (.mv (.t 44))]
def r102_13 : List AOper := [o 45 (.mv (.t 9)),
  o 46 (.bin .eql (.t 45) (i64 0))]
def r102_14 : List AOper := [o 47 (.mv (.t 6)),
  o 48 (.mv (.t 8)),
  o 49 (.islice 1 [.int .i64 0] [(0, 1, (.t 48))]),
  o 50 (.app 1 8 (.t 47) (.t 49)),
  o 6 (.mv (.t 50))]
def r102_15 : List AOper := [o 51 (.bin .add (.t 40) (i64 1)),
  o 40 (.mv (.t 51))]
def l102_1 : ACode := .seq (.reg r102_11) (.seq (.cond (.t 41) (.skip) (.exit 2)) (.seq (.block 3 (.seq (.reg r102_12) (.seq (.reg r102_13) (.cond (.t 46) (.reg r102_14) (.skip))))) (.reg r102_15)))
def r102_16 : List AOper := [o 52 (.mv (.t 6)),
  o 53 (.len false (.t 52)),
  o 54 (.bin .gtr (.t 53) (i64 0))]
def r102_17 : List AOper := [o 55 (.mv (.t 6)),
  o 56 (.iaddr 1 (.t 55) (i64 0)),
  o 57 (.load none (.t 56)),
  o 10 (.mv (.t 57))]
def r102_18 : List AOper := [o 58 (.mv (.t 6)),
  o 59 (.slsl 1 (.t 58) (some (i64 1)) none none),
  o 6 (.mv (.t 59))]
def r102_19 : List AOper := [o 60 (.mv (.t 7)),
  o 61 (.bin .add (.t 60) (i64 1)),
  o 7 (.mv (.t 61))]
def r102_20 : List AOper := [o 62 (.faddr 2 (.t 1)),
  o 63 (.load none (.t 62)),
  o 64 (.mv (.t 10)),
  o 65 (.call 140 [(.t 63), (.t 64)] .borrow)]
def r102_21 : List AOper := [o 66 (.load (some 3) (.t 1)),
  o 67 (.mv (.t 10)),
  o 68 (.call 50 [(.t 66), (.t 67)] .borrow),
  o 69 (.len false (.t 68)),
  o 70 (.mv (i64 0))]
def r102_22 : List AOper := [o 71 (.bin .lss (.t 70) (.t 69))]
def r102_23 : List AOper := [o 72 (.iaddr 1 (.t 68) (.t 70)),
  o 73 (.load none (.t 72)),
  o 12 (.mv (.t 73))]
def r102_24 : List AOper := [o 74 (.faddr 1 (.t 1)),
  o 75 (.load none (.t 74)),
  o 76 (.mv (.t 12)),
  o 77 (.iaddr 19 (.t 75) (.t 76)),
  o 78 (.faddr 1 (.t 77)),
  o 79 (.load none (.t 78)),
  o 13 (.mv (.t 79))]
def r102_25 : List AOper := [o 80 (.mv (.t 3)),
  o 81 (.mv (.t 13)),
  o 82 (.iaddr 1 (.t 80) (.t 81)),
  o 83 (.load none (.t 82)),
  o 84 (.bin .sub (.t 83) (i64 1)),
  o 85 (.iaddr 1 (.t 80) (.t 81)),
  ⟨none, .store 1 (.t 85) (.t 84), none, false⟩]
def r102_26 : List AOper := [o 86 (.mv (.t 3)),
  o 87 (.mv (.t 13)),
  o 88 (.iaddr 1 (.t 86) (.t 87)),
  o 89 (.load none (.t 88)),
  o 90 (.bin .eql (.t 89) (i64 0))]
def r102_27 : List AOper := [o 91 (.mv (.t 6)),
  o 92 (.mv (.t 13)),
  o 93 (.islice 1 [.int .i64 0] [(0, 1, (.t 92))]),
  o 94 (.app 1 8 (.t 91) (.t 93)),
  o 6 (.mv (.t 94))]
def r102_28 : List AOper := [o 95 (.bin .add (.t 70) (i64 1)),
  o 70 (.mv (.t 95))]
def l102_2 : ACode := .seq (.reg r102_22) (.seq (.cond (.t 71) (.skip) (.exit 6)) (.seq (.block 7 (.seq (.reg r102_23) (.seq (.reg r102_24) (.seq (.reg r102_25) (.seq (.reg r102_26) (.cond (.t 90) (.reg r102_27) (.skip))))))) (.reg r102_28)))
def l102_3 : ACode := .seq (.seq (.reg r102_16) (.cond (.t 54) (.skip) (.exit 4))) (.block 5 (.seq (.reg r102_17) (.seq (.reg r102_18) (.seq (.reg r102_19) (.seq (.seq (.reg r102_20) (.cond (.t 65) (.exit 5) (.skip))) (.seq (.reg r102_21) (.block 6 (.loop l102_2))))))))
def r102_29 : List AOper := [o 96 (.mv (.t 7)),
  o 97 (.faddr 0 (.t 1)),
  o 98 (.load none (.t 97)),
  o 99 (.bin .lss (.t 96) (.t 98)),
  o 2 (.mv (.t 99))]
def c102 : ACode := .seq (.reg r102_0) (.seq (.reg r102_1) (.seq (.seq (.reg r102_2) (.block 0 (.loop l102_0))) (.seq (.reg r102_8) (.seq (.reg r102_9) (.seq (.seq (.reg r102_10) (.block 2 (.loop l102_1))) (.seq (.block 4 (.loop l102_3)) (.seq (.reg r102_29) (.ret))))))))
/-- jetsam/flow.open -/
def a102 : AFunc := ⟨1, 100, [.tmp 2], c102⟩
def r103_0 : List AOper := [o 6 (.mv (i64 0)),
  o 7 (.mv (i64 0))]
def r103_1 : List AOper := [o 8 (.mv (.t 0))]
def r103_2 : List AOper := [o 10 (.bin .eql (.t 8) (i64 4)),
  o 9 (.mv (.t 10))]
def r103_3 : List AOper := [o 11 (.mv (.t 1)),
  o 12 (.mv (.t 2)),
  o 13 (.bin .add (.t 11) (.t 12)),
  o 6 (.mv (.t 13)),
  o 7 (.mv (i64 0))]
def r103_4 : List AOper := [o 15 (.bin .eql (.t 8) (i64 5)),
  o 14 (.mv (.t 15))]
def r103_5 : List AOper := [o 16 (.mv (.t 1)),
  o 17 (.mv (.t 2)),
  o 18 (.bin .sub (.t 16) (.t 17)),
  o 6 (.mv (.t 18)),
  o 7 (.mv (i64 0))]
def r103_6 : List AOper := [o 20 (.bin .eql (.t 8) (i64 6)),
  o 19 (.mv (.t 20))]
def r103_7 : List AOper := [o 21 (.mv (.t 1)),
  o 22 (.mv (.t 2)),
  o 23 (.bin .mul (.t 21) (.t 22)),
  o 6 (.mv (.t 23)),
  o 7 (.mv (i64 0))]
def r103_8 : List AOper := [o 25 (.mv (.t 2)),
  o 26 (.bin .eql (.t 25) (i64 0)),
  o 24 (.mv (.t 26))]
def r103_9 : List AOper := [o 6 (.mv (i64 0)),
  o 7 (.mv (i64 3))]
def r103_10 : List AOper := [o 28 (.mv (.t 0)),
  o 29 (.bin .eql (.t 28) (i64 7)),
  o 27 (.mv (.t 29))]
def r103_11 : List AOper := [o 30 (.mv (.t 1)),
  o 31 (.mv (.t 2)),
  o 32 (.bin .quo (.t 30) (.t 31)),
  o 6 (.mv (.t 32)),
  o 7 (.mv (i64 0))]
def r103_12 : List AOper := [o 33 (.mv (.t 1)),
  o 34 (.mv (.t 2)),
  o 35 (.bin .rem (.t 33) (.t 34)),
  o 6 (.mv (.t 35)),
  o 7 (.mv (i64 0))]
def c103 : ACode := .seq (.reg r103_0) (.seq (.seq (.reg r103_1) (.block 0 (.seq (.reg r103_2) (.cond (.t 9) (.seq (.reg r103_3) (.ret)) (.seq (.reg r103_4) (.cond (.t 14) (.seq (.reg r103_5) (.ret)) (.seq (.reg r103_6) (.cond (.t 19) (.seq (.reg r103_7) (.ret)) (.skip))))))))) (.seq (.block 1 (.seq (.reg r103_8) (.cond (.t 24) (.seq (.reg r103_9) (.ret)) (.seq (.reg r103_10) (.cond (.t 27) (.seq (.reg r103_11) (.ret)) (.skip)))))) (.seq (.reg r103_12) (.ret))))
/-- jetsam/step.two -/
def a103 : AFunc := ⟨3, 36, [.tmp 6, .tmp 7], c103⟩
def r104_0 : List AOper := [o 1 (.box (.t 0)),
  o 2 (.mv (.c (.bool false)))]
def r104_1 : List AOper := [o 3 (.mv (i64 0))]
def r104_2 : List AOper := [o 8 (.faddr 5 (.t 1)),
  o 9 (.load none (.t 8)),
  o 10 (.len false (.t 9)),
  o 11 (.mv (i64 0))]
def r104_3 : List AOper := [o 12 (.bin .lss (.t 11) (.t 10))]
def r104_4 : List AOper := [o 13 (.mv (.t 11)),
  o 14 (.iaddr 1 (.t 9) (.t 11)),
  o 15 (.load none (.t 14)),
  o 4 (.mv (.t 13)),
  o 5 (.mv (.t 15))]
def r104_5 : List AOper := [o 16 (.mv (.t 5)),
  o 17 (.len false (.t 16)),
  o 18 (.faddr 4 (.t 1)),
  o 19 (.load none (.t 18)),
  o 20 (.bin .neq (.t 17) (.t 19))]
def r104_6 : List AOper := [o 2 (.mv (.c (.bool false)))]
def r104_7 : List AOper := [o 21 (.mv (.t 5)),
  o 22 (.len false (.t 21)),
  o 23 (.mv (i64 0))]
def r104_8 : List AOper := [o 24 (.bin .lss (.t 23) (.t 22))]
def r104_9 : List AOper := [o 25 (.iaddr 1 (.t 21) (.t 23)),
  o 26 (.load none (.t 25)),
  o 7 (.mv (.t 26))]
def r104_10 : List AOper := [o 27 (.mv (.t 7)),
  o 28 (.faddr 5 (.t 1)),
  o 29 (.load none (.t 28)),
  o 30 (.len false (.t 29)),
  o 31 (.bin .sub (.t 30) (i64 1)),
  o 32 (.call 81 [(.t 27), (i64 (-1)), (.t 31)] .borrow),
  o 33 (.un .not (.t 32))]
def r104_11 : List AOper := [o 2 (.mv (.c (.bool false)))]
def r104_12 : List AOper := [o 34 (.mv (.t 7)),
  o 35 (.bin .neq (.t 34) (i64 (-1)))]
def r104_13 : List AOper := [o 36 (.mv (.t 3)),
  o 37 (.mv (.t 4)),
  o 38 (.mv (.t 7)),
  o 39 (.mnx true [(.t 36), (.t 37), (.t 38)]),
  o 3 (.mv (.t 39))]
def r104_14 : List AOper := [o 40 (.bin .add (.t 23) (i64 1)),
  o 23 (.mv (.t 40))]
def l104_0 : ACode := .seq (.reg r104_8) (.seq (.cond (.t 24) (.skip) (.exit 2)) (.seq (.block 3 (.seq (.reg r104_9) (.seq (.seq (.reg r104_10) (.cond (.t 33) (.seq (.reg r104_11) (.ret)) (.skip))) (.seq (.reg r104_12) (.cond (.t 35) (.reg r104_13) (.skip)))))) (.reg r104_14)))
def r104_15 : List AOper := [o 41 (.bin .add (.t 11) (i64 1)),
  o 11 (.mv (.t 41))]
def l104_1 : ACode := .seq (.reg r104_3) (.seq (.cond (.t 12) (.skip) (.exit 0)) (.seq (.block 1 (.seq (.reg r104_4) (.seq (.seq (.reg r104_5) (.cond (.t 20) (.seq (.reg r104_6) (.ret)) (.skip))) (.seq (.reg r104_7) (.block 2 (.loop l104_0)))))) (.reg r104_15)))
def r104_16 : List AOper := [o 42 (.faddr 5 (.t 1)),
  o 43 (.load none (.t 42)),
  o 44 (.len false (.t 43)),
  o 45 (.bin .eql (.t 44) (i64 0)),
  o 46 (.mv (.t 45)),
  ⟨some 47, .mv (.t 3), (some (46, false)), false⟩,
  ⟨some 48, .faddr 5 (.t 1), (some (46, false)), false⟩,
  ⟨some 49, .load none (.t 48), (some (46, false)), false⟩,
  ⟨some 50, .len false (.t 49), (some (46, false)), false⟩,
  ⟨some 51, .bin .sub (.t 50) (i64 1), (some (46, false)), false⟩,
  ⟨some 52, .bin .eql (.t 47) (.t 51), (some (46, false)), false⟩,
  ⟨some 53, .mv (.t 52), (some (46, false)), false⟩,
  ⟨some 54, .faddr 5 (.t 1), (some (53, true)), false⟩,
  ⟨some 55, .load none (.t 54), (some (53, true)), false⟩,
  ⟨some 56, .len false (.t 55), (some (53, true)), false⟩,
  ⟨some 57, .bin .leq (.t 56) (i64 8), (some (53, true)), false⟩,
  ⟨some 58, .pick (.t 53) (.t 57) (.c (.bool false)), (some (46, false)), false⟩,
  o 59 (.pick (.t 46) (.c (.bool true)) (.t 58)),
  o 2 (.mv (.t 59))]
def c104 : ACode := .seq (.reg r104_0) (.seq (.reg r104_1) (.seq (.seq (.reg r104_2) (.block 0 (.loop l104_1))) (.seq (.reg r104_16) (.ret))))
/-- jetsam/check.ruled -/
def a104 : AFunc := ⟨1, 60, [.tmp 2], c104⟩
def r105_0 : List AOper := [o 2 (.box (.t 0)),
  o 3 (.box (.t 1)),
  o 4 (.mv (.c (.bool false)))]
def r105_1 : List AOper := [o 12 (.faddr 4 (.t 3)),
  o 13 (.load (some 4) (.t 12)),
  o 14 (.call 141 [(.t 13)] .borrow),
  o 15 (.faddr 8 (.t 3)),
  o 16 (.load (some 9) (.t 15)),
  o 17 (.call 142 [(.t 16)] .borrow),
  o 5 (.mv (.t 14)),
  o 6 (.mv (.t 17))]
def b105_1 : List (List Nat) := [[], [0], [0, 1], [], [3], [0, 1, 2, 3, 4], [0, 1, 2, 3, 4, 5], [0, 1, 2, 3, 4, 5, 6]]
def r105_2 : List AOper := [o 18 (.faddr 17 (.t 3)),
  o 19 (.load none (.t 18)),
  o 20 (.len false (.t 19)),
  o 21 (.bin .eql (.t 20) (i64 0)),
  o 22 (.faddr 19 (.t 3)),
  o 23 (.load none (.t 22)),
  o 24 (.len false (.t 23)),
  o 25 (.bin .eql (.t 24) (i64 0)),
  o 7 (.mv (.t 21)),
  o 8 (.mv (.t 25))]
def b105_2 : List (List Nat) := [[], [0], [0, 1], [0, 1, 2], [], [4], [4, 5], [4, 5, 6], [0, 1, 2, 3], [0, 1, 2, 3, 4, 5, 6, 7, 8]]
def r105_3 : List AOper := [o 26 (.faddr 18 (.t 3)),
  o 27 (.load none (.t 26)),
  o 28 (.len false (.t 27)),
  o 29 (.bin .eql (.t 28) (i64 0)),
  o 30 (.faddr 1 (.t 3)),
  o 31 (.load none (.t 30)),
  o 32 (.bin .eql (.t 31) (i64 0)),
  o 9 (.mv (.t 29)),
  o 10 (.mv (.t 32))]
def b105_3 : List (List Nat) := [[], [0], [0, 1], [0, 1, 2], [], [4], [4, 5], [0, 1, 2, 3], [0, 1, 2, 3, 4, 5, 6, 7]]
def r105_4 : List AOper := [o 33 (.faddr 2 (.t 3)),
  o 34 (.load none (.t 33)),
  o 35 (.bin .eql (.t 34) (i64 0)),
  o 36 (.mv (.t 35)),
  ⟨some 37, .faddr 3 (.t 3), (some (36, true)), false⟩,
  ⟨some 38, .load none (.t 37), (some (36, true)), false⟩,
  ⟨some 39, .bin .eql (.t 38) (i64 0), (some (36, true)), false⟩,
  o 40 (.pick (.t 36) (.t 39) (.c (.bool false))),
  o 11 (.mv (.t 40))]
def r105_5 : List AOper := [o 41 (.faddr 0 (.t 3)),
  o 42 (.load none (.t 41))]
def r105_6 : List AOper := [o 44 (.bin .eql (.t 42) (i64 1)),
  o 43 (.mv (.t 44))]
def r105_7 : List AOper := [o 45 (.mv (.t 6)),
  o 46 (.mv (.t 45)),
  ⟨some 47, .mv (.t 7), (some (46, true)), false⟩,
  o 48 (.pick (.t 46) (.t 47) (.c (.bool false))),
  o 49 (.mv (.t 48)),
  ⟨some 50, .mv (.t 9), (some (49, true)), false⟩,
  o 51 (.pick (.t 49) (.t 50) (.c (.bool false))),
  o 52 (.mv (.t 51)),
  ⟨some 53, .mv (.t 8), (some (52, true)), false⟩,
  o 54 (.pick (.t 52) (.t 53) (.c (.bool false))),
  o 55 (.mv (.t 54)),
  ⟨some 56, .mv (.t 11), (some (55, true)), false⟩,
  o 57 (.pick (.t 55) (.t 56) (.c (.bool false))),
  o 58 (.mv (.t 57)),
  ⟨some 59, .faddr 1 (.t 3), (some (58, true)), false⟩,
  ⟨some 60, .load none (.t 59), (some (58, true)), false⟩,
  ⟨some 61, .faddr 3 (.t 2), (some (58, true)), false⟩,
  ⟨some 62, .load none (.t 61), (some (58, true)), false⟩,
  ⟨some 63, .bin .sub (.t 62) (i64 1), (some (58, true)), false⟩,
  ⟨some 64, .call 81 [(.t 60), (i64 0), (.t 63)] .borrow, (some (58, true)), false⟩,
  o 65 (.pick (.t 58) (.t 64) (.c (.bool false))),
  o 66 (.mv (.t 65)),
  ⟨some 67, .faddr 4 (.t 3), (some (66, true)), false⟩,
  ⟨some 68, .load (some 4) (.t 67), (some (66, true)), false⟩,
  ⟨some 69, .faddr 3 (.t 2), (some (66, true)), false⟩,
  ⟨some 70, .load none (.t 69), (some (66, true)), false⟩,
  ⟨some 71, .call 143 [(.t 68), (.t 70)] .borrow, (some (66, true)), false⟩,
  o 72 (.pick (.t 66) (.t 71) (.c (.bool false))),
  o 4 (.mv (.t 72))]
def r105_8 : List AOper := [o 74 (.bin .eql (.t 42) (i64 7)),
  o 73 (.mv (.t 74))]
def r105_9 : List AOper := [o 75 (.mv (.t 5)),
  o 76 (.mv (.t 75)),
  ⟨some 77, .mv (.t 6), (some (76, true)), false⟩,
  o 78 (.pick (.t 76) (.t 77) (.c (.bool false))),
  o 79 (.mv (.t 78)),
  ⟨some 80, .mv (.t 7), (some (79, true)), false⟩,
  o 81 (.pick (.t 79) (.t 80) (.c (.bool false))),
  o 82 (.mv (.t 81)),
  ⟨some 83, .mv (.t 9), (some (82, true)), false⟩,
  o 84 (.pick (.t 82) (.t 83) (.c (.bool false))),
  o 85 (.mv (.t 84)),
  ⟨some 86, .mv (.t 8), (some (85, true)), false⟩,
  o 87 (.pick (.t 85) (.t 86) (.c (.bool false))),
  o 88 (.mv (.t 87)),
  ⟨some 89, .mv (.t 11), (some (88, true)), false⟩,
  o 90 (.pick (.t 88) (.t 89) (.c (.bool false))),
  o 91 (.mv (.t 90)),
  ⟨some 92, .faddr 1 (.t 3), (some (91, true)), false⟩,
  ⟨some 93, .load none (.t 92), (some (91, true)), false⟩,
  ⟨some 94, .faddr 3 (.t 2), (some (91, true)), false⟩,
  ⟨some 95, .load none (.t 94), (some (91, true)), false⟩,
  ⟨some 96, .bin .sub (.t 95) (i64 1), (some (91, true)), false⟩,
  ⟨some 97, .call 81 [(.t 93), (i64 0), (.t 96)] .borrow, (some (91, true)), false⟩,
  o 98 (.pick (.t 91) (.t 97) (.c (.bool false))),
  o 4 (.mv (.t 98))]
def r105_10 : List AOper := [o 100 (.bin .eql (.t 42) (i64 6)),
  o 99 (.mv (.t 100))]
def r105_11 : List AOper := [o 101 (.mv (.t 5)),
  o 102 (.mv (.t 101)),
  ⟨some 103, .mv (.t 7), (some (102, true)), false⟩,
  o 104 (.pick (.t 102) (.t 103) (.c (.bool false))),
  o 105 (.mv (.t 104)),
  ⟨some 106, .mv (.t 9), (some (105, true)), false⟩,
  o 107 (.pick (.t 105) (.t 106) (.c (.bool false))),
  o 108 (.mv (.t 107)),
  ⟨some 109, .mv (.t 8), (some (108, true)), false⟩,
  o 110 (.pick (.t 108) (.t 109) (.c (.bool false))),
  o 111 (.mv (.t 110)),
  ⟨some 112, .mv (.t 11), (some (111, true)), false⟩,
  o 113 (.pick (.t 111) (.t 112) (.c (.bool false))),
  o 114 (.mv (.t 113)),
  ⟨some 115, .mv (.t 10), (some (114, true)), false⟩,
  o 116 (.pick (.t 114) (.t 115) (.c (.bool false))),
  o 117 (.mv (.t 116)),
  ⟨some 118, .faddr 8 (.t 3), (some (117, true)), false⟩,
  ⟨some 119, .load (some 9) (.t 118), (some (117, true)), false⟩,
  ⟨some 120, .faddr 3 (.t 2), (some (117, true)), false⟩,
  ⟨some 121, .load none (.t 120), (some (117, true)), false⟩,
  ⟨some 122, .call 144 [(.t 119), (.t 121)] .borrow, (some (117, true)), false⟩,
  o 123 (.pick (.t 117) (.t 122) (.c (.bool false))),
  o 4 (.mv (.t 123))]
def r105_12 : List AOper := [o 125 (.bin .eql (.t 42) (i64 3)),
  o 124 (.mv (.t 125))]
def r105_13 : List AOper := [o 126 (.mv (.t 5)),
  o 127 (.mv (.t 126)),
  ⟨some 128, .mv (.t 9), (some (127, true)), false⟩,
  o 129 (.pick (.t 127) (.t 128) (.c (.bool false))),
  o 130 (.mv (.t 129)),
  ⟨some 131, .mv (.t 8), (some (130, true)), false⟩,
  o 132 (.pick (.t 130) (.t 131) (.c (.bool false))),
  o 133 (.mv (.t 132)),
  ⟨some 134, .mv (.t 11), (some (133, true)), false⟩,
  o 135 (.pick (.t 133) (.t 134) (.c (.bool false))),
  o 136 (.mv (.t 135)),
  ⟨some 137, .mv (.t 10), (some (136, true)), false⟩,
  o 138 (.pick (.t 136) (.t 137) (.c (.bool false))),
  o 139 (.mv (.t 138)),
  ⟨some 140, .faddr 8 (.t 3), (some (139, true)), false⟩,
  ⟨some 141, .load (some 9) (.t 140), (some (139, true)), false⟩,
  ⟨some 142, .faddr 3 (.t 2), (some (139, true)), false⟩,
  ⟨some 143, .load none (.t 142), (some (139, true)), false⟩,
  ⟨some 144, .call 144 [(.t 141), (.t 143)] .borrow, (some (139, true)), false⟩,
  o 145 (.pick (.t 139) (.t 144) (.c (.bool false))),
  o 146 (.mv (.t 145)),
  ⟨some 147, .load (some 4) (.t 2), (some (146, true)), false⟩,
  ⟨some 148, .faddr 17 (.t 3), (some (146, true)), false⟩,
  ⟨some 149, .load none (.t 148), (some (146, true)), false⟩,
  ⟨some 150, .call 83 [(.t 147), (.t 149)] .borrow, (some (146, true)), false⟩,
  o 151 (.pick (.t 146) (.t 150) (.c (.bool false))),
  o 4 (.mv (.t 151))]
def r105_14 : List AOper := [o 153 (.bin .eql (.t 42) (i64 2)),
  o 152 (.mv (.t 153))]
def r105_15 : List AOper := [o 154 (.mv (.t 5)),
  o 155 (.mv (.t 154)),
  ⟨some 156, .mv (.t 8), (some (155, true)), false⟩,
  o 157 (.pick (.t 155) (.t 156) (.c (.bool false))),
  o 158 (.mv (.t 157)),
  ⟨some 159, .mv (.t 11), (some (158, true)), false⟩,
  o 160 (.pick (.t 158) (.t 159) (.c (.bool false))),
  o 161 (.mv (.t 160)),
  ⟨some 162, .mv (.t 10), (some (161, true)), false⟩,
  o 163 (.pick (.t 161) (.t 162) (.c (.bool false))),
  o 164 (.mv (.t 163)),
  ⟨some 165, .faddr 8 (.t 3), (some (164, true)), false⟩,
  ⟨some 166, .load (some 9) (.t 165), (some (164, true)), false⟩,
  ⟨some 167, .faddr 3 (.t 2), (some (164, true)), false⟩,
  ⟨some 168, .load none (.t 167), (some (164, true)), false⟩,
  ⟨some 169, .call 144 [(.t 166), (.t 168)] .borrow, (some (164, true)), false⟩,
  o 170 (.pick (.t 164) (.t 169) (.c (.bool false))),
  o 171 (.mv (.t 170)),
  ⟨some 172, .load (some 4) (.t 2), (some (171, true)), false⟩,
  ⟨some 173, .faddr 17 (.t 3), (some (171, true)), false⟩,
  ⟨some 174, .load none (.t 173), (some (171, true)), false⟩,
  ⟨some 175, .call 83 [(.t 172), (.t 174)] .borrow, (some (171, true)), false⟩,
  o 176 (.pick (.t 171) (.t 175) (.c (.bool false))),
  o 177 (.mv (.t 176)),
  ⟨some 178, .load (some 4) (.t 2), (some (177, true)), false⟩,
  ⟨some 179, .faddr 18 (.t 3), (some (177, true)), false⟩,
  ⟨some 180, .load none (.t 179), (some (177, true)), false⟩,
  ⟨some 181, .call 83 [(.t 178), (.t 180)] .borrow, (some (177, true)), false⟩,
  o 182 (.pick (.t 177) (.t 181) (.c (.bool false))),
  o 4 (.mv (.t 182))]
def r105_16 : List AOper := [o 184 (.bin .eql (.t 42) (i64 4)),
  o 183 (.mv (.t 184))]
def r105_17 : List AOper := [o 185 (.mv (.t 6)),
  o 186 (.mv (.t 185)),
  ⟨some 187, .mv (.t 7), (some (186, true)), false⟩,
  o 188 (.pick (.t 186) (.t 187) (.c (.bool false))),
  o 189 (.mv (.t 188)),
  ⟨some 190, .mv (.t 9), (some (189, true)), false⟩,
  o 191 (.pick (.t 189) (.t 190) (.c (.bool false))),
  o 192 (.mv (.t 191)),
  ⟨some 193, .mv (.t 8), (some (192, true)), false⟩,
  o 194 (.pick (.t 192) (.t 193) (.c (.bool false))),
  o 195 (.mv (.t 194)),
  ⟨some 196, .mv (.t 10), (some (195, true)), false⟩,
  o 197 (.pick (.t 195) (.t 196) (.c (.bool false))),
  o 198 (.mv (.t 197)),
  ⟨some 199, .load (some 4) (.t 2), (some (198, true)), false⟩,
  ⟨some 200, .faddr 2 (.t 3), (some (198, true)), false⟩,
  ⟨some 201, .load none (.t 200), (some (198, true)), false⟩,
  ⟨some 202, .call 145 [(.t 199), (.t 201), (.c (.func 146))] .borrow, (some (198, true)), false⟩,
  o 203 (.pick (.t 198) (.t 202) (.c (.bool false))),
  o 204 (.mv (.t 203)),
  ⟨some 205, .load (some 4) (.t 2), (some (204, true)), false⟩,
  ⟨some 206, .faddr 2 (.t 3), (some (204, true)), false⟩,
  ⟨some 207, .load none (.t 206), (some (204, true)), false⟩,
  ⟨some 208, .faddr 3 (.t 3), (some (204, true)), false⟩,
  ⟨some 209, .load none (.t 208), (some (204, true)), false⟩,
  ⟨some 210, .call 147 [(.t 205), (.t 207), (.t 209)] .borrow, (some (204, true)), false⟩,
  o 211 (.pick (.t 204) (.t 210) (.c (.bool false))),
  o 212 (.mv (.t 211)),
  ⟨some 213, .faddr 4 (.t 3), (some (212, true)), false⟩,
  ⟨some 214, .load (some 4) (.t 213), (some (212, true)), false⟩,
  ⟨some 215, .faddr 3 (.t 2), (some (212, true)), false⟩,
  ⟨some 216, .load none (.t 215), (some (212, true)), false⟩,
  ⟨some 217, .call 143 [(.t 214), (.t 216)] .borrow, (some (212, true)), false⟩,
  o 218 (.pick (.t 212) (.t 217) (.c (.bool false))),
  o 4 (.mv (.t 218))]
def r105_18 : List AOper := [o 220 (.bin .eql (.t 42) (i64 5)),
  o 219 (.mv (.t 220))]
def r105_19 : List AOper := [o 221 (.mv (.t 5)),
  o 222 (.mv (.t 221)),
  ⟨some 223, .mv (.t 6), (some (222, true)), false⟩,
  o 224 (.pick (.t 222) (.t 223) (.c (.bool false))),
  o 225 (.mv (.t 224)),
  ⟨some 226, .mv (.t 7), (some (225, true)), false⟩,
  o 227 (.pick (.t 225) (.t 226) (.c (.bool false))),
  o 228 (.mv (.t 227)),
  ⟨some 229, .mv (.t 9), (some (228, true)), false⟩,
  o 230 (.pick (.t 228) (.t 229) (.c (.bool false))),
  o 231 (.mv (.t 230)),
  ⟨some 232, .mv (.t 10), (some (231, true)), false⟩,
  o 233 (.pick (.t 231) (.t 232) (.c (.bool false))),
  o 234 (.mv (.t 233)),
  ⟨some 235, .faddr 3 (.t 3), (some (234, true)), false⟩,
  ⟨some 236, .load none (.t 235), (some (234, true)), false⟩,
  ⟨some 237, .bin .eql (.t 236) (i64 0), (some (234, true)), false⟩,
  o 238 (.pick (.t 234) (.t 237) (.c (.bool false))),
  o 239 (.mv (.t 238)),
  ⟨some 240, .load (some 4) (.t 2), (some (239, true)), false⟩,
  ⟨some 241, .faddr 2 (.t 3), (some (239, true)), false⟩,
  ⟨some 242, .load none (.t 241), (some (239, true)), false⟩,
  ⟨some 243, .call 145 [(.t 240), (.t 242), (.c (.func 148))] .borrow, (some (239, true)), false⟩,
  o 244 (.pick (.t 239) (.t 243) (.c (.bool false))),
  o 245 (.mv (.t 244)),
  ⟨some 246, .load (some 4) (.t 2), (some (245, true)), false⟩,
  ⟨some 247, .faddr 2 (.t 3), (some (245, true)), false⟩,
  ⟨some 248, .load none (.t 247), (some (245, true)), false⟩,
  ⟨some 249, .faddr 19 (.t 3), (some (245, true)), false⟩,
  ⟨some 250, .load none (.t 249), (some (245, true)), false⟩,
  ⟨some 251, .call 149 [(.t 246), (.t 248), (.t 250)] .borrow, (some (245, true)), false⟩,
  o 252 (.pick (.t 245) (.t 251) (.c (.bool false))),
  o 4 (.mv (.t 252))]
def r105_20 : List AOper := [o 4 (.mv (.c (.bool false)))]
def c105 : ACode := .seq (.reg r105_0) (.seq (.dreg r105_1 b105_1 []) (.seq (.dreg r105_2 b105_2 []) (.seq (.dreg r105_3 b105_3 []) (.seq (.reg r105_4) (.seq (.seq (.reg r105_5) (.block 0 (.seq (.reg r105_6) (.cond (.t 43) (.seq (.reg r105_7) (.ret)) (.seq (.reg r105_8) (.cond (.t 73) (.seq (.reg r105_9) (.ret)) (.seq (.reg r105_10) (.cond (.t 99) (.seq (.reg r105_11) (.ret)) (.seq (.reg r105_12) (.cond (.t 124) (.seq (.reg r105_13) (.ret)) (.seq (.reg r105_14) (.cond (.t 152) (.seq (.reg r105_15) (.ret)) (.seq (.reg r105_16) (.cond (.t 183) (.seq (.reg r105_17) (.ret)) (.seq (.reg r105_18) (.cond (.t 219) (.seq (.reg r105_19) (.ret)) (.skip))))))))))))))))) (.seq (.reg r105_20) (.ret)))))))
/-- (jetsam/check.looker).stmt -/
def a105 : AFunc := ⟨2, 253, [.tmp 4], c105⟩
def r106_0 : List AOper := [o 1 (.box (.t 0)),
  o 2 (.alloc [.int .i64 0, .int .i64 0, .int .i64 0, .nils])]
def r106_1 : List AOper := [o 6 (.faddr 3 (.t 1)),
  o 7 (.load none (.t 6)),
  o 3 (.mv (.t 7))]
def r106_2 : List AOper := [o 8 (.faddr 3 (.t 1)),
  ⟨none, .store 1 (.t 8) (.c (.nils)), none, false⟩]
def r106_3 : List AOper := [o 9 (.mv (.t 3)),
  o 10 (.len false (.t 9)),
  o 11 (.mv (i64 0))]
def r106_4 : List AOper := [o 12 (.bin .lss (.t 11) (.t 10))]
def r106_5 : List AOper := [o 13 (.iaddr 4 (.t 9) (.t 11)),
  o 14 (.load (some 4) (.t 13)),
  o 5 (.alloc [.int .i64 0, .int .i64 0, .int .i64 0, .nils]),
  ⟨none, .store 4 (.t 5) (.t 14), none, false⟩]
def r106_6 : List AOper := [o 15 (.faddr 3 (.t 1)),
  o 16 (.load none (.t 15)),
  o 17 (.load (some 4) (.t 5)),
  o 18 (.call 106 [(.t 17)] .borrow),
  ⟨some 19, .islice 1 [.int .i64 0, .int .i64 0, .int .i64 0, .nils] [(0, 4, (.t 18))], none, true⟩,
  o 20 (.app 4 48 (.t 16) (.t 19)),
  o 21 (.faddr 3 (.t 1)),
  ⟨none, .store 1 (.t 21) (.t 20), none, false⟩]
def b106_6 : List (List Nat) := [[], [0], [], [2], [2, 3], [0, 1, 2, 3, 4], [0, 1, 2, 3, 4, 5], [0, 1, 2, 3, 4, 5, 6]]
def r106_7 : List AOper := [o 22 (.bin .add (.t 11) (i64 1)),
  o 11 (.mv (.t 22))]
def l106_0 : ACode := .seq (.reg r106_4) (.seq (.cond (.t 12) (.skip) (.exit 0)) (.seq (.block 1 (.seq (.reg r106_5) (.dreg r106_6 b106_6 [(1, 4)]))) (.reg r106_7)))
def r106_8 : List AOper := [o 23 (.load (some 4) (.t 1)),
  ⟨none, .store 4 (.t 2) (.t 23), none, false⟩]
def c106 : ACode := .seq (.reg r106_0) (.seq (.reg r106_1) (.seq (.reg r106_2) (.seq (.seq (.reg r106_3) (.block 0 (.loop l106_0))) (.seq (.reg r106_8) (.ret)))))
/-- jetsam/flow.expr -/
def a106 : AFunc := ⟨1, 24, [.cell 2 (some 4)], c106⟩
def r107_0 : List AOper := [o 1 (.box (.t 0)),
  o 2 (.alloc [.int .i64 0, .int .i64 0, .int .i64 0, .int .i64 0, .nils, .int .i64 0, .int .i64 0, .int .i64 0, .nils])]
def r107_1 : List AOper := [o 3 (.faddr 0 (.t 1)),
  o 4 (.load none (.t 3)),
  o 5 (.faddr 1 (.t 1)),
  o 6 (.load (some 4) (.t 5)),
  o 7 (.call 106 [(.t 6)] .borrow),
  o 8 (.faddr 5 (.t 1)),
  o 9 (.load (some 4) (.t 8)),
  o 10 (.call 106 [(.t 9)] .borrow),
  o 11 (.build [.int .i64 0, .int .i64 0, .int .i64 0, .int .i64 0, .nils, .int .i64 0, .int .i64 0, .int .i64 0, .nils] [(0, 1, (.t 4)), (1, 4, (.t 7)), (5, 4, (.t 10))]),
  ⟨none, .store 9 (.t 2) (.t 11), none, false⟩]
def b107_1 : List (List Nat) := [[], [0], [], [2], [2, 3], [], [5], [2, 3, 4, 5, 6], [0, 1, 2, 3, 4, 5, 6, 7], [0, 1, 2, 3, 4, 5, 6, 7, 8]]
def c107 : ACode := .seq (.reg r107_0) (.seq (.dreg r107_1 b107_1 []) (.ret))
/-- jetsam/flow.cond -/
def a107 : AFunc := ⟨1, 12, [.cell 2 (some 9)], c107⟩
def r109_0 : List AOper := [o 1 (.box (.t 0)),
  o 2 (.alloc [.int .i64 0, .int .i64 0, .int .i64 0, .int .i64 0, .nils, .int .i64 0, .int .i64 0, .int .i64 0, .nils])]
def r109_1 : List AOper := [o 4 (.load (some 9) (.t 1)),
  o 5 (.call 107 [(.t 4)] .borrow),
  o 3 (.alloc [.int .i64 0, .int .i64 0, .int .i64 0, .int .i64 0, .nils, .int .i64 0, .int .i64 0, .int .i64 0, .nils]),
  ⟨none, .store 9 (.t 3) (.t 5), none, false⟩]
def r109_2 : List AOper := [o 6 (.faddr 0 (.t 1)),
  o 7 (.load none (.t 6)),
  o 8 (.call 41 [(.t 7)] .borrow),
  o 9 (.faddr 0 (.t 3)),
  ⟨none, .store 1 (.t 9) (.t 8), none, false⟩]
def r109_3 : List AOper := [o 10 (.load (some 9) (.t 3)),
  ⟨none, .store 9 (.t 2) (.t 10), none, false⟩]
def c109 : ACode := .seq (.reg r109_0) (.seq (.reg r109_1) (.seq (.reg r109_2) (.seq (.reg r109_3) (.ret))))
/-- jetsam/flow.not -/
def a109 : AFunc := ⟨1, 11, [.cell 2 (some 9)], c109⟩
def r130_0 : List AOper := [o 2 (.alloc [.bool false, .int .i64 0, .int .i64 0, .int .i64 0]),
  o 3 (.mv (.c (.bool false)))]
def r130_1 : List AOper := [o 7 (.mv (.t 0)),
  o 8 (.nilck (.t 7)),
  o 9 (.faddr 14 (.t 8)),
  o 10 (.faddr 6 (.t 9)),
  o 11 (.load (some 4) (.t 10)),
  o 12 (.mv (.t 0)),
  o 13 (.nilck (.t 12)),
  o 14 (.faddr 33 (.t 13)),
  o 15 (.load none (.t 14)),
  o 16 (.call 35 [(.t 11), (.t 15)] .borrow),
  o 6 (.mv (.t 16)),
  o 17 (.ext 0 (.t 6)),
  o 18 (.ext 1 (.t 6)),
  o 4 (.mv (.t 17)),
  o 5 (.mv (.t 18))]
def b130_1 : List (List Nat) := [[], [0], [0, 1], [0, 1, 2], [0, 1, 2, 3], [], [5], [5, 6], [5, 6, 7], [0, 1, 2, 3, 4, 5, 6, 7, 8], [0, 1, 2, 3, 4, 5, 6, 7, 8, 9], [0, 1, 2, 3, 4, 5, 6, 7, 8, 9, 10], [0, 1, 2, 3, 4, 5, 6, 7, 8, 9, 10], [0, 1, 2, 3, 4, 5, 6, 7, 8, 9, 10, 11], [0, 1, 2, 3, 4, 5, 6, 7, 8, 9, 10, 11, 12, 13]]
def r130_2 : List AOper := [o 19 (.mv (.t 5)),
  o 20 (.bin .neq (.t 19) (i64 0))]
def r130_3 : List AOper := [o 21 (.mv (.t 0)),
  o 22 (.mv (.t 5)),
  o 23 (.call 161 [(.t 21), (.t 22)] .share),
  o 24 (.ext 0 (.t 23)),
  o 25 (.ext 1 (.t 23)),
  ⟨none, .store 4 (.t 2) (.t 24), none, false⟩,
  o 3 (.mv (.t 25))]
def r130_4 : List AOper := [o 26 (.mv (.t 0)),
  o 27 (.nilck (.t 26)),
  o 28 (.faddr 33 (.t 27)),
  o 29 (.load none (.t 28)),
  o 30 (.mv (.t 0)),
  o 31 (.nilck (.t 30)),
  o 32 (.faddr 14 (.t 31)),
  o 33 (.faddr 3 (.t 32)),
  o 34 (.load none (.t 33)),
  o 35 (.mv (.t 4)),
  o 36 (.iaddr 1 (.t 29) (.t 34)),
  ⟨none, .store 1 (.t 36) (.t 35), none, false⟩]
def b130_4 : List (List Nat) := [[], [0], [0, 1], [0, 1, 2], [], [4], [4, 5], [4, 5, 6], [4, 5, 6, 7], [], [0, 1, 2, 3, 4, 5, 6, 7, 8, 9], [0, 1, 2, 3, 4, 5, 6, 7, 8, 9, 10]]
def r130_5 : List AOper := [o 37 (.mv (.t 0)),
  o 38 (.mv (.t 0)),
  o 39 (.nilck (.t 38)),
  o 40 (.faddr 14 (.t 39)),
  o 41 (.faddr 1 (.t 40)),
  o 42 (.load none (.t 41)),
  o 43 (.call 135 [(.t 37), (.t 42)] .share),
  o 44 (.ext 0 (.t 43)),
  o 45 (.ext 1 (.t 43)),
  ⟨none, .store 4 (.t 2) (.t 44), none, false⟩,
  o 3 (.mv (.t 45))]
def c130 : ACode := .seq (.reg r130_0) (.seq (.dreg r130_1 b130_1 []) (.seq (.seq (.reg r130_2) (.cond (.t 20) (.seq (.reg r130_3) (.ret)) (.skip))) (.seq (.dreg r130_4 b130_4 []) (.seq (.reg r130_5) (.ret)))))
/-- (*jetsam/step.runner).assign -/
def a130 : AFunc := ⟨1, 46, [.cell 2 (some 4), .tmp 3], c130⟩
def r131_0 : List AOper := [o 2 (.alloc [.bool false, .int .i64 0, .int .i64 0, .int .i64 0]),
  o 3 (.mv (.c (.bool false)))]
def r131_1 : List AOper := [o 7 (.mv (.t 0)),
  o 8 (.nilck (.t 7)),
  o 9 (.faddr 14 (.t 8)),
  o 10 (.faddr 10 (.t 9)),
  o 11 (.load (some 9) (.t 10)),
  o 12 (.mv (.t 0)),
  o 13 (.nilck (.t 12)),
  o 14 (.faddr 33 (.t 13)),
  o 15 (.load none (.t 14)),
  o 16 (.call 39 [(.t 11), (.t 15)] .borrow),
  o 6 (.mv (.t 16)),
  o 17 (.ext 0 (.t 6)),
  o 18 (.ext 1 (.t 6)),
  o 4 (.mv (.t 17)),
  o 5 (.mv (.t 18))]
def b131_1 : List (List Nat) := [[], [0], [0, 1], [0, 1, 2], [0, 1, 2, 3], [], [5], [5, 6], [5, 6, 7], [0, 1, 2, 3, 4, 5, 6, 7, 8], [0, 1, 2, 3, 4, 5, 6, 7, 8, 9], [0, 1, 2, 3, 4, 5, 6, 7, 8, 9, 10], [0, 1, 2, 3, 4, 5, 6, 7, 8, 9, 10], [0, 1, 2, 3, 4, 5, 6, 7, 8, 9, 10, 11], [0, 1, 2, 3, 4, 5, 6, 7, 8, 9, 10, 11, 12, 13]]
def r131_2 : List AOper := [o 20 (.mv (.t 5)),
  o 21 (.bin .neq (.t 20) (i64 0)),
  o 19 (.mv (.t 21))]
def r131_3 : List AOper := [o 22 (.mv (.t 0)),
  o 23 (.mv (.t 5)),
  o 24 (.call 161 [(.t 22), (.t 23)] .share),
  o 25 (.ext 0 (.t 24)),
  o 26 (.ext 1 (.t 24)),
  ⟨none, .store 4 (.t 2) (.t 25), none, false⟩,
  o 3 (.mv (.t 26))]
def r131_4 : List AOper := [o 28 (.mv (.t 4)),
  o 27 (.mv (.t 28))]
def r131_5 : List AOper := [o 29 (.mv (.t 0)),
  o 30 (.mv (.t 0)),
  o 31 (.nilck (.t 30)),
  o 32 (.faddr 14 (.t 31)),
  o 33 (.faddr 1 (.t 32)),
  o 34 (.load none (.t 33)),
  o 35 (.call 135 [(.t 29), (.t 34)] .share),
  o 36 (.ext 0 (.t 35)),
  o 37 (.ext 1 (.t 35)),
  ⟨none, .store 4 (.t 2) (.t 36), none, false⟩,
  o 3 (.mv (.t 37))]
def r131_6 : List AOper := [o 38 (.mv (.t 0)),
  o 39 (.mv (.t 0)),
  o 40 (.nilck (.t 39)),
  o 41 (.faddr 10 (.t 40)),
  o 42 (.faddr 1 (.t 41)),
  o 43 (.load none (.t 42)),
  o 44 (.mv (.t 0)),
  o 45 (.nilck (.t 44)),
  o 46 (.faddr 13 (.t 45)),
  o 47 (.load none (.t 46)),
  o 48 (.iaddr 1 (.t 47) (i64 1)),
  o 49 (.load none (.t 48)),
  o 50 (.iaddr 19 (.t 43) (.t 49)),
  o 51 (.faddr 1 (.t 50)),
  o 52 (.load none (.t 51)),
  o 53 (.call 135 [(.t 38), (.t 52)] .share),
  o 54 (.ext 0 (.t 53)),
  o 55 (.ext 1 (.t 53)),
  ⟨none, .store 4 (.t 2) (.t 54), none, false⟩,
  o 3 (.mv (.t 55))]
def b131_6 : List (List Nat) := [[], [], [1], [1, 2], [1, 2, 3], [1, 2, 3, 4], [], [6], [6, 7], [6, 7, 8], [6, 7, 8, 9], [6, 7, 8, 9, 10], [1, 2, 3, 4, 5, 6, 7, 8, 9, 10, 11], [1, 2, 3, 4, 5, 6, 7, 8, 9, 10, 11, 12], [1, 2, 3, 4, 5, 6, 7, 8, 9, 10, 11, 12, 13], [0, 1, 2, 3, 4, 5, 6, 7, 8, 9, 10, 11, 12, 13, 14], [0, 1, 2, 3, 4, 5, 6, 7, 8, 9, 10, 11, 12, 13, 14, 15], [0, 1, 2, 3, 4, 5, 6, 7, 8, 9, 10, 11, 12, 13, 14, 15], [0, 1, 2, 3, 4, 5, 6, 7, 8, 9, 10, 11, 12, 13, 14, 15, 16, 17], [0, 1, 2, 3, 4, 5, 6, 7, 8, 9, 10, 11, 12, 13, 14, 15, 16, 17, 18]]
def c131 : ACode := .seq (.reg r131_0) (.seq (.dreg r131_1 b131_1 []) (.seq (.block 0 (.seq (.reg r131_2) (.cond (.t 19) (.seq (.reg r131_3) (.ret)) (.seq (.reg r131_4) (.cond (.t 27) (.seq (.reg r131_5) (.ret)) (.skip)))))) (.seq (.dreg r131_6 b131_6 []) (.ret))))
/-- (*jetsam/step.runner).assume -/
def a131 : AFunc := ⟨1, 56, [.cell 2 (some 4), .tmp 3], c131⟩
def r132_0 : List AOper := [o 2 (.alloc [.bool false, .int .i64 0, .int .i64 0, .int .i64 0]),
  o 3 (.mv (.c (.bool false)))]
def r132_1 : List AOper := [o 7 (.mv (.t 0)),
  o 8 (.nilck (.t 7)),
  o 9 (.faddr 14 (.t 8)),
  o 10 (.faddr 10 (.t 9)),
  o 11 (.load (some 9) (.t 10)),
  o 12 (.mv (.t 0)),
  o 13 (.nilck (.t 12)),
  o 14 (.faddr 33 (.t 13)),
  o 15 (.load none (.t 14)),
  o 16 (.call 39 [(.t 11), (.t 15)] .borrow),
  o 6 (.mv (.t 16)),
  o 17 (.ext 0 (.t 6)),
  o 18 (.ext 1 (.t 6)),
  o 4 (.mv (.t 17)),
  o 5 (.mv (.t 18))]
def b132_1 : List (List Nat) := [[], [0], [0, 1], [0, 1, 2], [0, 1, 2, 3], [], [5], [5, 6], [5, 6, 7], [0, 1, 2, 3, 4, 5, 6, 7, 8], [0, 1, 2, 3, 4, 5, 6, 7, 8, 9], [0, 1, 2, 3, 4, 5, 6, 7, 8, 9, 10], [0, 1, 2, 3, 4, 5, 6, 7, 8, 9, 10], [0, 1, 2, 3, 4, 5, 6, 7, 8, 9, 10, 11], [0, 1, 2, 3, 4, 5, 6, 7, 8, 9, 10, 11, 12, 13]]
def r132_2 : List AOper := [o 20 (.mv (.t 5)),
  o 21 (.bin .neq (.t 20) (i64 0)),
  o 19 (.mv (.t 21))]
def r132_3 : List AOper := [o 22 (.mv (.t 0)),
  o 23 (.mv (.t 5)),
  o 24 (.call 161 [(.t 22), (.t 23)] .share),
  o 25 (.ext 0 (.t 24)),
  o 26 (.ext 1 (.t 24)),
  ⟨none, .store 4 (.t 2) (.t 25), none, false⟩,
  o 3 (.mv (.t 26))]
def r132_4 : List AOper := [o 28 (.mv (.t 4)),
  o 29 (.un .not (.t 28)),
  o 27 (.mv (.t 29))]
def r132_5 : List AOper := [o 30 (.mv (.t 0)),
  o 31 (.call 161 [(.t 30), (i64 1)] .share),
  o 32 (.ext 0 (.t 31)),
  o 33 (.ext 1 (.t 31)),
  ⟨none, .store 4 (.t 2) (.t 32), none, false⟩,
  o 3 (.mv (.t 33))]
def r132_6 : List AOper := [o 34 (.mv (.t 0)),
  o 35 (.mv (.t 0)),
  o 36 (.nilck (.t 35)),
  o 37 (.faddr 14 (.t 36)),
  o 38 (.faddr 1 (.t 37)),
  o 39 (.load none (.t 38)),
  o 40 (.call 135 [(.t 34), (.t 39)] .share),
  o 41 (.ext 0 (.t 40)),
  o 42 (.ext 1 (.t 40)),
  ⟨none, .store 4 (.t 2) (.t 41), none, false⟩,
  o 3 (.mv (.t 42))]
def c132 : ACode := .seq (.reg r132_0) (.seq (.dreg r132_1 b132_1 []) (.seq (.block 0 (.seq (.reg r132_2) (.cond (.t 19) (.seq (.reg r132_3) (.ret)) (.seq (.reg r132_4) (.cond (.t 27) (.seq (.reg r132_5) (.ret)) (.skip)))))) (.seq (.reg r132_6) (.ret))))
/-- (*jetsam/step.runner).assert -/
def a132 : AFunc := ⟨1, 43, [.cell 2 (some 4), .tmp 3], c132⟩
def r133_0 : List AOper := [o 2 (.alloc [.bool false, .int .i64 0, .int .i64 0, .int .i64 0]),
  o 3 (.mv (.c (.bool false)))]
def r133_1 : List AOper := [o 10 (.mv (.t 0)),
  o 11 (.nilck (.t 10)),
  o 12 (.faddr 0 (.t 11)),
  o 13 (.faddr 0 (.t 12)),
  o 14 (.load none (.t 13)),
  o 15 (.mv (.t 0)),
  o 16 (.nilck (.t 15)),
  o 17 (.faddr 14 (.t 16)),
  o 18 (.faddr 4 (.t 17)),
  o 19 (.load none (.t 18)),
  o 20 (.iaddr 6 (.t 14) (.t 19)),
  o 21 (.load (some 6) (.t 20)),
  o 4 (.alloc [.int .i64 0, .int .i64 0, .int .i64 0, .int .i64 0, .int .i64 0, .nils]),
  ⟨none, .store 6 (.t 4) (.t 21), none, false⟩]
def b133_1 : List (List Nat) := [[], [0], [0, 1], [0, 1, 2], [0, 1, 2, 3], [], [5], [5, 6], [5, 6, 7], [5, 6, 7, 8], [0, 1, 2, 3, 4, 5, 6, 7, 8, 9], [0, 1, 2, 3, 4, 5, 6, 7, 8, 9, 10], [], [0, 1, 2, 3, 4, 5, 6, 7, 8, 9, 10, 11, 12]]
def r133_2 : List AOper := [o 22 (.mv (.t 0)),
  o 23 (.nilck (.t 22)),
  o 24 (.faddr 3 (.t 23)),
  o 25 (.faddr 2 (.t 24)),
  o 26 (.load none (.t 25)),
  o 27 (.mv (.t 0)),
  o 28 (.nilck (.t 27)),
  o 29 (.faddr 14 (.t 28)),
  o 30 (.faddr 4 (.t 29)),
  o 31 (.load none (.t 30)),
  o 32 (.iaddr 1 (.t 26) (.t 31)),
  o 5 (.mv (.t 32))]
def b133_2 : List (List Nat) := [[], [0], [0, 1], [0, 1, 2], [0, 1, 2, 3], [], [5], [5, 6], [5, 6, 7], [5, 6, 7, 8], [0, 1, 2, 3, 4, 5, 6, 7, 8, 9], [0, 1, 2, 3, 4, 5, 6, 7, 8, 9, 10]]
def r133_3 : List AOper := [o 33 (.mv (.t 5)),
  o 34 (.nilck (.t 33)),
  o 35 (.load none (.t 34)),
  o 36 (.len false (.t 35)),
  o 37 (.faddr 1 (.t 4)),
  o 38 (.load none (.t 37)),
  o 39 (.bin .eql (.t 36) (.t 38)),
  o 6 (.mv (.t 39))]
def b133_3 : List (List Nat) := [[], [0], [0, 1], [0, 1, 2], [], [4], [0, 1, 2, 3, 4, 5], [0, 1, 2, 3, 4, 5, 6]]
def r133_4 : List AOper := [o 40 (.mv (.t 6)),
  o 41 (.mv (.t 40)),
  ⟨some 42, .faddr 0 (.t 4), (some (41, true)), false⟩,
  ⟨some 43, .load none (.t 42), (some (41, true)), false⟩,
  ⟨some 44, .bin .eql (.t 43) (i64 0), (some (41, true)), false⟩,
  o 45 (.pick (.t 41) (.t 44) (.c (.bool false)))]
def r133_5 : List AOper := [o 46 (.build [.bool false, .int .i64 0, .int .i64 0, .int .i64 0] []),
  ⟨none, .store 4 (.t 2) (.t 46), none, false⟩,
  o 3 (.mv (.c (.bool false)))]
def r133_6 : List AOper := [o 48 (.mv (.t 0)),
  o 49 (.nilck (.t 48)),
  o 50 (.faddr 14 (.t 49)),
  o 51 (.faddr 6 (.t 50)),
  o 52 (.load (some 4) (.t 51)),
  o 53 (.mv (.t 0)),
  o 54 (.nilck (.t 53)),
  o 55 (.faddr 33 (.t 54)),
  o 56 (.load none (.t 55)),
  o 57 (.call 35 [(.t 52), (.t 56)] .borrow),
  o 47 (.mv (.t 57)),
  o 58 (.ext 0 (.t 47)),
  o 59 (.ext 1 (.t 47)),
  o 7 (.mv (.t 58)),
  o 8 (.mv (.t 59))]
def b133_6 : List (List Nat) := [[], [0], [0, 1], [0, 1, 2], [0, 1, 2, 3], [], [5], [5, 6], [5, 6, 7], [0, 1, 2, 3, 4, 5, 6, 7, 8], [0, 1, 2, 3, 4, 5, 6, 7, 8, 9], [0, 1, 2, 3, 4, 5, 6, 7, 8, 9, 10], [0, 1, 2, 3, 4, 5, 6, 7, 8, 9, 10], [0, 1, 2, 3, 4, 5, 6, 7, 8, 9, 10, 11], [0, 1, 2, 3, 4, 5, 6, 7, 8, 9, 10, 11, 12, 13]]
def r133_7 : List AOper := [o 60 (.mv (.t 8)),
  o 61 (.bin .neq (.t 60) (i64 0))]
def r133_8 : List AOper := [o 62 (.mv (.t 0)),
  o 63 (.mv (.t 8)),
  o 64 (.call 161 [(.t 62), (.t 63)] .share),
  o 65 (.ext 0 (.t 64)),
  o 66 (.ext 1 (.t 64)),
  ⟨none, .store 4 (.t 2) (.t 65), none, false⟩,
  o 3 (.mv (.t 66))]
def r133_9 : List AOper := [o 67 (.mv (.t 0)),
  o 68 (.nilck (.t 67)),
  o 69 (.faddr 3 (.t 68)),
  o 70 (.faddr 3 (.t 69)),
  o 71 (.load none (.t 70)),
  o 72 (.mv (.t 0)),
  o 73 (.nilck (.t 72)),
  o 74 (.faddr 14 (.t 73)),
  o 75 (.faddr 4 (.t 74)),
  o 76 (.load none (.t 75)),
  o 77 (.iaddr 1 (.t 71) (.t 76)),
  o 78 (.load none (.t 77)),
  o 9 (.mv (.t 78))]
def b133_9 : List (List Nat) := [[], [0], [0, 1], [0, 1, 2], [0, 1, 2, 3], [], [5], [5, 6], [5, 6, 7], [5, 6, 7, 8], [0, 1, 2, 3, 4, 5, 6, 7, 8, 9], [0, 1, 2, 3, 4, 5, 6, 7, 8, 9, 10], [0, 1, 2, 3, 4, 5, 6, 7, 8, 9, 10, 11]]
def r133_10 : List AOper := [o 79 (.faddr 5 (.t 4)),
  o 80 (.load none (.t 79)),
  o 81 (.len false (.t 80)),
  o 82 (.bin .gtr (.t 81) (i64 0))]
def r133_11 : List AOper := [o 83 (.faddr 5 (.t 4)),
  o 84 (.load none (.t 83)),
  o 85 (.mv (.t 9)),
  o 86 (.iaddr 1 (.t 84) (.t 85)),
  o 87 (.load none (.t 86)),
  o 88 (.mv (.t 0)),
  o 89 (.nilck (.t 88)),
  o 90 (.faddr 14 (.t 89)),
  o 91 (.faddr 5 (.t 90)),
  o 92 (.load none (.t 91)),
  o 93 (.iaddr 1 (.t 87) (.t 92)),
  o 94 (.load none (.t 93)),
  o 9 (.mv (.t 94))]
def b133_11 : List (List Nat) := [[], [0], [], [0, 1, 2], [0, 1, 2, 3], [], [5], [5, 6], [5, 6, 7], [5, 6, 7, 8], [0, 1, 2, 3, 4, 5, 6, 7, 8, 9], [0, 1, 2, 3, 4, 5, 6, 7, 8, 9, 10], [0, 1, 2, 3, 4, 5, 6, 7, 8, 9, 10, 11]]
def r133_12 : List AOper := [o 96 (.mv (.t 9)),
  o 97 (.bin .lss (.t 96) (i64 0)),
  o 95 (.mv (.t 97))]
def r133_13 : List AOper := [o 98 (.mv (.t 0)),
  o 99 (.call 161 [(.t 98), (i64 6)] .share),
  o 100 (.ext 0 (.t 99)),
  o 101 (.ext 1 (.t 99)),
  ⟨none, .store 4 (.t 2) (.t 100), none, false⟩,
  o 3 (.mv (.t 101))]
def r133_14 : List AOper := [o 103 (.mv (.t 6)),
  o 104 (.mv (.t 103)),
  ⟨some 105, .faddr 0 (.t 4), (some (104, true)), false⟩,
  ⟨some 106, .load none (.t 105), (some (104, true)), false⟩,
  ⟨some 107, .bin .eql (.t 106) (i64 1), (some (104, true)), false⟩,
  o 108 (.pick (.t 104) (.t 107) (.c (.bool false))),
  o 102 (.mv (.t 108))]
def r133_15 : List AOper := [o 109 (.mv (.t 0)),
  o 110 (.call 161 [(.t 109), (i64 4)] .share),
  o 111 (.ext 0 (.t 110)),
  o 112 (.ext 1 (.t 110)),
  ⟨none, .store 4 (.t 2) (.t 111), none, false⟩,
  o 3 (.mv (.t 112))]
def r133_16 : List AOper := [o 113 (.mv (.t 0)),
  o 114 (.nilck (.t 113)),
  o 115 (.faddr 3 (.t 114)),
  o 116 (.faddr 3 (.t 115)),
  o 117 (.load none (.t 116)),
  o 118 (.mv (.t 0)),
  o 119 (.nilck (.t 118)),
  o 120 (.faddr 14 (.t 119)),
  o 121 (.faddr 4 (.t 120)),
  o 122 (.load none (.t 121)),
  o 123 (.mv (.t 9)),
  o 124 (.iaddr 1 (.t 117) (.t 122)),
  ⟨none, .store 1 (.t 124) (.t 123), none, false⟩]
def b133_16 : List (List Nat) := [[], [0], [0, 1], [0, 1, 2], [0, 1, 2, 3], [], [5], [5, 6], [5, 6, 7], [5, 6, 7, 8], [], [0, 1, 2, 3, 4, 5, 6, 7, 8, 9, 10], [0, 1, 2, 3, 4, 5, 6, 7, 8, 9, 10, 11]]
def r133_17 : List AOper := [o 125 (.mv (.t 6)),
  o 126 (.un .not (.t 125)),
  o 127 (.mv (.t 126)),
  ⟨some 128, .faddr 0 (.t 4), (some (127, true)), false⟩,
  ⟨some 129, .load none (.t 128), (some (127, true)), false⟩,
  ⟨some 130, .bin .neq (.t 129) (i64 2), (some (127, true)), false⟩,
  ⟨some 131, .mv (.t 130), (some (127, true)), false⟩,
  ⟨some 132, .mv (.t 0), (some (131, false)), false⟩,
  ⟨some 133, .nilck (.t 132), (some (131, false)), false⟩,
  ⟨some 134, .faddr 7 (.t 133), (some (131, false)), false⟩,
  ⟨some 135, .faddr 1 (.t 134), (some (131, false)), false⟩,
  ⟨some 136, .load none (.t 135), (some (131, false)), false⟩,
  ⟨some 137, .un .not (.t 136), (some (131, false)), false⟩,
  ⟨some 138, .pick (.t 131) (.c (.bool true)) (.t 137), (some (127, true)), false⟩,
  o 139 (.pick (.t 127) (.t 138) (.c (.bool false)))]
def r133_18 : List AOper := [o 140 (.mv (.t 5)),
  o 141 (.mv (.t 5)),
  o 142 (.nilck (.t 141)),
  o 143 (.load none (.t 142)),
  o 144 (.mv (.t 0)),
  o 145 (.nilck (.t 144)),
  o 146 (.faddr 14 (.t 145)),
  o 147 (.faddr 5 (.t 146)),
  o 148 (.load none (.t 147)),
  o 149 (.mv (.t 7)),
  o 150 (.build [.int .i64 0, .int .i64 0] [(0, 1, (.t 148)), (1, 1, (.t 149))]),
  o 151 (.islice 1 [.int .i64 0, .int .i64 0] [(0, 2, (.t 150))]),
  o 152 (.app 2 16 (.t 143) (.t 151)),
  o 153 (.nilck (.t 140)),
  ⟨none, .store 1 (.t 153) (.t 152), none, false⟩]
def b133_18 : List (List Nat) := [[], [], [1], [1, 2], [], [4], [4, 5], [4, 5, 6], [4, 5, 6, 7], [], [4, 5, 6, 7, 8, 9], [4, 5, 6, 7, 8, 9, 10], [1, 2, 3, 4, 5, 6, 7, 8, 9, 10, 11], [0, 1, 2, 3, 4, 5, 6, 7, 8, 9, 10, 11, 12], [0, 1, 2, 3, 4, 5, 6, 7, 8, 9, 10, 11, 12, 13]]
def r133_19 : List AOper := [o 154 (.mv (.t 0)),
  o 155 (.mv (.t 0)),
  o 156 (.nilck (.t 155)),
  o 157 (.faddr 14 (.t 156)),
  o 158 (.faddr 1 (.t 157)),
  o 159 (.load none (.t 158)),
  o 160 (.call 135 [(.t 154), (.t 159)] .share),
  o 161 (.ext 0 (.t 160)),
  o 162 (.ext 1 (.t 160)),
  ⟨none, .store 4 (.t 2) (.t 161), none, false⟩,
  o 3 (.mv (.t 162))]
def c133 : ACode := .seq (.reg r133_0) (.seq (.dreg r133_1 b133_1 []) (.seq (.dreg r133_2 b133_2 []) (.seq (.dreg r133_3 b133_3 []) (.seq (.seq (.reg r133_4) (.cond (.t 45) (.seq (.reg r133_5) (.ret)) (.skip))) (.seq (.dreg r133_6 b133_6 []) (.seq (.seq (.reg r133_7) (.cond (.t 61) (.seq (.reg r133_8) (.ret)) (.skip))) (.seq (.dreg r133_9 b133_9 []) (.seq (.seq (.reg r133_10) (.cond (.t 82) (.dreg r133_11 b133_11 []) (.skip))) (.seq (.block 0 (.seq (.reg r133_12) (.cond (.t 95) (.seq (.reg r133_13) (.ret)) (.seq (.reg r133_14) (.cond (.t 102) (.seq (.reg r133_15) (.ret)) (.skip)))))) (.seq (.dreg r133_16 b133_16 []) (.seq (.seq (.reg r133_17) (.cond (.t 139) (.dreg r133_18 b133_18 []) (.skip))) (.seq (.reg r133_19) (.ret)))))))))))))
/-- (*jetsam/step.runner).send -/
def a133 : AFunc := ⟨1, 163, [.cell 2 (some 4), .tmp 3], c133⟩
def r134_0 : List AOper := [o 2 (.alloc [.bool false, .int .i64 0, .int .i64 0, .int .i64 0]),
  o 3 (.mv (.c (.bool false)))]
def r134_1 : List AOper := [o 9 (.mv (.t 0)),
  o 10 (.nilck (.t 9)),
  o 11 (.faddr 3 (.t 10)),
  o 12 (.faddr 2 (.t 11)),
  o 13 (.load none (.t 12)),
  o 14 (.mv (.t 0)),
  o 15 (.nilck (.t 14)),
  o 16 (.faddr 14 (.t 15)),
  o 17 (.faddr 4 (.t 16)),
  o 18 (.load none (.t 17)),
  o 19 (.iaddr 1 (.t 13) (.t 18)),
  o 4 (.mv (.t 19))]
def b134_1 : List (List Nat) := [[], [0], [0, 1], [0, 1, 2], [0, 1, 2, 3], [], [5], [5, 6], [5, 6, 7], [5, 6, 7, 8], [0, 1, 2, 3, 4, 5, 6, 7, 8, 9], [0, 1, 2, 3, 4, 5, 6, 7, 8, 9, 10]]
def r134_2 : List AOper := [o 20 (.mv (.t 4)),
  o 21 (.nilck (.t 20)),
  o 22 (.load none (.t 21)),
  o 23 (.len false (.t 22)),
  o 24 (.bin .eql (.t 23) (i64 0))]
def r134_3 : List AOper := [o 25 (.build [.bool false, .int .i64 0, .int .i64 0, .int .i64 0] []),
  ⟨none, .store 4 (.t 2) (.t 25), none, false⟩,
  o 3 (.mv (.c (.bool false)))]
def r134_4 : List AOper := [o 26 (.mv (.t 4)),
  o 27 (.nilck (.t 26)),
  o 28 (.load none (.t 27)),
  o 29 (.iaddr 2 (.t 28) (i64 0)),
  o 30 (.load (some 2) (.t 29)),
  o 5 (.alloc [.int .i64 0, .int .i64 0]),
  ⟨none, .store 2 (.t 5) (.t 30), none, false⟩]
def r134_5 : List AOper := [o 31 (.mv (.t 0)),
  o 32 (.nilck (.t 31)),
  o 33 (.faddr 13 (.t 32)),
  o 34 (.load none (.t 33)),
  o 35 (.len false (.t 34)),
  o 36 (.mv (i64 0))]
def r134_6 : List AOper := [o 37 (.bin .lss (.t 36) (.t 35))]
def r134_7 : List AOper := [o 38 (.iaddr 1 (.t 34) (.t 36)),
  o 39 (.load none (.t 38)),
  o 7 (.mv (.t 39))]
def r134_8 : List AOper := [o 40 (.mv (.t 0)),
  o 41 (.nilck (.t 40)),
  o 42 (.faddr 10 (.t 41)),
  o 43 (.faddr 1 (.t 42)),
  o 44 (.load none (.t 43)),
  o 45 (.mv (.t 7)),
  o 46 (.iaddr 19 (.t 44) (.t 45)),
  o 47 (.load (some 19) (.t 46)),
  o 8 (.alloc [.int .i64 0, .int .i64 0, .int .i64 0, .int .i64 0, .int .i64 0, .int .i64 0, .int .i64 0, .int .i64 0, .int .i64 0, .nils, .int .i64 0, .int .i64 0, .int .i64 0, .int .i64 0, .nils, .int .i64 0, .int .i64 0, .int .i64 0, .nils]),
  ⟨none, .store 19 (.t 8) (.t 47), none, false⟩]
def r134_9 : List AOper := [o 48 (.faddr 5 (.t 8)),
  o 49 (.load none (.t 48)),
  o 50 (.faddr 0 (.t 5)),
  o 51 (.load none (.t 50)),
  o 52 (.bin .eql (.t 49) (.t 51))]
def r134_10 : List AOper := [o 53 (.mv (.t 0)),
  o 54 (.nilck (.t 53)),
  o 55 (.faddr 33 (.t 54)),
  o 56 (.load none (.t 55)),
  o 57 (.faddr 3 (.t 8)),
  o 58 (.load none (.t 57)),
  o 59 (.faddr 1 (.t 5)),
  o 60 (.load none (.t 59)),
  o 61 (.iaddr 1 (.t 56) (.t 58)),
  ⟨none, .store 1 (.t 61) (.t 60), none, false⟩]
def b134_10 : List (List Nat) := [[], [0], [0, 1], [0, 1, 2], [], [4], [], [6], [0, 1, 2, 3, 4, 5, 6, 7], [0, 1, 2, 3, 4, 5, 6, 7, 8]]
def r134_11 : List AOper := [o 62 (.mv (.t 4)),
  o 63 (.mv (.t 4)),
  o 64 (.nilck (.t 63)),
  o 65 (.load none (.t 64)),
  o 66 (.call 162 [(.t 65), (i64 0), (i64 1)] .share),
  o 67 (.nilck (.t 62)),
  ⟨none, .store 1 (.t 67) (.t 66), none, false⟩]
def r134_12 : List AOper := [o 68 (.mv (.t 0)),
  o 69 (.faddr 1 (.t 8)),
  o 70 (.load none (.t 69)),
  o 71 (.call 135 [(.t 68), (.t 70)] .share),
  o 72 (.ext 0 (.t 71)),
  o 73 (.ext 1 (.t 71)),
  ⟨none, .store 4 (.t 2) (.t 72), none, false⟩,
  o 3 (.mv (.t 73))]
def r134_13 : List AOper := [o 74 (.bin .add (.t 36) (i64 1)),
  o 36 (.mv (.t 74))]
def l134_0 : ACode := .seq (.reg r134_6) (.seq (.cond (.t 37) (.skip) (.exit 0)) (.seq (.block 1 (.seq (.reg r134_7) (.seq (.reg r134_8) (.seq (.reg r134_9) (.cond (.t 52) (.seq (.dreg r134_10 b134_10 []) (.seq (.reg r134_11) (.seq (.reg r134_12) (.ret)))) (.skip)))))) (.reg r134_13)))
def r134_14 : List AOper := [o 75 (.mv (.t 0)),
  o 76 (.call 161 [(.t 75), (i64 5)] .share),
  o 77 (.ext 0 (.t 76)),
  o 78 (.ext 1 (.t 76)),
  ⟨none, .store 4 (.t 2) (.t 77), none, false⟩,
  o 3 (.mv (.t 78))]
def c134 : ACode := .seq (.reg r134_0) (.seq (.dreg r134_1 b134_1 []) (.seq (.seq (.reg r134_2) (.cond (.t 24) (.seq (.reg r134_3) (.ret)) (.skip))) (.seq (.reg r134_4) (.seq (.seq (.reg r134_5) (.block 0 (.loop l134_0))) (.seq (.reg r134_14) (.ret))))))
/-- (*jetsam/step.runner).recv -/
def a134 : AFunc := ⟨1, 79, [.cell 2 (some 4), .tmp 3], c134⟩
def r135_0 : List AOper := [o 4 (.alloc [.bool false, .int .i64 0, .int .i64 0, .int .i64 0]),
  o 5 (.mv (.c (.bool false)))]
def r135_1 : List AOper := [o 6 (.mv (.t 0)),
  o 7 (.nilck (.t 6)),
  o 8 (.faddr 3 (.t 7)),
  o 9 (.faddr 0 (.t 8)),
  o 10 (.load none (.t 9)),
  o 11 (.mv (.t 0)),
  o 12 (.nilck (.t 11)),
  o 13 (.faddr 7 (.t 12)),
  o 14 (.faddr 0 (.t 13)),
  o 15 (.load none (.t 14)),
  o 16 (.mv (.t 1)),
  o 17 (.iaddr 1 (.t 10) (.t 15)),
  ⟨none, .store 1 (.t 17) (.t 16), none, false⟩]
def b135_1 : List (List Nat) := [[], [0], [0, 1], [0, 1, 2], [0, 1, 2, 3], [], [5], [5, 6], [5, 6, 7], [5, 6, 7, 8], [], [0, 1, 2, 3, 4, 5, 6, 7, 8, 9, 10], [0, 1, 2, 3, 4, 5, 6, 7, 8, 9, 10, 11]]
def r135_2 : List AOper := [o 18 (.build [.bool false, .int .i64 0, .int .i64 0, .int .i64 0] [(0, 1, (.c (.bool true)))]),
  ⟨none, .store 4 (.t 4) (.t 18), none, false⟩,
  o 5 (.mv (.c (.bool true)))]
def c135 : ACode := .seq (.reg r135_0) (.seq (.dreg r135_1 b135_1 []) (.seq (.reg r135_2) (.ret)))
/-- (*jetsam/step.runner).goes -/
def a135 : AFunc := ⟨2, 19, [.cell 4 (some 4), .tmp 5], c135⟩
def r136_0 : List AOper := [o 1 (.box (.t 0)),
  o 2 (.mv (.c (.nils))),
  o 3 (.mv (.c (.bool false)))]
def r136_1 : List AOper := [o 7 (.faddr 2 (.t 1)),
  o 8 (.load none (.t 7)),
  o 9 (.bin .eql (.t 8) (i64 0))]
def r136_2 : List AOper := [o 10 (.faddr 4 (.t 1)),
  o 11 (.load none (.t 10)),
  o 12 (.faddr 5 (.t 1)),
  o 13 (.load none (.t 12)),
  o 14 (.faddr 6 (.t 1)),
  o 15 (.load (some 4) (.t 14)),
  o 16 (.faddr 10 (.t 1)),
  o 17 (.load (some 9) (.t 16)),
  o 18 (.build [.int .i64 0, .int .i64 0, .int .i64 0, .int .i64 0, .int .i64 0, .int .i64 0, .int .i64 0, .nils, .int .i64 0, .int .i64 0, .int .i64 0, .int .i64 0, .nils, .int .i64 0, .int .i64 0, .int .i64 0, .nils, .nils, .nils, .nils] [(0, 1, (i64 7)), (2, 1, (.t 11)), (3, 1, (.t 13)), (4, 4, (.t 15)), (8, 9, (.t 17))]),
  o 4 (.alloc [.int .i64 0, .int .i64 0, .int .i64 0, .int .i64 0, .int .i64 0, .int .i64 0, .int .i64 0, .nils, .int .i64 0, .int .i64 0, .int .i64 0, .int .i64 0, .nils, .int .i64 0, .int .i64 0, .int .i64 0, .nils, .nils, .nils, .nils]),
  ⟨none, .store 20 (.t 4) (.t 18), none, false⟩]
def r136_3 : List AOper := [o 19 (.load (some 20) (.t 4)),
  ⟨some 20, .islice 1 [.int .i64 0, .int .i64 0, .int .i64 0, .int .i64 0, .int .i64 0, .int .i64 0, .int .i64 0, .nils, .int .i64 0, .int .i64 0, .int .i64 0, .int .i64 0, .nils, .int .i64 0, .int .i64 0, .int .i64 0, .nils, .nils, .nils, .nils] [(0, 20, (.t 19))], none, true⟩,
  o 21 (.faddr 3 (.t 1)),
  o 22 (.load none (.t 21)),
  o 23 (.bin .eql (.t 22) (i64 0)),
  o 2 (.mv (.t 20)),
  o 3 (.mv (.t 23))]
def b136_3 : List (List Nat) := [[], [0], [], [2], [2, 3], [0, 1], [0, 1, 2, 3, 4, 5]]
def r136_4 : List AOper := [o 25 (.load (some 19) (.t 1)),
  o 26 (.call 163 [(.t 25)] .borrow),
  o 24 (.mv (.t 26)),
  o 27 (.ext 0 (.t 24)),
  o 28 (.ext 1 (.t 24)),
  o 5 (.alloc [.int .i64 0, .int .i64 0, .int .i64 0, .int .i64 0, .int .i64 0, .int .i64 0, .int .i64 0, .nils, .int .i64 0, .int .i64 0, .int .i64 0, .int .i64 0, .nils, .int .i64 0, .int .i64 0, .int .i64 0, .nils, .nils, .nils, .nils]),
  ⟨none, .store 20 (.t 5) (.t 27), none, false⟩,
  o 6 (.mv (.t 28))]
def r136_5 : List AOper := [o 29 (.load (some 20) (.t 5)),
  ⟨some 30, .islice 1 [.int .i64 0, .int .i64 0, .int .i64 0, .int .i64 0, .int .i64 0, .int .i64 0, .int .i64 0, .nils, .int .i64 0, .int .i64 0, .int .i64 0, .int .i64 0, .nils, .int .i64 0, .int .i64 0, .int .i64 0, .nils, .nils, .nils, .nils] [(0, 20, (.t 29))], none, true⟩,
  o 31 (.mv (.t 6)),
  o 2 (.mv (.t 30)),
  o 3 (.mv (.t 31))]
def c136 : ACode := .seq (.reg r136_0) (.seq (.seq (.reg r136_1) (.cond (.t 9) (.seq (.reg r136_2) (.seq (.dreg r136_3 b136_3 [(1, 3)]) (.ret))) (.skip))) (.seq (.reg r136_4) (.seq (.reg r136_5) (.ret))))
/-- jetsam/flow.body -/
def a136 : AFunc := ⟨1, 32, [.tmp 2, .tmp 3], c136⟩
def r137_0 : List AOper := [o 2 (.mv (.c (.nils)))]
def r137_1 : List AOper := [o 3 (.mv (.t 0)),
  o 4 (.eq .slice false (.t 3) (.c (.nils)))]
def r137_2 : List AOper := [o 2 (.mv (.c (.nils)))]
def r137_3 : List AOper := [o 5 (.islice 0 [] []),
  o 6 (.mv (.t 0)),
  o 7 (.app 2 32 (.t 5) (.t 6)),
  o 2 (.mv (.t 7))]
def c137 : ACode := .seq (.reg r137_0) (.seq (.seq (.reg r137_1) (.cond (.t 4) (.seq (.reg r137_2) (.ret)) (.skip))) (.seq (.reg r137_3) (.ret)))
/-- slices.Clone[[]jetsam/check.Proc,jetsam/check.Proc] -/
def a137 : AFunc := ⟨1, 8, [.tmp 2], c137⟩
def r138_0 : List AOper := [o 2 (.mv (.c (.bool false)))]
def r138_1 : List AOper := [o 3 (.alloc [.bool false, .bool false, .bool false, .bool false])]
def r138_2 : List AOper := [o 6 (.mv (.t 0)),
  o 7 (.len false (.t 6)),
  o 8 (.mv (i64 0))]
def r138_3 : List AOper := [o 9 (.bin .lss (.t 8) (.t 7))]
def r138_4 : List AOper := [o 10 (.iaddr 19 (.t 6) (.t 8)),
  o 11 (.load (some 19) (.t 10)),
  o 5 (.alloc [.int .i64 0, .int .i64 0, .int .i64 0, .int .i64 0, .int .i64 0, .int .i64 0, .int .i64 0, .int .i64 0, .int .i64 0, .nils, .int .i64 0, .int .i64 0, .int .i64 0, .int .i64 0, .nils, .int .i64 0, .int .i64 0, .int .i64 0, .nils]),
  ⟨none, .store 19 (.t 5) (.t 11), none, false⟩]
def r138_5 : List AOper := [o 12 (.faddr 2 (.t 5)),
  o 13 (.load none (.t 12)),
  o 14 (.bin .neq (.t 13) (i64 4)),
  o 15 (.mv (.t 14)),
  ⟨some 16, .faddr 4 (.t 5), (some (15, false)), false⟩,
  ⟨some 17, .load none (.t 16), (some (15, false)), false⟩,
  ⟨some 18, .mv (.t 0), (some (15, false)), false⟩,
  ⟨some 19, .iaddr 19 (.t 18) (i64 0), (some (15, false)), false⟩,
  ⟨some 20, .faddr 4 (.t 19), (some (15, false)), false⟩,
  ⟨some 21, .load none (.t 20), (some (15, false)), false⟩,
  ⟨some 22, .bin .neq (.t 17) (.t 21), (some (15, false)), false⟩,
  o 23 (.pick (.t 15) (.c (.bool true)) (.t 22)),
  o 24 (.mv (.t 23)),
  ⟨some 25, .faddr 5 (.t 5), (some (24, false)), false⟩,
  ⟨some 26, .load none (.t 25), (some (24, false)), false⟩,
  ⟨some 27, .iarr 4 1 (.t 3) (.t 26), (some (24, false)), false⟩,
  ⟨some 28, .load none (.t 27), (some (24, false)), false⟩,
  o 29 (.pick (.t 24) (.c (.bool true)) (.t 28))]
def b138_5 : List (List Nat) := [[], [0], [0, 1], [0, 1, 2], [0, 1, 2, 3], [0, 1, 2, 3, 4], [0, 1, 2, 3], [0, 1, 2, 3, 6], [0, 1, 2, 3, 6, 7], [0, 1, 2, 3, 6, 7, 8], [0, 1, 2, 3, 4, 5, 6, 7, 8, 9], [0, 1, 2, 3, 4, 5, 6, 7, 8, 9, 10], [0, 1, 2, 3, 4, 5, 6, 7, 8, 9, 10, 11], [0, 1, 2, 3, 4, 5, 6, 7, 8, 9, 10, 11, 12], [0, 1, 2, 3, 4, 5, 6, 7, 8, 9, 10, 11, 12, 13], [0, 1, 2, 3, 4, 5, 6, 7, 8, 9, 10, 11, 12, 13, 14], [0, 1, 2, 3, 4, 5, 6, 7, 8, 9, 10, 11, 12, 13, 14, 15], [0, 1, 2, 3, 4, 5, 6, 7, 8, 9, 10, 11, 12, 13, 14, 15, 16]]
def r138_6 : List AOper := [o 2 (.mv (.c (.bool false)))]
def r138_7 : List AOper := [o 30 (.faddr 5 (.t 5)),
  o 31 (.load none (.t 30)),
  o 32 (.iarr 4 1 (.t 3) (.t 31)),
  ⟨none, .store 1 (.t 32) (.c (.bool true)), none, false⟩]
def r138_8 : List AOper := [o 33 (.bin .add (.t 8) (i64 1)),
  o 8 (.mv (.t 33))]
def l138_0 : ACode := .seq (.reg r138_3) (.seq (.cond (.t 9) (.skip) (.exit 0)) (.seq (.block 1 (.seq (.reg r138_4) (.seq (.seq (.dreg r138_5 b138_5 []) (.cond (.t 29) (.seq (.reg r138_6) (.ret)) (.skip))) (.reg r138_7)))) (.reg r138_8)))
def r138_9 : List AOper := [o 2 (.mv (.c (.bool true)))]
def c138 : ACode := .seq (.reg r138_0) (.seq (.reg r138_1) (.seq (.seq (.reg r138_2) (.block 0 (.loop l138_0))) (.seq (.reg r138_9) (.ret))))
/-- jetsam/flow.arms -/
def a138 : AFunc := ⟨1, 34, [.tmp 2], c138⟩
def r139_0 : List AOper := [o 2 (.box (.t 0)),
  o 3 (.box (.t 1)),
  o 4 (.mv (.c (.bool false)))]
def r139_1 : List AOper := [o 6 (.faddr 10 (.t 2)),
  o 7 (.load (some 9) (.t 6)),
  o 8 (.call 109 [(.t 7)] .borrow),
  o 5 (.alloc [.int .i64 0, .int .i64 0, .int .i64 0, .int .i64 0, .nils, .int .i64 0, .int .i64 0, .int .i64 0, .nils]),
  ⟨none, .store 9 (.t 5) (.t 8), none, false⟩]
def r139_2 : List AOper := [o 9 (.faddr 2 (.t 2)),
  o 10 (.load none (.t 9)),
  o 11 (.bin .eql (.t 10) (i64 2)),
  o 12 (.mv (.t 11)),
  ⟨some 13, .faddr 2 (.t 3), (some (12, true)), false⟩,
  ⟨some 14, .load none (.t 13), (some (12, true)), false⟩,
  ⟨some 15, .bin .eql (.t 14) (i64 2), (some (12, true)), false⟩,
  o 16 (.pick (.t 12) (.t 15) (.c (.bool false))),
  o 17 (.mv (.t 16)),
  ⟨some 18, .faddr 0 (.t 5), (some (17, true)), false⟩,
  ⟨some 19, .load none (.t 18), (some (17, true)), false⟩,
  ⟨some 20, .faddr 10 (.t 3), (some (17, true)), false⟩,
  ⟨some 21, .faddr 0 (.t 20), (some (17, true)), false⟩,
  ⟨some 22, .load none (.t 21), (some (17, true)), false⟩,
  ⟨some 23, .bin .eql (.t 19) (.t 22), (some (17, true)), false⟩,
  o 24 (.pick (.t 17) (.t 23) (.c (.bool false))),
  o 25 (.mv (.t 24)),
  ⟨some 26, .faddr 1 (.t 5), (some (25, true)), false⟩,
  ⟨some 27, .load (some 4) (.t 26), (some (25, true)), false⟩,
  ⟨some 28, .faddr 10 (.t 3), (some (25, true)), false⟩,
  ⟨some 29, .faddr 1 (.t 28), (some (25, true)), false⟩,
  ⟨some 30, .load (some 4) (.t 29), (some (25, true)), false⟩,
  ⟨some 31, .call 164 [(.t 27), (.t 30)] .borrow, (some (25, true)), false⟩,
  o 32 (.pick (.t 25) (.t 31) (.c (.bool false))),
  o 33 (.mv (.t 32)),
  ⟨some 34, .faddr 5 (.t 5), (some (33, true)), false⟩,
  ⟨some 35, .load (some 4) (.t 34), (some (33, true)), false⟩,
  ⟨some 36, .faddr 10 (.t 3), (some (33, true)), false⟩,
  ⟨some 37, .faddr 5 (.t 36), (some (33, true)), false⟩,
  ⟨some 38, .load (some 4) (.t 37), (some (33, true)), false⟩,
  ⟨some 39, .call 164 [(.t 35), (.t 38)] .borrow, (some (33, true)), false⟩,
  o 40 (.pick (.t 33) (.t 39) (.c (.bool false))),
  o 4 (.mv (.t 40))]
def c139 : ACode := .seq (.reg r139_0) (.seq (.reg r139_1) (.seq (.reg r139_2) (.ret)))
/-- jetsam/flow.pairs -/
def a139 : AFunc := ⟨2, 41, [.tmp 4], c139⟩
def r140_0 : List AOper := [o 4 (.mv (.c (.bool false)))]
def r140_1 : List AOper := [o 5 (.mv (.t 0)),
  o 6 (.mv (.t 1)),
  o 7 (.call 165 [(.t 5), (.t 6)] .borrow),
  o 8 (.bin .geq (.t 7) (i64 0)),
  o 4 (.mv (.t 8))]
def c140 : ACode := .seq (.reg r140_0) (.seq (.reg r140_1) (.ret))
/-- slices.Contains[[]int,int] -/
def a140 : AFunc := ⟨2, 9, [.tmp 4], c140⟩
def r141_0 : List AOper := [o 1 (.box (.t 0)),
  o 2 (.mv (.c (.bool false)))]
def r141_1 : List AOper := [o 3 (.faddr 0 (.t 1)),
  o 4 (.load none (.t 3)),
  o 5 (.bin .eql (.t 4) (i64 0)),
  o 6 (.mv (.t 5)),
  ⟨some 7, .faddr 1 (.t 1), (some (6, true)), false⟩,
  ⟨some 8, .load none (.t 7), (some (6, true)), false⟩,
  ⟨some 9, .bin .eql (.t 8) (i64 0), (some (6, true)), false⟩,
  o 10 (.pick (.t 6) (.t 9) (.c (.bool false))),
  o 11 (.mv (.t 10)),
  ⟨some 12, .faddr 2 (.t 1), (some (11, true)), false⟩,
  ⟨some 13, .load none (.t 12), (some (11, true)), false⟩,
  ⟨some 14, .bin .eql (.t 13) (i64 0), (some (11, true)), false⟩,
  o 15 (.pick (.t 11) (.t 14) (.c (.bool false))),
  o 16 (.mv (.t 15)),
  ⟨some 17, .faddr 3 (.t 1), (some (16, true)), false⟩,
  ⟨some 18, .load none (.t 17), (some (16, true)), false⟩,
  ⟨some 19, .len false (.t 18), (some (16, true)), false⟩,
  ⟨some 20, .bin .eql (.t 19) (i64 0), (some (16, true)), false⟩,
  o 21 (.pick (.t 16) (.t 20) (.c (.bool false))),
  o 2 (.mv (.t 21))]
def c141 : ACode := .seq (.reg r141_0) (.seq (.reg r141_1) (.ret))
/-- jetsam/check.none -/
def a141 : AFunc := ⟨1, 22, [.tmp 2], c141⟩
def r142_0 : List AOper := [o 1 (.box (.t 0)),
  o 2 (.mv (.c (.bool false)))]
def r142_1 : List AOper := [o 3 (.faddr 0 (.t 1)),
  o 4 (.load none (.t 3)),
  o 5 (.bin .eql (.t 4) (i64 0)),
  o 6 (.mv (.t 5)),
  ⟨some 7, .faddr 1 (.t 1), (some (6, true)), false⟩,
  ⟨some 8, .load (some 4) (.t 7), (some (6, true)), false⟩,
  ⟨some 9, .call 141 [(.t 8)] .borrow, (some (6, true)), false⟩,
  o 10 (.pick (.t 6) (.t 9) (.c (.bool false))),
  o 11 (.mv (.t 10)),
  ⟨some 12, .faddr 5 (.t 1), (some (11, true)), false⟩,
  ⟨some 13, .load (some 4) (.t 12), (some (11, true)), false⟩,
  ⟨some 14, .call 141 [(.t 13)] .borrow, (some (11, true)), false⟩,
  o 15 (.pick (.t 11) (.t 14) (.c (.bool false))),
  o 2 (.mv (.t 15))]
def c142 : ACode := .seq (.reg r142_0) (.seq (.reg r142_1) (.ret))
/-- jetsam/check.noCond -/
def a142 : AFunc := ⟨1, 16, [.tmp 2], c142⟩
def r143_0 : List AOper := [o 2 (.box (.t 0)),
  o 4 (.mv (.c (.bool false)))]
def r143_1 : List AOper := [o 7 (.faddr 3 (.t 2)),
  o 8 (.load none (.t 7)),
  o 9 (.len false (.t 8)),
  o 10 (.faddr 0 (.t 2)),
  o 11 (.load none (.t 10)),
  o 12 (.call 166 [(.t 11)] .borrow),
  o 13 (.bin .neq (.t 9) (.t 12))]
def b143_1 : List (List Nat) := [[], [0], [0, 1], [], [3], [3, 4], [0, 1, 2, 3, 4, 5]]
def r143_2 : List AOper := [o 4 (.mv (.c (.bool false)))]
def r143_3 : List AOper := [o 14 (.faddr 0 (.t 2)),
  o 15 (.load none (.t 14)),
  o 16 (.bin .neq (.t 15) (i64 1)),
  o 17 (.mv (.t 16)),
  ⟨some 18, .faddr 1 (.t 2), (some (17, true)), false⟩,
  ⟨some 19, .load none (.t 18), (some (17, true)), false⟩,
  ⟨some 20, .bin .neq (.t 19) (i64 0), (some (17, true)), false⟩,
  o 21 (.pick (.t 17) (.t 20) (.c (.bool false))),
  o 22 (.mv (.t 21)),
  ⟨some 23, .faddr 0 (.t 2), (some (22, false)), false⟩,
  ⟨some 24, .load none (.t 23), (some (22, false)), false⟩,
  ⟨some 25, .bin .neq (.t 24) (i64 2), (some (22, false)), false⟩,
  ⟨some 26, .mv (.t 25), (some (22, false)), false⟩,
  ⟨some 27, .faddr 2 (.t 2), (some (26, true)), false⟩,
  ⟨some 28, .load none (.t 27), (some (26, true)), false⟩,
  ⟨some 29, .bin .neq (.t 28) (i64 0), (some (26, true)), false⟩,
  ⟨some 30, .pick (.t 26) (.t 29) (.c (.bool false)), (some (22, false)), false⟩,
  o 31 (.pick (.t 22) (.c (.bool true)) (.t 30)),
  o 32 (.mv (.t 31)),
  ⟨some 33, .faddr 0 (.t 2), (some (32, false)), false⟩,
  ⟨some 34, .load none (.t 33), (some (32, false)), false⟩,
  ⟨some 35, .bin .eql (.t 34) (i64 2), (some (32, false)), false⟩,
  ⟨some 36, .mv (.t 35), (some (32, false)), false⟩,
  ⟨some 37, .faddr 2 (.t 2), (some (36, true)), false⟩,
  ⟨some 38, .load none (.t 37), (some (36, true)), false⟩,
  ⟨some 39, .mv (.t 1), (some (36, true)), false⟩,
  ⟨some 40, .bin .sub (.t 39) (i64 1), (some (36, true)), false⟩,
  ⟨some 41, .call 81 [(.t 38), (i64 0), (.t 40)] .borrow, (some (36, true)), false⟩,
  ⟨some 42, .un .not (.t 41), (some (36, true)), false⟩,
  ⟨some 43, .pick (.t 36) (.t 42) (.c (.bool false)), (some (32, false)), false⟩,
  o 44 (.pick (.t 32) (.c (.bool true)) (.t 43))]
def r143_4 : List AOper := [o 4 (.mv (.c (.bool false)))]
def r143_5 : List AOper := [o 45 (.faddr 3 (.t 2)),
  o 46 (.load none (.t 45)),
  o 47 (.len false (.t 46)),
  o 48 (.mv (i64 0))]
def r143_6 : List AOper := [o 49 (.bin .lss (.t 48) (.t 47))]
def r143_7 : List AOper := [o 50 (.iaddr 4 (.t 46) (.t 48)),
  o 51 (.load (some 4) (.t 50)),
  o 6 (.alloc [.int .i64 0, .int .i64 0, .int .i64 0, .nils]),
  ⟨none, .store 4 (.t 6) (.t 51), none, false⟩]
def r143_8 : List AOper := [o 52 (.load (some 4) (.t 6)),
  o 53 (.mv (.t 1)),
  o 54 (.call 143 [(.t 52), (.t 53)] .borrow),
  o 55 (.un .not (.t 54))]
def r143_9 : List AOper := [o 4 (.mv (.c (.bool false)))]
def r143_10 : List AOper := [o 56 (.bin .add (.t 48) (i64 1)),
  o 48 (.mv (.t 56))]
def l143_0 : ACode := .seq (.reg r143_6) (.seq (.cond (.t 49) (.skip) (.exit 0)) (.seq (.block 1 (.seq (.reg r143_7) (.seq (.reg r143_8) (.cond (.t 55) (.seq (.reg r143_9) (.ret)) (.skip))))) (.reg r143_10)))
def r143_11 : List AOper := [o 57 (.faddr 1 (.t 2)),
  o 58 (.load none (.t 57)),
  o 59 (.call 81 [(.t 58), (i64 0), (i64 2147483647)] .borrow),
  o 4 (.mv (.t 59))]
def c143 : ACode := .seq (.reg r143_0) (.seq (.seq (.dreg r143_1 b143_1 []) (.cond (.t 13) (.seq (.reg r143_2) (.ret)) (.skip))) (.seq (.seq (.reg r143_3) (.cond (.t 44) (.seq (.reg r143_4) (.ret)) (.skip))) (.seq (.seq (.reg r143_5) (.block 0 (.loop l143_0))) (.seq (.reg r143_11) (.ret)))))
/-- jetsam/check.expr -/
def a143 : AFunc := ⟨2, 60, [.tmp 4], c143⟩
def r144_0 : List AOper := [o 2 (.box (.t 0)),
  o 4 (.mv (.c (.bool false)))]
def r144_1 : List AOper := [o 5 (.faddr 0 (.t 2)),
  o 6 (.load none (.t 5)),
  o 7 (.call 81 [(.t 6), (i64 1), (i64 6)] .borrow),
  o 8 (.mv (.t 7)),
  ⟨some 9, .faddr 1 (.t 2), (some (8, true)), false⟩,
  ⟨some 10, .load (some 4) (.t 9), (some (8, true)), false⟩,
  ⟨some 11, .mv (.t 1), (some (8, true)), false⟩,
  ⟨some 12, .call 143 [(.t 10), (.t 11)] .borrow, (some (8, true)), false⟩,
  o 13 (.pick (.t 8) (.t 12) (.c (.bool false))),
  o 14 (.mv (.t 13)),
  ⟨some 15, .faddr 5 (.t 2), (some (14, true)), false⟩,
  ⟨some 16, .load (some 4) (.t 15), (some (14, true)), false⟩,
  ⟨some 17, .mv (.t 1), (some (14, true)), false⟩,
  ⟨some 18, .call 143 [(.t 16), (.t 17)] .borrow, (some (14, true)), false⟩,
  o 19 (.pick (.t 14) (.t 18) (.c (.bool false))),
  o 4 (.mv (.t 19))]
def c144 : ACode := .seq (.reg r144_0) (.seq (.reg r144_1) (.ret))
/-- jetsam/check.cond -/
def a144 : AFunc := ⟨2, 20, [.tmp 4], c144⟩
def r145_0 : List AOper := [o 3 (.box (.t 0)),
  o 6 (.mv (.c (.bool false)))]
def r145_1 : List AOper := [o 7 (.mv (.t 1)),
  o 8 (.faddr 0 (.t 3)),
  o 9 (.faddr 0 (.t 8)),
  o 10 (.load none (.t 9)),
  o 11 (.len false (.t 10)),
  o 12 (.bin .sub (.t 11) (i64 1)),
  o 13 (.call 81 [(.t 7), (i64 0), (.t 12)] .borrow),
  o 14 (.mv (.t 13)),
  ⟨some 15, .mv (.t 2), (some (14, true)), false⟩,
  ⟨some 16, .faddr 0 (.t 3), (some (14, true)), false⟩,
  ⟨some 17, .faddr 0 (.t 16), (some (14, true)), false⟩,
  ⟨some 18, .load none (.t 17), (some (14, true)), false⟩,
  ⟨some 19, .mv (.t 1), (some (14, true)), false⟩,
  ⟨some 20, .iaddr 6 (.t 18) (.t 19), (some (14, true)), false⟩,
  ⟨some 21, .load (some 6) (.t 20), (some (14, true)), false⟩,
  ⟨some 22, .callv (.t 15) [(.t 21)] .borrow, (some (14, true)), false⟩,
  ⟨some 23, .faddr 2 (.t 3), (some (14, true)), false⟩,
  ⟨some 24, .load none (.t 23), (some (14, true)), false⟩,
  ⟨some 25, .bin .eql (.t 22) (.t 24), (some (14, true)), false⟩,
  o 26 (.pick (.t 14) (.t 25) (.c (.bool false))),
  o 6 (.mv (.t 26))]
def b145_1 : List (List Nat) := [[], [], [1], [1, 2], [1, 2, 3], [1, 2, 3, 4], [0, 1, 2, 3, 4, 5], [0, 1, 2, 3, 4, 5, 6], [0, 1, 2, 3, 4, 5, 6, 7], [0, 1, 2, 3, 4, 5, 6, 7], [0, 1, 2, 3, 4, 5, 6, 7, 9], [0, 1, 2, 3, 4, 5, 6, 7, 9, 10], [0, 1, 2, 3, 4, 5, 6, 7], [0, 1, 2, 3, 4, 5, 6, 7, 9, 10, 11, 12], [0, 1, 2, 3, 4, 5, 6, 7, 9, 10, 11, 12, 13], [0, 1, 2, 3, 4, 5, 6, 7, 8, 9, 10, 11, 12, 13, 14], [0, 1, 2, 3, 4, 5, 6, 7], [0, 1, 2, 3, 4, 5, 6, 7, 16], [0, 1, 2, 3, 4, 5, 6, 7, 8, 9, 10, 11, 12, 13, 14, 15, 16, 17], [0, 1, 2, 3, 4, 5, 6, 7, 8, 9, 10, 11, 12, 13, 14, 15, 16, 17, 18], [0, 1, 2, 3, 4, 5, 6, 7, 8, 9, 10, 11, 12, 13, 14, 15, 16, 17, 18, 19]]
def c145 : ACode := .seq (.reg r145_0) (.seq (.dreg r145_1 b145_1 []) (.ret))
/-- (jetsam/check.looker).end -/
def a145 : AFunc := ⟨3, 27, [.tmp 6], c145⟩
def r146_0 : List AOper := [o 1 (.box (.t 0)),
  o 2 (.mv (i64 0))]
def r146_1 : List AOper := [o 3 (.faddr 2 (.t 1)),
  o 4 (.load none (.t 3)),
  o 2 (.mv (.t 4))]
def c146 : ACode := .seq (.reg r146_0) (.seq (.reg r146_1) (.ret))
/-- jetsam/check.from -/
def a146 : AFunc := ⟨1, 5, [.tmp 2], c146⟩
def r147_0 : List AOper := [o 3 (.box (.t 0)),
  o 6 (.mv (.c (.bool false)))]
def r147_1 : List AOper := [o 7 (.mv (.t 2)),
  o 8 (.faddr 0 (.t 3)),
  o 9 (.faddr 0 (.t 8)),
  o 10 (.load none (.t 9)),
  o 11 (.mv (.t 1)),
  o 12 (.iaddr 6 (.t 10) (.t 11)),
  o 13 (.faddr 4 (.t 12)),
  o 14 (.load none (.t 13)),
  o 15 (.bin .sub (.t 14) (i64 1)),
  o 16 (.call 81 [(.t 7), (i64 0), (.t 15)] .borrow),
  o 6 (.mv (.t 16))]
def c147 : ACode := .seq (.reg r147_0) (.seq (.reg r147_1) (.ret))
/-- (jetsam/check.looker).tag -/
def a147 : AFunc := ⟨3, 17, [.tmp 6], c147⟩
def r148_0 : List AOper := [o 1 (.box (.t 0)),
  o 2 (.mv (i64 0))]
def r148_1 : List AOper := [o 3 (.faddr 3 (.t 1)),
  o 4 (.load none (.t 3)),
  o 2 (.mv (.t 4))]
def c148 : ACode := .seq (.reg r148_0) (.seq (.reg r148_1) (.ret))
/-- jetsam/check.to -/
def a148 : AFunc := ⟨1, 5, [.tmp 2], c148⟩
def r149_0 : List AOper := [o 3 (.box (.t 0)),
  o 6 (.mv (.c (.bool false)))]
def r149_1 : List AOper := [o 7 (.alloc [.bool false, .bool false, .bool false, .bool false])]
def r149_2 : List AOper := [o 10 (.mv (.t 2)),
  o 11 (.len false (.t 10)),
  o 12 (.mv (i64 0))]
def r149_3 : List AOper := [o 13 (.bin .lss (.t 12) (.t 11))]
def r149_4 : List AOper := [o 14 (.iaddr 3 (.t 10) (.t 12)),
  o 15 (.load (some 3) (.t 14)),
  o 9 (.alloc [.int .i64 0, .int .i64 0, .nils]),
  ⟨none, .store 3 (.t 9) (.t 15), none, false⟩]
def r149_5 : List AOper := [o 16 (.load (some 4) (.t 3)),
  o 17 (.mv (.t 1)),
  o 18 (.faddr 0 (.t 9)),
  o 19 (.load none (.t 18)),
  o 20 (.call 147 [(.t 16), (.t 17), (.t 19)] .borrow),
  o 21 (.un .not (.t 20)),
  o 22 (.mv (.t 21)),
  ⟨some 23, .faddr 0 (.t 9), (some (22, false)), false⟩,
  ⟨some 24, .load none (.t 23), (some (22, false)), false⟩,
  ⟨some 25, .iarr 4 1 (.t 7) (.t 24), (some (22, false)), false⟩,
  ⟨some 26, .load none (.t 25), (some (22, false)), false⟩,
  o 27 (.pick (.t 22) (.c (.bool true)) (.t 26)),
  o 28 (.mv (.t 27)),
  ⟨some 29, .faddr 1 (.t 9), (some (28, false)), false⟩,
  ⟨some 30, .load none (.t 29), (some (28, false)), false⟩,
  ⟨some 31, .faddr 3 (.t 3), (some (28, false)), false⟩,
  ⟨some 32, .load none (.t 31), (some (28, false)), false⟩,
  ⟨some 33, .bin .sub (.t 32) (i64 1), (some (28, false)), false⟩,
  ⟨some 34, .call 81 [(.t 30), (i64 0), (.t 33)] .borrow, (some (28, false)), false⟩,
  ⟨some 35, .un .not (.t 34), (some (28, false)), false⟩,
  o 36 (.pick (.t 28) (.c (.bool true)) (.t 35)),
  o 37 (.mv (.t 36)),
  ⟨some 38, .load (some 4) (.t 3), (some (37, false)), false⟩,
  ⟨some 39, .faddr 2 (.t 9), (some (37, false)), false⟩,
  ⟨some 40, .load none (.t 39), (some (37, false)), false⟩,
  ⟨some 41, .call 83 [(.t 38), (.t 40)] .borrow, (some (37, false)), false⟩,
  ⟨some 42, .un .not (.t 41), (some (37, false)), false⟩,
  o 43 (.pick (.t 37) (.c (.bool true)) (.t 42))]
def r149_6 : List AOper := [o 6 (.mv (.c (.bool false)))]
def r149_7 : List AOper := [o 44 (.faddr 0 (.t 9)),
  o 45 (.load none (.t 44)),
  o 46 (.iarr 4 1 (.t 7) (.t 45)),
  ⟨none, .store 1 (.t 46) (.c (.bool true)), none, false⟩]
def r149_8 : List AOper := [o 47 (.bin .add (.t 12) (i64 1)),
  o 12 (.mv (.t 47))]
def l149_0 : ACode := .seq (.reg r149_3) (.seq (.cond (.t 13) (.skip) (.exit 0)) (.seq (.block 1 (.seq (.reg r149_4) (.seq (.seq (.reg r149_5) (.cond (.t 43) (.seq (.reg r149_6) (.ret)) (.skip))) (.reg r149_7)))) (.reg r149_8)))
def r149_9 : List AOper := [o 48 (.mv (.t 2)),
  o 49 (.len false (.t 48)),
  o 50 (.bin .gtr (.t 49) (i64 0)),
  o 6 (.mv (.t 50))]
def c149 : ACode := .seq (.reg r149_0) (.seq (.reg r149_1) (.seq (.seq (.reg r149_2) (.block 0 (.loop l149_0))) (.seq (.reg r149_9) (.ret))))
/-- (jetsam/check.looker).arms -/
def a149 : AFunc := ⟨3, 51, [.tmp 6], c149⟩
def r161_0 : List AOper := [o 4 (.alloc [.bool false, .int .i64 0, .int .i64 0, .int .i64 0]),
  o 5 (.mv (.c (.bool false)))]
def r161_1 : List AOper := [o 6 (.mv (.t 1)),
  o 7 (.mv (.t 0)),
  o 8 (.nilck (.t 7)),
  o 9 (.faddr 7 (.t 8)),
  o 10 (.faddr 0 (.t 9)),
  o 11 (.load none (.t 10)),
  o 12 (.mv (.t 0)),
  o 13 (.nilck (.t 12)),
  o 14 (.faddr 13 (.t 13)),
  o 15 (.load none (.t 14)),
  o 16 (.iaddr 1 (.t 15) (i64 0)),
  o 17 (.load none (.t 16)),
  o 18 (.build [.bool false, .int .i64 0, .int .i64 0, .int .i64 0] [(1, 1, (.t 6)), (2, 1, (.t 11)), (3, 1, (.t 17))]),
  ⟨none, .store 4 (.t 4) (.t 18), none, false⟩,
  o 5 (.mv (.c (.bool true)))]
def b161_1 : List (List Nat) := [[], [], [1], [1, 2], [1, 2, 3], [1, 2, 3, 4], [], [6], [6, 7], [6, 7, 8], [6, 7, 8, 9], [6, 7, 8, 9, 10], [0, 1, 2, 3, 4, 5, 6, 7, 8, 9, 10, 11], [0, 1, 2, 3, 4, 5, 6, 7, 8, 9, 10, 11, 12], [0, 1, 2, 3, 4, 5, 6, 7, 8, 9, 10, 11, 12, 13]]
def c161 : ACode := .seq (.reg r161_0) (.seq (.dreg r161_1 b161_1 []) (.ret))
/-- (*jetsam/step.runner).fails -/
def a161 : AFunc := ⟨2, 19, [.cell 4 (some 4), .tmp 5], c161⟩
def r162_0 : List AOper := [o 6 (.mv (.c (.nils)))]
def r162_1 : List AOper := [o 8 (.mv (.t 0)),
  o 9 (.mv (.t 1)),
  o 10 (.mv (.t 2)),
  o 11 (.mv (.t 0)),
  o 12 (.len false (.t 11)),
  o 13 (.slsl 2 (.t 8) (some (.t 9)) (some (.t 10)) (some (.t 12)))]
def r162_2 : List AOper := [o 14 (.mv (.t 1)),
  o 15 (.mv (.t 2)),
  o 16 (.bin .eql (.t 14) (.t 15))]
def r162_3 : List AOper := [o 17 (.mv (.t 0)),
  o 6 (.mv (.t 17))]
def r162_4 : List AOper := [o 18 (.mv (.t 0)),
  o 19 (.len false (.t 18)),
  o 7 (.mv (.t 19))]
def r162_5 : List AOper := [o 20 (.mv (.t 0)),
  o 21 (.mv (.t 1)),
  o 22 (.slsl 2 (.t 20) none (some (.t 21)) none),
  o 23 (.mv (.t 0)),
  o 24 (.mv (.t 2)),
  o 25 (.slsl 2 (.t 23) (some (.t 24)) none none),
  o 26 (.app 2 16 (.t 22) (.t 25)),
  o 0 (.mv (.t 26))]
def b162_5 : List (List Nat) := [[], [], [0, 1], [], [], [3, 4], [0, 1, 2, 3, 4, 5], [0, 1, 2, 3, 4, 5, 6]]
def r162_6 : List AOper := [o 27 (.mv (.t 0)),
  o 28 (.mv (.t 0)),
  o 29 (.len false (.t 28)),
  o 30 (.mv (.t 7)),
  o 31 (.slsl 2 (.t 27) (some (.t 29)) (some (.t 30)) none),
  ⟨none, .clr 2 [.int .i64 0, .int .i64 0] (.t 31), none, false⟩]
def r162_7 : List AOper := [o 32 (.mv (.t 0)),
  o 6 (.mv (.t 32))]
def c162 : ACode := .seq (.reg r162_0) (.seq (.reg r162_1) (.seq (.seq (.reg r162_2) (.cond (.t 16) (.seq (.reg r162_3) (.ret)) (.skip))) (.seq (.reg r162_4) (.seq (.dreg r162_5 b162_5 []) (.seq (.reg r162_6) (.seq (.reg r162_7) (.ret)))))))
/-- slices.Delete[[]jetsam/conf.Msg,jetsam/conf.Msg] -/
def a162 : AFunc := ⟨3, 33, [.tmp 6], c162⟩
def r163_0 : List AOper := [o 1 (.box (.t 0)),
  o 2 (.alloc [.int .i64 0, .int .i64 0, .int .i64 0, .int .i64 0, .int .i64 0, .int .i64 0, .int .i64 0, .nils, .int .i64 0, .int .i64 0, .int .i64 0, .int .i64 0, .nils, .int .i64 0, .int .i64 0, .int .i64 0, .nils, .nils, .nils, .nils]),
  o 3 (.mv (.c (.bool false)))]
def r163_1 : List AOper := [o 5 (.faddr 3 (.t 1)),
  o 6 (.load none (.t 5)),
  o 7 (.faddr 4 (.t 1)),
  o 8 (.load none (.t 7)),
  o 9 (.faddr 5 (.t 1)),
  o 10 (.load none (.t 9)),
  o 11 (.faddr 6 (.t 1)),
  o 12 (.load (some 4) (.t 11)),
  o 13 (.faddr 10 (.t 1)),
  o 14 (.load (some 9) (.t 13)),
  o 15 (.build [.int .i64 0, .int .i64 0, .int .i64 0, .int .i64 0, .int .i64 0, .int .i64 0, .int .i64 0, .nils, .int .i64 0, .int .i64 0, .int .i64 0, .int .i64 0, .nils, .int .i64 0, .int .i64 0, .int .i64 0, .nils, .nils, .nils, .nils] [(1, 1, (.t 6)), (2, 1, (.t 8)), (3, 1, (.t 10)), (4, 4, (.t 12)), (8, 9, (.t 14))]),
  o 4 (.alloc [.int .i64 0, .int .i64 0, .int .i64 0, .int .i64 0, .int .i64 0, .int .i64 0, .int .i64 0, .nils, .int .i64 0, .int .i64 0, .int .i64 0, .int .i64 0, .nils, .int .i64 0, .int .i64 0, .int .i64 0, .nils, .nils, .nils, .nils]),
  ⟨none, .store 20 (.t 4) (.t 15), none, false⟩]
def r163_2 : List AOper := [o 16 (.faddr 2 (.t 1)),
  o 17 (.load none (.t 16))]
def r163_4 : List AOper := [o 20 (.bin .eql (.t 17) (i64 1)),
  o 19 (.mv (.t 20))]
def r163_5 : List AOper := [o 21 (.faddr 0 (.t 4)),
  ⟨none, .store 1 (.t 21) (i64 1), none, false⟩]
def r163_6 : List AOper := [o 23 (.bin .eql (.t 17) (i64 2)),
  o 22 (.mv (.t 23))]
def r163_7 : List AOper := [o 24 (.bin .eql (.t 17) (i64 5)),
  o 22 (.mv (.t 24))]
def r163_8 : List AOper := [o 25 (.faddr 0 (.t 4)),
  ⟨none, .store 1 (.t 25) (i64 6), none, false⟩]
def r163_9 : List AOper := [o 27 (.bin .eql (.t 17) (i64 3)),
  o 26 (.mv (.t 27))]
def r163_10 : List AOper := [o 28 (.faddr 0 (.t 4)),
  ⟨none, .store 1 (.t 28) (i64 4), none, false⟩]
def r163_11 : List AOper := [o 30 (.bin .eql (.t 17) (i64 6)),
  o 29 (.mv (.t 30))]
def r163_12 : List AOper := [o 31 (.faddr 0 (.t 4)),
  ⟨none, .store 1 (.t 31) (i64 7), none, false⟩]
def r163_13 : List AOper := [o 33 (.bin .eql (.t 17) (i64 4)),
  o 32 (.mv (.t 33))]
def r163_14 : List AOper := [o 34 (.faddr 0 (.t 4)),
  ⟨none, .store 1 (.t 34) (i64 5), none, false⟩]
def r163_15 : List AOper := [o 35 (.faddr 5 (.t 1)),
  o 36 (.load none (.t 35)),
  o 37 (.faddr 3 (.t 1)),
  o 38 (.load none (.t 37)),
  o 39 (.build [.int .i64 0, .int .i64 0, .nils] [(0, 1, (.t 36)), (1, 1, (.t 38))]),
  ⟨some 40, .islice 1 [.int .i64 0, .int .i64 0, .nils] [(0, 3, (.t 39))], none, true⟩,
  o 41 (.faddr 19 (.t 4)),
  ⟨none, .store 1 (.t 41) (.t 40), none, false⟩]
def r163_16 : List AOper := [o 42 (.faddr 1 (.t 4)),
  ⟨none, .store 1 (.t 42) (i64 0), none, false⟩,
  o 43 (.faddr 3 (.t 4)),
  ⟨none, .store 1 (.t 43) (i64 0), none, false⟩]
def r163_3 : List AOper := [o 18 (.load (some 20) (.t 4)),
  ⟨none, .store 20 (.t 2) (.t 18), none, false⟩,
  o 3 (.mv (.c (.bool false)))]
def r163_17 : List AOper := [o 44 (.load (some 20) (.t 4)),
  ⟨none, .store 20 (.t 2) (.t 44), none, false⟩,
  o 3 (.mv (.c (.bool true)))]
def c163 : ACode := .seq (.reg r163_0) (.seq (.reg r163_1) (.seq (.seq (.reg r163_2) (.block 0 (.seq (.reg r163_4) (.cond (.t 19) (.reg r163_5) (.seq (.seq (.reg r163_6) (.cond (.t 22) (.skip) (.reg r163_7))) (.cond (.t 22) (.reg r163_8) (.seq (.reg r163_9) (.cond (.t 26) (.reg r163_10) (.seq (.reg r163_11) (.cond (.t 29) (.reg r163_12) (.seq (.reg r163_13) (.cond (.t 32) (.seq (.reg r163_14) (.seq (.reg r163_15) (.reg r163_16))) (.seq (.reg r163_3) (.ret)))))))))))))) (.seq (.reg r163_17) (.ret))))
/-- jetsam/flow.stmt -/
def a163 : AFunc := ⟨1, 45, [.cell 2 (some 20), .tmp 3], c163⟩
def r164_0 : List AOper := [o 2 (.box (.t 0)),
  o 3 (.box (.t 1)),
  o 4 (.mv (.c (.bool false)))]
def r164_1 : List AOper := [o 5 (.faddr 0 (.t 2)),
  o 6 (.load none (.t 5)),
  o 7 (.faddr 0 (.t 3)),
  o 8 (.load none (.t 7)),
  o 9 (.bin .eql (.t 6) (.t 8)),
  o 10 (.mv (.t 9)),
  ⟨some 11, .faddr 1 (.t 2), (some (10, true)), false⟩,
  ⟨some 12, .load none (.t 11), (some (10, true)), false⟩,
  ⟨some 13, .faddr 1 (.t 3), (some (10, true)), false⟩,
  ⟨some 14, .load none (.t 13), (some (10, true)), false⟩,
  ⟨some 15, .bin .eql (.t 12) (.t 14), (some (10, true)), false⟩,
  o 16 (.pick (.t 10) (.t 15) (.c (.bool false))),
  o 17 (.mv (.t 16)),
  ⟨some 18, .faddr 2 (.t 2), (some (17, true)), false⟩,
  ⟨some 19, .load none (.t 18), (some (17, true)), false⟩,
  ⟨some 20, .faddr 2 (.t 3), (some (17, true)), false⟩,
  ⟨some 21, .load none (.t 20), (some (17, true)), false⟩,
  ⟨some 22, .bin .eql (.t 19) (.t 21), (some (17, true)), false⟩,
  o 23 (.pick (.t 17) (.t 22) (.c (.bool false))),
  o 24 (.mv (.t 23)),
  ⟨some 25, .faddr 3 (.t 2), (some (24, true)), false⟩,
  ⟨some 26, .load none (.t 25), (some (24, true)), false⟩,
  ⟨some 27, .faddr 3 (.t 3), (some (24, true)), false⟩,
  ⟨some 28, .load none (.t 27), (some (24, true)), false⟩,
  ⟨some 29, .call 169 [(.t 26), (.t 28), (.c (.func 164))] .borrow, (some (24, true)), false⟩,
  o 30 (.pick (.t 24) (.t 29) (.c (.bool false))),
  o 4 (.mv (.t 30))]
def c164 : ACode := .seq (.reg r164_0) (.seq (.reg r164_1) (.ret))
/-- jetsam/flow.sameExpr -/
def a164 : AFunc := ⟨2, 31, [.tmp 4], c164⟩
def r165_0 : List AOper := [o 4 (.mv (i64 0))]
def r165_1 : List AOper := [o 6 (.mv (.t 0)),
  o 7 (.len false (.t 6)),
  o 8 (.mv (i64 0))]
def r165_2 : List AOper := [o 9 (.bin .lss (.t 8) (.t 7))]
def r165_3 : List AOper := [o 10 (.mv (.t 8)),
  o 5 (.mv (.t 10))]
def r165_4 : List AOper := [o 11 (.mv (.t 1)),
  o 12 (.mv (.t 0)),
  o 13 (.mv (.t 5)),
  o 14 (.iaddr 1 (.t 12) (.t 13)),
  o 15 (.load none (.t 14)),
  o 16 (.bin .eql (.t 11) (.t 15))]
def r165_5 : List AOper := [o 17 (.mv (.t 5)),
  o 4 (.mv (.t 17))]
def r165_6 : List AOper := [o 18 (.bin .add (.t 8) (i64 1)),
  o 8 (.mv (.t 18))]
def l165_0 : ACode := .seq (.reg r165_2) (.seq (.cond (.t 9) (.skip) (.exit 0)) (.seq (.block 1 (.seq (.reg r165_3) (.seq (.reg r165_4) (.cond (.t 16) (.seq (.reg r165_5) (.ret)) (.skip))))) (.reg r165_6)))
def r165_7 : List AOper := [o 4 (.mv (i64 (-1)))]
def c165 : ACode := .seq (.reg r165_0) (.seq (.seq (.reg r165_1) (.block 0 (.loop l165_0))) (.seq (.reg r165_7) (.ret)))
/-- slices.Index[[]int,int] -/
def a165 : AFunc := ⟨2, 19, [.tmp 4], c165⟩
def r166_0 : List AOper := [o 2 (.mv (i64 0))]
def r166_1 : List AOper := [o 4 (.mv (.t 0)),
  o 5 (.bin .eql (.t 4) (i64 1)),
  o 6 (.mv (.t 5)),
  ⟨some 7, .mv (.t 0), (some (6, false)), false⟩,
  ⟨some 8, .bin .eql (.t 7) (i64 2), (some (6, false)), false⟩,
  o 9 (.pick (.t 6) (.c (.bool true)) (.t 8)),
  o 3 (.mv (.t 9))]
def r166_2 : List AOper := [o 2 (.mv (i64 0))]
def r166_3 : List AOper := [o 11 (.mv (.t 0)),
  o 12 (.bin .eql (.t 11) (i64 3)),
  o 10 (.mv (.t 12))]
def r166_4 : List AOper := [o 2 (.mv (i64 1))]
def r166_5 : List AOper := [o 14 (.mv (.t 0)),
  o 15 (.call 81 [(.t 14), (i64 4), (i64 8)] .borrow),
  o 13 (.mv (.t 15))]
def r166_6 : List AOper := [o 2 (.mv (i64 2))]
def r166_7 : List AOper := [o 2 (.mv (i64 (-1)))]
def c166 : ACode := .seq (.reg r166_0) (.seq (.block 0 (.seq (.reg r166_1) (.cond (.t 3) (.seq (.reg r166_2) (.ret)) (.seq (.reg r166_3) (.cond (.t 10) (.seq (.reg r166_4) (.ret)) (.seq (.reg r166_5) (.cond (.t 13) (.seq (.reg r166_6) (.ret)) (.skip)))))))) (.seq (.reg r166_7) (.ret)))
/-- jetsam/check.kids -/
def a166 : AFunc := ⟨1, 16, [.tmp 2], c166⟩
def r169_0 : List AOper := [o 6 (.mv (.c (.bool false)))]
def r169_1 : List AOper := [o 10 (.mv (.t 0)),
  o 11 (.len false (.t 10)),
  o 12 (.mv (.t 1)),
  o 13 (.len false (.t 12)),
  o 14 (.bin .neq (.t 11) (.t 13))]
def r169_2 : List AOper := [o 6 (.mv (.c (.bool false)))]
def r169_3 : List AOper := [o 15 (.mv (.t 0)),
  o 16 (.len false (.t 15)),
  o 17 (.mv (i64 0))]
def r169_4 : List AOper := [o 18 (.bin .lss (.t 17) (.t 16))]
def r169_5 : List AOper := [o 19 (.mv (.t 17)),
  o 20 (.iaddr 4 (.t 15) (.t 17)),
  o 21 (.load (some 4) (.t 20)),
  o 8 (.alloc [.int .i64 0, .int .i64 0, .int .i64 0, .nils]),
  o 7 (.mv (.t 19)),
  ⟨none, .store 4 (.t 8) (.t 21), none, false⟩]
def r169_6 : List AOper := [o 22 (.mv (.t 1)),
  o 23 (.mv (.t 7)),
  o 24 (.iaddr 4 (.t 22) (.t 23)),
  o 25 (.load (some 4) (.t 24)),
  o 9 (.alloc [.int .i64 0, .int .i64 0, .int .i64 0, .nils]),
  ⟨none, .store 4 (.t 9) (.t 25), none, false⟩]
def r169_7 : List AOper := [o 26 (.mv (.t 2)),
  o 27 (.load (some 4) (.t 8)),
  o 28 (.load (some 4) (.t 9)),
  o 29 (.callv (.t 26) [(.t 27), (.t 28)] .borrow),
  o 30 (.un .not (.t 29))]
def r169_8 : List AOper := [o 6 (.mv (.c (.bool false)))]
def r169_9 : List AOper := [o 31 (.bin .add (.t 17) (i64 1)),
  o 17 (.mv (.t 31))]
def l169_0 : ACode := .seq (.reg r169_4) (.seq (.cond (.t 18) (.skip) (.exit 0)) (.seq (.block 1 (.seq (.reg r169_5) (.seq (.reg r169_6) (.seq (.reg r169_7) (.cond (.t 30) (.seq (.reg r169_8) (.ret)) (.skip)))))) (.reg r169_9)))
def r169_10 : List AOper := [o 6 (.mv (.c (.bool true)))]
def c169 : ACode := .seq (.reg r169_0) (.seq (.seq (.reg r169_1) (.cond (.t 14) (.seq (.reg r169_2) (.ret)) (.skip))) (.seq (.seq (.reg r169_3) (.block 0 (.loop l169_0))) (.seq (.reg r169_10) (.ret))))
/-- slices.EqualFunc[[]jetsam/check.Expr,[]jetsam/check.Expr,jetsam/check.Expr,jetsam/check.Expr] -/
def a169 : AFunc := ⟨3, 32, [.tmp 6], c169⟩
def prog : Map AFunc := .node none (.node none (.node none (.node none (.node none (.node (some a31) (.leaf) (.leaf)) (.node none (.node none (.node (some a143) (.leaf) (.leaf)) (.leaf)) (.leaf))) (.node none (.node (some a39) (.node none (.node (some a135) (.leaf) (.leaf)) (.leaf)) (.node (some a103) (.leaf) (.leaf))) (.leaf))) (.node none (.node none (.node (some a35) (.node none (.node (some a131) (.leaf) (.leaf)) (.leaf)) (.node (some a99) (.node (some a163) (.leaf) (.leaf)) (.leaf))) (.node none (.node (some a83) (.node (some a147) (.leaf) (.leaf)) (.leaf)) (.leaf))) (.node none (.node none (.node (some a75) (.node (some a139) (.leaf) (.leaf)) (.leaf)) (.node (some a107) (.leaf) (.leaf))) (.node (some a59) (.leaf) (.leaf))))) (.node none (.node none (.node none (.node (some a33) (.leaf) (.node none (.node (some a161) (.leaf) (.leaf)) (.leaf))) (.node none (.node (some a81) (.node (some a145) (.leaf) (.leaf)) (.leaf)) (.leaf))) (.node none (.node (some a41) (.node (some a73) (.node (some a137) (.leaf) (.leaf)) (.leaf)) (.node (some a105) (.node (some a169) (.leaf) (.leaf)) (.leaf))) (.node (some a57) (.leaf) (.leaf)))) (.node none (.node none (.node none (.node none (.node (some a133) (.leaf) (.leaf)) (.leaf)) (.node (some a101) (.node (some a165) (.leaf) (.leaf)) (.leaf))) (.node (some a53) (.node none (.node (some a149) (.leaf) (.leaf)) (.leaf)) (.leaf))) (.node none (.node none (.node none (.node (some a141) (.leaf) (.leaf)) (.leaf)) (.node (some a109) (.leaf) (.leaf))) (.leaf))))) (.node none (.node none (.node none (.node none (.leaf) (.node none (.node (some a80) (.node (some a144) (.leaf) (.leaf)) (.leaf)) (.leaf))) (.node none (.node none (.node none (.node (some a136) (.leaf) (.leaf)) (.leaf)) (.node (some a104) (.leaf) (.leaf))) (.node (some a56) (.leaf) (.leaf)))) (.node none (.node none (.node none (.node none (.node (some a132) (.leaf) (.leaf)) (.leaf)) (.node (some a100) (.node (some a164) (.leaf) (.leaf)) (.leaf))) (.node none (.node none (.node (some a148) (.leaf) (.leaf)) (.leaf)) (.leaf))) (.node none (.node none (.node none (.node (some a140) (.leaf) (.leaf)) (.leaf)) (.leaf)) (.node (some a60) (.leaf) (.leaf))))) (.node none (.node (some a10) (.node none (.node none (.node none (.node (some a130) (.leaf) (.leaf)) (.leaf)) (.node (some a98) (.node (some a162) (.leaf) (.leaf)) (.leaf))) (.node (some a50) (.node (some a82) (.node (some a146) (.leaf) (.leaf)) (.leaf)) (.leaf))) (.node none (.node (some a42) (.node (some a74) (.node (some a138) (.leaf) (.leaf)) (.leaf)) (.node (some a106) (.leaf) (.leaf))) (.node (some a58) (.leaf) (.leaf)))) (.node none (.node none (.node (some a38) (.node none (.node (some a134) (.leaf) (.leaf)) (.leaf)) (.node (some a102) (.node (some a166) (.leaf) (.leaf)) (.leaf))) (.leaf)) (.node none (.node none (.node none (.node (some a142) (.leaf) (.leaf)) (.leaf)) (.leaf)) (.leaf)))))
end Go.Ax.TryLs
