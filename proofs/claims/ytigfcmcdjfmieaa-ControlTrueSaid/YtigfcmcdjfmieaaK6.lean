/-
  Proved: colletlaw34.ControlTrue returns true for every input, and its arguments read as before. No condition.
-/
import Derived.Test.YtigfcmcdjfmieaaK5
import Derived.Test.YtigfcmcdjfmieaaRows
set_option linter.unusedVariables false
set_option linter.unusedSimpArgs false

/-! Walks: C14. -/
namespace Go.Proofs.Ytigfcmcdjfmieaa
open Go.RowKit
set_option maxRecDepth 100000
set_option linter.unusedVariables false

theorem aw_cutw {P : Program} {N : Nat} {Z : List Nat} {rn : Option Nat} {Q : Post} {F F0 : Fr} {H H0 : Hp} {x y : MC} (h1 : AW P N Z rn x (fun e F' H' => e = .normal ∧ Weak N Z F' H' F0 H0) F H) (h2 : AW P N Z rn y Q F0 H0) : AW P N Z rn (.seq x y) Q F H :=
  aw_seq (aw_mono h1 fun e F' H' ⟨he, hw⟩ => by subst he; exact aw_weak hw h2)
/-- How far it is. -/
structure Q4s where
  k : Nat
  s : St

def mcc4 : MC := (.seq (.reg [⟨(some 2), (.box 24 2 (.t 0)), none, []⟩, ⟨(some 4), (.mv (.c (.bool false))), none, []⟩] false) (.seq (.reg [⟨(some 23), (.call 9 []), none, []⟩, ⟨(some 5), (.mv (.t 23)), none, [0, 0, 0]⟩] false) (.seq (.reg [⟨(some 25), (.ld true 2 (.t 2)), none, []⟩, ⟨(some 26), (.call 10 [(.t 25)]), none, [0]⟩, ⟨(some 24), (.mv (.t 26)), none, [1]⟩, ⟨(some 27), (.ext (.t 24) 0), none, [2]⟩, ⟨(some 28), (.ext (.t 24) 1), none, [2]⟩, ⟨(some 6), (.mv (.t 27)), none, [3, 1, 0, 1, 2, 3]⟩, ⟨(some 7), (.mv (.t 28)), none, [4, 5, 0, 1, 2, 3, 4, 5]⟩] false) (.seq (.reg [⟨(some 29), (.mv (.t 6)), none, []⟩, ⟨(some 30), (.mv (.t 7)), none, []⟩, ⟨(some 31), (.call 12 [(.t 29), (.t 30)]), none, [0, 1]⟩, ⟨(some 8), (.mv (.t 31)), none, [2, 2, 0, 1, 2]⟩] false) (.seq (.seq (.reg [⟨(some 32), (.mv (.t 8)), none, []⟩, ⟨(some 33), (.isnil false false (.t 32)), none, [0]⟩] false) (.cond (.t 33) (.seq (.reg [⟨(some 4), (.mv (.c (.bool false))), none, []⟩] false) .ret) .skip)) (.seq (.reg [⟨(some 34), (.mv (.t 6)), none, []⟩, ⟨(some 35), (.call 28 [(.t 34)]), none, [0]⟩, ⟨(some 9), (.mv (.t 35)), none, [1, 1, 0, 1]⟩, ⟨(some 10), (.mv (.c (.bool false))), none, [2, 0, 1, 2]⟩, ⟨(some 11), (.mv (.c (.int .i64 0))), none, [3, 0, 1, 2, 3]⟩] false) (.seq (.seq (.reg [⟨(some 36), (.mv (.t 1)), none, []⟩, ⟨(some 37), (.call 14 [(.t 36)]), none, [0]⟩, ⟨(some 38), (.len (.t 37)), none, [1]⟩, ⟨(some 39), (.mv (.c (.int .i64 0))), none, []⟩] false) (.block 0 (.loop (.seq (.reg [⟨(some 40), (.bin .lss (.t 39) (.t 38)), none, []⟩] false) (.seq (.cond (.t 40) .skip (.exit 0)) (.seq (.block 1 (.seq (.reg [⟨(some 41), (.ixsl 2 (.t 37) (.t 39)), none, []⟩, ⟨(some 42), (.ld true 2 (.t 41)), none, [0]⟩, ⟨(some 13), (.alloc 39 2 [(.int .i64 0), (.int .i64 0)]), none, []⟩, ⟨none, (.st 2 (.t 13) (.t 42)), none, [2, 1, 0, 1, 2]⟩] false) (.seq (.reg [⟨(some 43), (.mv (.t 8)), none, []⟩, ⟨(some 44), (.ld true 2 (.t 13)), none, []⟩, ⟨(some 45), (.call 15 [(.t 43), (.t 44)]), none, [0, 1]⟩, ⟨(some 14), (.mv (.t 45)), none, [2, 2, 0, 1, 2]⟩] false) (.seq (.reg [⟨(some 46), (.mv (.t 10)), none, []⟩, ⟨(some 47), (.mv (.t 46)), none, [0]⟩, ⟨(some 48), (.fa 0 (.t 13)), (some (47, false)), [1]⟩, ⟨(some 49), (.ld false 1 (.t 48)), (some (47, false)), [2, 1]⟩, ⟨(some 50), (.bin .eql (.t 49) (.c (.int .i64 2))), (some (47, false)), [3, 1]⟩, ⟨(some 51), (.mv (.t 50)), (some (47, false)), [4, 1, 1]⟩, ⟨(some 52), (.mv (.t 14)), (some (51, true)), [5]⟩, ⟨(some 53), (.bin .eql (.t 52) (.c (.int .i64 0))), (some (51, true)), [6, 5]⟩, ⟨(some 54), (.pick (.t 51) (.t 53) (.c (.bool false))), (some (47, false)), [5, 7, 1]⟩, ⟨(some 55), (.pick (.t 47) (.c (.bool true)) (.t 54)), none, [1, 8]⟩, ⟨(some 10), (.mv (.t 55)), none, [9, 5, 0, 1, 2, 3, 4, 5, 6, 7, 8, 9]⟩] false) (.seq (.reg [⟨(some 57), (.mv (.t 8)), none, []⟩, ⟨(some 58), (.call 17 [(.t 57)]), none, [0]⟩, ⟨(some 56), (.mv (.t 58)), none, [1]⟩, ⟨(some 59), (.ext (.t 56) 0), none, [2]⟩, ⟨(some 60), (.ext (.t 56) 1), none, [2]⟩, ⟨(some 15), (.mv (.t 59)), none, [3, 1, 0, 1, 2, 3]⟩, ⟨(some 16), (.mv (.t 60)), none, [4, 5, 0, 1, 2, 3, 4, 5]⟩] false) (.seq (.seq (.reg [⟨(some 61), (.mv (.t 15)), none, []⟩, ⟨(some 62), (.mv (.t 11)), none, []⟩, ⟨(some 63), (.bin .lss (.t 61) (.t 62)), none, [0, 1]⟩, ⟨(some 64), (.mv (.t 63)), none, [2]⟩, ⟨(some 65), (.mv (.t 15)), (some (64, false)), [3]⟩, ⟨(some 66), (.mv (.t 11)), (some (64, false)), [3]⟩, ⟨(some 67), (.bin .add (.t 66) (.c (.int .i64 1))), (some (64, false)), [5, 3]⟩, ⟨(some 68), (.bin .gtr (.t 65) (.t 67)), (some (64, false)), [4, 6, 3]⟩, ⟨(some 69), (.pick (.t 64) (.c (.bool true)) (.t 68)), none, [3, 7]⟩, ⟨(some 70), (.mv (.t 69)), none, [8, 3]⟩, ⟨(some 71), (.mv (.t 15)), (some (70, false)), [9]⟩, ⟨(some 72), (.mv (.t 9)), (some (70, false)), [9]⟩, ⟨(some 73), (.bin .gtr (.t 71) (.t 72)), (some (70, false)), [10, 11, 9]⟩, ⟨(some 74), (.pick (.t 70) (.c (.bool true)) (.t 73)), none, [9, 12]⟩, ⟨(some 75), (.mv (.t 74)), none, [13, 9]⟩, ⟨(some 76), (.mv (.t 16)), (some (75, false)), [14]⟩, ⟨(some 77), (.mv (.t 15)), (some (75, false)), [14]⟩, ⟨(some 78), (.bin .gtr (.t 76) (.t 77)), (some (75, false)), [15, 16, 14]⟩, ⟨(some 79), (.pick (.t 75) (.c (.bool true)) (.t 78)), none, [14, 17]⟩, ⟨(some 80), (.mv (.t 79)), none, [18, 14]⟩, ⟨(some 81), (.mv (.t 16)), (some (80, false)), [19]⟩, ⟨(some 82), (.bin .lss (.t 81) (.c (.int .i64 (-1)))), (some (80, false)), [20, 19]⟩, ⟨(some 83), (.pick (.t 80) (.c (.bool true)) (.t 82)), none, [19, 21]⟩, ⟨(some 84), (.mv (.t 83)), none, [22, 19]⟩, ⟨(some 85), (.mv (.t 15)), (some (84, false)), [23]⟩, ⟨(some 86), (.mv (.t 11)), (some (84, false)), [23]⟩, ⟨(some 87), (.bin .gtr (.t 85) (.t 86)), (some (84, false)), [24, 25, 23]⟩, ⟨(some 88), (.mv (.t 87)), (some (84, false)), [26, 23, 23]⟩, ⟨(some 89), (.fa 0 (.t 13)), (some (88, true)), [27]⟩, ⟨(some 90), (.ld false 1 (.t 89)), (some (88, true)), [28, 27]⟩, ⟨(some 91), (.bin .neq (.t 90) (.c (.int .i64 1))), (some (88, true)), [29, 27]⟩, ⟨(some 92), (.mv (.t 91)), (some (88, true)), [30, 27, 27]⟩, ⟨(some 93), (.mv (.t 14)), (some (92, false)), [31]⟩, ⟨(some 94), (.bin .neq (.t 93) (.c (.int .i64 0))), (some (92, false)), [32, 31]⟩, ⟨(some 95), (.pick (.t 92) (.c (.bool true)) (.t 94)), (some (88, true)), [31, 33, 27]⟩, ⟨(some 96), (.pick (.t 88) (.t 95) (.c (.bool false))), (some (84, false)), [27, 34, 23]⟩, ⟨(some 97), (.pick (.t 84) (.c (.bool true)) (.t 96)), none, [23, 35]⟩] false) (.cond (.t 97) (.seq (.reg [⟨(some 4), (.mv (.c (.bool false))), none, []⟩] false) .ret) .skip)) (.seq (.reg [⟨(some 98), (.mv (.t 15)), none, []⟩, ⟨(some 11), (.mv (.t 98)), none, [0, 0]⟩] false) (.seq (.reg [⟨(some 99), (.mv (.t 15)), none, []⟩, ⟨(some 17), (.mv (.t 99)), none, [0, 0]⟩] false) (.seq (.seq (.reg [⟨(some 100), (.mv (.t 16)), none, []⟩, ⟨(some 101), (.bin .geq (.t 100) (.c (.int .i64 0))), none, [0]⟩] false) (.cond (.t 101) (.reg [⟨(some 102), (.mv (.t 16)), none, []⟩, ⟨(some 17), (.mv (.t 102)), none, [0, 0]⟩] false) .skip)) (.seq (.reg [⟨(some 103), (.mv (.t 8)), none, []⟩, ⟨(some 104), (.call 19 [(.t 103)]), none, [0]⟩, ⟨(some 105), (.mv (.t 8)), none, []⟩, ⟨(some 106), (.call 21 [(.t 105)]), none, [2, 1]⟩, ⟨(some 18), (.alloc 45 2 [(.int .i64 0), (.int .i64 0)]), none, []⟩, ⟨(some 19), (.alloc 45 2 [(.int .i64 0), (.int .i64 0)]), none, []⟩, ⟨none, (.st 2 (.t 18) (.t 104)), none, [4, 1, 3, 0, 1, 4, 5]⟩, ⟨none, (.st 2 (.t 19) (.t 106)), none, [5, 3, 6, 0, 1, 2, 3, 4, 5, 6]⟩] false) (.seq (.seq (.reg [⟨(some 107), (.mv (.t 15)), none, []⟩, ⟨(some 108), (.fa 0 (.t 18)), none, []⟩, ⟨(some 109), (.ld false 1 (.t 108)), none, [1]⟩, ⟨(some 110), (.bin .lss (.t 107) (.t 109)), none, [0, 2]⟩, ⟨(some 111), (.mv (.t 110)), none, [3]⟩, ⟨(some 112), (.mv (.t 15)), (some (111, false)), [4]⟩, ⟨(some 113), (.fa 1 (.t 18)), (some (111, false)), [4]⟩, ⟨(some 114), (.ld false 1 (.t 113)), (some (111, false)), [6, 4]⟩, ⟨(some 115), (.bin .gtr (.t 112) (.t 114)), (some (111, false)), [5, 7, 4]⟩, ⟨(some 116), (.pick (.t 111) (.c (.bool true)) (.t 115)), none, [4, 8]⟩, ⟨(some 117), (.mv (.t 116)), none, [9, 4]⟩, ⟨(some 118), (.mv (.t 17)), (some (117, false)), [10]⟩, ⟨(some 119), (.fa 0 (.t 19)), (some (117, false)), [10]⟩, ⟨(some 120), (.ld false 1 (.t 119)), (some (117, false)), [12, 10]⟩, ⟨(some 121), (.bin .lss (.t 118) (.t 120)), (some (117, false)), [11, 13, 10]⟩, ⟨(some 122), (.pick (.t 117) (.c (.bool true)) (.t 121)), none, [10, 14]⟩, ⟨(some 123), (.mv (.t 122)), none, [15, 10]⟩, ⟨(some 124), (.mv (.t 17)), (some (123, false)), [16]⟩, ⟨(some 125), (.fa 1 (.t 19)), (some (123, false)), [16]⟩, ⟨(some 126), (.ld false 1 (.t 125)), (some (123, false)), [18, 16]⟩, ⟨(some 127), (.bin .gtr (.t 124) (.t 126)), (some (123, false)), [17, 19, 16]⟩, ⟨(some 128), (.pick (.t 123) (.c (.bool true)) (.t 127)), none, [16, 20]⟩, ⟨(some 129), (.mv (.t 128)), none, [21, 16]⟩, ⟨(some 130), (.fa 1 (.t 19)), (some (129, false)), [22]⟩, ⟨(some 131), (.ld false 1 (.t 130)), (some (129, false)), [23, 22]⟩, ⟨(some 132), (.fa 1 (.t 18)), (some (129, false)), [22]⟩, ⟨(some 133), (.ld false 1 (.t 132)), (some (129, false)), [25, 22]⟩, ⟨(some 134), (.bin .neq (.t 131) (.t 133)), (some (129, false)), [24, 26, 22]⟩, ⟨(some 135), (.pick (.t 129) (.c (.bool true)) (.t 134)), none, [22, 27]⟩, ⟨(some 136), (.mv (.t 135)), none, [28, 22]⟩, ⟨(some 137), (.fa 0 (.t 19)), (some (136, false)), [29]⟩, ⟨(some 138), (.ld false 1 (.t 137)), (some (136, false)), [30, 29]⟩, ⟨(some 139), (.fa 0 (.t 18)), (some (136, false)), [29]⟩, ⟨(some 140), (.ld false 1 (.t 139)), (some (136, false)), [32, 29]⟩, ⟨(some 141), (.bin .gtr (.t 138) (.t 140)), (some (136, false)), [31, 33, 29]⟩, ⟨(some 142), (.pick (.t 136) (.c (.bool true)) (.t 141)), none, [29, 34]⟩] false) (.cond (.t 142) (.seq (.reg [⟨(some 4), (.mv (.c (.bool false))), none, []⟩] false) .ret) .skip)) (.seq (.seq (.reg [⟨(some 143), (.mv (.t 10)), none, []⟩, ⟨(some 144), (.un .not (.t 143)), none, [0]⟩, ⟨(some 145), (.mv (.t 144)), none, [1]⟩, ⟨(some 146), (.fa 0 (.t 18)), (some (145, true)), [2]⟩, ⟨(some 147), (.ld false 1 (.t 146)), (some (145, true)), [3, 2]⟩, ⟨(some 148), (.fa 1 (.t 18)), (some (145, true)), [2]⟩, ⟨(some 149), (.ld false 1 (.t 148)), (some (145, true)), [5, 2]⟩, ⟨(some 150), (.bin .neq (.t 147) (.t 149)), (some (145, true)), [4, 6, 2]⟩, ⟨(some 151), (.pick (.t 145) (.t 150) (.c (.bool false))), none, [2, 7]⟩, ⟨(some 152), (.mv (.t 151)), none, [8, 2]⟩, ⟨(some 153), (.fa 1 (.t 18)), (some (152, false)), [9]⟩, ⟨(some 154), (.ld false 1 (.t 153)), (some (152, false)), [10, 9]⟩, ⟨(some 155), (.fa 0 (.t 18)), (some (152, false)), [9]⟩, ⟨(some 156), (.ld false 1 (.t 155)), (some (152, false)), [12, 9]⟩, ⟨(some 157), (.bin .sub (.t 154) (.t 156)), (some (152, false)), [11, 13, 9]⟩, ⟨(some 158), (.mv (.t 7)), (some (152, false)), [9]⟩, ⟨(some 159), (.bin .geq (.t 157) (.t 158)), (some (152, false)), [14, 15, 9]⟩, ⟨(some 160), (.pick (.t 152) (.c (.bool true)) (.t 159)), none, [9, 16]⟩, ⟨(some 161), (.mv (.t 160)), none, [17, 9]⟩, ⟨(some 162), (.fa 1 (.t 18)), (some (161, false)), [18]⟩, ⟨(some 163), (.ld false 1 (.t 162)), (some (161, false)), [19, 18]⟩, ⟨(some 164), (.mv (.t 9)), (some (161, false)), [18]⟩, ⟨(some 165), (.bin .gtr (.t 163) (.t 164)), (some (161, false)), [20, 21, 18]⟩, ⟨(some 166), (.pick (.t 161) (.c (.bool true)) (.t 165)), none, [18, 22]⟩] false) (.cond (.t 166) (.seq (.reg [⟨(some 4), (.mv (.c (.bool false))), none, []⟩] false) .ret) .skip)) (.seq (.reg [⟨(some 20), (.mv (.c (.int .i64 0))), none, []⟩] false) (.seq (.seq (.reg [⟨(some 167), (.mv (.t 8)), none, []⟩, ⟨(some 168), (.call 26 [(.t 167)]), none, [0]⟩, ⟨(some 169), (.len (.t 168)), none, [1]⟩, ⟨(some 170), (.mv (.c (.int .i64 0))), none, []⟩] false) (.block 2 (.loop (.seq (.reg [⟨(some 171), (.bin .lss (.t 170) (.t 169)), none, []⟩] false) (.seq (.cond (.t 171) .skip (.exit 2)) (.seq (.block 3 (.seq (.reg [⟨(some 172), (.ixsl 1 (.t 168) (.t 170)), none, []⟩, ⟨(some 173), (.ld false 1 (.t 172)), none, [0]⟩, ⟨(some 22), (.mv (.t 173)), none, [1, 0, 1]⟩] false) (.seq (.seq (.reg [⟨(some 174), (.mv (.t 22)), none, []⟩, ⟨(some 175), (.mv (.t 20)), none, []⟩, ⟨(some 176), (.bin .leq (.t 174) (.t 175)), none, [0, 1]⟩, ⟨(some 177), (.mv (.t 176)), none, [2]⟩, ⟨(some 178), (.mv (.t 22)), (some (177, false)), [3]⟩, ⟨(some 179), (.mv (.t 15)), (some (177, false)), [3]⟩, ⟨(some 180), (.bin .gtr (.t 178) (.t 179)), (some (177, false)), [4, 5, 3]⟩, ⟨(some 181), (.pick (.t 177) (.c (.bool true)) (.t 180)), none, [3, 6]⟩, ⟨(some 182), (.mv (.t 181)), none, [7, 3]⟩, ⟨(some 183), (.mv (.t 22)), (some (182, false)), [8]⟩, ⟨(some 184), (.mv (.t 7)), (some (182, false)), [8]⟩, ⟨(some 185), (.bin .rem (.t 183) (.t 184)), (some (182, false)), [9, 10, 8]⟩, ⟨(some 186), (.bin .neq (.t 185) (.c (.int .i64 0))), (some (182, false)), [11, 8]⟩, ⟨(some 187), (.mv (.t 186)), (some (182, false)), [12, 8, 8]⟩, ⟨(some 188), (.mv (.t 22)), (some (187, true)), [13]⟩, ⟨(some 189), (.mv (.t 9)), (some (187, true)), [13]⟩, ⟨(some 190), (.bin .neq (.t 188) (.t 189)), (some (187, true)), [14, 15, 13]⟩, ⟨(some 191), (.pick (.t 187) (.t 190) (.c (.bool false))), (some (182, false)), [13, 16, 8]⟩, ⟨(some 192), (.pick (.t 182) (.c (.bool true)) (.t 191)), none, [8, 17]⟩] false) (.cond (.t 192) (.seq (.reg [⟨(some 4), (.mv (.c (.bool false))), none, []⟩] false) .ret) .skip)) (.reg [⟨(some 193), (.mv (.t 22)), none, []⟩, ⟨(some 20), (.mv (.t 193)), none, [0, 0]⟩] false)))) (.reg [⟨(some 194), (.bin .add (.t 170) (.c (.int .i64 1))), none, []⟩, ⟨(some 170), (.mv (.t 194)), none, [0]⟩] false))))))) (.seq (.reg [⟨(some 195), (.mv (.t 15)), none, []⟩, ⟨(some 196), (.mv (.t 20)), none, []⟩, ⟨(some 197), (.bin .sub (.t 195) (.t 196)), none, [0, 1]⟩, ⟨(some 198), (.mv (.t 7)), none, []⟩, ⟨(some 199), (.bin .geq (.t 197) (.t 198)), none, [2, 3]⟩, ⟨(some 200), (.mv (.t 199)), none, [4]⟩, ⟨(some 201), (.mv (.t 10)), (some (200, false)), [5]⟩, ⟨(some 202), (.mv (.t 201)), (some (200, false)), [6, 5, 5]⟩, ⟨(some 203), (.fa 0 (.t 18)), (some (202, true)), [7]⟩, ⟨(some 204), (.ld false 1 (.t 203)), (some (202, true)), [8, 7]⟩, ⟨(some 205), (.mv (.t 20)), (some (202, true)), [7]⟩, ⟨(some 206), (.bin .neq (.t 204) (.t 205)), (some (202, true)), [9, 10, 7]⟩, ⟨(some 207), (.pick (.t 202) (.t 206) (.c (.bool false))), (some (200, false)), [7, 11, 5]⟩, ⟨(some 208), (.pick (.t 200) (.c (.bool true)) (.t 207)), none, [5, 12]⟩] false) (.cond (.t 208) (.seq (.reg [⟨(some 4), (.mv (.c (.bool false))), none, []⟩] false) .ret) .skip)))))))))))))))) (.reg [⟨(some 209), (.bin .add (.t 39) (.c (.int .i64 1))), none, []⟩, ⟨(some 39), (.mv (.t 209)), none, [0]⟩] false))))))) (.seq (.reg [⟨(some 210), (.mv (.t 5)), none, []⟩, ⟨(some 4), (.mv (.t 210)), none, [0, 0]⟩] false) .ret))))))))
theorem mcOkc4 : (match Try.f4.body with | some c => compC Try.prog 211 c | none => none) = some mcc4 := by kernel_rfl

set_option maxHeartbeats 1600000 in
theorem gc4 (ls : List (List Int)) (ev : Int) (hls : ∀ L ∈ ls, L.length ≤ 4611686018427387904) (hlls : ls.length ≤ 4611686018427387904) (hev : 0 ≤ ev ∧ ev < 256) (l : List Int) (hl : l.length ≤ 4611686018427387904) (hx : ∀ x ∈ l, 0 ≤ x ∧ x < 256) : FC Try.prog 4 [.agg [.rs 1 (ls.map cL), .int .u8 ev], .rs 1 (l.map cu8)] [] (.bool true) [] false := by
  obtain ⟨p, n, h10, hnw, hpl, ha, hn⟩ := made_ex ls ev hls hlls hev
  have h12 := at12 900 901 902 rfl p n (by omega) hnw
  have h28 := gc28 p (by omega)
  generalize pstep p = a at h12 h28 ha
  have hI0 : Iv 0 (st0 a n) := iv_0 ⟨by omega, by omega⟩ ⟨by omega, by omega⟩
  have hN0 : Nf (st0 a n) := fun h => by cases h
  have h14 := gc14 l hl hx
  have hE : (evS (l.take 40)).length ≤ 320 := by
    have := evS_len (l.take 40) (fun x hx0 => hx x (List.mem_of_mem_take hx0))
    simp at this; omega
  generalize evS (l.take 40) = E at h14 hE
  refine fc_run (nt := 211) Try.func4 rfl rfl mcOkc4 (Nat.le_of_ble_eq_true rfl) ?_
  delta mcc4
  refine aw_seq ?_
  refine aw_reg ?_
  refine rs_box rfl rfl rfl rfl rfl rfl ?_
  refine rs_mv rfl rfl ?_
  refine rs_nil fun _ => ?_
  refine th_n ?_
  refine aw_seq ?_
  refine aw_reg ?_
  refine rs_calln [] rfl rfl gc9 .nil rfl ?_
  refine rs_mv rfl rfl ?_
  refine rs_nil fun _ => ?_
  refine th_n ?_
  refine aw_seq ?_
  refine aw_reg ?_
  refine rs_ld_pa rfl rfl rfl rfl (Nat.le_of_ble_eq_true rfl) rfl ?_
  refine rs_callo [] rfl rfl (h10) (.cons (hv_same rfl) (.nil)) (.nil) rfl rfl rfl ?_
  refine rs_mv rfl rfl ?_
  refine rs_ext rfl rfl rfl ?_
  refine rs_ext rfl rfl rfl ?_
  refine rs_mv rfl rfl ?_
  refine rs_mv rfl rfl ?_
  refine rs_nil fun _ => ?_
  refine th_n ?_
  refine aw_seq ?_
  refine aw_reg ?_
  refine rs_mv rfl rfl ?_
  refine rs_mv rfl rfl ?_
  refine rs_calln [] rfl rfl (h12) (.cons (hv_same rfl) (.cons (hv_same rfl) (.nil))) rfl ?_
  refine rs_mv rfl rfl ?_
  refine rs_nil fun _ => ?_
  refine th_n ?_
  refine aw_seq ?_
  refine aw_seq ?_
  refine aw_reg ?_
  refine rs_mv rfl rfl ?_
  refine rs_nil_p rfl rfl (.inr ⟨_, _, _, rfl⟩) ?_
  refine rs_nil fun _ => ?_
  refine th_n ?_
  refine aw_cond rfl (fun h => by cases h) (fun _ => ?_)
  refine aw_skip ?_
  refine th_n ?_
  refine aw_seq ?_
  refine aw_reg ?_
  refine rs_mv rfl rfl ?_
  refine rs_calln [] rfl rfl (h28) (.cons (hv_same rfl) (.nil)) rfl ?_
  refine rs_mv rfl rfl ?_
  refine rs_mv rfl rfl ?_
  refine rs_mv rfl rfl ?_
  refine rs_nil fun _ => ?_
  refine th_n ?_
  refine aw_seq ?_
  refine aw_seq ?_
  refine aw_reg ?_
  refine rs_mv rfl rfl ?_
  refine rs_calln [] rfl rfl (h14) (.cons (hv_same rfl) (.nil)) rfl ?_
  refine rs_len_s rfl rfl ?_
  refine rs_mv rfl rfl ?_
  refine rs_nil fun _ => ?_
  refine th_n ?_
  refine aw_block ?_
  refine aw_fam (α := Q4s) (fun q => E.length - q.k) (fun q => [(5, .bool true), (7, iv n), (8, .ptr 900 0 0), (9, iv a), (10, .bool q.s.blind), (11, iv q.s.made), (37, .sl 1005 0 E.length), (38, iv (E.length : Int)), (39, iv (((q.k) : Nat) : Int))]) (fun q => [(900, ctlO 903 q.s), (903, rowO q.s.rs), (1005, .cells 39 2 (E.map cE) true)]) (fun q => q.k ≤ E.length ∧ Iv q.k q.s ∧ Nf q.s ∧ q.s.all = a ∧ q.s.every = n) ⟨0, st0 a n⟩ (⟨by dsimp only; omega, hI0, hN0, rfl, rfl⟩)
    (show Weak _ _ _ _ [(5, .bool true), (7, iv n), (8, .ptr 900 0 0), (9, iv a), (10, .bool (st0 a n).blind), (11, iv (st0 a n).made), (37, .sl 1005 0 E.length), (38, iv (E.length : Int)), (39, iv (((0) : Nat) : Int))] [(900, ctlO 903 (st0 a n)), (903, rowO (st0 a n).rs), (1005, .cells 39 2 (E.map cE) true)] from Weak.trans (F1 := [(5, .bool true), (7, iv n), (8, .ptr 900 0 0), (9, iv a), (10, .bool (st0 a n).blind), (11, iv (st0 a n).made), (37, .sl 1005 0 E.length), (38, iv (E.length : Int)), (39, iv (((0) : Nat) : Int))]) (H1 := [(900, ctlO 901 (st0 a n)), (901, rowO (st0 a n).rs), (1005, .cells 39 2 (E.map cE) true)]) (weak_to (.cons rfl (rc_same rfl (.inl rfl)) (.cons rfl (rc_same rfl (.inl rfl)) (.cons rfl (rc_same rfl (.inl rfl)) (.cons rfl (rc_same rfl (.inl rfl)) (.cons rfl (rc_same rfl (.inl rfl)) (.cons rfl (rc_same rfl (.inl rfl)) (.cons rfl (rc_same rfl (.inl rfl)) (.cons rfl (rc_same rfl (.inl rfl)) (.cons rfl (rc_same rfl (.inl rfl)) (.nil)))))))))) (.keep (rfl) rfl (.keep (rfl) rfl (.keep (rfl) rfl (.nil)))) fun i h => by cases h) (Weak.trans (F1 := [(5, .bool true), (7, iv n), (8, .ptr 900 0 0), (9, iv a), (10, .bool (st0 a n).blind), (11, iv (st0 a n).made), (37, .sl 1005 0 E.length), (38, iv (E.length : Int)), (39, iv (((0) : Nat) : Int))]) (weak_ren_row (i := 901) (i' := 903) (k := 900) rfl rfl (.cons rfl (.same _) (.cons rfl (.same _) (.cons rfl (.same _) (.cons rfl (.same _) (.cons rfl (.same _) (.cons rfl (.same _) (.cons rfl (.same _) (.cons rfl (.same _) (.cons rfl (.same _) (.nil)))))))))) (by decide) rfl (.cons (.sl _ _) (RenL.refl _ _ _))) (weak_to (.cons rfl (rc_same rfl (.inl rfl)) (.cons rfl (rc_same rfl (.inl rfl)) (.cons rfl (rc_same rfl (.inl rfl)) (.cons rfl (rc_same rfl (.inl rfl)) (.cons rfl (rc_same rfl (.inl rfl)) (.cons rfl (rc_same rfl (.inl rfl)) (.cons rfl (rc_same rfl (.inl rfl)) (.cons rfl (rc_same rfl (.inl rfl)) (.cons rfl (rc_same rfl (.inl rfl)) (.nil)))))))))) (.keep (rfl) rfl (.keep (rfl) rfl (.keep (rfl) rfl (.nil)))) fun i h => by cases h))) ?_
  rintro ⟨k, s⟩ ⟨hk, hI, hN, hsa, hse⟩
  dsimp only at hk hI hN hsa hse
  try dsimp only
  have hIm := hI.made; have hIa := hI.all
  refine aw_seq ?_
  refine aw_reg ?_
  refine rs_lss rfl rfl rfl ?_
  refine rs_nil fun _ => ?_
  refine th_n ?_
  refine aw_seq ?_
  refine aw_cond rfl (fun h40 => ?_) (fun h40 => ?_)
  · replace h40 := of_decide_eq_true h40
    refine aw_skip ?_
    refine th_n ?_
    refine aw_seq ?_
    refine aw_block ?_
    refine aw_seq ?_
    refine aw_reg ?_
    obtain ⟨p0, hp0, _⟩ := at_some (L := E) (k := k) (by omega)
    refine rs_ix_s rfl rfl rfl rfl (by omega) (by omega) ?_
    refine rs_ld_ga (f := cE) (xs := E) (y := p0) rfl rfl rfl (by rw [show 0 + ((k : Nat) : Int).toNat = k by omega]; exact hp0) (Nat.le_of_ble_eq_true rfl) rfl ?_
    refine rs_alloc rfl rfl rfl ?_
    refine rs_st rfl rfl rfl rfl rfl rfl rfl (Nat.le_of_ble_eq_true rfl) rfl rfl ?_
    refine rs_nil fun _ => ?_
    refine th_n ?_
    refine aw_seq ?_
    refine aw_reg ?_
    refine rs_mv rfl rfl ?_
    refine rs_ld_pa rfl rfl rfl rfl (Nat.le_of_ble_eq_true rfl) rfl ?_
    have hT := tr_do hN p0.1 p0.2
    have hI2 := iv_do hI p0.1 p0.2
    generalize hd : doS s p0.1 p0.2 = q at hT hI2
    obtain ⟨e, t⟩ := q
    dsimp only at hT hI2
    have hst := hI2.sm (by omega)
    have hK := kn_iv hI2 hT.nf
    obtain ⟨A, B, hAB⟩ : ∃ A B, spanS t = (A, B) := ⟨_, _, rfl⟩
    rw [hAB] at hK
    dsimp only at hK
    have hta := hT.all.trans hsa
    have hte := hT.every.trans hse
    have hK1 := hK.b; have hK2 := hK.s; have hK3 := hK.w; have hK4 := hK.l; have hK5 := hK.d; have hK6 := hK.h; have hK7 := hK.e
    have hT1 := hT.m0; have hT2 := hT.m1; have hI2m := hI2.made; have hIlen := hI2.len; have hlb := hI2.ls.b
    refine rs_callo (hC 900 903 s) rfl rfl (at15 900 903 905 rfl s t p0.1 p0.2 e (hI.sm (by omega)) hd) (.cons (hv_same rfl) (.cons (hv_same rfl) (.nil))) (.cons rfl (.cons rfl (.nil))) rfl rfl rfl ?_
    refine rs_mv rfl rfl ?_
    refine rs_nil fun _ => ?_
    refine th_n ?_
    refine aw_cutw (F0 := [(5, .bool true), (7, iv n), (8, .ptr 900 0 0), (9, iv a), (10, .bool t.blind), (11, iv s.made), (37, .sl 1005 0 E.length), (38, iv (E.length : Int)), (39, iv (((k) : Nat) : Int)), (13, .ptr 13 0 0), (14, iv e)]) (H0 := [(900, ctlO 905 t), (905, rowO t.rs), (1005, .cells 39 2 (E.map cE) true), (13, .cells 39 2 [cE p0] true)]) ?_ ?_
    · skip
      refine aw_reg ?_
      refine rs_mv rfl rfl ?_
      cases h46 : s.blind
      · skip
        refine rs_mv rfl rfl ?_
        refine rs_fa_p rfl rfl ?_
        refine rs_ld_p rfl rfl rfl rfl rfl ?_
        refine rs_cmp rfl rfl rfl rfl (fun h50 => ?_) (fun h50 => ?_)
        · skip
          refine rs_mv rfl rfl ?_
          refine rs_mv rfl rfl ?_
          refine rs_cmp rfl rfl rfl rfl (fun h53 => ?_) (fun h53 => ?_)
          · skip
            refine rs_pick rfl rfl rfl ?_
            refine rs_pick rfl rfl rfl ?_
            refine rs_mv rfl rfl ?_
            refine rs_nil fun _ => ?_
            exact ⟨rfl, weak_to (.cons rfl (rc_same rfl (.inl rfl)) (.cons rfl (rc_same rfl (.inl rfl)) (.cons rfl (rc_same rfl (.inl rfl)) (.cons rfl (rc_same rfl (.inl rfl)) (.cons rfl (rc_eq (congrArg AV.bool (by rw [hT.bl]; first | (simp [h46, h50, h53]; done) | (simp [h46, h50]; done) | (simp [h46]; done))) rfl) (.cons rfl (rc_same rfl (.inl rfl)) (.cons rfl (rc_same rfl (.inl rfl)) (.cons rfl (rc_same rfl (.inl rfl)) (.cons rfl (rc_same rfl (.inl rfl)) (.cons rfl (rc_same rfl (.inl rfl)) (.cons rfl (rc_same rfl (.inl rfl)) (.nil)))))))))))) (.keep (rfl) rfl (.keep (rfl) rfl (.keep (rfl) rfl (.keep (rfl) rfl (.nil))))) (fun i h => by cases h)⟩
          · skip
            refine rs_pick rfl rfl rfl ?_
            refine rs_pick rfl rfl rfl ?_
            refine rs_mv rfl rfl ?_
            refine rs_nil fun _ => ?_
            exact ⟨rfl, weak_to (.cons rfl (rc_same rfl (.inl rfl)) (.cons rfl (rc_same rfl (.inl rfl)) (.cons rfl (rc_same rfl (.inl rfl)) (.cons rfl (rc_same rfl (.inl rfl)) (.cons rfl (rc_eq (congrArg AV.bool (by rw [hT.bl]; first | (simp [h46, h50, h53]; done) | (simp [h46, h50]; done) | (simp [h46]; done))) rfl) (.cons rfl (rc_same rfl (.inl rfl)) (.cons rfl (rc_same rfl (.inl rfl)) (.cons rfl (rc_same rfl (.inl rfl)) (.cons rfl (rc_same rfl (.inl rfl)) (.cons rfl (rc_same rfl (.inl rfl)) (.cons rfl (rc_same rfl (.inl rfl)) (.nil)))))))))))) (.keep (rfl) rfl (.keep (rfl) rfl (.keep (rfl) rfl (.keep (rfl) rfl (.nil))))) (fun i h => by cases h)⟩
        · skip
          refine rs_mv rfl rfl ?_
          refine rs_skip rfl ?_
          refine rs_skip rfl ?_
          refine rs_pick rfl rfl rfl ?_
          refine rs_pick rfl rfl rfl ?_
          refine rs_mv rfl rfl ?_
          refine rs_nil fun _ => ?_
          exact ⟨rfl, weak_to (.cons rfl (rc_same rfl (.inl rfl)) (.cons rfl (rc_same rfl (.inl rfl)) (.cons rfl (rc_same rfl (.inl rfl)) (.cons rfl (rc_same rfl (.inl rfl)) (.cons rfl (rc_eq (congrArg AV.bool (by rw [hT.bl]; first | (simp [h46, h50, h53]; done) | (simp [h46, h50]; done) | (simp [h46]; done))) rfl) (.cons rfl (rc_same rfl (.inl rfl)) (.cons rfl (rc_same rfl (.inl rfl)) (.cons rfl (rc_same rfl (.inl rfl)) (.cons rfl (rc_same rfl (.inl rfl)) (.cons rfl (rc_same rfl (.inl rfl)) (.cons rfl (rc_same rfl (.inl rfl)) (.nil)))))))))))) (.keep (rfl) rfl (.keep (rfl) rfl (.keep (rfl) rfl (.keep (rfl) rfl (.nil))))) (fun i h => by cases h)⟩
      · skip
        refine rs_mv rfl rfl ?_
        refine rs_skip rfl ?_
        refine rs_skip rfl ?_
        refine rs_skip rfl ?_
        refine rs_skip rfl ?_
        refine rs_skip rfl ?_
        refine rs_skip rfl ?_
        refine rs_skip rfl ?_
        refine rs_pick rfl rfl rfl ?_
        refine rs_mv rfl rfl ?_
        refine rs_nil fun _ => ?_
        exact ⟨rfl, weak_to (.cons rfl (rc_same rfl (.inl rfl)) (.cons rfl (rc_same rfl (.inl rfl)) (.cons rfl (rc_same rfl (.inl rfl)) (.cons rfl (rc_same rfl (.inl rfl)) (.cons rfl (rc_eq (congrArg AV.bool (by rw [hT.bl]; first | (simp [h46, h50, h53]; done) | (simp [h46, h50]; done) | (simp [h46]; done))) rfl) (.cons rfl (rc_same rfl (.inl rfl)) (.cons rfl (rc_same rfl (.inl rfl)) (.cons rfl (rc_same rfl (.inl rfl)) (.cons rfl (rc_same rfl (.inl rfl)) (.cons rfl (rc_same rfl (.inl rfl)) (.cons rfl (rc_same rfl (.inl rfl)) (.nil)))))))))))) (.keep (rfl) rfl (.keep (rfl) rfl (.keep (rfl) rfl (.keep (rfl) rfl (.nil))))) (fun i h => by cases h)⟩
    · skip
      refine aw_seq ?_
      refine aw_reg ?_
      refine rs_mv rfl rfl ?_
      refine rs_calln [900, 905] rfl rfl (gc17 t hst) (.cons (hv_obj (by simp) rfl (.sl (by simp) rfl (by simp) (.int (.bool (.int (.int (.int (.int (.int (.int (.bool (.int (.bool (.bool (.bool (.bool .nil)))))))))))))))) (.nil)) rfl ?_
      refine rs_mv rfl rfl ?_
      refine rs_ext rfl rfl rfl ?_
      refine rs_ext rfl rfl rfl ?_
      refine rs_mv rfl rfl ?_
      refine rs_mv rfl rfl ?_
      refine rs_nil fun _ => ?_
      refine th_n ?_
      refine aw_seq ?_
      refine aw_cutw (F0 := [(5, .bool true), (7, iv n), (8, .ptr 900 0 0), (9, iv a), (10, .bool t.blind), (11, iv s.made), (37, .sl 1005 0 E.length), (38, iv (E.length : Int)), (39, iv (((k) : Nat) : Int)), (13, .ptr 13 0 0), (14, iv e), (15, iv t.made), (16, iv (brkV t)), (97, .bool false)]) (H0 := [(900, ctlO 905 t), (905, rowO t.rs), (1005, .cells 39 2 (E.map cE) true), (13, .cells 39 2 [cE p0] true)]) ?_ ?_
      · skip
        refine aw_reg ?_
        refine rs_mv rfl rfl ?_
        refine rs_mv rfl rfl ?_
        refine rs_cmp_f rfl rfl rfl rfl (by omega) ?_
        refine rs_mv rfl rfl ?_
        refine rs_mv rfl rfl ?_
        refine rs_mv rfl rfl ?_
        refine rs_add rfl rfl rfl (by omega) ?_
        refine rs_cmp_f rfl rfl rfl rfl (by omega) ?_
        refine rs_pick rfl rfl rfl ?_
        refine rs_mv rfl rfl ?_
        refine rs_mv rfl rfl ?_
        refine rs_mv rfl rfl ?_
        refine rs_cmp_f rfl rfl rfl rfl (by omega) ?_
        refine rs_pick rfl rfl rfl ?_
        refine rs_mv rfl rfl ?_
        refine rs_mv rfl rfl ?_
        refine rs_mv rfl rfl ?_
        refine rs_cmp_f rfl rfl rfl rfl (by omega) ?_
        refine rs_pick rfl rfl rfl ?_
        refine rs_mv rfl rfl ?_
        refine rs_mv rfl rfl ?_
        refine rs_cmp_f rfl rfl rfl rfl (by omega) ?_
        refine rs_pick rfl rfl rfl ?_
        refine rs_mv rfl rfl ?_
        refine rs_mv rfl rfl ?_
        refine rs_mv rfl rfl ?_
        refine rs_cmp rfl rfl rfl rfl (fun h87 => ?_) (fun h87 => ?_)
        · skip
          refine rs_mv rfl rfl ?_
          refine rs_fa_p rfl rfl ?_
          refine rs_ld_p rfl rfl rfl rfl rfl ?_
          refine rs_cmp_f rfl rfl rfl rfl (fun h => h (hT.mv (by omega)).1) ?_
          refine rs_mv rfl rfl ?_
          refine rs_mv rfl rfl ?_
          refine rs_cmp_f rfl rfl rfl rfl (fun h => h (hT.mv (by omega)).2) ?_
          refine rs_pick rfl rfl rfl ?_
          refine rs_pick rfl rfl rfl ?_
          refine rs_pick rfl rfl rfl ?_
          refine rs_nil fun _ => ?_
          exact ⟨rfl, weak_to (.cons rfl (rc_same rfl (.inl rfl)) (.cons rfl (rc_same rfl (.inl rfl)) (.cons rfl (rc_same rfl (.inl rfl)) (.cons rfl (rc_same rfl (.inl rfl)) (.cons rfl (rc_same rfl (.inl rfl)) (.cons rfl (rc_same rfl (.inl rfl)) (.cons rfl (rc_same rfl (.inl rfl)) (.cons rfl (rc_same rfl (.inl rfl)) (.cons rfl (rc_same rfl (.inl rfl)) (.cons rfl (rc_same rfl (.inl rfl)) (.cons rfl (rc_same rfl (.inl rfl)) (.cons rfl (rc_same rfl (.inl rfl)) (.cons rfl (rc_same rfl (.inl rfl)) (.cons rfl (rc_same rfl (.inl rfl)) (.nil))))))))))))))) (.keep (rfl) rfl (.keep (rfl) rfl (.keep (rfl) rfl (.keep (rfl) rfl (.nil))))) (fun i h => by cases h)⟩
        · skip
          refine rs_mv rfl rfl ?_
          refine rs_skip rfl ?_
          refine rs_skip rfl ?_
          refine rs_skip rfl ?_
          refine rs_skip rfl ?_
          refine rs_skip rfl ?_
          refine rs_skip rfl ?_
          refine rs_skip rfl ?_
          refine rs_pick rfl rfl rfl ?_
          refine rs_pick rfl rfl rfl ?_
          refine rs_nil fun _ => ?_
          exact ⟨rfl, weak_to (.cons rfl (rc_same rfl (.inl rfl)) (.cons rfl (rc_same rfl (.inl rfl)) (.cons rfl (rc_same rfl (.inl rfl)) (.cons rfl (rc_same rfl (.inl rfl)) (.cons rfl (rc_same rfl (.inl rfl)) (.cons rfl (rc_same rfl (.inl rfl)) (.cons rfl (rc_same rfl (.inl rfl)) (.cons rfl (rc_same rfl (.inl rfl)) (.cons rfl (rc_same rfl (.inl rfl)) (.cons rfl (rc_same rfl (.inl rfl)) (.cons rfl (rc_same rfl (.inl rfl)) (.cons rfl (rc_same rfl (.inl rfl)) (.cons rfl (rc_same rfl (.inl rfl)) (.cons rfl (rc_same rfl (.inl rfl)) (.nil))))))))))))))) (.keep (rfl) rfl (.keep (rfl) rfl (.keep (rfl) rfl (.keep (rfl) rfl (.nil))))) (fun i h => by cases h)⟩
      · skip
        refine aw_cond rfl (fun h => by cases h) (fun _ => ?_)
        refine aw_skip ?_
        refine th_n ?_
        refine aw_seq ?_
        refine aw_reg ?_
        refine rs_mv rfl rfl ?_
        refine rs_mv rfl rfl ?_
        refine rs_nil fun _ => ?_
        refine th_n ?_
        refine aw_seq ?_
        refine aw_reg ?_
        refine rs_mv rfl rfl ?_
        refine rs_mv rfl rfl ?_
        refine rs_nil fun _ => ?_
        refine th_n ?_
        refine aw_cutw (F0 := [(5, .bool true), (7, iv n), (8, .ptr 900 0 0), (9, iv a), (10, .bool t.blind), (11, iv t.made), (37, .sl 1005 0 E.length), (38, iv (E.length : Int)), (39, iv (((k) : Nat) : Int)), (13, .ptr 13 0 0), (14, iv e), (15, iv t.made), (16, iv (brkV t)), (17, iv (wholeV t))]) (H0 := [(900, ctlO 905 t), (905, rowO t.rs), (1005, .cells 39 2 (E.map cE) true), (13, .cells 39 2 [cE p0] true)]) ?_ ?_
        · skip
          refine aw_seq ?_
          refine aw_reg ?_
          refine rs_mv rfl rfl ?_
          refine rs_geq rfl rfl rfl ?_
          refine rs_nil fun _ => ?_
          refine th_n ?_
          refine aw_cond rfl (fun h101 => ?_) (fun h101 => ?_)
          · replace h101 := of_decide_eq_true h101
            refine aw_reg ?_
            refine rs_mv rfl rfl ?_
            refine rs_mv rfl rfl ?_
            refine rs_nil fun _ => ?_
            exact ⟨rfl, weak_to (.cons rfl (rc_same rfl (.inl rfl)) (.cons rfl (rc_same rfl (.inl rfl)) (.cons rfl (rc_same rfl (.inl rfl)) (.cons rfl (rc_same rfl (.inl rfl)) (.cons rfl (rc_same rfl (.inl rfl)) (.cons rfl (rc_same rfl (.inl rfl)) (.cons rfl (rc_same rfl (.inl rfl)) (.cons rfl (rc_same rfl (.inl rfl)) (.cons rfl (rc_same rfl (.inl rfl)) (.cons rfl (rc_same rfl (.inl rfl)) (.cons rfl (rc_same rfl (.inl rfl)) (.cons rfl (rc_same rfl (.inl rfl)) (.cons rfl (rc_same rfl (.inl rfl)) (.cons rfl (rc_int (by rw [wholeV]; first | rw [if_pos h101] | rw [if_neg h101])) (.nil))))))))))))))) (.keep (rfl) rfl (.keep (rfl) rfl (.keep (rfl) rfl (.keep (rfl) rfl (.nil))))) (fun i h => by cases h)⟩
          · replace h101 := of_decide_eq_false h101
            refine aw_skip ?_
            exact ⟨rfl, weak_to (.cons rfl (rc_same rfl (.inl rfl)) (.cons rfl (rc_same rfl (.inl rfl)) (.cons rfl (rc_same rfl (.inl rfl)) (.cons rfl (rc_same rfl (.inl rfl)) (.cons rfl (rc_same rfl (.inl rfl)) (.cons rfl (rc_same rfl (.inl rfl)) (.cons rfl (rc_same rfl (.inl rfl)) (.cons rfl (rc_same rfl (.inl rfl)) (.cons rfl (rc_same rfl (.inl rfl)) (.cons rfl (rc_same rfl (.inl rfl)) (.cons rfl (rc_same rfl (.inl rfl)) (.cons rfl (rc_same rfl (.inl rfl)) (.cons rfl (rc_same rfl (.inl rfl)) (.cons rfl (rc_int (by rw [wholeV]; first | rw [if_pos h101] | rw [if_neg h101])) (.nil))))))))))))))) (.keep (rfl) rfl (.keep (rfl) rfl (.keep (rfl) rfl (.keep (rfl) rfl (.nil))))) (fun i h => by cases h)⟩
        · skip
          refine aw_seq ?_
          refine aw_reg ?_
          refine rs_mv rfl rfl ?_
          refine rs_calln [900, 905] rfl rfl (gc19 t A B hst hI2.ls hAB) (.cons (hv_obj (by simp) rfl (.sl (by simp) rfl (by simp) (.int (.bool (.int (.int (.int (.int (.int (.int (.bool (.int (.bool (.bool (.bool (.bool .nil)))))))))))))))) (.nil)) rfl ?_
          refine rs_mv rfl rfl ?_
          refine rs_calln [900, 905] rfl rfl (gc21 t A B hst hI2.ls hAB) (.cons (hv_obj (by simp) rfl (.sl (by simp) rfl (by simp) (.int (.bool (.int (.int (.int (.int (.int (.int (.bool (.int (.bool (.bool (.bool (.bool .nil)))))))))))))))) (.nil)) rfl ?_
          refine rs_alloc rfl rfl rfl ?_
          refine rs_alloc rfl rfl rfl ?_
          refine rs_st rfl rfl rfl rfl rfl rfl rfl (Nat.le_of_ble_eq_true rfl) rfl rfl ?_
          refine rs_st rfl rfl rfl rfl rfl rfl rfl (Nat.le_of_ble_eq_true rfl) rfl rfl ?_
          refine rs_nil fun _ => ?_
          refine th_n ?_
          refine aw_seq ?_
          refine aw_seq ?_
          refine aw_reg ?_
          refine rs_mv rfl rfl ?_
          refine rs_fa_p rfl rfl ?_
          refine rs_ld_p rfl rfl rfl rfl rfl ?_
          refine rs_cmp_f rfl rfl rfl rfl (by omega) ?_
          refine rs_mv rfl rfl ?_
          refine rs_mv rfl rfl ?_
          refine rs_fa_p rfl rfl ?_
          refine rs_ld_p rfl rfl rfl rfl rfl ?_
          refine rs_cmp_f rfl rfl rfl rfl (by omega) ?_
          refine rs_pick rfl rfl rfl ?_
          refine rs_mv rfl rfl ?_
          refine rs_mv rfl rfl ?_
          refine rs_fa_p rfl rfl ?_
          refine rs_ld_p rfl rfl rfl rfl rfl ?_
          refine rs_cmp_f rfl rfl rfl rfl (by omega) ?_
          refine rs_pick rfl rfl rfl ?_
          refine rs_mv rfl rfl ?_
          refine rs_mv rfl rfl ?_
          refine rs_fa_p rfl rfl ?_
          refine rs_ld_p rfl rfl rfl rfl rfl ?_
          refine rs_cmp_f rfl rfl rfl rfl (by omega) ?_
          refine rs_pick rfl rfl rfl ?_
          refine rs_mv rfl rfl ?_
          refine rs_fa_p rfl rfl ?_
          refine rs_ld_p rfl rfl rfl rfl rfl ?_
          refine rs_fa_p rfl rfl ?_
          refine rs_ld_p rfl rfl rfl rfl rfl ?_
          refine rs_cmp_f rfl rfl rfl rfl (fun h => h rfl) ?_
          refine rs_pick rfl rfl rfl ?_
          refine rs_mv rfl rfl ?_
          refine rs_fa_p rfl rfl ?_
          refine rs_ld_p rfl rfl rfl rfl rfl ?_
          refine rs_fa_p rfl rfl ?_
          refine rs_ld_p rfl rfl rfl rfl rfl ?_
          refine rs_cmp_f rfl rfl rfl rfl (by omega) ?_
          refine rs_pick rfl rfl rfl ?_
          refine rs_nil fun _ => ?_
          refine th_n ?_
          refine aw_cond rfl (fun h => by cases h) (fun _ => ?_)
          refine aw_skip ?_
          refine th_n ?_
          refine aw_seq ?_
          refine aw_cutw (F0 := [(5, .bool true), (7, iv n), (8, .ptr 900 0 0), (9, iv a), (10, .bool t.blind), (11, iv t.made), (37, .sl 1005 0 E.length), (38, iv (E.length : Int)), (39, iv (((k) : Nat) : Int)), (15, iv t.made), (18, .ptr 18 0 0), (166, .bool false)]) (H0 := [(900, ctlO 905 t), (905, rowO t.rs), (1005, .cells 39 2 (E.map cE) true), (13, .cells 39 2 [cE p0] true), (18, .cells 45 2 [[iv A, iv B]] true), (19, .cells 45 2 [[iv t.sound, iv B]] true)]) ?_ ?_
          · skip
            refine aw_reg ?_
            refine rs_mv rfl rfl ?_
            cases h143 : t.blind
            · skip
              refine rs_not rfl rfl ?_
              refine rs_mv rfl rfl ?_
              refine rs_fa_p rfl rfl ?_
              refine rs_ld_p rfl rfl rfl rfl rfl ?_
              refine rs_fa_p rfl rfl ?_
              refine rs_ld_p rfl rfl rfl rfl rfl ?_
              refine rs_cmp_f rfl rfl rfl rfl (fun h => h (hK.n h143)) ?_
              refine rs_pick rfl rfl rfl ?_
              refine rs_mv rfl rfl ?_
              refine rs_fa_p rfl rfl ?_
              refine rs_ld_p rfl rfl rfl rfl rfl ?_
              refine rs_fa_p rfl rfl ?_
              refine rs_ld_p rfl rfl rfl rfl rfl ?_
              refine rs_sub rfl rfl rfl (by omega) ?_
              refine rs_mv rfl rfl ?_
              refine rs_cmp_f rfl rfl rfl rfl (by omega) ?_
              refine rs_pick rfl rfl rfl ?_
              refine rs_mv rfl rfl ?_
              refine rs_fa_p rfl rfl ?_
              refine rs_ld_p rfl rfl rfl rfl rfl ?_
              refine rs_mv rfl rfl ?_
              refine rs_cmp_f rfl rfl rfl rfl (by omega) ?_
              refine rs_pick rfl rfl rfl ?_
              refine rs_nil fun _ => ?_
              exact ⟨rfl, weak_to (.cons rfl (rc_same rfl (.inl rfl)) (.cons rfl (rc_same rfl (.inl rfl)) (.cons rfl (rc_same rfl (.inl rfl)) (.cons rfl (rc_same rfl (.inl rfl)) (.cons rfl (rc_same rfl (.inl rfl)) (.cons rfl (rc_same rfl (.inl rfl)) (.cons rfl (rc_same rfl (.inl rfl)) (.cons rfl (rc_same rfl (.inl rfl)) (.cons rfl (rc_same rfl (.inl rfl)) (.cons rfl (rc_same rfl (.inl rfl)) (.cons rfl (rc_same rfl (.inl rfl)) (.cons rfl (rc_same rfl (.inl rfl)) (.nil))))))))))))) (.keep (rfl) rfl (.keep (rfl) rfl (.keep (rfl) rfl (.keep (rfl) rfl (.keep (rfl) rfl (.keep (rfl) rfl (.nil))))))) (fun i h => by cases h)⟩
            · skip
              refine rs_not rfl rfl ?_
              refine rs_mv rfl rfl ?_
              refine rs_skip rfl ?_
              refine rs_skip rfl ?_
              refine rs_skip rfl ?_
              refine rs_skip rfl ?_
              refine rs_skip rfl ?_
              refine rs_pick rfl rfl rfl ?_
              refine rs_mv rfl rfl ?_
              refine rs_fa_p rfl rfl ?_
              refine rs_ld_p rfl rfl rfl rfl rfl ?_
              refine rs_fa_p rfl rfl ?_
              refine rs_ld_p rfl rfl rfl rfl rfl ?_
              refine rs_sub rfl rfl rfl (by omega) ?_
              refine rs_mv rfl rfl ?_
              refine rs_cmp_f rfl rfl rfl rfl (by omega) ?_
              refine rs_pick rfl rfl rfl ?_
              refine rs_mv rfl rfl ?_
              refine rs_fa_p rfl rfl ?_
              refine rs_ld_p rfl rfl rfl rfl rfl ?_
              refine rs_mv rfl rfl ?_
              refine rs_cmp_f rfl rfl rfl rfl (by omega) ?_
              refine rs_pick rfl rfl rfl ?_
              refine rs_nil fun _ => ?_
              exact ⟨rfl, weak_to (.cons rfl (rc_same rfl (.inl rfl)) (.cons rfl (rc_same rfl (.inl rfl)) (.cons rfl (rc_same rfl (.inl rfl)) (.cons rfl (rc_same rfl (.inl rfl)) (.cons rfl (rc_same rfl (.inl rfl)) (.cons rfl (rc_same rfl (.inl rfl)) (.cons rfl (rc_same rfl (.inl rfl)) (.cons rfl (rc_same rfl (.inl rfl)) (.cons rfl (rc_same rfl (.inl rfl)) (.cons rfl (rc_same rfl (.inl rfl)) (.cons rfl (rc_same rfl (.inl rfl)) (.cons rfl (rc_same rfl (.inl rfl)) (.nil))))))))))))) (.keep (rfl) rfl (.keep (rfl) rfl (.keep (rfl) rfl (.keep (rfl) rfl (.keep (rfl) rfl (.keep (rfl) rfl (.nil))))))) (fun i h => by cases h)⟩
          · skip
            refine aw_cond rfl (fun h => by cases h) (fun _ => ?_)
            refine aw_skip ?_
            refine th_n ?_
            refine aw_seq ?_
            refine aw_reg ?_
            refine rs_mv rfl rfl ?_
            refine rs_nil fun _ => ?_
            refine th_n ?_
            refine aw_seq ?_
            refine aw_seq ?_
            refine aw_reg ?_
            refine rs_mv rfl rfl ?_
            refine rs_calln [900, 905] rfl rfl (gc26 t hst) (.cons (hv_obj (by simp) rfl (.sl (by simp) rfl (by simp) (.int (.bool (.int (.int (.int (.int (.int (.int (.bool (.int (.bool (.bool (.bool (.bool .nil)))))))))))))))) (.nil)) rfl ?_
            refine rs_len_m rfl rfl ?_
            refine rs_mv rfl rfl ?_
            refine rs_nil fun _ => ?_
            refine th_n ?_
            refine aw_block ?_
            refine aw_fam (α := Nat) (fun j => t.rs.length - j) (fun j => [(5, .bool true), (7, iv n), (8, .ptr 900 0 0), (9, iv a), (10, .bool t.blind), (11, iv t.made), (37, .sl 1005 0 E.length), (38, iv (E.length : Int)), (39, iv (((k) : Nat) : Int)), (15, iv t.made), (18, .ptr 18 0 0), (20, iv (lastS (t.rs.take (j)))), (168, ints t.rs), (169, iv (t.rs.length : Int)), (170, iv (((j) : Nat) : Int))]) (fun j => [(900, ctlO 905 t), (905, rowO t.rs), (1005, .cells 39 2 (E.map cE) true), (18, .cells 45 2 [[iv A, iv B]] true)]) (fun j => j ≤ t.rs.length) 0 (by omega)
              (weak_to (.cons rfl (rc_same rfl (.inl rfl)) (.cons rfl (rc_same rfl (.inl rfl)) (.cons rfl (rc_same rfl (.inl rfl)) (.cons rfl (rc_same rfl (.inl rfl)) (.cons rfl (rc_same rfl (.inl rfl)) (.cons rfl (rc_same rfl (.inl rfl)) (.cons rfl (rc_same rfl (.inl rfl)) (.cons rfl (rc_same rfl (.inl rfl)) (.cons rfl (rc_same rfl (.inl rfl)) (.cons rfl (rc_same rfl (.inl rfl)) (.cons rfl (rc_same rfl (.inl rfl)) (.cons rfl (rc_int rfl) (.cons rfl (rc_same rfl (.inl rfl)) (.cons rfl (rc_same rfl (.inl rfl)) (.cons rfl (rc_same rfl (.inl rfl)) (.nil)))))))))))))))) (.keep (rfl) rfl (.keep (rfl) rfl (.keep (rfl) rfl (.keep (rfl) rfl (.nil))))) (fun i h => by cases h)) ?_
            intro j hj
            refine aw_seq ?_
            refine aw_reg ?_
            refine rs_lss rfl rfl rfl ?_
            refine rs_nil fun _ => ?_
            refine th_n ?_
            refine aw_seq ?_
            refine aw_cond rfl (fun h171 => ?_) (fun h171 => ?_)
            · replace h171 := of_decide_eq_true h171
              refine aw_skip ?_
              refine th_n ?_
              refine aw_seq ?_
              refine aw_block ?_
              refine aw_seq ?_
              refine aw_reg ?_
              obtain ⟨r, hr, _⟩ := at_some (L := t.rs) (k := j) (by omega)
              have hra := recs_at hI2 hr
              rw [hte, hta] at hra
              have hra1 := hra.1; have hra2 := hra.2.1
              refine rs_ix_g (f := ci) (y := r) rfl rfl rfl (by omega) hr ?_
              refine rs_ld_r rfl rfl rfl ?_
              refine rs_mv rfl rfl ?_
              refine rs_nil fun _ => ?_
              refine th_n ?_
              refine aw_seq ?_
              refine aw_seq ?_
              refine aw_reg ?_
              refine rs_mv rfl rfl ?_
              refine rs_mv rfl rfl ?_
              refine rs_cmp_f rfl rfl rfl rfl (by omega) ?_
              refine rs_mv rfl rfl ?_
              refine rs_mv rfl rfl ?_
              refine rs_mv rfl rfl ?_
              refine rs_cmp_f rfl rfl rfl rfl (by omega) ?_
              refine rs_pick rfl rfl rfl ?_
              refine rs_mv rfl rfl ?_
              refine rs_mv rfl rfl ?_
              refine rs_mv rfl rfl ?_
              refine rs_rem rfl rfl rfl (by omega) rfl ?_
              refine rs_cmp rfl rfl rfl rfl (fun h186 => ?_) (fun h186 => ?_)
              · skip
                refine rs_mv rfl rfl ?_
                refine rs_mv rfl rfl ?_
                refine rs_mv rfl rfl ?_
                refine rs_cmp_f rfl rfl rfl rfl (fun h => h (hra.2.2.1.resolve_left h186)) ?_
                refine rs_pick rfl rfl rfl ?_
                refine rs_pick rfl rfl rfl ?_
                refine rs_nil fun _ => ?_
                refine th_n ?_
                refine aw_cond rfl (fun h => by cases h) (fun _ => ?_)
                refine aw_skip ?_
                refine th_n ?_
                refine aw_reg ?_
                refine rs_mv rfl rfl ?_
                refine rs_mv rfl rfl ?_
                refine rs_nil fun _ => ?_
                refine in_n ?_
                refine th_n ?_
                refine aw_reg ?_
                refine rs_add rfl rfl rfl (by omega) ?_
                refine rs_mv rfl rfl ?_
                refine rs_nil fun _ => ?_
                refine th_n ?_
                exact ⟨j + 1, by omega, by omega, weak_to (.cons rfl (rc_same rfl (.inl rfl)) (.cons rfl (rc_same rfl (.inl rfl)) (.cons rfl (rc_same rfl (.inl rfl)) (.cons rfl (rc_same rfl (.inl rfl)) (.cons rfl (rc_same rfl (.inl rfl)) (.cons rfl (rc_same rfl (.inl rfl)) (.cons rfl (rc_same rfl (.inl rfl)) (.cons rfl (rc_same rfl (.inl rfl)) (.cons rfl (rc_same rfl (.inl rfl)) (.cons rfl (rc_same rfl (.inl rfl)) (.cons rfl (rc_same rfl (.inl rfl)) (.cons rfl (rc_int hra.2.2.2.symm) (.cons rfl (rc_same rfl (.inl rfl)) (.cons rfl (rc_same rfl (.inl rfl)) (.cons rfl (rc_same rfl (.inl rfl)) (.nil)))))))))))))))) (.keep (rfl) rfl (.keep (rfl) rfl (.keep (rfl) rfl (.keep (rfl) rfl (.nil))))) (fun i h => by cases h)⟩
              · skip
                refine rs_mv rfl rfl ?_
                refine rs_skip rfl ?_
                refine rs_skip rfl ?_
                refine rs_skip rfl ?_
                refine rs_pick rfl rfl rfl ?_
                refine rs_pick rfl rfl rfl ?_
                refine rs_nil fun _ => ?_
                refine th_n ?_
                refine aw_cond rfl (fun h => by cases h) (fun _ => ?_)
                refine aw_skip ?_
                refine th_n ?_
                refine aw_reg ?_
                refine rs_mv rfl rfl ?_
                refine rs_mv rfl rfl ?_
                refine rs_nil fun _ => ?_
                refine in_n ?_
                refine th_n ?_
                refine aw_reg ?_
                refine rs_add rfl rfl rfl (by omega) ?_
                refine rs_mv rfl rfl ?_
                refine rs_nil fun _ => ?_
                refine th_n ?_
                exact ⟨j + 1, by omega, by omega, weak_to (.cons rfl (rc_same rfl (.inl rfl)) (.cons rfl (rc_same rfl (.inl rfl)) (.cons rfl (rc_same rfl (.inl rfl)) (.cons rfl (rc_same rfl (.inl rfl)) (.cons rfl (rc_same rfl (.inl rfl)) (.cons rfl (rc_same rfl (.inl rfl)) (.cons rfl (rc_same rfl (.inl rfl)) (.cons rfl (rc_same rfl (.inl rfl)) (.cons rfl (rc_same rfl (.inl rfl)) (.cons rfl (rc_same rfl (.inl rfl)) (.cons rfl (rc_same rfl (.inl rfl)) (.cons rfl (rc_int hra.2.2.2.symm) (.cons rfl (rc_same rfl (.inl rfl)) (.cons rfl (rc_same rfl (.inl rfl)) (.cons rfl (rc_same rfl (.inl rfl)) (.nil)))))))))))))))) (.keep (rfl) rfl (.keep (rfl) rfl (.keep (rfl) rfl (.keep (rfl) rfl (.nil))))) (fun i h => by cases h)⟩
            · replace h171 := of_decide_eq_false h171
              refine aw_exit ?_
              refine th_e ?_
              refine th_e ?_
              refine in_hit ?_
              refine th_n ?_
              refine aw_seq ?_
              refine aw_reg ?_
              have hjl : t.rs.take j = t.rs := List.take_of_length_le (by omega)
              rw [hjl]
              refine rs_mv rfl rfl ?_
              refine rs_mv rfl rfl ?_
              refine rs_sub rfl rfl rfl (by omega) ?_
              refine rs_mv rfl rfl ?_
              refine rs_cmp_f rfl rfl rfl rfl (by omega) ?_
              refine rs_mv rfl rfl ?_
              refine rs_mv rfl rfl ?_
              cases h201 : t.blind
              · skip
                refine rs_mv rfl rfl ?_
                refine rs_skip rfl ?_
                refine rs_skip rfl ?_
                refine rs_skip rfl ?_
                refine rs_skip rfl ?_
                refine rs_pick rfl rfl rfl ?_
                refine rs_pick rfl rfl rfl ?_
                refine rs_nil fun _ => ?_
                refine th_n ?_
                refine aw_cond rfl (fun h => by cases h) (fun _ => ?_)
                refine aw_skip ?_
                refine in_n ?_
                refine th_n ?_
                refine aw_reg ?_
                refine rs_add rfl rfl rfl (by omega) ?_
                refine rs_mv rfl rfl ?_
                refine rs_nil fun _ => ?_
                refine th_n ?_
                refine ⟨⟨k + 1, t⟩, ⟨by dsimp only; omega, hI2, hT.nf, hta, hte⟩, by dsimp only; omega, ?_⟩
                exact show Weak _ _ _ _ [(5, .bool true), (7, iv n), (8, .ptr 900 0 0), (9, iv a), (10, .bool t.blind), (11, iv t.made), (37, .sl 1005 0 E.length), (38, iv (E.length : Int)), (39, iv (((k + 1) : Nat) : Int))] [(900, ctlO 903 t), (903, rowO t.rs), (1005, .cells 39 2 (E.map cE) true)] from Weak.trans (F1 := [(5, .bool true), (7, iv n), (8, .ptr 900 0 0), (9, iv a), (10, .bool t.blind), (11, iv t.made), (37, .sl 1005 0 E.length), (38, iv (E.length : Int)), (39, iv (((k + 1) : Nat) : Int))]) (H1 := [(900, ctlO 905 t), (905, rowO t.rs), (1005, .cells 39 2 (E.map cE) true)]) (weak_to (.cons rfl (rc_same rfl (.inl rfl)) (.cons rfl (rc_same rfl (.inl rfl)) (.cons rfl (rc_same rfl (.inl rfl)) (.cons rfl (rc_same rfl (.inl rfl)) (.cons rfl (rc_eq (congrArg AV.bool h201.symm) rfl) (.cons rfl (rc_same rfl (.inl rfl)) (.cons rfl (rc_same rfl (.inl rfl)) (.cons rfl (rc_same rfl (.inl rfl)) (.cons rfl (rc_same rfl (.inl rfl)) (.nil)))))))))) (.keep (rfl) rfl (.keep (rfl) rfl (.keep (rfl) rfl (.nil)))) fun i h => by cases h) (Weak.trans (F1 := [(5, .bool true), (7, iv n), (8, .ptr 900 0 0), (9, iv a), (10, .bool t.blind), (11, iv t.made), (37, .sl 1005 0 E.length), (38, iv (E.length : Int)), (39, iv (((k + 1) : Nat) : Int))]) (weak_ren_row (i := 905) (i' := 903) (k := 900) rfl rfl (.cons rfl (.same _) (.cons rfl (.same _) (.cons rfl (.same _) (.cons rfl (.same _) (.cons rfl (.same _) (.cons rfl (.same _) (.cons rfl (.same _) (.cons rfl (.same _) (.cons rfl (.same _) (.nil)))))))))) (by decide) rfl (.cons (.sl _ _) (RenL.refl _ _ _))) (weak_to (.cons rfl (rc_same rfl (.inl rfl)) (.cons rfl (rc_same rfl (.inl rfl)) (.cons rfl (rc_same rfl (.inl rfl)) (.cons rfl (rc_same rfl (.inl rfl)) (.cons rfl (rc_same rfl (.inl rfl)) (.cons rfl (rc_same rfl (.inl rfl)) (.cons rfl (rc_same rfl (.inl rfl)) (.cons rfl (rc_same rfl (.inl rfl)) (.cons rfl (rc_same rfl (.inl rfl)) (.nil)))))))))) (.keep (rfl) rfl (.keep (rfl) rfl (.keep (rfl) rfl (.nil)))) fun i h => by cases h))
              · skip
                refine rs_mv rfl rfl ?_
                refine rs_fa_p rfl rfl ?_
                refine rs_ld_p rfl rfl rfl rfl rfl ?_
                refine rs_mv rfl rfl ?_
                refine rs_cmp_f rfl rfl rfl rfl (fun h => h (hK.f h201)) ?_
                refine rs_pick rfl rfl rfl ?_
                refine rs_pick rfl rfl rfl ?_
                refine rs_nil fun _ => ?_
                refine th_n ?_
                refine aw_cond rfl (fun h => by cases h) (fun _ => ?_)
                refine aw_skip ?_
                refine in_n ?_
                refine th_n ?_
                refine aw_reg ?_
                refine rs_add rfl rfl rfl (by omega) ?_
                refine rs_mv rfl rfl ?_
                refine rs_nil fun _ => ?_
                refine th_n ?_
                refine ⟨⟨k + 1, t⟩, ⟨by dsimp only; omega, hI2, hT.nf, hta, hte⟩, by dsimp only; omega, ?_⟩
                exact show Weak _ _ _ _ [(5, .bool true), (7, iv n), (8, .ptr 900 0 0), (9, iv a), (10, .bool t.blind), (11, iv t.made), (37, .sl 1005 0 E.length), (38, iv (E.length : Int)), (39, iv (((k + 1) : Nat) : Int))] [(900, ctlO 903 t), (903, rowO t.rs), (1005, .cells 39 2 (E.map cE) true)] from Weak.trans (F1 := [(5, .bool true), (7, iv n), (8, .ptr 900 0 0), (9, iv a), (10, .bool t.blind), (11, iv t.made), (37, .sl 1005 0 E.length), (38, iv (E.length : Int)), (39, iv (((k + 1) : Nat) : Int))]) (H1 := [(900, ctlO 905 t), (905, rowO t.rs), (1005, .cells 39 2 (E.map cE) true)]) (weak_to (.cons rfl (rc_same rfl (.inl rfl)) (.cons rfl (rc_same rfl (.inl rfl)) (.cons rfl (rc_same rfl (.inl rfl)) (.cons rfl (rc_same rfl (.inl rfl)) (.cons rfl (rc_eq (congrArg AV.bool h201.symm) rfl) (.cons rfl (rc_same rfl (.inl rfl)) (.cons rfl (rc_same rfl (.inl rfl)) (.cons rfl (rc_same rfl (.inl rfl)) (.cons rfl (rc_same rfl (.inl rfl)) (.nil)))))))))) (.keep (rfl) rfl (.keep (rfl) rfl (.keep (rfl) rfl (.nil)))) fun i h => by cases h) (Weak.trans (F1 := [(5, .bool true), (7, iv n), (8, .ptr 900 0 0), (9, iv a), (10, .bool t.blind), (11, iv t.made), (37, .sl 1005 0 E.length), (38, iv (E.length : Int)), (39, iv (((k + 1) : Nat) : Int))]) (weak_ren_row (i := 905) (i' := 903) (k := 900) rfl rfl (.cons rfl (.same _) (.cons rfl (.same _) (.cons rfl (.same _) (.cons rfl (.same _) (.cons rfl (.same _) (.cons rfl (.same _) (.cons rfl (.same _) (.cons rfl (.same _) (.cons rfl (.same _) (.nil)))))))))) (by decide) rfl (.cons (.sl _ _) (RenL.refl _ _ _))) (weak_to (.cons rfl (rc_same rfl (.inl rfl)) (.cons rfl (rc_same rfl (.inl rfl)) (.cons rfl (rc_same rfl (.inl rfl)) (.cons rfl (rc_same rfl (.inl rfl)) (.cons rfl (rc_same rfl (.inl rfl)) (.cons rfl (rc_same rfl (.inl rfl)) (.cons rfl (rc_same rfl (.inl rfl)) (.cons rfl (rc_same rfl (.inl rfl)) (.cons rfl (rc_same rfl (.inl rfl)) (.nil)))))))))) (.keep (rfl) rfl (.keep (rfl) rfl (.keep (rfl) rfl (.nil)))) fun i h => by cases h))
  · replace h40 := of_decide_eq_false h40
    refine aw_exit ?_
    refine th_e ?_
    refine th_e ?_
    refine in_hit ?_
    refine th_n ?_
    refine aw_seq ?_
    refine aw_reg ?_
    refine rs_mv rfl rfl ?_
    refine rs_mv rfl rfl ?_
    refine rs_nil fun _ => ?_
    refine th_n ?_
    refine aw_ret ?_
    exact ret_pure rfl rfl rfl (.inr rfl)

end Go.Proofs.Ytigfcmcdjfmieaa

/-! The arguments of the laws of control, as they are read. -/
namespace Go.Proofs.Ytigfcmcdjfmieaa
open Go.RowKit Go.WideShapes Go.ChangeShapes Go.ChangeAt
set_option maxRecDepth 100000

theorem own_knob : ownKnob Try.prog.godebug = none := by kernel_rfl
theorem laid_out : laidOutB Try.prog = true := by kernel_rfl

theorem rd_i {H : Type} (d : DataW H) (h : Gd (.int .i64) d) : ∃ n : Int, True ∧ avD (.int .i64) d = ci n := by
  obtain ⟨n, _, e⟩ := rd_int d h
  exact ⟨n, trivial, e⟩
theorem rd_u8 {H : Type} (d : DataW H) (h : Gd (.int .u8) d) : ∃ n : Int, (0 ≤ n ∧ n < 256) ∧ avD (.int .u8) d = cu8 n := by
  obtain ⟨n, hw, e⟩ := rd_int d h
  have := bounds_u8 hw
  exact ⟨n, by omega, e⟩
abbrev shV : Sh := .st [.int .i64, .int .i64, .int .i64]
abbrev shM : Sh := .st [.int .i64, shV, shV, shV, .int .i64]
abbrev shE : Sh := .st [.int .i64, .int .i64]
abbrev shCase : Sh := .st [.sl 1 (.sl 1 (.int .i64)), .int .u8]
theorem rd_vec {H : Type} (d : DataW H) (h : Gd shV d) : ∃ v : V3, True ∧ avD shV d = cV v := by
  obtain ⟨ps, g, e⟩ := rd_st d h
  obtain ⟨d0, r0, g0, g, e0⟩ := rd_cons ps g
  obtain ⟨d1, r1, g1, g, e1⟩ := rd_cons r0 g
  obtain ⟨d2, r2, g2, g, e2⟩ := rd_cons r1 g
  obtain ⟨n0, _, a0⟩ := rd_i d0 g0
  obtain ⟨n1, _, a1⟩ := rd_i d1 g1
  obtain ⟨n2, _, a2⟩ := rd_i d2 g2
  exact ⟨⟨n0, n1, n2⟩, trivial, by rw [e, e0, e1, e2, rd_nil r2 g, a0, a1, a2]; rfl⟩
theorem rd_mv {H : Type} (d : DataW H) (h : Gd shM d) : ∃ m : Mv, True ∧ avD shM d = cM m := by
  obtain ⟨ps, g, e⟩ := rd_st d h
  obtain ⟨d0, r0, g0, g, e0⟩ := rd_cons ps g
  obtain ⟨d1, r1, g1, g, e1⟩ := rd_cons r0 g
  obtain ⟨d2, r2, g2, g, e2⟩ := rd_cons r1 g
  obtain ⟨d3, r3, g3, g, e3⟩ := rd_cons r2 g
  obtain ⟨d4, r4, g4, g, e4⟩ := rd_cons r3 g
  obtain ⟨n0, _, a0⟩ := rd_i d0 g0
  obtain ⟨v1, _, a1⟩ := rd_vec d1 g1
  obtain ⟨v2, _, a2⟩ := rd_vec d2 g2
  obtain ⟨v3, _, a3⟩ := rd_vec d3 g3
  obtain ⟨n4, _, a4⟩ := rd_i d4 g4
  exact ⟨⟨n0, v1, v2, v3, n4⟩, trivial, by rw [e, e0, e1, e2, e3, e4, rd_nil r4 g, a0, a1, a2, a3, a4]; rfl⟩
theorem rd_ev {H : Type} (d : DataW H) (h : Gd shE d) : ∃ p : Int × Int, True ∧ avD shE d = cE p := by
  obtain ⟨ps, g, e⟩ := rd_st d h
  obtain ⟨d0, r0, g0, g, e0⟩ := rd_cons ps g
  obtain ⟨d1, r1, g1, g, e1⟩ := rd_cons r0 g
  obtain ⟨n0, _, a0⟩ := rd_i d0 g0
  obtain ⟨n1, _, a1⟩ := rd_i d1 g1
  exact ⟨(n0, n1), trivial, by rw [e, e0, e1, rd_nil r1 g, a0, a1]; rfl⟩
theorem rd_ints {H : Type} (d : DataW H) (h : Gd (.sl 1 (.int .i64)) d) : ∃ L : List Int, L.length ≤ 140737488351232 ∧ avD (.sl 1 (.int .i64)) d = cL L := by
  obtain ⟨L, ⟨h1, _⟩, e⟩ := rd_sl (fun _ => True) ci rd_i d h
  exact ⟨L, h1, e⟩
theorem rd_case {H : Type} (d : DataW H) (h : Gd shCase d) : ∃ (ls : List (List Int)) (ev : Int), ((ls.length ≤ 140737488351232 ∧ ∀ L ∈ ls, L.length ≤ 140737488351232) ∧ (0 ≤ ev ∧ ev < 256)) ∧ argA shCase d = .agg [.rs 1 (ls.map cL), .int .u8 ev] := by
  obtain ⟨ps, g, e⟩ := rd_st d h
  obtain ⟨d0, r0, g0, g, e0⟩ := rd_cons ps g
  obtain ⟨d1, r1, g1, g, e1⟩ := rd_cons r0 g
  obtain ⟨n0, k0, a0⟩ := rd_sl _ cL rd_ints d0 g0
  obtain ⟨n1, k1, a1⟩ := rd_u8 d1 g1
  exact ⟨n0, n1, ⟨k0, k1⟩, by simp only [argA]; rw [e, e0, e1, rd_nil r1 g, a0, a1]; rfl⟩
end Go.Proofs.Ytigfcmcdjfmieaa
namespace Go.Proofs.Ytigfcmcdjfmieaa
open Go.RowKit Go.WideShapes Go.ChangeShapes Go.ChangeAt
set_option maxRecDepth 100000

abbrev shs4 : List Sh := [shCase, .sl 1 (.int .u8)]

theorem lifted4 (os : Os) (started : os.Started) (H : Type) (enc : TypeId × Value → H) :
    ReturnsInHanded {} Try.checked os 4 .any (Rows.controlTrueSpec.pre6 enc Try.prog Try.f4 Rows.controlTrueRow.domain false) (Rows.controlTrueSpec.post enc Try.prog Try.f4 false true false false) := by
  refine law_row (C := Try.checked) own_knob started (by kernel_rfl) Try.func4 laid_out rfl (tb := 4) rfl Try.underlying4 shs4 (by kernel_rfl) (fun ds h => ?_)
    (ChangeSpec.witness6 (enc := enc) (C := Try.checked) false ⟨#[], #[.agg #[.slice none 0 0, .int .u8 0], .slice none 0 0], []⟩ 8 (by kernel_rfl) (by kernel_rfl) (by kernel_rfl) (by kernel_rfl)) fun ds hg => ⟨false, ?_⟩
  · match ds, h with
    | [_, _], _ => rfl
  · simp only [shs4, GdFs] at hg
    obtain ⟨d0, _, rfl, g0, d1, _, rfl, g1, rfl⟩ := hg
    obtain ⟨ls, ev, ⟨⟨hll, hls⟩, hev⟩, e0⟩ := rd_case d0 g0
    obtain ⟨l, ⟨hl_l, hr_l⟩, e1⟩ := rd_sl _ cu8 rd_u8 d1 g1
    have e : argAs shs4 [d0, d1] = [.agg [.rs 1 (ls.map cL), .int .u8 ev], .rs 1 (l.map cu8)] := by
      simp only [argAs, shs4]
      rw [e0]
      simp only [argA]
      rw [e1]
      rfl
    rw [e]
    exact gc4 ls ev (fun L h => Nat.le_trans (hls L h) (by decide)) (Nat.le_trans hll (by decide)) hev l (Nat.le_trans hl_l (by decide)) hr_l

theorem over4 : Rows.controlTrueRow.holds Try.pinned (OpenSpec.ofChange Rows.controlTrueSpec) :=
  OpenClaim.holds_of_wide 4 Try.f4 rfl rfl rfl rfl rfl rfl rfl ⟨rfl, rfl, rfl, rfl, rfl⟩ rfl rfl rfl rfl rfl (by kernel_rfl) Try.func4 (by kernel_rfl)
    (of_decide_eq_true (by kernel_rfl)) (by unfold Func.isWrapper; rw [if_neg (of_decide_eq_false (by kernel_rfl))]; exact ⟨rfl, rfl⟩)
    (fun os started H enc _ => lifted4 os started H enc)

theorem controlTrue_holds : Rows.ControlTrueSaid := over4
#print axioms controlTrue_holds
end Go.Proofs.Ytigfcmcdjfmieaa
