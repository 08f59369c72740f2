/-
  Walks: A16.
-/
import Derived.Test.YtadjdnhnbkcakaaA15
namespace Go.Proofs.Ytadjdnhnbkcakaa
open Go.RowKit

theorem n60 : FC Try.prog 21 [.rs 4 (([(⟨0, 0, 10, 20⟩ : Rd), (⟨2, 0, 40, 50⟩ : Rd)]).map cR), ints [0], ints [100], .int .i64 0] [] (.tup [ints [], ints [], iv 21]) [] false := by
  have h := fz21 [(⟨0, 0, 10, 20⟩ : Rd), (⟨2, 0, 40, 50⟩ : Rd)] [0] [100] 0
  rwa [show narrowA [(⟨0, 0, 10, 20⟩ : Rd), (⟨2, 0, 40, 50⟩ : Rd)] [0] [100] 0 = [] by decide +kernel, show narrowB [(⟨0, 0, 10, 20⟩ : Rd), (⟨2, 0, 40, 50⟩ : Rd)] [0] [100] 0 = [] by decide +kernel, show narrowE [(⟨0, 0, 10, 20⟩ : Rd), (⟨2, 0, 40, 50⟩ : Rd)] [0] [100] 0 = 21 by decide +kernel] at h
theorem n70 : FC Try.prog 24 [.rs 4 (([(⟨0, 0, 10, 20⟩ : Rd), (⟨2, 0, 40, 50⟩ : Rd)]).map cR), ints [0], ints [100], .int .i64 0] [] (.tup [ints [], iv 21]) [] false := by
  have h := fz24 [(⟨0, 0, 10, 20⟩ : Rd), (⟨2, 0, 40, 50⟩ : Rd)] [0] [100] 0
  rwa [show liarsL [(⟨0, 0, 10, 20⟩ : Rd), (⟨2, 0, 40, 50⟩ : Rd)] [0] [100] 0 = [] by decide +kernel, show liarsE [(⟨0, 0, 10, 20⟩ : Rd), (⟨2, 0, 40, 50⟩ : Rd)] [0] [100] 0 = 21 by decide +kernel] at h
theorem n81 : FC Try.prog 21 [.rs 4 (([(⟨0, 0, 3, 3⟩ : Rd), (⟨0, 1, 8, 8⟩ : Rd), (⟨1, 0, 4, 4⟩ : Rd)]).map cR), ints [0, 0], ints [9, 9], .int .i64 1] [] (.tup [ints [3, 0], ints [4, 9], iv 0]) [] false := by
  have h := fz21 [(⟨0, 0, 3, 3⟩ : Rd), (⟨0, 1, 8, 8⟩ : Rd), (⟨1, 0, 4, 4⟩ : Rd)] [0, 0] [9, 9] 1
  rwa [show narrowA [(⟨0, 0, 3, 3⟩ : Rd), (⟨0, 1, 8, 8⟩ : Rd), (⟨1, 0, 4, 4⟩ : Rd)] [0, 0] [9, 9] 1 = [3, 0] by decide +kernel, show narrowB [(⟨0, 0, 3, 3⟩ : Rd), (⟨0, 1, 8, 8⟩ : Rd), (⟨1, 0, 4, 4⟩ : Rd)] [0, 0] [9, 9] 1 = [4, 9] by decide +kernel, show narrowE [(⟨0, 0, 3, 3⟩ : Rd), (⟨0, 1, 8, 8⟩ : Rd), (⟨1, 0, 4, 4⟩ : Rd)] [0, 0] [9, 9] 1 = 0 by decide +kernel] at h
theorem n108 : FC Try.prog 26 [.rs 4 (([(⟨0, 0, 3, 3⟩ : Rd), (⟨0, 1, 8, 8⟩ : Rd), (⟨1, 0, 4, 4⟩ : Rd)]).map cR), ints [4, 0], iv 1] [] (.bool true) [] false := by
  have h := fc26 [(⟨0, 0, 3, 3⟩ : Rd), (⟨0, 1, 8, 8⟩ : Rd), (⟨1, 0, 4, 4⟩ : Rd)] [4, 0] 1 (by decide)
  rwa [show agreeS [(⟨0, 0, 3, 3⟩ : Rd), (⟨0, 1, 8, 8⟩ : Rd), (⟨1, 0, 4, 4⟩ : Rd)] [4, 0] 1 = true by decide +kernel] at h
theorem n113 : FC Try.prog 26 [.rs 4 (([(⟨0, 0, 3, 3⟩ : Rd), (⟨0, 1, 8, 8⟩ : Rd), (⟨1, 0, 4, 4⟩ : Rd)]).map cR), ints [5, 0], iv 1] [] (.bool false) [] false := by
  have h := fc26 [(⟨0, 0, 3, 3⟩ : Rd), (⟨0, 1, 8, 8⟩ : Rd), (⟨1, 0, 4, 4⟩ : Rd)] [5, 0] 1 (by decide)
  rwa [show agreeS [(⟨0, 0, 3, 3⟩ : Rd), (⟨0, 1, 8, 8⟩ : Rd), (⟨1, 0, 4, 4⟩ : Rd)] [5, 0] 1 = false by decide +kernel] at h
theorem n119 : FC Try.prog 19 [.rs 4 (([] : List Rd).map cR), ints [1], ints [0], .int .i64 0] [] (.int .i64 3) [] false := by
  have h := fc19 [] [1] [0] 0
  rwa [show checkS [] [1] [0] 0 = 3 by decide +kernel] at h

def mc15 : MC := (.seq (.reg [⟨(some 0), (.mv (.c (.bool false))), none, []⟩] false) (.seq (.reg [⟨(some 13), (.call 46 [(.c (.int .i64 0)), (.c (.int .i64 10)), (.c (.int .i64 20))]), none, []⟩, ⟨(some 14), (.call 46 [(.c (.int .i64 1)), (.c (.int .i64 15)), (.c (.int .i64 30))]), none, [0]⟩, ⟨(some 15), (.call 46 [(.c (.int .i64 2)), (.c (.int .i64 40)), (.c (.int .i64 50))]), none, [1]⟩, ⟨(some 1), (.alloc 50 4 [(.int .i64 0), (.int .i64 0), (.int .i64 0), (.int .i64 0)]), none, []⟩, ⟨(some 2), (.alloc 50 4 [(.int .i64 0), (.int .i64 0), (.int .i64 0), (.int .i64 0)]), none, []⟩, ⟨(some 3), (.alloc 50 4 [(.int .i64 0), (.int .i64 0), (.int .i64 0), (.int .i64 0)]), none, []⟩, ⟨none, (.st 4 (.t 1) (.t 13)), none, [3, 0, 2, 0, 3, 4, 5]⟩, ⟨none, (.st 4 (.t 2) (.t 14)), none, [4, 1, 6, 0, 1, 3, 4, 5, 6]⟩, ⟨none, (.st 4 (.t 3) (.t 15)), none, [5, 2, 7, 0, 1, 2, 3, 4, 5, 6, 7]⟩] false) (.seq (.seq (.reg [⟨(some 16), (.ld true 4 (.t 1)), none, []⟩, ⟨(some 17), (.ld true 4 (.t 2)), none, []⟩, ⟨(some 18), (.bslice 50 4 [(.int .i64 0), (.int .i64 0), (.int .i64 0), (.int .i64 0)] 2 [(0, (.t 16)), (1, (.t 17))]), none, [0, 1]⟩, ⟨(some 19), (.call 47 [(.c (.int .i64 0)), (.c (.int .i64 15)), (.c (.int .i64 20)), (.c .nils), (.t 18)]), none, [2]⟩, ⟨(some 20), (.un .not (.t 19)), none, [3]⟩, ⟨(some 21), (.mv (.t 20)), none, [4, 3]⟩, ⟨(some 22), (.ld true 4 (.t 1)), (some (21, false)), [5]⟩, ⟨(some 23), (.call 46 [(.c (.int .i64 1)), (.c (.int .i64 40)), (.c (.int .i64 50))]), (some (21, false)), [5, 5]⟩, ⟨(some 24), (.bslice 50 4 [(.int .i64 0), (.int .i64 0), (.int .i64 0), (.int .i64 0)] 2 [(0, (.t 22)), (1, (.t 23))]), (some (21, false)), [6, 7, 5]⟩, ⟨(some 25), (.call 47 [(.c (.int .i64 1)), (.c (.int .i64 10)), (.c (.int .i64 50)), (.c .nils), (.t 24)]), (some (21, false)), [8, 7, 5]⟩, ⟨(some 26), (.un .not (.t 25)), (some (21, false)), [9, 5]⟩, ⟨(some 27), (.pick (.t 21) (.c (.bool true)) (.t 26)), none, [5, 10]⟩, ⟨(some 28), (.mv (.t 27)), none, [11, 9]⟩, ⟨(some 29), (.bslice 3 1 [(.int .i64 0)] 1 [(0, (.c (.int .i64 2)))]), (some (28, false)), [12]⟩, ⟨(some 30), (.ld true 4 (.t 1)), (some (28, false)), [12]⟩, ⟨(some 31), (.ld true 4 (.t 2)), (some (28, false)), [12]⟩, ⟨(some 32), (.ld true 4 (.t 3)), (some (28, false)), [12]⟩, ⟨(some 33), (.bslice 50 4 [(.int .i64 0), (.int .i64 0), (.int .i64 0), (.int .i64 0)] 3 [(0, (.t 30)), (1, (.t 31)), (2, (.t 32))]), (some (28, false)), [14, 15, 16, 12]⟩, ⟨(some 34), (.call 47 [(.c (.int .i64 1)), (.c (.int .i64 15)), (.c (.int .i64 20)), (.t 29), (.t 33)]), (some (28, false)), [13, 17, 12, 12]⟩, ⟨(some 35), (.un .not (.t 34)), (some (28, false)), [18, 12]⟩, ⟨(some 36), (.pick (.t 28) (.c (.bool true)) (.t 35)), none, [12, 19]⟩, ⟨(some 37), (.mv (.t 36)), none, [20, 18]⟩, ⟨(some 38), (.bslice 3 1 [(.int .i64 0)] 1 [(0, (.c (.int .i64 0)))]), (some (37, false)), [21]⟩, ⟨(some 39), (.ld true 4 (.t 1)), (some (37, false)), [21]⟩, ⟨(some 40), (.call 46 [(.c (.int .i64 0)), (.c (.int .i64 30)), (.c (.int .i64 40))]), (some (37, false)), [21, 21]⟩, ⟨(some 41), (.call 46 [(.c (.int .i64 1)), (.c (.int .i64 12)), (.c (.int .i64 13))]), (some (37, false)), [24, 21]⟩, ⟨(some 42), (.bslice 50 4 [(.int .i64 0), (.int .i64 0), (.int .i64 0), (.int .i64 0)] 3 [(0, (.t 39)), (1, (.t 40)), (2, (.t 41))]), (some (37, false)), [23, 24, 25, 21]⟩, ⟨(some 43), (.call 47 [(.c (.int .i64 1)), (.c (.int .i64 12)), (.c (.int .i64 13)), (.t 38), (.t 42)]), (some (37, false)), [22, 26, 25, 21]⟩, ⟨(some 44), (.un .not (.t 43)), (some (37, false)), [27, 21]⟩, ⟨(some 45), (.pick (.t 37) (.c (.bool true)) (.t 44)), none, [21, 28]⟩, ⟨(some 46), (.mv (.t 45)), none, [29, 27]⟩, ⟨(some 47), (.ld true 4 (.t 1)), (some (46, false)), [30]⟩, ⟨(some 48), (.ld true 4 (.t 2)), (some (46, false)), [30]⟩, ⟨(some 49), (.ld true 4 (.t 3)), (some (46, false)), [30]⟩, ⟨(some 50), (.bslice 50 4 [(.int .i64 0), (.int .i64 0), (.int .i64 0), (.int .i64 0)] 3 [(0, (.t 47)), (1, (.t 48)), (2, (.t 49))]), (some (46, false)), [31, 32, 33, 30]⟩, ⟨(some 51), (.call 47 [(.c (.int .i64 3)), (.c (.int .i64 0)), (.c (.int .i64 100)), (.c .nils), (.t 50)]), (some (46, false)), [34, 30, 30]⟩, ⟨(some 52), (.un .not (.t 51)), (some (46, false)), [35, 30]⟩, ⟨(some 53), (.pick (.t 46) (.c (.bool true)) (.t 52)), none, [30, 36]⟩] true) (.cond (.t 53) (.seq (.reg [⟨(some 0), (.mv (.c (.bool false))), none, []⟩] false) .ret) .skip)) (.seq (.reg [⟨(some 55), (.ld true 4 (.t 1)), none, []⟩, ⟨(some 56), (.ld true 4 (.t 3)), none, []⟩, ⟨(some 57), (.bslice 50 4 [(.int .i64 0), (.int .i64 0), (.int .i64 0), (.int .i64 0)] 2 [(0, (.t 55)), (1, (.t 56))]), none, [0, 1]⟩, ⟨(some 58), (.bslice 3 1 [(.int .i64 0)] 1 [(0, (.c (.int .i64 0)))]), none, []⟩, ⟨(some 59), (.bslice 3 1 [(.int .i64 0)] 1 [(0, (.c (.int .i64 100)))]), none, []⟩, ⟨(some 60), (.call 21 [(.t 57), (.t 58), (.t 59), (.c (.int .i64 0))]), none, [2, 3, 4]⟩, ⟨(some 54), (.mv (.t 60)), none, [5]⟩, ⟨(some 61), (.ext (.t 54) 0), none, [6]⟩, ⟨(some 62), (.ext (.t 54) 1), none, [6]⟩, ⟨(some 63), (.ext (.t 54) 2), none, [6]⟩, ⟨(some 4), (.mv (.t 61)), none, [7, 5, 0, 1, 2, 3, 4, 5, 6, 7]⟩, ⟨(some 5), (.mv (.t 62)), none, [8, 10, 0, 1, 2, 3, 4, 5, 6, 7, 8, 10]⟩, ⟨(some 6), (.mv (.t 63)), none, [9, 11, 0, 1, 2, 3, 4, 5, 6, 7, 8, 9, 10, 11]⟩] false) (.seq (.reg [⟨(some 65), (.ld true 4 (.t 1)), none, []⟩, ⟨(some 66), (.ld true 4 (.t 3)), none, []⟩, ⟨(some 67), (.bslice 50 4 [(.int .i64 0), (.int .i64 0), (.int .i64 0), (.int .i64 0)] 2 [(0, (.t 65)), (1, (.t 66))]), none, [0, 1]⟩, ⟨(some 68), (.bslice 3 1 [(.int .i64 0)] 1 [(0, (.c (.int .i64 0)))]), none, []⟩, ⟨(some 69), (.bslice 3 1 [(.int .i64 0)] 1 [(0, (.c (.int .i64 100)))]), none, []⟩, ⟨(some 70), (.call 24 [(.t 67), (.t 68), (.t 69), (.c (.int .i64 0))]), none, [2, 3, 4]⟩, ⟨(some 64), (.mv (.t 70)), none, [5]⟩, ⟨(some 71), (.ext (.t 64) 0), none, [6]⟩, ⟨(some 72), (.ext (.t 64) 1), none, [6]⟩, ⟨(some 7), (.mv (.t 71)), none, [7, 5, 0, 1, 2, 3, 4, 5, 6, 7]⟩, ⟨(some 8), (.mv (.t 72)), none, [8, 9, 0, 1, 2, 3, 4, 5, 6, 7, 8, 9]⟩] false) (.seq (.reg [⟨(some 73), (.call 46 [(.c (.int .i64 0)), (.c (.int .i64 3)), (.c (.int .i64 3))]), none, []⟩, ⟨(some 74), (.build [(.int .i64 0), (.int .i64 0), (.int .i64 0), (.int .i64 0)] [(1, (1, (.c (.int .i64 1)))), (2, (1, (.c (.int .i64 8)))), (3, (1, (.c (.int .i64 8))))]), none, []⟩, ⟨(some 75), (.call 46 [(.c (.int .i64 1)), (.c (.int .i64 4)), (.c (.int .i64 4))]), none, [0]⟩, ⟨(some 76), (.bslice 50 4 [(.int .i64 0), (.int .i64 0), (.int .i64 0), (.int .i64 0)] 3 [(0, (.t 73)), (1, (.t 74)), (2, (.t 75))]), none, [0, 1, 2]⟩, ⟨(some 9), (.mv (.t 76)), none, [3, 2, 0, 1, 2, 3]⟩] false) (.seq (.reg [⟨(some 78), (.mv (.t 9)), none, []⟩, ⟨(some 79), (.bslice 3 1 [(.int .i64 0)] 2 [(0, (.c (.int .i64 0))), (1, (.c (.int .i64 0)))]), none, []⟩, ⟨(some 80), (.bslice 3 1 [(.int .i64 0)] 2 [(0, (.c (.int .i64 9))), (1, (.c (.int .i64 9)))]), none, []⟩, ⟨(some 81), (.call 21 [(.t 78), (.t 79), (.t 80), (.c (.int .i64 1))]), none, [0, 1, 2]⟩, ⟨(some 77), (.mv (.t 81)), none, [3]⟩, ⟨(some 82), (.ext (.t 77) 0), none, [4]⟩, ⟨(some 83), (.ext (.t 77) 1), none, [4]⟩, ⟨(some 84), (.ext (.t 77) 2), none, [4]⟩, ⟨(some 10), (.mv (.t 82)), none, [5, 3, 0, 1, 2, 3, 4, 5]⟩, ⟨(some 11), (.mv (.t 83)), none, [6, 8, 0, 1, 2, 3, 4, 5, 6, 8]⟩, ⟨(some 12), (.mv (.t 84)), none, [7, 9, 0, 1, 2, 3, 4, 5, 6, 7, 8, 9]⟩] false) (.seq (.reg [⟨(some 85), (.mv (.t 6)), none, []⟩, ⟨(some 86), (.bin .eql (.t 85) (.c (.int .i64 21))), none, [0]⟩, ⟨(some 87), (.mv (.t 86)), none, [1]⟩, ⟨(some 88), (.mv (.t 8)), (some (87, true)), [2]⟩, ⟨(some 89), (.bin .eql (.t 88) (.c (.int .i64 21))), (some (87, true)), [3, 2]⟩, ⟨(some 90), (.pick (.t 87) (.t 89) (.c (.bool false))), none, [2, 4]⟩, ⟨(some 91), (.mv (.t 90)), none, [5, 2]⟩, ⟨(some 92), (.mv (.t 12)), (some (91, true)), [6]⟩, ⟨(some 93), (.bin .eql (.t 92) (.c (.int .i64 0))), (some (91, true)), [7, 6]⟩, ⟨(some 94), (.pick (.t 91) (.t 93) (.c (.bool false))), none, [6, 8]⟩, ⟨(some 95), (.mv (.t 94)), none, [9, 6]⟩, ⟨(some 96), (.mv (.t 10)), (some (95, true)), [10]⟩, ⟨(some 97), (.bslice 3 1 [(.int .i64 0)] 2 [(0, (.c (.int .i64 3))), (1, (.c (.int .i64 0)))]), (some (95, true)), [10]⟩, ⟨(some 98), (.call 23 [(.t 96), (.t 97)]), (some (95, true)), [11, 12, 10, 10]⟩, ⟨(some 99), (.pick (.t 95) (.t 98) (.c (.bool false))), none, [10, 13]⟩, ⟨(some 100), (.mv (.t 99)), none, [14, 13]⟩, ⟨(some 101), (.mv (.t 11)), (some (100, true)), [15]⟩, ⟨(some 102), (.bslice 3 1 [(.int .i64 0)] 2 [(0, (.c (.int .i64 4))), (1, (.c (.int .i64 9)))]), (some (100, true)), [15]⟩, ⟨(some 103), (.call 23 [(.t 101), (.t 102)]), (some (100, true)), [16, 17, 15, 15]⟩, ⟨(some 104), (.pick (.t 100) (.t 103) (.c (.bool false))), none, [15, 18]⟩, ⟨(some 105), (.mv (.t 104)), none, [19, 18]⟩, ⟨(some 106), (.mv (.t 9)), (some (105, true)), [20]⟩, ⟨(some 107), (.bslice 3 1 [(.int .i64 0)] 2 [(0, (.c (.int .i64 4))), (1, (.c (.int .i64 0)))]), (some (105, true)), [20]⟩, ⟨(some 108), (.call 26 [(.t 106), (.t 107), (.c (.int .i64 1))]), (some (105, true)), [21, 22, 20, 20]⟩, ⟨(some 109), (.pick (.t 105) (.t 108) (.c (.bool false))), none, [20, 23]⟩, ⟨(some 110), (.mv (.t 109)), none, [24, 23]⟩, ⟨(some 111), (.mv (.t 9)), (some (110, true)), [25]⟩, ⟨(some 112), (.bslice 3 1 [(.int .i64 0)] 2 [(0, (.c (.int .i64 5))), (1, (.c (.int .i64 0)))]), (some (110, true)), [25]⟩, ⟨(some 113), (.call 26 [(.t 111), (.t 112), (.c (.int .i64 1))]), (some (110, true)), [26, 27, 25, 25]⟩, ⟨(some 114), (.un .not (.t 113)), (some (110, true)), [28, 25]⟩, ⟨(some 115), (.pick (.t 110) (.t 114) (.c (.bool false))), none, [25, 29]⟩, ⟨(some 116), (.mv (.t 115)), none, [30, 28]⟩, ⟨(some 117), (.bslice 3 1 [(.int .i64 0)] 1 [(0, (.c (.int .i64 1)))]), (some (116, true)), [31]⟩, ⟨(some 118), (.bslice 3 1 [(.int .i64 0)] 1 [(0, (.c (.int .i64 0)))]), (some (116, true)), [31]⟩, ⟨(some 119), (.call 19 [(.c .nils), (.t 117), (.t 118), (.c (.int .i64 0))]), (some (116, true)), [32, 33, 31, 31]⟩, ⟨(some 120), (.bin .eql (.t 119) (.c (.int .i64 3))), (some (116, true)), [34, 31]⟩, ⟨(some 121), (.pick (.t 116) (.t 120) (.c (.bool false))), none, [31, 35]⟩, ⟨(some 0), (.mv (.t 121)), none, [36, 34, 0, 1, 2, 3, 4, 5, 6, 7, 8, 9, 10, 11, 12, 13, 14, 15, 16, 17, 18, 19, 20, 21, 22, 23, 24, 25, 26, 27, 28, 29, 30, 31, 32, 33, 34, 35, 36]⟩] false) .ret))))))))
theorem mcOk15 : (match Try.f15.body with | some c => compC Try.prog 122 c | none => none) = some mc15 := by kernel_rfl

theorem fc15  : FC Try.prog 15 [] [] (.bool true) [] false := by
  refine fc_run (nt := 122) Try.func15 rfl rfl mcOk15 (Nat.le_of_ble_eq_true rfl) ?_
  delta mc15
  refine aw_seq ?_
  refine aw_reg ?_
  refine rs_mv rfl rfl ?_
  refine rs_nil fun _ => ?_
  refine th_n ?_
  refine aw_seq ?_
  refine aw_reg ?_
  refine rs_calln [] rfl rfl (fc46 0 10 20) (.cons (hv_same rfl) (.cons (hv_same rfl) (.cons (hv_same rfl) (.nil)))) rfl ?_
  refine rs_calln [] rfl rfl (fc46 1 15 30) (.cons (hv_same rfl) (.cons (hv_same rfl) (.cons (hv_same rfl) (.nil)))) rfl ?_
  refine rs_calln [] rfl rfl (fc46 2 40 50) (.cons (hv_same rfl) (.cons (hv_same rfl) (.cons (hv_same rfl) (.nil)))) rfl ?_
  refine rs_alloc rfl rfl rfl ?_
  refine rs_alloc rfl rfl rfl ?_
  refine rs_alloc rfl rfl rfl ?_
  refine rs_st rfl rfl rfl rfl rfl rfl rfl (Nat.le_of_ble_eq_true rfl) rfl rfl ?_
  refine rs_st rfl rfl rfl rfl rfl rfl rfl (Nat.le_of_ble_eq_true rfl) rfl rfl ?_
  refine rs_st rfl rfl rfl rfl rfl rfl rfl (Nat.le_of_ble_eq_true rfl) rfl rfl ?_
  refine rs_nil fun _ => ?_
  refine th_n ?_
  refine aw_seq ?_
  refine aw_seq ?_
  refine aw_draw hmix ?_
  first | refine rs_ld_pa rfl rfl rfl rfl (Nat.le_of_ble_eq_true rfl) rfl ?_ | refine rs_ld_ra rfl rfl (Nat.le_of_ble_eq_true rfl) rfl ?_ | refine rs_ld_ma rfl rfl rfl (by omega) (Nat.le_of_ble_eq_true rfl) rfl ?_
  first | refine rs_ld_pa rfl rfl rfl rfl (Nat.le_of_ble_eq_true rfl) rfl ?_ | refine rs_ld_ra rfl rfl (Nat.le_of_ble_eq_true rfl) rfl ?_ | refine rs_ld_ma rfl rfl rfl (by omega) (Nat.le_of_ble_eq_true rfl) rfl ?_
  refine rs_bslice rfl rfl rfl rfl rfl rfl ?_
  refine rs_calln [18] rfl rfl (fc47 [(⟨0, 0, 10, 20⟩ : Rd), (⟨1, 0, 15, 30⟩ : Rd)] 0 15 20 [] (by decide +kernel) (by decide +kernel) (by decide +kernel) (by decide +kernel) (by decide +kernel) (by decide)) (.cons (hv_same rfl) (.cons (hv_same rfl) (.cons (hv_same rfl) (.cons (hv_nils) (.cons (hv_sl (by simp) rfl (Nat.le_of_ble_eq_true rfl) rfl) (.nil)))))) rfl ?_
  refine rs_not rfl rfl ?_
  refine rs_mv rfl rfl ?_
  first | refine rs_ld_pa rfl rfl rfl rfl (Nat.le_of_ble_eq_true rfl) rfl ?_ | refine rs_ld_ra rfl rfl (Nat.le_of_ble_eq_true rfl) rfl ?_ | refine rs_ld_ma rfl rfl rfl (by omega) (Nat.le_of_ble_eq_true rfl) rfl ?_
  refine rs_calln [] rfl rfl (fc46 1 40 50) (.cons (hv_same rfl) (.cons (hv_same rfl) (.cons (hv_same rfl) (.nil)))) rfl ?_
  refine rs_bslice rfl rfl rfl rfl rfl rfl ?_
  refine rs_calln [24] rfl rfl (fc47 [(⟨0, 0, 10, 20⟩ : Rd), (⟨1, 0, 40, 50⟩ : Rd)] 1 10 50 [] (by decide +kernel) (by decide +kernel) (by decide +kernel) (by decide +kernel) (by decide +kernel) (by decide)) (.cons (hv_same rfl) (.cons (hv_same rfl) (.cons (hv_same rfl) (.cons (hv_nils) (.cons (hv_sl (by simp) rfl (Nat.le_of_ble_eq_true rfl) rfl) (.nil)))))) rfl ?_
  refine rs_not rfl rfl ?_
  refine rs_pick rfl rfl rfl ?_
  refine rs_mv rfl rfl ?_
  refine rs_bslice rfl rfl rfl rfl rfl rfl ?_
  first | refine rs_ld_pa rfl rfl rfl rfl (Nat.le_of_ble_eq_true rfl) rfl ?_ | refine rs_ld_ra rfl rfl (Nat.le_of_ble_eq_true rfl) rfl ?_ | refine rs_ld_ma rfl rfl rfl (by omega) (Nat.le_of_ble_eq_true rfl) rfl ?_
  first | refine rs_ld_pa rfl rfl rfl rfl (Nat.le_of_ble_eq_true rfl) rfl ?_ | refine rs_ld_ra rfl rfl (Nat.le_of_ble_eq_true rfl) rfl ?_ | refine rs_ld_ma rfl rfl rfl (by omega) (Nat.le_of_ble_eq_true rfl) rfl ?_
  first | refine rs_ld_pa rfl rfl rfl rfl (Nat.le_of_ble_eq_true rfl) rfl ?_ | refine rs_ld_ra rfl rfl (Nat.le_of_ble_eq_true rfl) rfl ?_ | refine rs_ld_ma rfl rfl rfl (by omega) (Nat.le_of_ble_eq_true rfl) rfl ?_
  refine rs_bslice rfl rfl rfl rfl rfl rfl ?_
  refine rs_calln [29, 33] rfl rfl (fc47 [(⟨0, 0, 10, 20⟩ : Rd), (⟨1, 0, 15, 30⟩ : Rd), (⟨2, 0, 40, 50⟩ : Rd)] 1 15 20 [2] (by decide +kernel) (by decide +kernel) (by decide +kernel) (by decide +kernel) (by decide +kernel) (by decide)) (.cons (hv_same rfl) (.cons (hv_same rfl) (.cons (hv_same rfl) (.cons (hv_sl (by simp) rfl (Nat.le_of_ble_eq_true rfl) rfl) (.cons (hv_sl (by simp) rfl (Nat.le_of_ble_eq_true rfl) rfl) (.nil)))))) rfl ?_
  refine rs_not rfl rfl ?_
  refine rs_pick rfl rfl rfl ?_
  refine rs_mv rfl rfl ?_
  refine rs_bslice rfl rfl rfl rfl rfl rfl ?_
  first | refine rs_ld_pa rfl rfl rfl rfl (Nat.le_of_ble_eq_true rfl) rfl ?_ | refine rs_ld_ra rfl rfl (Nat.le_of_ble_eq_true rfl) rfl ?_ | refine rs_ld_ma rfl rfl rfl (by omega) (Nat.le_of_ble_eq_true rfl) rfl ?_
  refine rs_calln [] rfl rfl (fc46 0 30 40) (.cons (hv_same rfl) (.cons (hv_same rfl) (.cons (hv_same rfl) (.nil)))) rfl ?_
  refine rs_calln [] rfl rfl (fc46 1 12 13) (.cons (hv_same rfl) (.cons (hv_same rfl) (.cons (hv_same rfl) (.nil)))) rfl ?_
  refine rs_bslice rfl rfl rfl rfl rfl rfl ?_
  refine rs_calln [38, 42] rfl rfl (fc47 [(⟨0, 0, 10, 20⟩ : Rd), (⟨0, 0, 30, 40⟩ : Rd), (⟨1, 0, 12, 13⟩ : Rd)] 1 12 13 [0] (by decide +kernel) (by decide +kernel) (by decide +kernel) (by decide +kernel) (by decide +kernel) (by decide)) (.cons (hv_same rfl) (.cons (hv_same rfl) (.cons (hv_same rfl) (.cons (hv_sl (by simp) rfl (Nat.le_of_ble_eq_true rfl) rfl) (.cons (hv_sl (by simp) rfl (Nat.le_of_ble_eq_true rfl) rfl) (.nil)))))) rfl ?_
  refine rs_not rfl rfl ?_
  refine rs_pick rfl rfl rfl ?_
  refine rs_mv rfl rfl ?_
  first | refine rs_ld_pa rfl rfl rfl rfl (Nat.le_of_ble_eq_true rfl) rfl ?_ | refine rs_ld_ra rfl rfl (Nat.le_of_ble_eq_true rfl) rfl ?_ | refine rs_ld_ma rfl rfl rfl (by omega) (Nat.le_of_ble_eq_true rfl) rfl ?_
  first | refine rs_ld_pa rfl rfl rfl rfl (Nat.le_of_ble_eq_true rfl) rfl ?_ | refine rs_ld_ra rfl rfl (Nat.le_of_ble_eq_true rfl) rfl ?_ | refine rs_ld_ma rfl rfl rfl (by omega) (Nat.le_of_ble_eq_true rfl) rfl ?_
  first | refine rs_ld_pa rfl rfl rfl rfl (Nat.le_of_ble_eq_true rfl) rfl ?_ | refine rs_ld_ra rfl rfl (Nat.le_of_ble_eq_true rfl) rfl ?_ | refine rs_ld_ma rfl rfl rfl (by omega) (Nat.le_of_ble_eq_true rfl) rfl ?_
  refine rs_bslice rfl rfl rfl rfl rfl rfl ?_
  refine rs_calln [50] rfl rfl (fc47 [(⟨0, 0, 10, 20⟩ : Rd), (⟨1, 0, 15, 30⟩ : Rd), (⟨2, 0, 40, 50⟩ : Rd)] 3 0 100 [] (by decide +kernel) (by decide +kernel) (by decide +kernel) (by decide +kernel) (by decide +kernel) (by decide)) (.cons (hv_same rfl) (.cons (hv_same rfl) (.cons (hv_same rfl) (.cons (hv_nils) (.cons (hv_sl (by simp) rfl (Nat.le_of_ble_eq_true rfl) rfl) (.nil)))))) rfl ?_
  refine rs_not rfl rfl ?_
  refine rs_pick rfl rfl rfl ?_
  refine rs_nil ⟨by kernel_rfl, fun _ => ?_⟩
  refine th_n ?_
  refine aw_cond rfl (fun h => by cases h) (fun _ => ?_)
  refine aw_skip ?_
  refine th_n ?_
  refine aw_seq ?_
  refine aw_reg ?_
  first | refine rs_ld_pa rfl rfl rfl rfl (Nat.le_of_ble_eq_true rfl) rfl ?_ | refine rs_ld_ra rfl rfl (Nat.le_of_ble_eq_true rfl) rfl ?_ | refine rs_ld_ma rfl rfl rfl (by omega) (Nat.le_of_ble_eq_true rfl) rfl ?_
  first | refine rs_ld_pa rfl rfl rfl rfl (Nat.le_of_ble_eq_true rfl) rfl ?_ | refine rs_ld_ra rfl rfl (Nat.le_of_ble_eq_true rfl) rfl ?_ | refine rs_ld_ma rfl rfl rfl (by omega) (Nat.le_of_ble_eq_true rfl) rfl ?_
  refine rs_bslice rfl rfl rfl rfl rfl rfl ?_
  refine rs_bslice rfl rfl rfl rfl rfl rfl ?_
  refine rs_bslice rfl rfl rfl rfl rfl rfl ?_
  refine rs_calln [57, 58, 59] rfl rfl (n60) (.cons (hv_sl (by simp) rfl (Nat.le_of_ble_eq_true rfl) rfl) (.cons (hv_sl (by simp) rfl (Nat.le_of_ble_eq_true rfl) rfl) (.cons (hv_sl (by simp) rfl (Nat.le_of_ble_eq_true rfl) rfl) (.cons (hv_same rfl) (.nil))))) rfl ?_
  refine rs_mv rfl rfl ?_
  refine rs_ext rfl rfl rfl ?_
  refine rs_ext rfl rfl rfl ?_
  refine rs_ext rfl rfl rfl ?_
  refine rs_mv rfl rfl ?_
  refine rs_mv rfl rfl ?_
  refine rs_mv rfl rfl ?_
  refine rs_nil fun _ => ?_
  refine th_n ?_
  refine aw_seq ?_
  refine aw_reg ?_
  first | refine rs_ld_pa rfl rfl rfl rfl (Nat.le_of_ble_eq_true rfl) rfl ?_ | refine rs_ld_ra rfl rfl (Nat.le_of_ble_eq_true rfl) rfl ?_ | refine rs_ld_ma rfl rfl rfl (by omega) (Nat.le_of_ble_eq_true rfl) rfl ?_
  first | refine rs_ld_pa rfl rfl rfl rfl (Nat.le_of_ble_eq_true rfl) rfl ?_ | refine rs_ld_ra rfl rfl (Nat.le_of_ble_eq_true rfl) rfl ?_ | refine rs_ld_ma rfl rfl rfl (by omega) (Nat.le_of_ble_eq_true rfl) rfl ?_
  refine rs_bslice rfl rfl rfl rfl rfl rfl ?_
  refine rs_bslice rfl rfl rfl rfl rfl rfl ?_
  refine rs_bslice rfl rfl rfl rfl rfl rfl ?_
  refine rs_calln [67, 68, 69] rfl rfl (n70) (.cons (hv_sl (by simp) rfl (Nat.le_of_ble_eq_true rfl) rfl) (.cons (hv_sl (by simp) rfl (Nat.le_of_ble_eq_true rfl) rfl) (.cons (hv_sl (by simp) rfl (Nat.le_of_ble_eq_true rfl) rfl) (.cons (hv_same rfl) (.nil))))) rfl ?_
  refine rs_mv rfl rfl ?_
  refine rs_ext rfl rfl rfl ?_
  refine rs_ext rfl rfl rfl ?_
  refine rs_mv rfl rfl ?_
  refine rs_mv rfl rfl ?_
  refine rs_nil fun _ => ?_
  refine th_n ?_
  refine aw_seq ?_
  refine aw_reg ?_
  refine rs_calln [] rfl rfl (fc46 0 3 3) (.cons (hv_same rfl) (.cons (hv_same rfl) (.cons (hv_same rfl) (.nil)))) rfl ?_
  refine rs_build rfl rfl ?_
  refine rs_calln [] rfl rfl (fc46 1 4 4) (.cons (hv_same rfl) (.cons (hv_same rfl) (.cons (hv_same rfl) (.nil)))) rfl ?_
  refine rs_bslice rfl rfl rfl rfl rfl rfl ?_
  refine rs_mv rfl rfl ?_
  refine rs_nil fun _ => ?_
  refine th_n ?_
  refine aw_seq ?_
  refine aw_reg ?_
  refine rs_mv rfl rfl ?_
  refine rs_bslice rfl rfl rfl rfl rfl rfl ?_
  refine rs_bslice rfl rfl rfl rfl rfl rfl ?_
  refine rs_calln [76, 79, 80] rfl rfl (n81) (.cons (hv_sl (by simp) rfl (Nat.le_of_ble_eq_true rfl) rfl) (.cons (hv_sl (by simp) rfl (Nat.le_of_ble_eq_true rfl) rfl) (.cons (hv_sl (by simp) rfl (Nat.le_of_ble_eq_true rfl) rfl) (.cons (hv_same rfl) (.nil))))) rfl ?_
  refine rs_mv rfl rfl ?_
  refine rs_ext rfl rfl rfl ?_
  refine rs_ext rfl rfl rfl ?_
  refine rs_ext rfl rfl rfl ?_
  refine rs_mv rfl rfl ?_
  refine rs_mv rfl rfl ?_
  refine rs_mv rfl rfl ?_
  refine rs_nil fun _ => ?_
  refine th_n ?_
  refine aw_seq ?_
  refine aw_reg ?_
  refine rs_mv rfl rfl ?_
  refine rs_cmp_t rfl rfl rfl rfl rfl ?_
  refine rs_mv rfl rfl ?_
  refine rs_mv rfl rfl ?_
  refine rs_cmp_t rfl rfl rfl rfl rfl ?_
  refine rs_pick rfl rfl rfl ?_
  refine rs_mv rfl rfl ?_
  refine rs_mv rfl rfl ?_
  refine rs_cmp_t rfl rfl rfl rfl rfl ?_
  refine rs_pick rfl rfl rfl ?_
  refine rs_mv rfl rfl ?_
  refine rs_mv rfl rfl ?_
  refine rs_bslice rfl rfl rfl rfl rfl rfl ?_
  refine rs_calln [97] rfl rfl (fc23_t [3, 0] (by decide)) (.cons (hv_same rfl) (.cons (hv_sl (by simp) rfl (Nat.le_of_ble_eq_true rfl) rfl) (.nil))) rfl ?_
  refine rs_pick rfl rfl rfl ?_
  refine rs_mv rfl rfl ?_
  refine rs_mv rfl rfl ?_
  refine rs_bslice rfl rfl rfl rfl rfl rfl ?_
  refine rs_calln [102] rfl rfl (fc23_t [4, 9] (by decide)) (.cons (hv_same rfl) (.cons (hv_sl (by simp) rfl (Nat.le_of_ble_eq_true rfl) rfl) (.nil))) rfl ?_
  refine rs_pick rfl rfl rfl ?_
  refine rs_mv rfl rfl ?_
  refine rs_mv rfl rfl ?_
  refine rs_bslice rfl rfl rfl rfl rfl rfl ?_
  refine rs_calln [76, 107] rfl rfl (n108) (.cons (hv_sl (by simp) rfl (Nat.le_of_ble_eq_true rfl) rfl) (.cons (hv_sl (by simp) rfl (Nat.le_of_ble_eq_true rfl) rfl) (.cons (hv_same rfl) (.nil)))) rfl ?_
  refine rs_pick rfl rfl rfl ?_
  refine rs_mv rfl rfl ?_
  refine rs_mv rfl rfl ?_
  refine rs_bslice rfl rfl rfl rfl rfl rfl ?_
  refine rs_calln [76, 112] rfl rfl (n113) (.cons (hv_sl (by simp) rfl (Nat.le_of_ble_eq_true rfl) rfl) (.cons (hv_sl (by simp) rfl (Nat.le_of_ble_eq_true rfl) rfl) (.cons (hv_same rfl) (.nil)))) rfl ?_
  refine rs_not rfl rfl ?_
  refine rs_pick rfl rfl rfl ?_
  refine rs_mv rfl rfl ?_
  refine rs_bslice rfl rfl rfl rfl rfl rfl ?_
  refine rs_bslice rfl rfl rfl rfl rfl rfl ?_
  refine rs_calln [117, 118] rfl rfl (n119) (.cons (hv_nils) (.cons (hv_sl (by simp) rfl (Nat.le_of_ble_eq_true rfl) rfl) (.cons (hv_sl (by simp) rfl (Nat.le_of_ble_eq_true rfl) rfl) (.cons (hv_same rfl) (.nil))))) rfl ?_
  refine rs_cmp_t rfl rfl rfl rfl rfl ?_
  refine rs_pick rfl rfl rfl ?_
  refine rs_mv rfl rfl ?_
  refine rs_nil fun _ => ?_
  refine th_n ?_
  refine aw_ret ?_
  exact ret_pure rfl rfl rfl (.inr rfl)

end Go.Proofs.Ytadjdnhnbkcakaa
