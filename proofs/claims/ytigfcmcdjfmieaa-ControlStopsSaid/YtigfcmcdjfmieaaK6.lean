/-
  Proved: colletlaw34.ControlStops returns true for every input, and its arguments read as before. No condition.
-/
import Derived.Test.YtigfcmcdjfmieaaK5
import Derived.Test.YtigfcmcdjfmieaaRows
set_option linter.unusedVariables false
set_option linter.unusedSimpArgs false

/-! Walks: C13. -/
namespace Go.Proofs.Ytigfcmcdjfmieaa
open Go.RowKit
set_option maxRecDepth 100000
set_option linter.unusedVariables false

theorem gc25e (xs ys : List Int) (h : xs.length ≤ 4611686018427387904) (e : xs = ys) : FC Try.prog 25 [ints xs, ints ys] [] (.bool true) [] false := by
  subst e
  exact gc25t xs h

def mcc6 : MC := (.seq (.reg [⟨(some 4), (.box 24 2 (.t 0)), none, []⟩, ⟨(some 8), (.mv (.c (.bool false))), none, []⟩] false) (.seq (.reg [⟨(some 23), (.call 9 []), none, []⟩, ⟨(some 9), (.mv (.t 23)), none, [0, 0, 0]⟩] false) (.seq (.reg [⟨(some 25), (.ld true 2 (.t 4)), none, []⟩, ⟨(some 26), (.call 10 [(.t 25)]), none, [0]⟩, ⟨(some 24), (.mv (.t 26)), none, [1]⟩, ⟨(some 27), (.ext (.t 24) 0), none, [2]⟩, ⟨(some 28), (.ext (.t 24) 1), none, [2]⟩, ⟨(some 10), (.mv (.t 27)), none, [3, 1, 0, 1, 2, 3]⟩, ⟨(some 11), (.mv (.t 28)), none, [4, 5, 0, 1, 2, 3, 4, 5]⟩] false) (.seq (.reg [⟨(some 29), (.mv (.t 10)), none, []⟩, ⟨(some 30), (.mv (.t 11)), none, []⟩, ⟨(some 31), (.call 12 [(.t 29), (.t 30)]), none, [0, 1]⟩, ⟨(some 32), (.mv (.t 10)), none, []⟩, ⟨(some 33), (.mv (.t 11)), none, []⟩, ⟨(some 34), (.call 12 [(.t 32), (.t 33)]), none, [3, 4, 2]⟩, ⟨(some 12), (.mv (.t 31)), none, [2, 5, 0, 1, 2]⟩, ⟨(some 13), (.mv (.t 34)), none, [5, 6, 0, 1, 2, 3, 4, 5, 6]⟩] false) (.seq (.seq (.reg [⟨(some 35), (.mv (.t 12)), none, []⟩, ⟨(some 36), (.isnil false false (.t 35)), none, [0]⟩, ⟨(some 37), (.mv (.t 36)), none, [1]⟩, ⟨(some 38), (.mv (.t 13)), (some (37, false)), [2]⟩, ⟨(some 39), (.isnil false false (.t 38)), (some (37, false)), [3, 2]⟩, ⟨(some 40), (.pick (.t 37) (.c (.bool true)) (.t 39)), none, [2, 4]⟩] false) (.cond (.t 40) (.seq (.reg [⟨(some 8), (.mv (.c (.bool false))), none, []⟩] false) .ret) .skip)) (.seq (.seq (.reg [⟨(some 41), (.mv (.t 1)), none, []⟩, ⟨(some 42), (.call 14 [(.t 41)]), none, [0]⟩, ⟨(some 43), (.len (.t 42)), none, [1]⟩, ⟨(some 44), (.mv (.c (.int .i64 0))), none, []⟩] false) (.block 0 (.loop (.seq (.reg [⟨(some 45), (.bin .lss (.t 44) (.t 43)), none, []⟩] false) (.seq (.cond (.t 45) .skip (.exit 0)) (.seq (.block 1 (.seq (.reg [⟨(some 46), (.ixsl 2 (.t 42) (.t 44)), none, []⟩, ⟨(some 47), (.ld true 2 (.t 46)), none, [0]⟩, ⟨(some 15), (.alloc 39 2 [(.int .i64 0), (.int .i64 0)]), none, []⟩, ⟨none, (.st 2 (.t 15) (.t 47)), none, [2, 1, 0, 1, 2]⟩] false) (.seq (.reg [⟨(some 48), (.fa 0 (.t 15)), none, []⟩, ⟨(some 49), (.ld false 1 (.t 48)), none, [0]⟩, ⟨(some 50), (.bin .eql (.t 49) (.c (.int .i64 1))), none, [1]⟩, ⟨(some 51), (.mv (.t 50)), none, [2]⟩, ⟨(some 52), (.fa 0 (.t 15)), (some (51, false)), [3]⟩, ⟨(some 53), (.ld false 1 (.t 52)), (some (51, false)), [4, 3]⟩, ⟨(some 54), (.bin .eql (.t 53) (.c (.int .i64 5))), (some (51, false)), [5, 3]⟩, ⟨(some 55), (.pick (.t 51) (.c (.bool true)) (.t 54)), none, [3, 6]⟩] false) (.cond (.t 55) (.seq (.reg [⟨(some 56), (.mv (.t 12)), none, []⟩, ⟨(some 57), (.ld true 2 (.t 15)), none, []⟩, ⟨(some 58), (.call 15 [(.t 56), (.t 57)]), none, [0, 1]⟩] false) (.reg [⟨(some 59), (.mv (.t 13)), none, []⟩, ⟨(some 60), (.ld true 2 (.t 15)), none, []⟩, ⟨(some 61), (.call 15 [(.t 59), (.t 60)]), none, [0, 1]⟩] false)) .skip)))) (.reg [⟨(some 62), (.bin .add (.t 44) (.c (.int .i64 1))), none, []⟩, ⟨(some 44), (.mv (.t 62)), none, [0]⟩] false))))))) (.seq (.reg [⟨(some 64), (.mv (.t 12)), none, []⟩, ⟨(some 65), (.call 17 [(.t 64)]), none, [0]⟩, ⟨(some 63), (.mv (.t 65)), none, [1]⟩, ⟨(some 66), (.ext (.t 63) 0), none, [2]⟩, ⟨(some 67), (.ext (.t 63) 1), none, [2]⟩, ⟨(some 16), (.mv (.t 66)), none, [3, 1, 0, 1, 2, 3]⟩, ⟨(some 17), (.mv (.t 67)), none, [4, 5, 0, 1, 2, 3, 4, 5]⟩] false) (.seq (.reg [⟨(some 18), (.mv (.c (.int .i64 43))), none, []⟩] false) (.seq (.seq (.reg [⟨(some 68), (.mv (.t 2)), none, []⟩, ⟨(some 69), (.bin .rem (.t 68) (.c (.int .u8 3))), none, [0]⟩] false) (.block 2 (.seq (.reg [⟨(some 71), (.bin .eql (.t 69) (.c (.int .u8 0))), none, []⟩, ⟨(some 70), (.mv (.t 71)), none, [0]⟩] false) (.cond (.t 70) (.seq (.reg [⟨(some 72), (.mv (.t 12)), none, []⟩, ⟨(some 73), (.call 29 [(.t 72), (.c (.int .i64 2)), (.c (.int .i64 0))]), none, [0]⟩, ⟨(some 74), (.bin .neq (.t 73) (.c (.int .i64 0))), none, [1]⟩, ⟨(some 75), (.mv (.t 74)), none, [2, 1]⟩, ⟨(some 76), (.mv (.t 12)), (some (75, false)), [3]⟩, ⟨(some 77), (.call 30 [(.t 76), (.c (.int .i64 1))]), (some (75, false)), [4, 3, 3]⟩, ⟨(some 78), (.bin .neq (.t 77) (.c (.int .i64 40))), (some (75, false)), [5, 3]⟩, ⟨(some 79), (.pick (.t 75) (.c (.bool true)) (.t 78)), none, [3, 6]⟩, ⟨(some 80), (.mv (.t 79)), none, [7, 5]⟩, ⟨(some 81), (.mv (.t 12)), (some (80, false)), [8]⟩, ⟨(some 82), (.call 29 [(.t 81), (.c (.int .i64 3)), (.c (.int .i64 0))]), (some (80, false)), [9, 8, 8]⟩, ⟨(some 83), (.bin .neq (.t 82) (.c (.int .i64 0))), (some (80, false)), [10, 8]⟩, ⟨(some 84), (.pick (.t 80) (.c (.bool true)) (.t 83)), none, [8, 11]⟩, ⟨(some 85), (.mv (.t 84)), none, [12, 10]⟩, ⟨(some 86), (.mv (.t 12)), (some (85, false)), [13]⟩, ⟨(some 87), (.call 29 [(.t 86), (.c (.int .i64 3)), (.c (.int .i64 0))]), (some (85, false)), [14, 13, 13]⟩, ⟨(some 88), (.bin .neq (.t 87) (.c (.int .i64 7))), (some (85, false)), [15, 13]⟩, ⟨(some 89), (.pick (.t 85) (.c (.bool true)) (.t 88)), none, [13, 16]⟩] false) (.cond (.t 89) (.seq (.reg [⟨(some 8), (.mv (.c (.bool false))), none, []⟩] false) .ret) .skip)) (.seq (.reg [⟨(some 91), (.bin .eql (.t 69) (.c (.int .u8 1))), none, []⟩, ⟨(some 90), (.mv (.t 91)), none, [0]⟩] false) (.cond (.t 90) (.seq (.reg [⟨(some 92), (.mv (.t 12)), none, []⟩, ⟨(some 93), (.call 29 [(.t 92), (.c (.int .i64 6)), (.c (.int .i64 0))]), none, [0]⟩, ⟨(some 94), (.bin .neq (.t 93) (.c (.int .i64 0))), none, [1]⟩] false) (.cond (.t 94) (.seq (.reg [⟨(some 8), (.mv (.c (.bool false))), none, []⟩] false) .ret) .skip)) (.seq (.reg [⟨(some 96), (.bin .eql (.t 69) (.c (.int .u8 2))), none, []⟩, ⟨(some 95), (.mv (.t 96)), none, [0]⟩] false) (.cond (.t 95) (.seq (.seq (.reg [⟨(some 97), (.mv (.t 12)), none, []⟩, ⟨(some 98), (.call 29 [(.t 97), (.c (.int .i64 4)), (.c (.int .i64 0))]), none, [0]⟩, ⟨(some 99), (.bin .neq (.t 98) (.c (.int .i64 0))), none, [1]⟩, ⟨(some 100), (.mv (.t 99)), none, [2, 1]⟩, ⟨(some 101), (.mv (.t 12)), (some (100, false)), [3]⟩, ⟨(some 102), (.call 29 [(.t 101), (.c (.int .i64 4)), (.c (.int .i64 0))]), (some (100, false)), [4, 3, 3]⟩, ⟨(some 103), (.bin .neq (.t 102) (.c (.int .i64 41))), (some (100, false)), [5, 3]⟩, ⟨(some 104), (.pick (.t 100) (.c (.bool true)) (.t 103)), none, [3, 6]⟩, ⟨(some 105), (.mv (.t 104)), none, [7, 5]⟩, ⟨(some 106), (.mv (.t 12)), (some (105, false)), [8]⟩, ⟨(some 107), (.call 29 [(.t 106), (.c (.int .i64 7)), (.c (.int .i64 0))]), (some (105, false)), [9, 8, 8]⟩, ⟨(some 108), (.bin .neq (.t 107) (.c (.int .i64 0))), (some (105, false)), [10, 8]⟩, ⟨(some 109), (.pick (.t 105) (.c (.bool true)) (.t 108)), none, [8, 11]⟩] false) (.cond (.t 109) (.seq (.reg [⟨(some 8), (.mv (.c (.bool false))), none, []⟩] false) .ret) .skip)) (.reg [⟨(some 18), (.mv (.c (.int .i64 41))), none, []⟩] false)) .skip)))))))) (.seq (.seq (.reg [⟨(some 19), (.mv (.c (.int .i64 0))), none, []⟩] false) (.block 3 (.loop (.seq (.seq (.reg [⟨(some 110), (.mv (.t 19)), none, []⟩, ⟨(some 111), (.mv (.t 3)), none, []⟩, ⟨(some 112), (.cvt .i64 (.t 111)), none, [1]⟩, ⟨(some 113), (.bin .rem (.t 112) (.c (.int .i64 12))), none, [2]⟩, ⟨(some 114), (.bin .add (.c (.int .i64 1)) (.t 113)), none, [3]⟩, ⟨(some 115), (.bin .lss (.t 110) (.t 114)), none, [0, 4]⟩] false) (.cond (.t 115) .skip (.exit 3))) (.seq (.block 4 (.seq (.reg [⟨(some 118), (.mv (.t 12)), none, []⟩, ⟨(some 119), (.call 30 [(.t 118), (.c (.int .i64 1))]), none, [0]⟩, ⟨(some 120), (.mv (.t 18)), none, []⟩, ⟨(some 121), (.bin .neq (.t 119) (.t 120)), none, [1, 2]⟩] false) (.cond (.t 121) (.seq (.reg [⟨(some 8), (.mv (.c (.bool false))), none, []⟩] false) .ret) .skip))) (.reg [⟨(some 116), (.mv (.t 19)), none, []⟩, ⟨(some 117), (.bin .add (.t 116) (.c (.int .i64 1))), none, [0]⟩, ⟨(some 19), (.mv (.t 117)), none, [1, 0, 1]⟩] false)))))) (.seq (.reg [⟨(some 123), (.mv (.t 12)), none, []⟩, ⟨(some 124), (.call 17 [(.t 123)]), none, [0]⟩, ⟨(some 122), (.mv (.t 124)), none, [1]⟩, ⟨(some 125), (.ext (.t 122) 0), none, [2]⟩, ⟨(some 126), (.ext (.t 122) 1), none, [2]⟩, ⟨(some 20), (.mv (.t 125)), none, [3, 1, 0, 1, 2, 3]⟩, ⟨(some 21), (.mv (.t 126)), none, [4, 5, 0, 1, 2, 3, 4, 5]⟩] false) (.seq (.seq (.reg [⟨(some 127), (.mv (.t 20)), none, []⟩, ⟨(some 128), (.mv (.t 16)), none, []⟩, ⟨(some 129), (.bin .neq (.t 127) (.t 128)), none, [0, 1]⟩, ⟨(some 130), (.mv (.t 129)), none, [2]⟩, ⟨(some 131), (.mv (.t 12)), (some (130, false)), [3]⟩, ⟨(some 132), (.call 26 [(.t 131)]), (some (130, false)), [4, 3, 3]⟩, ⟨(some 133), (.mv (.t 13)), (some (130, false)), [3]⟩, ⟨(some 134), (.call 26 [(.t 133)]), (some (130, false)), [6, 5, 3]⟩, ⟨(some 135), (.call 25 [(.t 132), (.t 134)]), (some (130, false)), [5, 7, 7, 3]⟩, ⟨(some 136), (.un .not (.t 135)), (some (130, false)), [8, 3]⟩, ⟨(some 137), (.pick (.t 130) (.c (.bool true)) (.t 136)), none, [3, 9]⟩, ⟨(some 138), (.mv (.t 137)), none, [10, 8]⟩, ⟨(some 139), (.mv (.t 2)), (some (138, false)), [11]⟩, ⟨(some 140), (.bin .rem (.t 139) (.c (.int .u8 3))), (some (138, false)), [12, 11]⟩, ⟨(some 141), (.bin .neq (.t 140) (.c (.int .u8 0))), (some (138, false)), [13, 11]⟩, ⟨(some 142), (.pick (.t 138) (.c (.bool true)) (.t 141)), none, [11, 14]⟩] false) (.cond (.t 142) (.seq (.reg [⟨(some 143), (.mv (.t 9)), none, []⟩, ⟨(some 144), (.mv (.t 143)), none, [0]⟩, ⟨(some 145), (.mv (.t 20)), (some (144, true)), [1]⟩, ⟨(some 146), (.mv (.t 16)), (some (144, true)), [1]⟩, ⟨(some 147), (.bin .eql (.t 145) (.t 146)), (some (144, true)), [2, 3, 1]⟩, ⟨(some 148), (.pick (.t 144) (.t 147) (.c (.bool false))), none, [1, 4]⟩, ⟨(some 149), (.mv (.t 148)), none, [5, 1]⟩, ⟨(some 150), (.mv (.t 12)), (some (149, true)), [6]⟩, ⟨(some 151), (.call 26 [(.t 150)]), (some (149, true)), [7, 6, 6]⟩, ⟨(some 152), (.mv (.t 13)), (some (149, true)), [6]⟩, ⟨(some 153), (.call 26 [(.t 152)]), (some (149, true)), [9, 8, 6]⟩, ⟨(some 154), (.call 25 [(.t 151), (.t 153)]), (some (149, true)), [8, 10, 10, 6]⟩, ⟨(some 155), (.pick (.t 149) (.t 154) (.c (.bool false))), none, [6, 11]⟩, ⟨(some 8), (.mv (.t 155)), none, [12, 11, 0, 1, 2, 3, 4, 5, 6, 7, 8, 9, 10, 11, 12]⟩] false) .ret) .skip)) (.seq (.reg [⟨(some 156), (.mv (.t 13)), none, []⟩, ⟨(some 157), (.mv (.t 3)), none, []⟩, ⟨(some 158), (.cvt .i64 (.t 157)), none, [1]⟩, ⟨(some 159), (.bin .rem (.t 158) (.c (.int .i64 12))), none, [2]⟩, ⟨(some 160), (.call 30 [(.t 156), (.t 159)]), none, [0, 3]⟩] false) (.seq (.seq (.reg [⟨(some 161), (.mv (.t 13)), none, []⟩, ⟨(some 162), (.call 29 [(.t 161), (.c (.int .i64 2)), (.c (.int .i64 0))]), none, [0]⟩, ⟨(some 163), (.bin .neq (.t 162) (.c (.int .i64 0))), none, [1]⟩] false) (.cond (.t 163) (.seq (.reg [⟨(some 8), (.mv (.c (.bool false))), none, []⟩] false) .ret) .skip)) (.seq (.reg [⟨(some 164), (.mv (.t 12)), none, []⟩, ⟨(some 165), (.call 26 [(.t 164)]), none, [0]⟩, ⟨(some 166), (.mv (.t 13)), none, []⟩, ⟨(some 167), (.call 26 [(.t 166)]), none, [2, 1]⟩, ⟨(some 168), (.call 25 [(.t 165), (.t 167)]), none, [1, 3, 3]⟩, ⟨(some 22), (.mv (.t 168)), none, [4, 4, 0, 1, 2, 3, 4]⟩] false) (.seq (.reg [⟨(some 169), (.mv (.t 9)), none, []⟩, ⟨(some 170), (.mv (.t 169)), none, [0]⟩, ⟨(some 171), (.mv (.t 22)), (some (170, true)), [1]⟩, ⟨(some 172), (.un .not (.t 171)), (some (170, true)), [2, 1]⟩, ⟨(some 173), (.mv (.t 172)), (some (170, true)), [3, 1, 1]⟩, ⟨(some 174), (.mv (.t 12)), (some (173, false)), [4]⟩, ⟨(some 175), (.call 19 [(.t 174)]), (some (173, false)), [5, 4, 4]⟩, ⟨(some 176), (.mv (.t 13)), (some (173, false)), [4]⟩, ⟨(some 177), (.call 19 [(.t 176)]), (some (173, false)), [7, 6, 4]⟩, ⟨(some 178), (.aeq false 2 (.t 175) (.t 177)), (some (173, false)), [6, 8, 4]⟩, ⟨(some 179), (.mv (.t 178)), (some (173, false)), [9, 8, 4]⟩, ⟨(some 180), (.mv (.t 12)), (some (179, true)), [10]⟩, ⟨(some 181), (.call 21 [(.t 180)]), (some (179, true)), [11, 10, 10]⟩, ⟨(some 182), (.mv (.t 13)), (some (179, true)), [10]⟩, ⟨(some 183), (.call 21 [(.t 182)]), (some (179, true)), [13, 12, 10]⟩, ⟨(some 184), (.aeq false 2 (.t 181) (.t 183)), (some (179, true)), [12, 14, 10]⟩, ⟨(some 185), (.pick (.t 179) (.t 184) (.c (.bool false))), (some (173, false)), [10, 15, 4]⟩, ⟨(some 186), (.pick (.t 173) (.c (.bool true)) (.t 185)), (some (170, true)), [4, 16, 1]⟩, ⟨(some 187), (.pick (.t 170) (.t 186) (.c (.bool false))), none, [1, 17]⟩, ⟨(some 8), (.mv (.t 187)), none, [18, 14, 0, 1, 2, 3, 4, 5, 6, 7, 8, 9, 10, 11, 12, 13, 14, 15, 16, 17, 18]⟩] false) .ret))))))))))))))))
theorem mcOkc6 : (match Try.f6.body with | some c => compC Try.prog 188 c | none => none) = some mcc6 := by kernel_rfl

set_option maxHeartbeats 1600000 in
theorem gc6 (ls : List (List Int)) (ev : Int) (hls : ∀ L ∈ ls, L.length ≤ 4611686018427387904) (hlls : ls.length ≤ 4611686018427387904) (hev : 0 ≤ ev ∧ ev < 256) (l : List Int) (hl : l.length ≤ 4611686018427387904) (hx : ∀ x ∈ l, 0 ≤ x ∧ x < 256) (how many : Int) (hho : 0 ≤ how ∧ how < 256) (hma : 0 ≤ many ∧ many < 256) : FC Try.prog 6 [.agg [.rs 1 (ls.map cL), .int .u8 ev], .rs 1 (l.map cu8), .int .u8 how, .int .u8 many] [] (.bool true) [] false := by
  obtain ⟨p, n, h10, hnw, hpl, ha, hn⟩ := made_ex ls ev hls hlls hev
  have h12 := at12 900 901 902 rfl p n (by omega) hnw
  have h12b := at12 910 911 912 rfl p n (by omega) hnw
  have h28 := gc28 p (by omega)
  generalize pstep p = a at h12 h12b h28 ha
  have hI0 : Iv 0 (st0 a n) := iv_0 ⟨by omega, by omega⟩ ⟨by omega, by omega⟩
  have e3 : how.tmod 3 = how % 3 := Int.tmod_eq_emod_of_nonneg hho.1
  have e12 : many.tmod 12 = many % 12 := Int.tmod_eq_emod_of_nonneg hma.1
  obtain ⟨r, hr⟩ : ∃ r, r = how.tmod 3 := ⟨_, rfl⟩
  have hrb : 0 ≤ r ∧ r ≤ 2 := by omega
  obtain ⟨y, hy⟩ : ∃ y : Nat, (y : Int) = many.tmod 12 := ⟨(many.tmod 12).toNat, by omega⟩
  have h14 := gc14 l hl hx
  have hE : (evS (l.take 40)).length ≤ 320 := by
    have := evS_len (l.take 40) (fun x hx0 => hx x (List.mem_of_mem_take hx0))
    simp at this; omega
  generalize evS (l.take 40) = E at h14 hE
  refine fc_run (nt := 188) Try.func6 rfl rfl mcOkc6 (Nat.le_of_ble_eq_true rfl) ?_
  delta mcc6
  refine aw_seq ?_
  refine aw_reg ?_
  refine rs_box rfl rfl rfl rfl rfl rfl ?_
  refine rs_mv rfl rfl ?_
  refine rs_nil fun _ => ?_
  refine th_n ?_
  refine aw_seq ?_
  refine aw_reg ?_
  refine rs_calln [] rfl rfl gc9 .nil rfl ?_
  refine rs_mv rfl rfl ?_
  refine rs_nil fun _ => ?_
  refine th_n ?_
  refine aw_seq ?_
  refine aw_reg ?_
  refine rs_ld_pa rfl rfl rfl rfl (Nat.le_of_ble_eq_true rfl) rfl ?_
  refine rs_callo [] rfl rfl (h10) (.cons (hv_same rfl) (.nil)) (.nil) rfl rfl rfl ?_
  refine rs_mv rfl rfl ?_
  refine rs_ext rfl rfl rfl ?_
  refine rs_ext rfl rfl rfl ?_
  refine rs_mv rfl rfl ?_
  refine rs_mv rfl rfl ?_
  refine rs_nil fun _ => ?_
  refine th_n ?_
  refine aw_seq ?_
  refine aw_reg ?_
  refine rs_mv rfl rfl ?_
  refine rs_mv rfl rfl ?_
  refine rs_calln [] rfl rfl (h12) (.cons (hv_same rfl) (.cons (hv_same rfl) (.nil))) rfl ?_
  refine rs_mv rfl rfl ?_
  refine rs_mv rfl rfl ?_
  refine rs_calln [] rfl rfl (h12b) (.cons (hv_same rfl) (.cons (hv_same rfl) (.nil))) rfl ?_
  refine rs_mv rfl rfl ?_
  refine rs_mv rfl rfl ?_
  refine rs_nil fun _ => ?_
  refine th_n ?_
  refine aw_seq ?_
  refine aw_seq ?_
  refine aw_reg ?_
  refine rs_mv rfl rfl ?_
  refine rs_nil_p rfl rfl (.inr ⟨_, _, _, rfl⟩) ?_
  refine rs_mv rfl rfl ?_
  refine rs_mv rfl rfl ?_
  refine rs_nil_p rfl rfl (.inr ⟨_, _, _, rfl⟩) ?_
  refine rs_pick rfl rfl rfl ?_
  refine rs_nil fun _ => ?_
  refine th_n ?_
  refine aw_cond rfl (fun h => by cases h) (fun _ => ?_)
  refine aw_skip ?_
  refine th_n ?_
  refine aw_seq ?_
  refine aw_seq ?_
  refine aw_reg ?_
  refine rs_mv rfl rfl ?_
  refine rs_calln [] rfl rfl (h14) (.cons (hv_same rfl) (.nil)) rfl ?_
  refine rs_len_s rfl rfl ?_
  refine rs_mv rfl rfl ?_
  refine rs_nil fun _ => ?_
  refine th_n ?_
  refine aw_block ?_
  refine aw_fam (α := Q6) (fun q => E.length - q.k) (fun q => [(2, .int .u8 how), (3, .int .u8 many), (9, .bool true), (12, .ptr 900 0 0), (13, .ptr 910 0 0), (42, .sl 1005 0 E.length), (43, iv (E.length : Int)), (44, iv (((q.k) : Nat) : Int))]) (fun q => [(900, ctlO 903 q.s), (903, rowO q.s.rs), (910, ctlO 913 q.s), (913, rowO q.s.rs), (1005, .cells 39 2 (E.map cE) true)]) (fun q => q.k ≤ E.length ∧ Iv q.k q.s ∧ Cl a n q.s) ⟨0, st0 a n⟩ (⟨by dsimp only; omega, hI0, cl_0⟩)
    (show Weak _ _ _ _ [(2, .int .u8 how), (3, .int .u8 many), (9, .bool true), (12, .ptr 900 0 0), (13, .ptr 910 0 0), (42, .sl 1005 0 E.length), (43, iv (E.length : Int)), (44, iv (((0) : Nat) : Int))] [(900, ctlO 903 (st0 a n)), (903, rowO (st0 a n).rs), (910, ctlO 913 (st0 a n)), (913, rowO (st0 a n).rs), (1005, .cells 39 2 (E.map cE) true)] from Weak.trans (F1 := [(2, .int .u8 how), (3, .int .u8 many), (9, .bool true), (12, .ptr 900 0 0), (13, .ptr 910 0 0), (42, .sl 1005 0 E.length), (43, iv (E.length : Int)), (44, iv (((0) : Nat) : Int))]) (H1 := [(900, ctlO 901 (st0 a n)), (901, rowO (st0 a n).rs), (910, ctlO 911 (st0 a n)), (911, rowO (st0 a n).rs), (1005, .cells 39 2 (E.map cE) true)]) (weak_to (.cons rfl (rc_same rfl (.inl rfl)) (.cons rfl (rc_same rfl (.inl rfl)) (.cons rfl (rc_same rfl (.inl rfl)) (.cons rfl (rc_same rfl (.inl rfl)) (.cons rfl (rc_same rfl (.inl rfl)) (.cons rfl (rc_same rfl (.inl rfl)) (.cons rfl (rc_same rfl (.inl rfl)) (.cons rfl (rc_same rfl (.inl rfl)) (.nil))))))))) (.keep (rfl) rfl (.keep (rfl) rfl (.keep (rfl) rfl (.keep (rfl) rfl (.keep (rfl) rfl (.nil)))))) fun i h => by cases h) (Weak.trans (F1 := [(2, .int .u8 how), (3, .int .u8 many), (9, .bool true), (12, .ptr 900 0 0), (13, .ptr 910 0 0), (42, .sl 1005 0 E.length), (43, iv (E.length : Int)), (44, iv (((0) : Nat) : Int))]) (weak_ren_row (i := 901) (i' := 903) (k := 900) rfl rfl (.cons rfl (.same _) (.cons rfl (.same _) (.cons rfl (.same _) (.cons rfl (.same _) (.cons rfl (.same _) (.cons rfl (.same _) (.cons rfl (.same _) (.cons rfl (.same _) (.nil))))))))) (by decide) rfl (.cons (.sl _ _) (RenL.refl _ _ _))) (Weak.trans (F1 := [(2, .int .u8 how), (3, .int .u8 many), (9, .bool true), (12, .ptr 900 0 0), (13, .ptr 910 0 0), (42, .sl 1005 0 E.length), (43, iv (E.length : Int)), (44, iv (((0) : Nat) : Int))]) (H1 := [(900, ctlO 903 (st0 a n)), (903, rowO (st0 a n).rs), (910, ctlO 911 (st0 a n)), (911, rowO (st0 a n).rs), (1005, .cells 39 2 (E.map cE) true)]) (weak_to (.cons rfl (rc_same rfl (.inl rfl)) (.cons rfl (rc_same rfl (.inl rfl)) (.cons rfl (rc_same rfl (.inl rfl)) (.cons rfl (rc_same rfl (.inl rfl)) (.cons rfl (rc_same rfl (.inl rfl)) (.cons rfl (rc_same rfl (.inl rfl)) (.cons rfl (rc_same rfl (.inl rfl)) (.cons rfl (rc_same rfl (.inl rfl)) (.nil))))))))) (.keep (rfl) rfl (.keep (rfl) rfl (.keep (rfl) rfl (.keep (rfl) rfl (.keep (rfl) rfl (.nil)))))) fun i h => by cases h) (Weak.trans (F1 := [(2, .int .u8 how), (3, .int .u8 many), (9, .bool true), (12, .ptr 900 0 0), (13, .ptr 910 0 0), (42, .sl 1005 0 E.length), (43, iv (E.length : Int)), (44, iv (((0) : Nat) : Int))]) (weak_ren_row (i := 911) (i' := 913) (k := 910) rfl rfl (.cons rfl (.same _) (.cons rfl (.same _) (.cons rfl (.same _) (.cons rfl (.same _) (.cons rfl (.same _) (.cons rfl (.same _) (.cons rfl (.same _) (.cons rfl (.same _) (.nil))))))))) (by decide) rfl (.cons (.sl _ _) (RenL.refl _ _ _))) (weak_to (.cons rfl (rc_same rfl (.inl rfl)) (.cons rfl (rc_same rfl (.inl rfl)) (.cons rfl (rc_same rfl (.inl rfl)) (.cons rfl (rc_same rfl (.inl rfl)) (.cons rfl (rc_same rfl (.inl rfl)) (.cons rfl (rc_same rfl (.inl rfl)) (.cons rfl (rc_same rfl (.inl rfl)) (.cons rfl (rc_same rfl (.inl rfl)) (.nil))))))))) (.keep (rfl) rfl (.keep (rfl) rfl (.keep (rfl) rfl (.keep (rfl) rfl (.keep (rfl) rfl (.nil)))))) fun i h => by cases h))))) ?_
  rintro ⟨k, s⟩ ⟨hk, hI, hcl⟩
  dsimp only at hk hI hcl
  try dsimp only
  refine aw_seq ?_
  refine aw_reg ?_
  refine rs_lss rfl rfl rfl ?_
  refine rs_nil fun _ => ?_
  refine th_n ?_
  refine aw_seq ?_
  refine aw_cond rfl (fun h45 => ?_) (fun h45 => ?_)
  · replace h45 := of_decide_eq_true h45
    refine aw_skip ?_
    refine th_n ?_
    refine aw_seq ?_
    refine aw_block ?_
    refine aw_seq ?_
    refine aw_reg ?_
    obtain ⟨p0, hp0, _⟩ := at_some (L := E) (k := k) (by omega)
    refine rs_ix_s rfl rfl rfl rfl (by omega) (by omega) ?_
    refine rs_ld_ga (f := cE) (xs := E) (y := p0) rfl rfl rfl (by rw [show 0 + ((k : Nat) : Int).toNat = k by omega]; exact hp0) (Nat.le_of_ble_eq_true rfl) rfl ?_
    refine rs_alloc rfl rfl rfl ?_
    refine rs_st rfl rfl rfl rfl rfl rfl rfl (Nat.le_of_ble_eq_true rfl) rfl rfl ?_
    refine rs_nil fun _ => ?_
    refine th_n ?_
    refine aw_seq ?_
    refine aw_reg ?_
    refine rs_fa_p rfl rfl ?_
    refine rs_ld_p rfl rfl rfl rfl rfl ?_
    refine rs_cmp rfl rfl rfl rfl (fun h50 => ?_) (fun h50 => ?_)
    · skip
      refine rs_mv rfl rfl ?_
      refine rs_skip rfl ?_
      refine rs_skip rfl ?_
      refine rs_skip rfl ?_
      refine rs_pick rfl rfl rfl ?_
      refine rs_nil fun _ => ?_
      refine th_n ?_
      refine aw_cond rfl (fun _ => ?_) (fun h => by cases h)
      refine aw_seq ?_
      refine aw_reg ?_
      refine rs_mv rfl rfl ?_
      refine rs_ld_pa rfl rfl rfl rfl (Nat.le_of_ble_eq_true rfl) rfl ?_
      refine rs_callo (hC 900 903 s) rfl rfl (at15 900 903 905 rfl s (doS s p0.1 p0.2).2 p0.1 p0.2 (doS s p0.1 p0.2).1 (hI.sm (by omega)) rfl) (.cons (hv_same rfl) (.cons (hv_same rfl) (.nil))) (.cons rfl (.cons rfl (.nil))) rfl rfl rfl ?_
      refine rs_nil fun _ => ?_
      refine th_n ?_
      refine aw_reg ?_
      refine rs_mv rfl rfl ?_
      refine rs_ld_pa rfl rfl rfl rfl (Nat.le_of_ble_eq_true rfl) rfl ?_
      refine rs_callo (hC 910 913 s) rfl rfl (at15 910 913 915 rfl s (doS s p0.1 p0.2).2 p0.1 p0.2 (doS s p0.1 p0.2).1 (hI.sm (by omega)) rfl) (.cons (hv_same rfl) (.cons (hv_same rfl) (.nil))) (.cons rfl (.cons rfl (.nil))) rfl rfl rfl ?_
      refine rs_nil fun _ => ?_
      refine in_n ?_
      refine th_n ?_
      refine aw_reg ?_
      refine rs_add rfl rfl rfl (by omega) ?_
      refine rs_mv rfl rfl ?_
      refine rs_nil fun _ => ?_
      refine th_n ?_
      (refine ⟨⟨k + 1, (doS s p0.1 p0.2).2⟩, ⟨by dsimp only; omega, iv_do hI p0.1 p0.2, cl_do hcl (by first | exact .inl h50 | exact .inr h54)⟩, by dsimp only; omega, ?_⟩
       exact show Weak _ _ _ _ [(2, .int .u8 how), (3, .int .u8 many), (9, .bool true), (12, .ptr 900 0 0), (13, .ptr 910 0 0), (42, .sl 1005 0 E.length), (43, iv (E.length : Int)), (44, iv (((k + 1) : Nat) : Int))] [(900, ctlO 903 (doS s p0.1 p0.2).2), (903, rowO (doS s p0.1 p0.2).2.rs), (910, ctlO 913 (doS s p0.1 p0.2).2), (913, rowO (doS s p0.1 p0.2).2.rs), (1005, .cells 39 2 (E.map cE) true)] from Weak.trans (F1 := [(2, .int .u8 how), (3, .int .u8 many), (9, .bool true), (12, .ptr 900 0 0), (13, .ptr 910 0 0), (42, .sl 1005 0 E.length), (43, iv (E.length : Int)), (44, iv (((k + 1) : Nat) : Int))]) (H1 := [(900, ctlO 905 (doS s p0.1 p0.2).2), (905, rowO (doS s p0.1 p0.2).2.rs), (910, ctlO 915 (doS s p0.1 p0.2).2), (915, rowO (doS s p0.1 p0.2).2.rs), (1005, .cells 39 2 (E.map cE) true)]) (weak_to (.cons rfl (rc_same rfl (.inl rfl)) (.cons rfl (rc_same rfl (.inl rfl)) (.cons rfl (rc_same rfl (.inl rfl)) (.cons rfl (rc_same rfl (.inl rfl)) (.cons rfl (rc_same rfl (.inl rfl)) (.cons rfl (rc_same rfl (.inl rfl)) (.cons rfl (rc_same rfl (.inl rfl)) (.cons rfl (rc_same rfl (.inl rfl)) (.nil))))))))) (.keep (rfl) rfl (.keep (rfl) rfl (.keep (rfl) rfl (.keep (rfl) rfl (.keep (rfl) rfl (.nil)))))) fun i h => by cases h) (Weak.trans (F1 := [(2, .int .u8 how), (3, .int .u8 many), (9, .bool true), (12, .ptr 900 0 0), (13, .ptr 910 0 0), (42, .sl 1005 0 E.length), (43, iv (E.length : Int)), (44, iv (((k + 1) : Nat) : Int))]) (weak_ren_row (i := 905) (i' := 903) (k := 900) rfl rfl (.cons rfl (.same _) (.cons rfl (.same _) (.cons rfl (.same _) (.cons rfl (.same _) (.cons rfl (.same _) (.cons rfl (.same _) (.cons rfl (.same _) (.cons rfl (.same _) (.nil))))))))) (by decide) rfl (.cons (.sl _ _) (RenL.refl _ _ _))) (Weak.trans (F1 := [(2, .int .u8 how), (3, .int .u8 many), (9, .bool true), (12, .ptr 900 0 0), (13, .ptr 910 0 0), (42, .sl 1005 0 E.length), (43, iv (E.length : Int)), (44, iv (((k + 1) : Nat) : Int))]) (H1 := [(900, ctlO 903 (doS s p0.1 p0.2).2), (903, rowO (doS s p0.1 p0.2).2.rs), (910, ctlO 915 (doS s p0.1 p0.2).2), (915, rowO (doS s p0.1 p0.2).2.rs), (1005, .cells 39 2 (E.map cE) true)]) (weak_to (.cons rfl (rc_same rfl (.inl rfl)) (.cons rfl (rc_same rfl (.inl rfl)) (.cons rfl (rc_same rfl (.inl rfl)) (.cons rfl (rc_same rfl (.inl rfl)) (.cons rfl (rc_same rfl (.inl rfl)) (.cons rfl (rc_same rfl (.inl rfl)) (.cons rfl (rc_same rfl (.inl rfl)) (.cons rfl (rc_same rfl (.inl rfl)) (.nil))))))))) (.keep (rfl) rfl (.keep (rfl) rfl (.keep (rfl) rfl (.keep (rfl) rfl (.keep (rfl) rfl (.nil)))))) fun i h => by cases h) (Weak.trans (F1 := [(2, .int .u8 how), (3, .int .u8 many), (9, .bool true), (12, .ptr 900 0 0), (13, .ptr 910 0 0), (42, .sl 1005 0 E.length), (43, iv (E.length : Int)), (44, iv (((k + 1) : Nat) : Int))]) (weak_ren_row (i := 915) (i' := 913) (k := 910) rfl rfl (.cons rfl (.same _) (.cons rfl (.same _) (.cons rfl (.same _) (.cons rfl (.same _) (.cons rfl (.same _) (.cons rfl (.same _) (.cons rfl (.same _) (.cons rfl (.same _) (.nil))))))))) (by decide) rfl (.cons (.sl _ _) (RenL.refl _ _ _))) (weak_to (.cons rfl (rc_same rfl (.inl rfl)) (.cons rfl (rc_same rfl (.inl rfl)) (.cons rfl (rc_same rfl (.inl rfl)) (.cons rfl (rc_same rfl (.inl rfl)) (.cons rfl (rc_same rfl (.inl rfl)) (.cons rfl (rc_same rfl (.inl rfl)) (.cons rfl (rc_same rfl (.inl rfl)) (.cons rfl (rc_same rfl (.inl rfl)) (.nil))))))))) (.keep (rfl) rfl (.keep (rfl) rfl (.keep (rfl) rfl (.keep (rfl) rfl (.keep (rfl) rfl (.nil)))))) fun i h => by cases h)))))
    · skip
      refine rs_mv rfl rfl ?_
      refine rs_fa_p rfl rfl ?_
      refine rs_ld_p rfl rfl rfl rfl rfl ?_
      refine rs_cmp rfl rfl rfl rfl (fun h54 => ?_) (fun h54 => ?_)
      · skip
        refine rs_pick rfl rfl rfl ?_
        refine rs_nil fun _ => ?_
        refine th_n ?_
        refine aw_cond rfl (fun _ => ?_) (fun h => by cases h)
        refine aw_seq ?_
        refine aw_reg ?_
        refine rs_mv rfl rfl ?_
        refine rs_ld_pa rfl rfl rfl rfl (Nat.le_of_ble_eq_true rfl) rfl ?_
        refine rs_callo (hC 900 903 s) rfl rfl (at15 900 903 905 rfl s (doS s p0.1 p0.2).2 p0.1 p0.2 (doS s p0.1 p0.2).1 (hI.sm (by omega)) rfl) (.cons (hv_same rfl) (.cons (hv_same rfl) (.nil))) (.cons rfl (.cons rfl (.nil))) rfl rfl rfl ?_
        refine rs_nil fun _ => ?_
        refine th_n ?_
        refine aw_reg ?_
        refine rs_mv rfl rfl ?_
        refine rs_ld_pa rfl rfl rfl rfl (Nat.le_of_ble_eq_true rfl) rfl ?_
        refine rs_callo (hC 910 913 s) rfl rfl (at15 910 913 915 rfl s (doS s p0.1 p0.2).2 p0.1 p0.2 (doS s p0.1 p0.2).1 (hI.sm (by omega)) rfl) (.cons (hv_same rfl) (.cons (hv_same rfl) (.nil))) (.cons rfl (.cons rfl (.nil))) rfl rfl rfl ?_
        refine rs_nil fun _ => ?_
        refine in_n ?_
        refine th_n ?_
        refine aw_reg ?_
        refine rs_add rfl rfl rfl (by omega) ?_
        refine rs_mv rfl rfl ?_
        refine rs_nil fun _ => ?_
        refine th_n ?_
        (refine ⟨⟨k + 1, (doS s p0.1 p0.2).2⟩, ⟨by dsimp only; omega, iv_do hI p0.1 p0.2, cl_do hcl (by first | exact .inl h50 | exact .inr h54)⟩, by dsimp only; omega, ?_⟩
         exact show Weak _ _ _ _ [(2, .int .u8 how), (3, .int .u8 many), (9, .bool true), (12, .ptr 900 0 0), (13, .ptr 910 0 0), (42, .sl 1005 0 E.length), (43, iv (E.length : Int)), (44, iv (((k + 1) : Nat) : Int))] [(900, ctlO 903 (doS s p0.1 p0.2).2), (903, rowO (doS s p0.1 p0.2).2.rs), (910, ctlO 913 (doS s p0.1 p0.2).2), (913, rowO (doS s p0.1 p0.2).2.rs), (1005, .cells 39 2 (E.map cE) true)] from Weak.trans (F1 := [(2, .int .u8 how), (3, .int .u8 many), (9, .bool true), (12, .ptr 900 0 0), (13, .ptr 910 0 0), (42, .sl 1005 0 E.length), (43, iv (E.length : Int)), (44, iv (((k + 1) : Nat) : Int))]) (H1 := [(900, ctlO 905 (doS s p0.1 p0.2).2), (905, rowO (doS s p0.1 p0.2).2.rs), (910, ctlO 915 (doS s p0.1 p0.2).2), (915, rowO (doS s p0.1 p0.2).2.rs), (1005, .cells 39 2 (E.map cE) true)]) (weak_to (.cons rfl (rc_same rfl (.inl rfl)) (.cons rfl (rc_same rfl (.inl rfl)) (.cons rfl (rc_same rfl (.inl rfl)) (.cons rfl (rc_same rfl (.inl rfl)) (.cons rfl (rc_same rfl (.inl rfl)) (.cons rfl (rc_same rfl (.inl rfl)) (.cons rfl (rc_same rfl (.inl rfl)) (.cons rfl (rc_same rfl (.inl rfl)) (.nil))))))))) (.keep (rfl) rfl (.keep (rfl) rfl (.keep (rfl) rfl (.keep (rfl) rfl (.keep (rfl) rfl (.nil)))))) fun i h => by cases h) (Weak.trans (F1 := [(2, .int .u8 how), (3, .int .u8 many), (9, .bool true), (12, .ptr 900 0 0), (13, .ptr 910 0 0), (42, .sl 1005 0 E.length), (43, iv (E.length : Int)), (44, iv (((k + 1) : Nat) : Int))]) (weak_ren_row (i := 905) (i' := 903) (k := 900) rfl rfl (.cons rfl (.same _) (.cons rfl (.same _) (.cons rfl (.same _) (.cons rfl (.same _) (.cons rfl (.same _) (.cons rfl (.same _) (.cons rfl (.same _) (.cons rfl (.same _) (.nil))))))))) (by decide) rfl (.cons (.sl _ _) (RenL.refl _ _ _))) (Weak.trans (F1 := [(2, .int .u8 how), (3, .int .u8 many), (9, .bool true), (12, .ptr 900 0 0), (13, .ptr 910 0 0), (42, .sl 1005 0 E.length), (43, iv (E.length : Int)), (44, iv (((k + 1) : Nat) : Int))]) (H1 := [(900, ctlO 903 (doS s p0.1 p0.2).2), (903, rowO (doS s p0.1 p0.2).2.rs), (910, ctlO 915 (doS s p0.1 p0.2).2), (915, rowO (doS s p0.1 p0.2).2.rs), (1005, .cells 39 2 (E.map cE) true)]) (weak_to (.cons rfl (rc_same rfl (.inl rfl)) (.cons rfl (rc_same rfl (.inl rfl)) (.cons rfl (rc_same rfl (.inl rfl)) (.cons rfl (rc_same rfl (.inl rfl)) (.cons rfl (rc_same rfl (.inl rfl)) (.cons rfl (rc_same rfl (.inl rfl)) (.cons rfl (rc_same rfl (.inl rfl)) (.cons rfl (rc_same rfl (.inl rfl)) (.nil))))))))) (.keep (rfl) rfl (.keep (rfl) rfl (.keep (rfl) rfl (.keep (rfl) rfl (.keep (rfl) rfl (.nil)))))) fun i h => by cases h) (Weak.trans (F1 := [(2, .int .u8 how), (3, .int .u8 many), (9, .bool true), (12, .ptr 900 0 0), (13, .ptr 910 0 0), (42, .sl 1005 0 E.length), (43, iv (E.length : Int)), (44, iv (((k + 1) : Nat) : Int))]) (weak_ren_row (i := 915) (i' := 913) (k := 910) rfl rfl (.cons rfl (.same _) (.cons rfl (.same _) (.cons rfl (.same _) (.cons rfl (.same _) (.cons rfl (.same _) (.cons rfl (.same _) (.cons rfl (.same _) (.cons rfl (.same _) (.nil))))))))) (by decide) rfl (.cons (.sl _ _) (RenL.refl _ _ _))) (weak_to (.cons rfl (rc_same rfl (.inl rfl)) (.cons rfl (rc_same rfl (.inl rfl)) (.cons rfl (rc_same rfl (.inl rfl)) (.cons rfl (rc_same rfl (.inl rfl)) (.cons rfl (rc_same rfl (.inl rfl)) (.cons rfl (rc_same rfl (.inl rfl)) (.cons rfl (rc_same rfl (.inl rfl)) (.cons rfl (rc_same rfl (.inl rfl)) (.nil))))))))) (.keep (rfl) rfl (.keep (rfl) rfl (.keep (rfl) rfl (.keep (rfl) rfl (.keep (rfl) rfl (.nil)))))) fun i h => by cases h)))))
      · skip
        refine rs_pick rfl rfl rfl ?_
        refine rs_nil fun _ => ?_
        refine th_n ?_
        refine aw_cond rfl (fun h => by cases h) (fun _ => ?_)
        refine aw_skip ?_
        refine in_n ?_
        refine th_n ?_
        refine aw_reg ?_
        refine rs_add rfl rfl rfl (by omega) ?_
        refine rs_mv rfl rfl ?_
        refine rs_nil fun _ => ?_
        refine th_n ?_
        (refine ⟨⟨k + 1, s⟩, ⟨by dsimp only; omega, hI.mono (Nat.le_succ k), hcl⟩, by dsimp only; omega, ?_⟩
         exact weak_to (.cons rfl (rc_same rfl (.inl rfl)) (.cons rfl (rc_same rfl (.inl rfl)) (.cons rfl (rc_same rfl (.inl rfl)) (.cons rfl (rc_same rfl (.inl rfl)) (.cons rfl (rc_same rfl (.inl rfl)) (.cons rfl (rc_same rfl (.inl rfl)) (.cons rfl (rc_same rfl (.inl rfl)) (.cons rfl (rc_same rfl (.inl rfl)) (.nil))))))))) (.keep (rfl) rfl (.keep (rfl) rfl (.keep (rfl) rfl (.keep (rfl) rfl (.keep (rfl) rfl (.nil)))))) (fun i h => by cases h))
  · replace h45 := of_decide_eq_false h45
    refine aw_exit ?_
    refine th_e ?_
    refine th_e ?_
    refine in_hit ?_
    refine th_n ?_
    refine aw_seq ?_
    refine aw_reg ?_
    refine rs_mv rfl rfl ?_
    have hsm := hI.sm (by omega)
    refine rs_calln [900, 903] rfl rfl (gc17 s hsm) (.cons (hv_obj (by simp) rfl (.sl (by simp) rfl (by simp) (.int (.bool (.int (.int (.int (.int (.int (.int (.bool (.int (.bool (.bool (.bool (.bool .nil)))))))))))))))) (.nil)) rfl ?_
    refine rs_mv rfl rfl ?_
    refine rs_ext rfl rfl rfl ?_
    refine rs_ext rfl rfl rfl ?_
    refine rs_mv rfl rfl ?_
    refine rs_mv rfl rfl ?_
    refine rs_nil fun _ => ?_
    refine th_n ?_
    refine aw_seq ?_
    refine aw_reg ?_
    refine rs_mv rfl rfl ?_
    refine rs_nil fun _ => ?_
    refine th_n ?_
    refine aw_seq ?_
    refine aw_seq ?_
    refine aw_reg ?_
    refine rs_mv rfl rfl ?_
    refine rs_rem (c := r) rfl rfl rfl (by decide) hr.symm ?_
    refine rs_nil fun _ => ?_
    refine th_n ?_
    refine aw_block ?_
    refine aw_seq ?_
    refine aw_reg ?_
    refine rs_eql rfl rfl rfl ?_
    refine rs_mv rfl rfl ?_
    refine rs_nil fun _ => ?_
    refine th_n ?_
    refine aw_cond rfl (fun h70 => ?_) (fun h70 => ?_)
    · replace h70 := of_decide_eq_true h70
      refine aw_seq ?_
      refine aw_reg ?_
      refine rs_mv rfl rfl ?_
      obtain ⟨s1, s2, q1, q2, q3, q4, qt, hfin, hbl⟩ := stop0 hcl
      have hI1 := iv_of hI q1
      have hI2 := iv_of hI1 q3
      have hIt := hI2
      have hst := hIt.sm (by omega)
      refine rs_callo (hC 900 903 s) rfl rfl (at29 900 903 904 rfl s s1 2 0 0 (hI.sm (by omega)) q1) (.cons (hv_same rfl) (.cons (hv_same rfl) (.cons (hv_same rfl) (.nil)))) (.cons rfl (.cons rfl (.nil))) rfl rfl rfl ?_
      refine rs_cmp_f rfl rfl rfl rfl (fun h => h rfl) ?_
      refine rs_mv rfl rfl ?_
      refine rs_mv rfl rfl ?_
      refine rs_callo (hC 900 904 s1) rfl rfl (at30 900 904 905 rfl s1 s1 1 40 _ hI1 (by omega) q2) (.cons (hv_same rfl) (.cons (hv_same rfl) (.nil))) (.cons rfl (.cons rfl (.nil))) rfl rfl rfl ?_
      refine rs_cmp_f rfl rfl rfl rfl (fun h => h rfl) ?_
      refine rs_pick rfl rfl rfl ?_
      refine rs_mv rfl rfl ?_
      refine rs_mv rfl rfl ?_
      refine rs_callo (hC 900 905 s1) rfl rfl (at29 900 905 906 rfl s1 s2 3 0 0 (hI1.sm (by omega)) q3) (.cons (hv_same rfl) (.cons (hv_same rfl) (.cons (hv_same rfl) (.nil)))) (.cons rfl (.cons rfl (.nil))) rfl rfl rfl ?_
      refine rs_cmp_f rfl rfl rfl rfl (fun h => h rfl) ?_
      refine rs_pick rfl rfl rfl ?_
      refine rs_mv rfl rfl ?_
      refine rs_mv rfl rfl ?_
      refine rs_callo (hC 900 906 s2) rfl rfl (at29 900 906 907 rfl s2 s2 3 0 7 (hI2.sm (by omega)) q4) (.cons (hv_same rfl) (.cons (hv_same rfl) (.cons (hv_same rfl) (.nil)))) (.cons rfl (.cons rfl (.nil))) rfl rfl rfl ?_
      refine rs_cmp_f rfl rfl rfl rfl (fun h => h rfl) ?_
      refine rs_pick rfl rfl rfl ?_
      refine rs_nil fun _ => ?_
      refine th_n ?_
      refine aw_cond rfl (fun h => by cases h) (fun _ => ?_)
      refine aw_skip ?_
      refine in_n ?_
      refine th_n ?_
      refine aw_seq ?_
      refine aw_seq ?_
      refine aw_reg ?_
      refine rs_mv rfl rfl ?_
      refine rs_nil fun _ => ?_
      refine th_n ?_
      refine aw_block ?_
      refine aw_fam (α := Nat) (fun j => (1 + y) - j) (fun j => [(2, .int .u8 how), (3, .int .u8 many), (9, .bool true), (12, .ptr 900 0 0), (13, .ptr 910 0 0), (16, iv s.made), (18, iv 43), (19, iv (((j) : Nat) : Int))]) (fun j => [(900, ctlO 903 s2), (903, rowO s2.rs), (910, ctlO 913 s), (913, rowO s.rs)]) (fun j => j ≤ 1 + y) 0 (by omega)
        (show Weak _ _ _ _ [(2, .int .u8 how), (3, .int .u8 many), (9, .bool true), (12, .ptr 900 0 0), (13, .ptr 910 0 0), (16, iv s.made), (18, iv 43), (19, iv (((0) : Nat) : Int))] [(900, ctlO 903 s2), (903, rowO s2.rs), (910, ctlO 913 s), (913, rowO s.rs)] from Weak.trans (F1 := [(2, .int .u8 how), (3, .int .u8 many), (9, .bool true), (12, .ptr 900 0 0), (13, .ptr 910 0 0), (16, iv s.made), (18, iv 43), (19, iv (((0) : Nat) : Int))]) (H1 := [(900, ctlO 907 s2), (907, rowO s2.rs), (910, ctlO 913 s), (913, rowO s.rs)]) (weak_to (.cons rfl (rc_same rfl (.inl rfl)) (.cons rfl (rc_same rfl (.inl rfl)) (.cons rfl (rc_same rfl (.inl rfl)) (.cons rfl (rc_same rfl (.inl rfl)) (.cons rfl (rc_same rfl (.inl rfl)) (.cons rfl (rc_same rfl (.inl rfl)) (.cons rfl (rc_same rfl (.inl rfl)) (.cons rfl (rc_same rfl (.inl rfl)) (.nil))))))))) (.keep (rfl) rfl (.keep (rfl) rfl (.keep (rfl) rfl (.keep (rfl) rfl (.nil))))) fun i h => by cases h) (Weak.trans (F1 := [(2, .int .u8 how), (3, .int .u8 many), (9, .bool true), (12, .ptr 900 0 0), (13, .ptr 910 0 0), (16, iv s.made), (18, iv 43), (19, iv (((0) : Nat) : Int))]) (weak_ren_row (i := 907) (i' := 903) (k := 900) rfl rfl (.cons rfl (.same _) (.cons rfl (.same _) (.cons rfl (.same _) (.cons rfl (.same _) (.cons rfl (.same _) (.cons rfl (.same _) (.cons rfl (.same _) (.cons rfl (.same _) (.nil))))))))) (by decide) rfl (.cons (.sl _ _) (RenL.refl _ _ _))) (weak_to (.cons rfl (rc_same rfl (.inl rfl)) (.cons rfl (rc_same rfl (.inl rfl)) (.cons rfl (rc_same rfl (.inl rfl)) (.cons rfl (rc_same rfl (.inl rfl)) (.cons rfl (rc_same rfl (.inl rfl)) (.cons rfl (rc_same rfl (.inl rfl)) (.cons rfl (rc_same rfl (.inl rfl)) (.cons rfl (rc_same rfl (.inl rfl)) (.nil))))))))) (.keep (rfl) rfl (.keep (rfl) rfl (.keep (rfl) rfl (.keep (rfl) rfl (.nil))))) fun i h => by cases h))) ?_
      intro j hj
      refine aw_seq ?_
      refine aw_seq ?_
      refine aw_reg ?_
      refine rs_mv rfl rfl ?_
      refine rs_mv rfl rfl ?_
      refine rs_cvt rfl rfl (W_eq (by omega)) ?_
      refine rs_rem (c := (y : Int)) rfl rfl rfl (by decide) hy.symm ?_
      refine rs_add rfl rfl rfl (by omega) ?_
      refine rs_lss rfl rfl rfl ?_
      refine rs_nil fun _ => ?_
      refine th_n ?_
      refine aw_cond rfl (fun h115 => ?_) (fun h115 => ?_)
      · replace h115 := of_decide_eq_true h115
        refine aw_skip ?_
        refine th_n ?_
        refine aw_seq ?_
        refine aw_block ?_
        refine aw_seq ?_
        refine aw_reg ?_
        refine rs_mv rfl rfl ?_
        refine rs_callo (hC 900 903 s2) rfl rfl (at30 900 903 905 rfl s2 s2 1 43 _ hIt (by omega) qt) (.cons (hv_same rfl) (.cons (hv_same rfl) (.nil))) (.cons rfl (.cons rfl (.nil))) rfl rfl rfl ?_
        refine rs_mv rfl rfl ?_
        refine rs_cmp_f rfl rfl rfl rfl (fun h => h rfl) ?_
        refine rs_nil fun _ => ?_
        refine th_n ?_
        refine aw_cond rfl (fun h => by cases h) (fun _ => ?_)
        refine aw_skip ?_
        refine in_n ?_
        refine th_n ?_
        refine aw_reg ?_
        refine rs_mv rfl rfl ?_
        refine rs_add rfl rfl rfl (by omega) ?_
        refine rs_mv rfl rfl ?_
        refine rs_nil fun _ => ?_
        refine th_n ?_
        exact ⟨j + 1, by omega, by omega, (show Weak _ _ _ _ [(2, .int .u8 how), (3, .int .u8 many), (9, .bool true), (12, .ptr 900 0 0), (13, .ptr 910 0 0), (16, iv s.made), (18, iv 43), (19, iv (((j + 1) : Nat) : Int))] [(900, ctlO 903 s2), (903, rowO s2.rs), (910, ctlO 913 s), (913, rowO s.rs)] from Weak.trans (F1 := [(2, .int .u8 how), (3, .int .u8 many), (9, .bool true), (12, .ptr 900 0 0), (13, .ptr 910 0 0), (16, iv s.made), (18, iv 43), (19, iv (((j + 1) : Nat) : Int))]) (H1 := [(900, ctlO 905 s2), (905, rowO s2.rs), (910, ctlO 913 s), (913, rowO s.rs)]) (weak_to (.cons rfl (rc_same rfl (.inl rfl)) (.cons rfl (rc_same rfl (.inl rfl)) (.cons rfl (rc_same rfl (.inl rfl)) (.cons rfl (rc_same rfl (.inl rfl)) (.cons rfl (rc_same rfl (.inl rfl)) (.cons rfl (rc_same rfl (.inl rfl)) (.cons rfl (rc_same rfl (.inl rfl)) (.cons rfl (rc_same rfl (.inl rfl)) (.nil))))))))) (.keep (rfl) rfl (.keep (rfl) rfl (.keep (rfl) rfl (.keep (rfl) rfl (.nil))))) fun i h => by cases h) (Weak.trans (F1 := [(2, .int .u8 how), (3, .int .u8 many), (9, .bool true), (12, .ptr 900 0 0), (13, .ptr 910 0 0), (16, iv s.made), (18, iv 43), (19, iv (((j + 1) : Nat) : Int))]) (weak_ren_row (i := 905) (i' := 903) (k := 900) rfl rfl (.cons rfl (.same _) (.cons rfl (.same _) (.cons rfl (.same _) (.cons rfl (.same _) (.cons rfl (.same _) (.cons rfl (.same _) (.cons rfl (.same _) (.cons rfl (.same _) (.nil))))))))) (by decide) rfl (.cons (.sl _ _) (RenL.refl _ _ _))) (weak_to (.cons rfl (rc_same rfl (.inl rfl)) (.cons rfl (rc_same rfl (.inl rfl)) (.cons rfl (rc_same rfl (.inl rfl)) (.cons rfl (rc_same rfl (.inl rfl)) (.cons rfl (rc_same rfl (.inl rfl)) (.cons rfl (rc_same rfl (.inl rfl)) (.cons rfl (rc_same rfl (.inl rfl)) (.cons rfl (rc_same rfl (.inl rfl)) (.nil))))))))) (.keep (rfl) rfl (.keep (rfl) rfl (.keep (rfl) rfl (.keep (rfl) rfl (.nil))))) fun i h => by cases h)))⟩
      · replace h115 := of_decide_eq_false h115
        refine aw_exit ?_
        refine th_e ?_
        refine th_e ?_
        refine in_hit ?_
        refine th_n ?_
        refine aw_seq ?_
        refine aw_reg ?_
        refine rs_mv rfl rfl ?_
        refine rs_calln [900, 903] rfl rfl (gc17 s2 hst) (.cons (hv_obj (by simp) rfl (.sl (by simp) rfl (by simp) (.int (.bool (.int (.int (.int (.int (.int (.int (.bool (.int (.bool (.bool (.bool (.bool .nil)))))))))))))))) (.nil)) rfl ?_
        refine rs_mv rfl rfl ?_
        refine rs_ext rfl rfl rfl ?_
        refine rs_ext rfl rfl rfl ?_
        refine rs_mv rfl rfl ?_
        refine rs_mv rfl rfl ?_
        refine rs_nil fun _ => ?_
        refine th_n ?_
        refine aw_seq ?_
        refine aw_seq ?_
        refine aw_reg ?_
        refine rs_mv rfl rfl ?_
        refine rs_mv rfl rfl ?_
        refine rs_cmp_f rfl rfl rfl rfl (fun h => h hfin.made) ?_
        refine rs_mv rfl rfl ?_
        refine rs_mv rfl rfl ?_
        refine rs_calln [900, 903] rfl rfl (gc26 s2 hst) (.cons (hv_obj (by simp) rfl (.sl (by simp) rfl (by simp) (.int (.bool (.int (.int (.int (.int (.int (.int (.bool (.int (.bool (.bool (.bool (.bool .nil)))))))))))))))) (.nil)) rfl ?_
        refine rs_mv rfl rfl ?_
        refine rs_calln [910, 913] rfl rfl (gc26 s hsm) (.cons (hv_obj (by simp) rfl (.sl (by simp) rfl (by simp) (.int (.bool (.int (.int (.int (.int (.int (.int (.bool (.int (.bool (.bool (.bool (.bool .nil)))))))))))))))) (.nil)) rfl ?_
        refine rs_calln [] rfl rfl (gc25e s2.rs s.rs (by have := hst.len; omega) hfin.rs) (.cons (hv_same rfl) (.cons (hv_same rfl) (.nil))) rfl ?_
        refine rs_not rfl rfl ?_
        refine rs_pick rfl rfl rfl ?_
        refine rs_mv rfl rfl ?_
        refine rs_mv rfl rfl ?_
        refine rs_rem (c := r) rfl rfl rfl (by decide) hr.symm ?_
        refine rs_cmp_f rfl rfl rfl rfl (by omega) ?_
        refine rs_pick rfl rfl rfl ?_
        refine rs_nil fun _ => ?_
        refine th_n ?_
        refine aw_cond rfl (fun h => by cases h) (fun _ => ?_)
        refine aw_skip ?_
        refine th_n ?_
        refine aw_seq ?_
        refine aw_reg ?_
        refine rs_mv rfl rfl ?_
        refine rs_mv rfl rfl ?_
        refine rs_cvt rfl rfl (W_eq (by omega)) ?_
        refine rs_rem (c := (y : Int)) rfl rfl rfl (by decide) hy.symm ?_
        have hcd := cl_tk hcl y
        have hId := iv_tk hI y
        generalize hsd : tkS s y = q at hcd hId
        obtain ⟨ed, sd⟩ := q
        dsimp only at hcd hId
        obtain ⟨sd2, hsd2, hfd, hbd⟩ := off_ex hcd
        have hId2 := iv_of hId hsd2
        have hsmd := hId2.sm (by omega)
        refine rs_callo (hC 910 913 s) rfl rfl (at30 910 913 914 rfl s sd y ed _ hI (by omega) hsd) (.cons (hv_same rfl) (.cons (hv_same rfl) (.nil))) (.cons rfl (.cons rfl (.nil))) rfl rfl rfl ?_
        refine rs_nil fun _ => ?_
        refine th_n ?_
        refine aw_seq ?_
        refine aw_seq ?_
        refine aw_reg ?_
        refine rs_mv rfl rfl ?_
        refine rs_callo (hC 910 914 sd) rfl rfl (at29 910 914 915 rfl sd sd2 2 0 0 (hId.sm (by omega)) hsd2) (.cons (hv_same rfl) (.cons (hv_same rfl) (.cons (hv_same rfl) (.nil)))) (.cons rfl (.cons rfl (.nil))) rfl rfl rfl ?_
        refine rs_cmp_f rfl rfl rfl rfl (fun h => h rfl) ?_
        refine rs_nil fun _ => ?_
        refine th_n ?_
        refine aw_cond rfl (fun h => by cases h) (fun _ => ?_)
        refine aw_skip ?_
        refine th_n ?_
        refine aw_seq ?_
        refine aw_reg ?_
        refine rs_mv rfl rfl ?_
        refine rs_calln [900, 903] rfl rfl (gc26 s2 hst) (.cons (hv_obj (by simp) rfl (.sl (by simp) rfl (by simp) (.int (.bool (.int (.int (.int (.int (.int (.int (.bool (.int (.bool (.bool (.bool (.bool .nil)))))))))))))))) (.nil)) rfl ?_
        refine rs_mv rfl rfl ?_
        refine rs_calln [910, 915] rfl rfl (gc26 sd2 hsmd) (.cons (hv_obj (by simp) rfl (.sl (by simp) rfl (by simp) (.int (.bool (.int (.int (.int (.int (.int (.int (.bool (.int (.bool (.bool (.bool (.bool .nil)))))))))))))))) (.nil)) rfl ?_
        refine rs_calln [] rfl rfl (gc25 s2.rs sd2.rs (by have := hst.len; omega)) (.cons (hv_same rfl) (.cons (hv_same rfl) (.nil))) rfl ?_
        cases h168 : decide (s2.rs = sd2.rs)
        · skip
          refine rs_mv rfl rfl ?_
          refine rs_nil fun _ => ?_
          refine th_n ?_
          refine aw_seq ?_
          refine aw_reg ?_
          refine rs_mv rfl rfl ?_
          refine rs_mv rfl rfl ?_
          refine rs_mv rfl rfl ?_
          refine rs_not rfl rfl ?_
          refine rs_mv rfl rfl ?_
          refine rs_skip rfl ?_
          refine rs_skip rfl ?_
          refine rs_skip rfl ?_
          refine rs_skip rfl ?_
          refine rs_skip rfl ?_
          refine rs_skip rfl ?_
          refine rs_skip rfl ?_
          refine rs_skip rfl ?_
          refine rs_skip rfl ?_
          refine rs_skip rfl ?_
          refine rs_skip rfl ?_
          refine rs_skip rfl ?_
          refine rs_pick rfl rfl rfl ?_
          refine rs_pick rfl rfl rfl ?_
          refine rs_mv rfl rfl ?_
          refine rs_nil fun _ => ?_
          refine th_n ?_
          refine aw_ret ?_
          exact ret_pure rfl rfl rfl (.inr rfl)
        · skip
          refine rs_mv rfl rfl ?_
          refine rs_nil fun _ => ?_
          refine th_n ?_
          refine aw_seq ?_
          refine aw_reg ?_
          refine rs_mv rfl rfl ?_
          refine rs_mv rfl rfl ?_
          refine rs_mv rfl rfl ?_
          refine rs_not rfl rfl ?_
          refine rs_mv rfl rfl ?_
          refine rs_mv rfl rfl ?_
          replace h168 := of_decide_eq_true h168
          obtain ⟨⟨A, B⟩, hAB⟩ : ∃ q, spanS s2 = q := ⟨_, rfl⟩
          have hABd : spanS sd2 = (A, B) := by
            rw [← hAB]
            exact span_eq hbd hbl (by rw [hfd.found, hfin.found, hcd.found, hcl.found]) h168.symm (by rw [hfd.all, hfin.all, hcd.all, hcl.all]) (by rw [hfd.every, hfin.every, hcd.every, hcl.every])
          have hsnd : s2.sound = sd2.sound := by
            rw [hfin.sound, hfd.sound, hI.sw hcl.broken, hId.sw hcd.broken, ← hfin.rs, ← hfd.rs, h168]
          refine rs_calln [900, 903] rfl rfl (gc19 s2 A B hst hIt.ls hAB) (.cons (hv_obj (by simp) rfl (.sl (by simp) rfl (by simp) (.int (.bool (.int (.int (.int (.int (.int (.int (.bool (.int (.bool (.bool (.bool (.bool .nil)))))))))))))))) (.nil)) rfl ?_
          refine rs_mv rfl rfl ?_
          refine rs_calln [910, 915] rfl rfl (gc19 sd2 A B hsmd hId2.ls hABd) (.cons (hv_obj (by simp) rfl (.sl (by simp) rfl (by simp) (.int (.bool (.int (.int (.int (.int (.int (.int (.bool (.int (.bool (.bool (.bool (.bool .nil)))))))))))))))) (.nil)) rfl ?_
          refine rs_aeq (b := true) [A, B] [A, B] rfl rfl rfl rfl rfl rfl rfl (by simp) ?_
          refine rs_mv rfl rfl ?_
          refine rs_mv rfl rfl ?_
          refine rs_calln [900, 903] rfl rfl (gc21 s2 A B hst hIt.ls hAB) (.cons (hv_obj (by simp) rfl (.sl (by simp) rfl (by simp) (.int (.bool (.int (.int (.int (.int (.int (.int (.bool (.int (.bool (.bool (.bool (.bool .nil)))))))))))))))) (.nil)) rfl ?_
          refine rs_mv rfl rfl ?_
          refine rs_calln [910, 915] rfl rfl (gc21 sd2 A B hsmd hId2.ls hABd) (.cons (hv_obj (by simp) rfl (.sl (by simp) rfl (by simp) (.int (.bool (.int (.int (.int (.int (.int (.int (.bool (.int (.bool (.bool (.bool (.bool .nil)))))))))))))))) (.nil)) rfl ?_
          refine rs_aeq (b := true) [s2.sound, B] [sd2.sound, B] rfl rfl rfl rfl rfl rfl rfl (by rw [hsnd]; simp) ?_
          refine rs_pick rfl rfl rfl ?_
          refine rs_pick rfl rfl rfl ?_
          refine rs_pick rfl rfl rfl ?_
          refine rs_mv rfl rfl ?_
          refine rs_nil fun _ => ?_
          refine th_n ?_
          refine aw_ret ?_
          exact ret_pure rfl rfl rfl (.inr rfl)
    · replace h70 := of_decide_eq_false h70
      refine aw_seq ?_
      refine aw_reg ?_
      refine rs_eql rfl rfl rfl ?_
      refine rs_mv rfl rfl ?_
      refine rs_nil fun _ => ?_
      refine th_n ?_
      refine aw_cond rfl (fun h90 => ?_) (fun h90 => ?_)
      · replace h90 := of_decide_eq_true h90
        refine aw_seq ?_
        refine aw_reg ?_
        refine rs_mv rfl rfl ?_
        obtain ⟨s1, q1, qt, hfin⟩ := stop1 hcl
        have hI1 := iv_of hI q1
        have hIt := hI1
        have hst := hIt.sm (by omega)
        refine rs_callo (hC 900 903 s) rfl rfl (at29 900 903 904 rfl s s1 6 0 0 (hI.sm (by omega)) q1) (.cons (hv_same rfl) (.cons (hv_same rfl) (.cons (hv_same rfl) (.nil)))) (.cons rfl (.cons rfl (.nil))) rfl rfl rfl ?_
        refine rs_cmp_f rfl rfl rfl rfl (fun h => h rfl) ?_
        refine rs_nil fun _ => ?_
        refine th_n ?_
        refine aw_cond rfl (fun h => by cases h) (fun _ => ?_)
        refine aw_skip ?_
        refine in_n ?_
        refine th_n ?_
        refine aw_seq ?_
        refine aw_seq ?_
        refine aw_reg ?_
        refine rs_mv rfl rfl ?_
        refine rs_nil fun _ => ?_
        refine th_n ?_
        refine aw_block ?_
        refine aw_fam (α := Nat) (fun j => (1 + y) - j) (fun j => [(2, .int .u8 how), (3, .int .u8 many), (9, .bool true), (12, .ptr 900 0 0), (13, .ptr 910 0 0), (16, iv s.made), (18, iv 43), (19, iv (((j) : Nat) : Int))]) (fun j => [(900, ctlO 903 s1), (903, rowO s1.rs), (910, ctlO 913 s), (913, rowO s.rs)]) (fun j => j ≤ 1 + y) 0 (by omega)
          (show Weak _ _ _ _ [(2, .int .u8 how), (3, .int .u8 many), (9, .bool true), (12, .ptr 900 0 0), (13, .ptr 910 0 0), (16, iv s.made), (18, iv 43), (19, iv (((0) : Nat) : Int))] [(900, ctlO 903 s1), (903, rowO s1.rs), (910, ctlO 913 s), (913, rowO s.rs)] from Weak.trans (F1 := [(2, .int .u8 how), (3, .int .u8 many), (9, .bool true), (12, .ptr 900 0 0), (13, .ptr 910 0 0), (16, iv s.made), (18, iv 43), (19, iv (((0) : Nat) : Int))]) (H1 := [(900, ctlO 904 s1), (904, rowO s1.rs), (910, ctlO 913 s), (913, rowO s.rs)]) (weak_to (.cons rfl (rc_same rfl (.inl rfl)) (.cons rfl (rc_same rfl (.inl rfl)) (.cons rfl (rc_same rfl (.inl rfl)) (.cons rfl (rc_same rfl (.inl rfl)) (.cons rfl (rc_same rfl (.inl rfl)) (.cons rfl (rc_same rfl (.inl rfl)) (.cons rfl (rc_same rfl (.inl rfl)) (.cons rfl (rc_same rfl (.inl rfl)) (.nil))))))))) (.keep (rfl) rfl (.keep (rfl) rfl (.keep (rfl) rfl (.keep (rfl) rfl (.nil))))) fun i h => by cases h) (Weak.trans (F1 := [(2, .int .u8 how), (3, .int .u8 many), (9, .bool true), (12, .ptr 900 0 0), (13, .ptr 910 0 0), (16, iv s.made), (18, iv 43), (19, iv (((0) : Nat) : Int))]) (weak_ren_row (i := 904) (i' := 903) (k := 900) rfl rfl (.cons rfl (.same _) (.cons rfl (.same _) (.cons rfl (.same _) (.cons rfl (.same _) (.cons rfl (.same _) (.cons rfl (.same _) (.cons rfl (.same _) (.cons rfl (.same _) (.nil))))))))) (by decide) rfl (.cons (.sl _ _) (RenL.refl _ _ _))) (weak_to (.cons rfl (rc_same rfl (.inl rfl)) (.cons rfl (rc_same rfl (.inl rfl)) (.cons rfl (rc_same rfl (.inl rfl)) (.cons rfl (rc_same rfl (.inl rfl)) (.cons rfl (rc_same rfl (.inl rfl)) (.cons rfl (rc_same rfl (.inl rfl)) (.cons rfl (rc_same rfl (.inl rfl)) (.cons rfl (rc_same rfl (.inl rfl)) (.nil))))))))) (.keep (rfl) rfl (.keep (rfl) rfl (.keep (rfl) rfl (.keep (rfl) rfl (.nil))))) fun i h => by cases h))) ?_
        intro j hj
        refine aw_seq ?_
        refine aw_seq ?_
        refine aw_reg ?_
        refine rs_mv rfl rfl ?_
        refine rs_mv rfl rfl ?_
        refine rs_cvt rfl rfl (W_eq (by omega)) ?_
        refine rs_rem (c := (y : Int)) rfl rfl rfl (by decide) hy.symm ?_
        refine rs_add rfl rfl rfl (by omega) ?_
        refine rs_lss rfl rfl rfl ?_
        refine rs_nil fun _ => ?_
        refine th_n ?_
        refine aw_cond rfl (fun h115 => ?_) (fun h115 => ?_)
        · replace h115 := of_decide_eq_true h115
          refine aw_skip ?_
          refine th_n ?_
          refine aw_seq ?_
          refine aw_block ?_
          refine aw_seq ?_
          refine aw_reg ?_
          refine rs_mv rfl rfl ?_
          refine rs_callo (hC 900 903 s1) rfl rfl (at30 900 903 905 rfl s1 s1 1 43 _ hIt (by omega) qt) (.cons (hv_same rfl) (.cons (hv_same rfl) (.nil))) (.cons rfl (.cons rfl (.nil))) rfl rfl rfl ?_
          refine rs_mv rfl rfl ?_
          refine rs_cmp_f rfl rfl rfl rfl (fun h => h rfl) ?_
          refine rs_nil fun _ => ?_
          refine th_n ?_
          refine aw_cond rfl (fun h => by cases h) (fun _ => ?_)
          refine aw_skip ?_
          refine in_n ?_
          refine th_n ?_
          refine aw_reg ?_
          refine rs_mv rfl rfl ?_
          refine rs_add rfl rfl rfl (by omega) ?_
          refine rs_mv rfl rfl ?_
          refine rs_nil fun _ => ?_
          refine th_n ?_
          exact ⟨j + 1, by omega, by omega, (show Weak _ _ _ _ [(2, .int .u8 how), (3, .int .u8 many), (9, .bool true), (12, .ptr 900 0 0), (13, .ptr 910 0 0), (16, iv s.made), (18, iv 43), (19, iv (((j + 1) : Nat) : Int))] [(900, ctlO 903 s1), (903, rowO s1.rs), (910, ctlO 913 s), (913, rowO s.rs)] from Weak.trans (F1 := [(2, .int .u8 how), (3, .int .u8 many), (9, .bool true), (12, .ptr 900 0 0), (13, .ptr 910 0 0), (16, iv s.made), (18, iv 43), (19, iv (((j + 1) : Nat) : Int))]) (H1 := [(900, ctlO 905 s1), (905, rowO s1.rs), (910, ctlO 913 s), (913, rowO s.rs)]) (weak_to (.cons rfl (rc_same rfl (.inl rfl)) (.cons rfl (rc_same rfl (.inl rfl)) (.cons rfl (rc_same rfl (.inl rfl)) (.cons rfl (rc_same rfl (.inl rfl)) (.cons rfl (rc_same rfl (.inl rfl)) (.cons rfl (rc_same rfl (.inl rfl)) (.cons rfl (rc_same rfl (.inl rfl)) (.cons rfl (rc_same rfl (.inl rfl)) (.nil))))))))) (.keep (rfl) rfl (.keep (rfl) rfl (.keep (rfl) rfl (.keep (rfl) rfl (.nil))))) fun i h => by cases h) (Weak.trans (F1 := [(2, .int .u8 how), (3, .int .u8 many), (9, .bool true), (12, .ptr 900 0 0), (13, .ptr 910 0 0), (16, iv s.made), (18, iv 43), (19, iv (((j + 1) : Nat) : Int))]) (weak_ren_row (i := 905) (i' := 903) (k := 900) rfl rfl (.cons rfl (.same _) (.cons rfl (.same _) (.cons rfl (.same _) (.cons rfl (.same _) (.cons rfl (.same _) (.cons rfl (.same _) (.cons rfl (.same _) (.cons rfl (.same _) (.nil))))))))) (by decide) rfl (.cons (.sl _ _) (RenL.refl _ _ _))) (weak_to (.cons rfl (rc_same rfl (.inl rfl)) (.cons rfl (rc_same rfl (.inl rfl)) (.cons rfl (rc_same rfl (.inl rfl)) (.cons rfl (rc_same rfl (.inl rfl)) (.cons rfl (rc_same rfl (.inl rfl)) (.cons rfl (rc_same rfl (.inl rfl)) (.cons rfl (rc_same rfl (.inl rfl)) (.cons rfl (rc_same rfl (.inl rfl)) (.nil))))))))) (.keep (rfl) rfl (.keep (rfl) rfl (.keep (rfl) rfl (.keep (rfl) rfl (.nil))))) fun i h => by cases h)))⟩
        · replace h115 := of_decide_eq_false h115
          refine aw_exit ?_
          refine th_e ?_
          refine th_e ?_
          refine in_hit ?_
          refine th_n ?_
          refine aw_seq ?_
          refine aw_reg ?_
          refine rs_mv rfl rfl ?_
          refine rs_calln [900, 903] rfl rfl (gc17 s1 hst) (.cons (hv_obj (by simp) rfl (.sl (by simp) rfl (by simp) (.int (.bool (.int (.int (.int (.int (.int (.int (.bool (.int (.bool (.bool (.bool (.bool .nil)))))))))))))))) (.nil)) rfl ?_
          refine rs_mv rfl rfl ?_
          refine rs_ext rfl rfl rfl ?_
          refine rs_ext rfl rfl rfl ?_
          refine rs_mv rfl rfl ?_
          refine rs_mv rfl rfl ?_
          refine rs_nil fun _ => ?_
          refine th_n ?_
          refine aw_seq ?_
          refine aw_seq ?_
          refine aw_reg ?_
          refine rs_mv rfl rfl ?_
          refine rs_mv rfl rfl ?_
          refine rs_cmp_f rfl rfl rfl rfl (fun h => h hfin.made) ?_
          refine rs_mv rfl rfl ?_
          refine rs_mv rfl rfl ?_
          refine rs_calln [900, 903] rfl rfl (gc26 s1 hst) (.cons (hv_obj (by simp) rfl (.sl (by simp) rfl (by simp) (.int (.bool (.int (.int (.int (.int (.int (.int (.bool (.int (.bool (.bool (.bool (.bool .nil)))))))))))))))) (.nil)) rfl ?_
          refine rs_mv rfl rfl ?_
          refine rs_calln [910, 913] rfl rfl (gc26 s hsm) (.cons (hv_obj (by simp) rfl (.sl (by simp) rfl (by simp) (.int (.bool (.int (.int (.int (.int (.int (.int (.bool (.int (.bool (.bool (.bool (.bool .nil)))))))))))))))) (.nil)) rfl ?_
          refine rs_calln [] rfl rfl (gc25e s1.rs s.rs (by have := hst.len; omega) hfin.rs) (.cons (hv_same rfl) (.cons (hv_same rfl) (.nil))) rfl ?_
          refine rs_not rfl rfl ?_
          refine rs_pick rfl rfl rfl ?_
          refine rs_mv rfl rfl ?_
          refine rs_mv rfl rfl ?_
          refine rs_rem (c := r) rfl rfl rfl (by decide) hr.symm ?_
          refine rs_cmp_t rfl rfl rfl rfl (by omega) ?_
          refine rs_pick rfl rfl rfl ?_
          refine rs_nil fun _ => ?_
          refine th_n ?_
          refine aw_cond rfl (fun _ => ?_) (fun h => by cases h)
          refine aw_seq ?_
          refine aw_reg ?_
          refine rs_mv rfl rfl ?_
          refine rs_mv rfl rfl ?_
          refine rs_mv rfl rfl ?_
          refine rs_mv rfl rfl ?_
          refine rs_cmp_t rfl rfl rfl rfl hfin.made ?_
          refine rs_pick rfl rfl rfl ?_
          refine rs_mv rfl rfl ?_
          refine rs_mv rfl rfl ?_
          refine rs_calln [900, 903] rfl rfl (gc26 s1 hst) (.cons (hv_obj (by simp) rfl (.sl (by simp) rfl (by simp) (.int (.bool (.int (.int (.int (.int (.int (.int (.bool (.int (.bool (.bool (.bool (.bool .nil)))))))))))))))) (.nil)) rfl ?_
          refine rs_mv rfl rfl ?_
          refine rs_calln [910, 913] rfl rfl (gc26 s hsm) (.cons (hv_obj (by simp) rfl (.sl (by simp) rfl (by simp) (.int (.bool (.int (.int (.int (.int (.int (.int (.bool (.int (.bool (.bool (.bool (.bool .nil)))))))))))))))) (.nil)) rfl ?_
          refine rs_calln [] rfl rfl (gc25e s1.rs s.rs (by have := hst.len; omega) hfin.rs) (.cons (hv_same rfl) (.cons (hv_same rfl) (.nil))) rfl ?_
          refine rs_pick rfl rfl rfl ?_
          refine rs_mv rfl rfl ?_
          refine rs_nil fun _ => ?_
          refine th_n ?_
          refine aw_ret ?_
          refine th_r ?_
          exact ret_pure rfl rfl rfl (.inr rfl)
      · replace h90 := of_decide_eq_false h90
        refine aw_seq ?_
        refine aw_reg ?_
        refine rs_cmp_t rfl rfl rfl rfl (by omega) ?_
        refine rs_mv rfl rfl ?_
        refine rs_nil fun _ => ?_
        refine th_n ?_
        refine aw_cond rfl (fun _ => ?_) (fun h => by cases h)
        refine aw_seq ?_
        refine aw_seq ?_
        refine aw_reg ?_
        refine rs_mv rfl rfl ?_
        obtain ⟨s1, s2, q1, q2, q3, qt, hfin⟩ := stop2 hcl
        have hI1 := iv_of hI q1
        have hI2 := iv_of hI1 q3
        have hIt := hI2
        have hst := hIt.sm (by omega)
        refine rs_callo (hC 900 903 s) rfl rfl (at29 900 903 904 rfl s s1 4 0 0 (hI.sm (by omega)) q1) (.cons (hv_same rfl) (.cons (hv_same rfl) (.cons (hv_same rfl) (.nil)))) (.cons rfl (.cons rfl (.nil))) rfl rfl rfl ?_
        refine rs_cmp_f rfl rfl rfl rfl (fun h => h rfl) ?_
        refine rs_mv rfl rfl ?_
        refine rs_mv rfl rfl ?_
        refine rs_callo (hC 900 904 s1) rfl rfl (at29 900 904 905 rfl s1 s1 4 0 41 (hI1.sm (by omega)) q2) (.cons (hv_same rfl) (.cons (hv_same rfl) (.cons (hv_same rfl) (.nil)))) (.cons rfl (.cons rfl (.nil))) rfl rfl rfl ?_
        refine rs_cmp_f rfl rfl rfl rfl (fun h => h rfl) ?_
        refine rs_pick rfl rfl rfl ?_
        refine rs_mv rfl rfl ?_
        refine rs_mv rfl rfl ?_
        refine rs_callo (hC 900 905 s1) rfl rfl (at29 900 905 906 rfl s1 s2 7 0 0 (hI1.sm (by omega)) q3) (.cons (hv_same rfl) (.cons (hv_same rfl) (.cons (hv_same rfl) (.nil)))) (.cons rfl (.cons rfl (.nil))) rfl rfl rfl ?_
        refine rs_cmp_f rfl rfl rfl rfl (fun h => h rfl) ?_
        refine rs_pick rfl rfl rfl ?_
        refine rs_nil fun _ => ?_
        refine th_n ?_
        refine aw_cond rfl (fun h => by cases h) (fun _ => ?_)
        refine aw_skip ?_
        refine th_n ?_
        refine aw_reg ?_
        refine rs_mv rfl rfl ?_
        refine rs_nil fun _ => ?_
        refine in_n ?_
        refine th_n ?_
        refine aw_seq ?_
        refine aw_seq ?_
        refine aw_reg ?_
        refine rs_mv rfl rfl ?_
        refine rs_nil fun _ => ?_
        refine th_n ?_
        refine aw_block ?_
        refine aw_fam (α := Nat) (fun j => (1 + y) - j) (fun j => [(2, .int .u8 how), (3, .int .u8 many), (9, .bool true), (12, .ptr 900 0 0), (13, .ptr 910 0 0), (16, iv s.made), (18, iv 41), (19, iv (((j) : Nat) : Int))]) (fun j => [(900, ctlO 903 s2), (903, rowO s2.rs), (910, ctlO 913 s), (913, rowO s.rs)]) (fun j => j ≤ 1 + y) 0 (by omega)
          (show Weak _ _ _ _ [(2, .int .u8 how), (3, .int .u8 many), (9, .bool true), (12, .ptr 900 0 0), (13, .ptr 910 0 0), (16, iv s.made), (18, iv 41), (19, iv (((0) : Nat) : Int))] [(900, ctlO 903 s2), (903, rowO s2.rs), (910, ctlO 913 s), (913, rowO s.rs)] from Weak.trans (F1 := [(2, .int .u8 how), (3, .int .u8 many), (9, .bool true), (12, .ptr 900 0 0), (13, .ptr 910 0 0), (16, iv s.made), (18, iv 41), (19, iv (((0) : Nat) : Int))]) (H1 := [(900, ctlO 906 s2), (906, rowO s2.rs), (910, ctlO 913 s), (913, rowO s.rs)]) (weak_to (.cons rfl (rc_same rfl (.inl rfl)) (.cons rfl (rc_same rfl (.inl rfl)) (.cons rfl (rc_same rfl (.inl rfl)) (.cons rfl (rc_same rfl (.inl rfl)) (.cons rfl (rc_same rfl (.inl rfl)) (.cons rfl (rc_same rfl (.inl rfl)) (.cons rfl (rc_same rfl (.inl rfl)) (.cons rfl (rc_same rfl (.inl rfl)) (.nil))))))))) (.keep (rfl) rfl (.keep (rfl) rfl (.keep (rfl) rfl (.keep (rfl) rfl (.nil))))) fun i h => by cases h) (Weak.trans (F1 := [(2, .int .u8 how), (3, .int .u8 many), (9, .bool true), (12, .ptr 900 0 0), (13, .ptr 910 0 0), (16, iv s.made), (18, iv 41), (19, iv (((0) : Nat) : Int))]) (weak_ren_row (i := 906) (i' := 903) (k := 900) rfl rfl (.cons rfl (.same _) (.cons rfl (.same _) (.cons rfl (.same _) (.cons rfl (.same _) (.cons rfl (.same _) (.cons rfl (.same _) (.cons rfl (.same _) (.cons rfl (.same _) (.nil))))))))) (by decide) rfl (.cons (.sl _ _) (RenL.refl _ _ _))) (weak_to (.cons rfl (rc_same rfl (.inl rfl)) (.cons rfl (rc_same rfl (.inl rfl)) (.cons rfl (rc_same rfl (.inl rfl)) (.cons rfl (rc_same rfl (.inl rfl)) (.cons rfl (rc_same rfl (.inl rfl)) (.cons rfl (rc_same rfl (.inl rfl)) (.cons rfl (rc_same rfl (.inl rfl)) (.cons rfl (rc_same rfl (.inl rfl)) (.nil))))))))) (.keep (rfl) rfl (.keep (rfl) rfl (.keep (rfl) rfl (.keep (rfl) rfl (.nil))))) fun i h => by cases h))) ?_
        intro j hj
        refine aw_seq ?_
        refine aw_seq ?_
        refine aw_reg ?_
        refine rs_mv rfl rfl ?_
        refine rs_mv rfl rfl ?_
        refine rs_cvt rfl rfl (W_eq (by omega)) ?_
        refine rs_rem (c := (y : Int)) rfl rfl rfl (by decide) hy.symm ?_
        refine rs_add rfl rfl rfl (by omega) ?_
        refine rs_lss rfl rfl rfl ?_
        refine rs_nil fun _ => ?_
        refine th_n ?_
        refine aw_cond rfl (fun h115 => ?_) (fun h115 => ?_)
        · replace h115 := of_decide_eq_true h115
          refine aw_skip ?_
          refine th_n ?_
          refine aw_seq ?_
          refine aw_block ?_
          refine aw_seq ?_
          refine aw_reg ?_
          refine rs_mv rfl rfl ?_
          refine rs_callo (hC 900 903 s2) rfl rfl (at30 900 903 905 rfl s2 s2 1 41 _ hIt (by omega) qt) (.cons (hv_same rfl) (.cons (hv_same rfl) (.nil))) (.cons rfl (.cons rfl (.nil))) rfl rfl rfl ?_
          refine rs_mv rfl rfl ?_
          refine rs_cmp_f rfl rfl rfl rfl (fun h => h rfl) ?_
          refine rs_nil fun _ => ?_
          refine th_n ?_
          refine aw_cond rfl (fun h => by cases h) (fun _ => ?_)
          refine aw_skip ?_
          refine in_n ?_
          refine th_n ?_
          refine aw_reg ?_
          refine rs_mv rfl rfl ?_
          refine rs_add rfl rfl rfl (by omega) ?_
          refine rs_mv rfl rfl ?_
          refine rs_nil fun _ => ?_
          refine th_n ?_
          exact ⟨j + 1, by omega, by omega, (show Weak _ _ _ _ [(2, .int .u8 how), (3, .int .u8 many), (9, .bool true), (12, .ptr 900 0 0), (13, .ptr 910 0 0), (16, iv s.made), (18, iv 41), (19, iv (((j + 1) : Nat) : Int))] [(900, ctlO 903 s2), (903, rowO s2.rs), (910, ctlO 913 s), (913, rowO s.rs)] from Weak.trans (F1 := [(2, .int .u8 how), (3, .int .u8 many), (9, .bool true), (12, .ptr 900 0 0), (13, .ptr 910 0 0), (16, iv s.made), (18, iv 41), (19, iv (((j + 1) : Nat) : Int))]) (H1 := [(900, ctlO 905 s2), (905, rowO s2.rs), (910, ctlO 913 s), (913, rowO s.rs)]) (weak_to (.cons rfl (rc_same rfl (.inl rfl)) (.cons rfl (rc_same rfl (.inl rfl)) (.cons rfl (rc_same rfl (.inl rfl)) (.cons rfl (rc_same rfl (.inl rfl)) (.cons rfl (rc_same rfl (.inl rfl)) (.cons rfl (rc_same rfl (.inl rfl)) (.cons rfl (rc_same rfl (.inl rfl)) (.cons rfl (rc_same rfl (.inl rfl)) (.nil))))))))) (.keep (rfl) rfl (.keep (rfl) rfl (.keep (rfl) rfl (.keep (rfl) rfl (.nil))))) fun i h => by cases h) (Weak.trans (F1 := [(2, .int .u8 how), (3, .int .u8 many), (9, .bool true), (12, .ptr 900 0 0), (13, .ptr 910 0 0), (16, iv s.made), (18, iv 41), (19, iv (((j + 1) : Nat) : Int))]) (weak_ren_row (i := 905) (i' := 903) (k := 900) rfl rfl (.cons rfl (.same _) (.cons rfl (.same _) (.cons rfl (.same _) (.cons rfl (.same _) (.cons rfl (.same _) (.cons rfl (.same _) (.cons rfl (.same _) (.cons rfl (.same _) (.nil))))))))) (by decide) rfl (.cons (.sl _ _) (RenL.refl _ _ _))) (weak_to (.cons rfl (rc_same rfl (.inl rfl)) (.cons rfl (rc_same rfl (.inl rfl)) (.cons rfl (rc_same rfl (.inl rfl)) (.cons rfl (rc_same rfl (.inl rfl)) (.cons rfl (rc_same rfl (.inl rfl)) (.cons rfl (rc_same rfl (.inl rfl)) (.cons rfl (rc_same rfl (.inl rfl)) (.cons rfl (rc_same rfl (.inl rfl)) (.nil))))))))) (.keep (rfl) rfl (.keep (rfl) rfl (.keep (rfl) rfl (.keep (rfl) rfl (.nil))))) fun i h => by cases h)))⟩
        · replace h115 := of_decide_eq_false h115
          refine aw_exit ?_
          refine th_e ?_
          refine th_e ?_
          refine in_hit ?_
          refine th_n ?_
          refine aw_seq ?_
          refine aw_reg ?_
          refine rs_mv rfl rfl ?_
          refine rs_calln [900, 903] rfl rfl (gc17 s2 hst) (.cons (hv_obj (by simp) rfl (.sl (by simp) rfl (by simp) (.int (.bool (.int (.int (.int (.int (.int (.int (.bool (.int (.bool (.bool (.bool (.bool .nil)))))))))))))))) (.nil)) rfl ?_
          refine rs_mv rfl rfl ?_
          refine rs_ext rfl rfl rfl ?_
          refine rs_ext rfl rfl rfl ?_
          refine rs_mv rfl rfl ?_
          refine rs_mv rfl rfl ?_
          refine rs_nil fun _ => ?_
          refine th_n ?_
          refine aw_seq ?_
          refine aw_seq ?_
          refine aw_reg ?_
          refine rs_mv rfl rfl ?_
          refine rs_mv rfl rfl ?_
          refine rs_cmp_f rfl rfl rfl rfl (fun h => h hfin.made) ?_
          refine rs_mv rfl rfl ?_
          refine rs_mv rfl rfl ?_
          refine rs_calln [900, 903] rfl rfl (gc26 s2 hst) (.cons (hv_obj (by simp) rfl (.sl (by simp) rfl (by simp) (.int (.bool (.int (.int (.int (.int (.int (.int (.bool (.int (.bool (.bool (.bool (.bool .nil)))))))))))))))) (.nil)) rfl ?_
          refine rs_mv rfl rfl ?_
          refine rs_calln [910, 913] rfl rfl (gc26 s hsm) (.cons (hv_obj (by simp) rfl (.sl (by simp) rfl (by simp) (.int (.bool (.int (.int (.int (.int (.int (.int (.bool (.int (.bool (.bool (.bool (.bool .nil)))))))))))))))) (.nil)) rfl ?_
          refine rs_calln [] rfl rfl (gc25e s2.rs s.rs (by have := hst.len; omega) hfin.rs) (.cons (hv_same rfl) (.cons (hv_same rfl) (.nil))) rfl ?_
          refine rs_not rfl rfl ?_
          refine rs_pick rfl rfl rfl ?_
          refine rs_mv rfl rfl ?_
          refine rs_mv rfl rfl ?_
          refine rs_rem (c := r) rfl rfl rfl (by decide) hr.symm ?_
          refine rs_cmp_t rfl rfl rfl rfl (by omega) ?_
          refine rs_pick rfl rfl rfl ?_
          refine rs_nil fun _ => ?_
          refine th_n ?_
          refine aw_cond rfl (fun _ => ?_) (fun h => by cases h)
          refine aw_seq ?_
          refine aw_reg ?_
          refine rs_mv rfl rfl ?_
          refine rs_mv rfl rfl ?_
          refine rs_mv rfl rfl ?_
          refine rs_mv rfl rfl ?_
          refine rs_cmp_t rfl rfl rfl rfl hfin.made ?_
          refine rs_pick rfl rfl rfl ?_
          refine rs_mv rfl rfl ?_
          refine rs_mv rfl rfl ?_
          refine rs_calln [900, 903] rfl rfl (gc26 s2 hst) (.cons (hv_obj (by simp) rfl (.sl (by simp) rfl (by simp) (.int (.bool (.int (.int (.int (.int (.int (.int (.bool (.int (.bool (.bool (.bool (.bool .nil)))))))))))))))) (.nil)) rfl ?_
          refine rs_mv rfl rfl ?_
          refine rs_calln [910, 913] rfl rfl (gc26 s hsm) (.cons (hv_obj (by simp) rfl (.sl (by simp) rfl (by simp) (.int (.bool (.int (.int (.int (.int (.int (.int (.bool (.int (.bool (.bool (.bool (.bool .nil)))))))))))))))) (.nil)) rfl ?_
          refine rs_calln [] rfl rfl (gc25e s2.rs s.rs (by have := hst.len; omega) hfin.rs) (.cons (hv_same rfl) (.cons (hv_same rfl) (.nil))) rfl ?_
          refine rs_pick rfl rfl rfl ?_
          refine rs_mv rfl rfl ?_
          refine rs_nil fun _ => ?_
          refine th_n ?_
          refine aw_ret ?_
          refine th_r ?_
          exact ret_pure rfl rfl rfl (.inr rfl)

end Go.Proofs.Ytigfcmcdjfmieaa

/-! The arguments of the laws of control, as they are read. -/
namespace Go.Proofs.Ytigfcmcdjfmieaa
open Go.RowKit Go.WideShapes Go.ChangeShapes Go.ChangeAt
set_option maxRecDepth 100000

theorem own_knob : ownKnob Try.prog.godebug = none := by kernel_rfl
theorem laid_out : laidOutB Try.prog = true := by kernel_rfl

theorem rd_i {H : Type} (d : DataW H) (h : Gd (.int .i64) d) : ∃ n : Int, True ∧ avD (.int .i64) d = ci n := by
  obtain ⟨n, _, e⟩ := rd_int d h
  exact ⟨n, trivial, e⟩
theorem rd_u8 {H : Type} (d : DataW H) (h : Gd (.int .u8) d) : ∃ n : Int, (0 ≤ n ∧ n < 256) ∧ avD (.int .u8) d = cu8 n := by
  obtain ⟨n, hw, e⟩ := rd_int d h
  have := bounds_u8 hw
  exact ⟨n, by omega, e⟩
abbrev shV : Sh := .st [.int .i64, .int .i64, .int .i64]
abbrev shM : Sh := .st [.int .i64, shV, shV, shV, .int .i64]
abbrev shE : Sh := .st [.int .i64, .int .i64]
abbrev shCase : Sh := .st [.sl 1 (.sl 1 (.int .i64)), .int .u8]
theorem rd_vec {H : Type} (d : DataW H) (h : Gd shV d) : ∃ v : V3, True ∧ avD shV d = cV v := by
  obtain ⟨ps, g, e⟩ := rd_st d h
  obtain ⟨d0, r0, g0, g, e0⟩ := rd_cons ps g
  obtain ⟨d1, r1, g1, g, e1⟩ := rd_cons r0 g
  obtain ⟨d2, r2, g2, g, e2⟩ := rd_cons r1 g
  obtain ⟨n0, _, a0⟩ := rd_i d0 g0
  obtain ⟨n1, _, a1⟩ := rd_i d1 g1
  obtain ⟨n2, _, a2⟩ := rd_i d2 g2
  exact ⟨⟨n0, n1, n2⟩, trivial, by rw [e, e0, e1, e2, rd_nil r2 g, a0, a1, a2]; rfl⟩
theorem rd_mv {H : Type} (d : DataW H) (h : Gd shM d) : ∃ m : Mv, True ∧ avD shM d = cM m := by
  obtain ⟨ps, g, e⟩ := rd_st d h
  obtain ⟨d0, r0, g0, g, e0⟩ := rd_cons ps g
  obtain ⟨d1, r1, g1, g, e1⟩ := rd_cons r0 g
  obtain ⟨d2, r2, g2, g, e2⟩ := rd_cons r1 g
  obtain ⟨d3, r3, g3, g, e3⟩ := rd_cons r2 g
  obtain ⟨d4, r4, g4, g, e4⟩ := rd_cons r3 g
  obtain ⟨n0, _, a0⟩ := rd_i d0 g0
  obtain ⟨v1, _, a1⟩ := rd_vec d1 g1
  obtain ⟨v2, _, a2⟩ := rd_vec d2 g2
  obtain ⟨v3, _, a3⟩ := rd_vec d3 g3
  obtain ⟨n4, _, a4⟩ := rd_i d4 g4
  exact ⟨⟨n0, v1, v2, v3, n4⟩, trivial, by rw [e, e0, e1, e2, e3, e4, rd_nil r4 g, a0, a1, a2, a3, a4]; rfl⟩
theorem rd_ev {H : Type} (d : DataW H) (h : Gd shE d) : ∃ p : Int × Int, True ∧ avD shE d = cE p := by
  obtain ⟨ps, g, e⟩ := rd_st d h
  obtain ⟨d0, r0, g0, g, e0⟩ := rd_cons ps g
  obtain ⟨d1, r1, g1, g, e1⟩ := rd_cons r0 g
  obtain ⟨n0, _, a0⟩ := rd_i d0 g0
  obtain ⟨n1, _, a1⟩ := rd_i d1 g1
  exact ⟨(n0, n1), trivial, by rw [e, e0, e1, rd_nil r1 g, a0, a1]; rfl⟩
theorem rd_ints {H : Type} (d : DataW H) (h : Gd (.sl 1 (.int .i64)) d) : ∃ L : List Int, L.length ≤ 140737488351232 ∧ avD (.sl 1 (.int .i64)) d = cL L := by
  obtain ⟨L, ⟨h1, _⟩, e⟩ := rd_sl (fun _ => True) ci rd_i d h
  exact ⟨L, h1, e⟩
theorem rd_case {H : Type} (d : DataW H) (h : Gd shCase d) : ∃ (ls : List (List Int)) (ev : Int), ((ls.length ≤ 140737488351232 ∧ ∀ L ∈ ls, L.length ≤ 140737488351232) ∧ (0 ≤ ev ∧ ev < 256)) ∧ argA shCase d = .agg [.rs 1 (ls.map cL), .int .u8 ev] := by
  obtain ⟨ps, g, e⟩ := rd_st d h
  obtain ⟨d0, r0, g0, g, e0⟩ := rd_cons ps g
  obtain ⟨d1, r1, g1, g, e1⟩ := rd_cons r0 g
  obtain ⟨n0, k0, a0⟩ := rd_sl _ cL rd_ints d0 g0
  obtain ⟨n1, k1, a1⟩ := rd_u8 d1 g1
  exact ⟨n0, n1, ⟨k0, k1⟩, by simp only [argA]; rw [e, e0, e1, rd_nil r1 g, a0, a1]; rfl⟩
end Go.Proofs.Ytigfcmcdjfmieaa
namespace Go.Proofs.Ytigfcmcdjfmieaa
open Go.RowKit Go.WideShapes Go.ChangeShapes Go.ChangeAt
set_option maxRecDepth 100000

abbrev shs6 : List Sh := [shCase, .sl 1 (.int .u8), .int .u8, .int .u8]

theorem lifted6 (os : Os) (started : os.Started) (H : Type) (enc : TypeId × Value → H) :
    ReturnsInHanded {} Try.checked os 6 .any (Rows.controlStopsSpec.pre6 enc Try.prog Try.f6 Rows.controlStopsRow.domain false) (Rows.controlStopsSpec.post enc Try.prog Try.f6 false true false false) := by
  refine law_row (C := Try.checked) own_knob started (by kernel_rfl) Try.func6 laid_out rfl (tb := 4) rfl Try.underlying4 shs6 (by kernel_rfl) (fun ds h => ?_)
    (ChangeSpec.witness6 (enc := enc) (C := Try.checked) false ⟨#[], #[.agg #[.slice none 0 0, .int .u8 0], .slice none 0 0, .int .u8 0, .int .u8 0], []⟩ 8 (by kernel_rfl) (by kernel_rfl) (by kernel_rfl) (by kernel_rfl)) fun ds hg => ⟨false, ?_⟩
  · match ds, h with
    | [_, _, _, _], _ => rfl
  · simp only [shs6, GdFs] at hg
    obtain ⟨d0, _, rfl, g0, d1, _, rfl, g1, d2, _, rfl, g2, d3, _, rfl, g3, rfl⟩ := hg
    obtain ⟨ls, ev, ⟨⟨hll, hls⟩, hev⟩, e0⟩ := rd_case d0 g0
    obtain ⟨l, ⟨hl_l, hr_l⟩, e1⟩ := rd_sl _ cu8 rd_u8 d1 g1
    obtain ⟨how, hu_how, e2⟩ := rd_u8 d2 g2
    obtain ⟨many, hu_many, e3⟩ := rd_u8 d3 g3
    have e : argAs shs6 [d0, d1, d2, d3] = [.agg [.rs 1 (ls.map cL), .int .u8 ev], .rs 1 (l.map cu8), .int .u8 how, .int .u8 many] := by
      simp only [argAs, shs6]
      rw [e0]
      simp only [argA]
      rw [e1, e2, e3]
      rfl
    rw [e]
    exact gc6 ls ev (fun L h => Nat.le_trans (hls L h) (by decide)) (Nat.le_trans hll (by decide)) hev l (Nat.le_trans hl_l (by decide)) hr_l how many hu_how hu_many

theorem over6 : Rows.controlStopsRow.holds Try.pinned (OpenSpec.ofChange Rows.controlStopsSpec) :=
  OpenClaim.holds_of_wide 6 Try.f6 rfl rfl rfl rfl rfl rfl rfl ⟨rfl, rfl, rfl, rfl, rfl⟩ rfl rfl rfl rfl rfl (by kernel_rfl) Try.func6 (by kernel_rfl)
    (of_decide_eq_true (by kernel_rfl)) (by unfold Func.isWrapper; rw [if_neg (of_decide_eq_false (by kernel_rfl))]; exact ⟨rfl, rfl⟩)
    (fun os started H enc _ => lifted6 os started H enc)

theorem controlStops_holds : Rows.ControlStopsSaid := over6
#print axioms controlStops_holds
end Go.Proofs.Ytigfcmcdjfmieaa
