/-
  Proved: colletlaw34.ControlFeeds returns true for every input, and its arguments read as before. No condition.
-/
import Derived.Test.YtigfcmcdjfmieaaK5
import Derived.Test.YtigfcmcdjfmieaaRows
set_option linter.unusedVariables false
set_option linter.unusedSimpArgs false

/-! Walks: C12. -/
namespace Go.Proofs.Ytigfcmcdjfmieaa
open Go.RowKit
set_option maxRecDepth 100000
set_option linter.unusedVariables false


def mcc5 : MC := (.seq (.reg [⟨(some 3), (.box 24 2 (.t 0)), none, []⟩, ⟨(some 4), (.box 53 2 (.t 1)), none, []⟩, ⟨(some 5), (.box 53 2 (.t 2)), none, []⟩, ⟨(some 6), (.mv (.c (.bool false))), none, []⟩] false) (.seq (.reg [⟨(some 22), (.call 9 []), none, []⟩, ⟨(some 7), (.mv (.t 22)), none, [0, 0, 0]⟩] false) (.seq (.reg [⟨(some 24), (.ld true 2 (.t 3)), none, []⟩, ⟨(some 25), (.call 10 [(.t 24)]), none, [0]⟩, ⟨(some 23), (.mv (.t 25)), none, [1]⟩, ⟨(some 26), (.ext (.t 23) 0), none, [2]⟩, ⟨(some 27), (.ext (.t 23) 1), none, [2]⟩, ⟨(some 8), (.mv (.t 26)), none, [3, 1, 0, 1, 2, 3]⟩, ⟨(some 9), (.mv (.t 27)), none, [4, 5, 0, 1, 2, 3, 4, 5]⟩] false) (.seq (.reg [⟨(some 28), (.mv (.t 8)), none, []⟩, ⟨(some 29), (.mv (.t 9)), none, []⟩, ⟨(some 30), (.call 12 [(.t 28), (.t 29)]), none, [0, 1]⟩, ⟨(some 10), (.mv (.t 30)), none, [2, 2, 0, 1, 2]⟩] false) (.seq (.seq (.reg [⟨(some 31), (.mv (.t 10)), none, []⟩, ⟨(some 32), (.isnil false false (.t 31)), none, [0]⟩] false) (.cond (.t 32) (.seq (.reg [⟨(some 6), (.mv (.c (.bool false))), none, []⟩] false) .ret) .skip)) (.seq (.reg [⟨(some 33), (.mv (.t 8)), none, []⟩, ⟨(some 34), (.call 28 [(.t 33)]), none, [0]⟩, ⟨(some 11), (.mv (.t 34)), none, [1, 1, 0, 1]⟩] false) (.seq (.reg [⟨(some 35), (.ixarr 2 1 (.t 4) (.c (.int .i64 0))), none, []⟩, ⟨(some 36), (.ld false 1 (.t 35)), none, [0]⟩, ⟨(some 37), (.cvt .i64 (.t 36)), none, [1]⟩, ⟨(some 38), (.bin .rem (.t 37) (.c (.int .i64 9))), none, [2]⟩, ⟨(some 39), (.bin .add (.c (.int .i64 1)) (.t 38)), none, [3]⟩, ⟨(some 40), (.ixarr 2 1 (.t 4) (.c (.int .i64 1))), none, []⟩, ⟨(some 41), (.ld false 1 (.t 40)), none, [5]⟩, ⟨(some 42), (.cvt .i64 (.t 41)), none, [6]⟩, ⟨(some 43), (.bin .rem (.t 42) (.c (.int .i64 9))), none, [7]⟩, ⟨(some 44), (.bin .add (.c (.int .i64 1)) (.t 43)), none, [8]⟩, ⟨(some 12), (.mv (.t 39)), none, [4, 0, 1, 2, 3, 4]⟩, ⟨(some 13), (.mv (.t 44)), none, [9, 10, 0, 1, 2, 3, 4, 5, 6, 7, 8, 9, 10]⟩] true) (.seq (.reg [⟨(some 45), (.ixarr 2 1 (.t 5) (.c (.int .i64 0))), none, []⟩, ⟨(some 46), (.ld false 1 (.t 45)), none, [0]⟩, ⟨(some 47), (.cvt .i64 (.t 46)), none, [1]⟩, ⟨(some 48), (.bin .rem (.t 47) (.c (.int .i64 60))), none, [2]⟩, ⟨(some 49), (.ixarr 2 1 (.t 5) (.c (.int .i64 1))), none, []⟩, ⟨(some 50), (.ld false 1 (.t 49)), none, [4]⟩, ⟨(some 51), (.cvt .i64 (.t 50)), none, [5]⟩, ⟨(some 52), (.bin .rem (.t 51) (.c (.int .i64 60))), none, [6]⟩, ⟨(some 14), (.mv (.t 48)), none, [3, 0, 1, 2, 3]⟩, ⟨(some 15), (.mv (.t 52)), none, [7, 8, 0, 1, 2, 3, 4, 5, 6, 7, 8]⟩] true) (.seq (.seq (.reg [⟨(some 53), (.mv (.t 10)), none, []⟩, ⟨(some 54), (.mv (.t 12)), none, []⟩, ⟨(some 55), (.call 29 [(.t 53), (.c (.int .i64 5)), (.t 54)]), none, [0, 1]⟩, ⟨(some 56), (.bin .neq (.t 55) (.c (.int .i64 0))), none, [2]⟩] false) (.cond (.t 56) (.seq (.reg [⟨(some 6), (.mv (.c (.bool false))), none, []⟩] false) .ret) .skip)) (.seq (.reg [⟨(some 16), (.mv (.c (.int .i64 0))), none, []⟩, ⟨(some 17), (.mv (.c (.int .i64 0))), none, [0, 0]⟩, ⟨(some 18), (.mv (.c (.int .i64 0))), none, [1, 0, 1]⟩] false) (.seq (.seq (.reg [⟨(some 19), (.mv (.c (.int .i64 0))), none, []⟩] false) (.block 0 (.loop (.seq (.seq (.reg [⟨(some 57), (.mv (.t 19)), none, []⟩, ⟨(some 58), (.mv (.t 14)), none, []⟩, ⟨(some 59), (.mv (.t 15)), none, []⟩, ⟨(some 60), (.bin .add (.t 58) (.t 59)), none, [1, 2]⟩, ⟨(some 61), (.bin .lss (.t 57) (.t 60)), none, [0, 3]⟩] false) (.cond (.t 61) .skip (.exit 0))) (.seq (.block 1 (.seq (.reg [⟨(some 64), (.mv (.t 12)), none, []⟩, ⟨(some 20), (.mv (.t 64)), none, [0, 0]⟩] false) (.seq (.seq (.reg [⟨(some 65), (.mv (.t 19)), none, []⟩, ⟨(some 66), (.mv (.t 14)), none, []⟩, ⟨(some 67), (.bin .geq (.t 65) (.t 66)), none, [0, 1]⟩] false) (.cond (.t 67) (.reg [⟨(some 68), (.mv (.t 13)), none, []⟩, ⟨(some 20), (.mv (.t 68)), none, [0, 0]⟩] false) .skip)) (.seq (.seq (.reg [⟨(some 69), (.mv (.t 19)), none, []⟩, ⟨(some 70), (.mv (.t 14)), none, []⟩, ⟨(some 71), (.bin .eql (.t 69) (.t 70)), none, [0, 1]⟩, ⟨(some 72), (.mv (.t 71)), none, [2]⟩, ⟨(some 73), (.mv (.t 10)), (some (72, true)), [3]⟩, ⟨(some 74), (.mv (.t 13)), (some (72, true)), [3]⟩, ⟨(some 75), (.call 29 [(.t 73), (.c (.int .i64 5)), (.t 74)]), (some (72, true)), [4, 5, 3, 3]⟩, ⟨(some 76), (.bin .neq (.t 75) (.c (.int .i64 0))), (some (72, true)), [6, 3]⟩, ⟨(some 77), (.pick (.t 72) (.t 76) (.c (.bool false))), none, [3, 7]⟩] false) (.cond (.t 77) (.seq (.reg [⟨(some 6), (.mv (.c (.bool false))), none, []⟩] false) .ret) .skip)) (.seq (.reg [⟨(some 78), (.mv (.t 10)), none, []⟩, ⟨(some 79), (.call 30 [(.t 78), (.c (.int .i64 1))]), none, [0]⟩, ⟨(some 21), (.mv (.t 79)), none, [1, 1, 0, 1]⟩] false) (.seq (.seq (.reg [⟨(some 80), (.mv (.t 17)), none, []⟩, ⟨(some 81), (.mv (.t 11)), none, []⟩, ⟨(some 82), (.bin .eql (.t 80) (.t 81)), none, [0, 1]⟩] false) (.cond (.t 82) (.seq (.seq (.reg [⟨(some 83), (.mv (.t 21)), none, []⟩, ⟨(some 84), (.bin .neq (.t 83) (.c (.int .i64 43))), none, [0]⟩] false) (.cond (.t 84) (.seq (.reg [⟨(some 6), (.mv (.c (.bool false))), none, []⟩] false) .ret) .skip)) (.exit 1)) .skip)) (.seq (.reg [⟨(some 85), (.mv (.t 16)), none, []⟩, ⟨(some 86), (.bin .add (.t 85) (.c (.int .i64 1))), none, [0]⟩, ⟨(some 16), (.mv (.t 86)), none, [1, 0, 1]⟩] false) (.seq (.reg [⟨(some 87), (.mv (.t 18)), none, []⟩, ⟨(some 88), (.bin .add (.t 87) (.c (.int .i64 1))), none, [0]⟩, ⟨(some 18), (.mv (.t 88)), none, [1, 0, 1]⟩] false) (.seq (.seq (.reg [⟨(some 89), (.mv (.t 18)), none, []⟩, ⟨(some 90), (.mv (.t 20)), none, []⟩, ⟨(some 91), (.bin .geq (.t 89) (.t 90)), none, [0, 1]⟩] false) (.cond (.t 91) (.seq (.reg [⟨(some 92), (.mv (.t 17)), none, []⟩, ⟨(some 93), (.bin .add (.t 92) (.c (.int .i64 1))), none, [0]⟩, ⟨(some 17), (.mv (.t 93)), none, [1, 0, 1]⟩] false) (.reg [⟨(some 18), (.mv (.c (.int .i64 0))), none, []⟩] false)) .skip)) (.seq (.seq (.reg [⟨(some 94), (.mv (.t 21)), none, []⟩, ⟨(some 95), (.bin .neq (.t 94) (.c (.int .i64 0))), none, [0]⟩, ⟨(some 96), (.mv (.t 95)), none, [1]⟩, ⟨(some 97), (.mv (.t 10)), (some (96, false)), [2]⟩, ⟨(some 98), (.mv (.t 17)), (some (96, false)), [2]⟩, ⟨(some 99), (.call 31 [(.t 97), (.t 98), (.c (.int .i64 (-1)))]), (some (96, false)), [3, 4, 2, 2]⟩, ⟨(some 100), (.un .not (.t 99)), (some (96, false)), [5, 2]⟩, ⟨(some 101), (.pick (.t 96) (.c (.bool true)) (.t 100)), none, [2, 6]⟩, ⟨(some 102), (.mv (.t 101)), none, [7, 5]⟩, ⟨(some 103), (.mv (.t 10)), (some (102, false)), [8]⟩, ⟨(some 104), (.call 23 [(.t 103)]), (some (102, false)), [9, 8, 8]⟩, ⟨(some 105), (.mv (.t 16)), (some (102, false)), [8]⟩, ⟨(some 106), (.bin .neq (.t 104) (.t 105)), (some (102, false)), [10, 11, 8]⟩, ⟨(some 107), (.pick (.t 102) (.c (.bool true)) (.t 106)), none, [8, 12]⟩] false) (.cond (.t 107) (.seq (.reg [⟨(some 6), (.mv (.c (.bool false))), none, []⟩] false) .ret) .skip)) (.seq (.reg [⟨(some 108), (.mv (.t 19)), none, []⟩, ⟨(some 109), (.mv (.t 14)), none, []⟩, ⟨(some 110), (.bin .lss (.t 108) (.t 109)), none, [0, 1]⟩, ⟨(some 111), (.mv (.t 110)), none, [2]⟩, ⟨(some 112), (.mv (.t 17)), (some (111, true)), [3]⟩, ⟨(some 113), (.mv (.t 11)), (some (111, true)), [3]⟩, ⟨(some 114), (.mv (.t 19)), (some (111, true)), [3]⟩, ⟨(some 115), (.bin .add (.t 114) (.c (.int .i64 1))), (some (111, true)), [6, 3]⟩, ⟨(some 116), (.mv (.t 12)), (some (111, true)), [3]⟩, ⟨(some 117), (.bin .quo (.t 115) (.t 116)), (some (111, true)), [7, 8, 3]⟩, ⟨(some 118), (.mn (.t 113) (.t 117)), (some (111, true)), [5, 9, 3]⟩, ⟨(some 119), (.bin .neq (.t 112) (.t 118)), (some (111, true)), [4, 10, 3]⟩, ⟨(some 120), (.pick (.t 111) (.t 119) (.c (.bool false))), none, [3, 11]⟩] false) (.cond (.t 120) (.seq (.reg [⟨(some 6), (.mv (.c (.bool false))), none, []⟩] false) .ret) .skip)))))))))))) (.reg [⟨(some 62), (.mv (.t 19)), none, []⟩, ⟨(some 63), (.bin .add (.t 62) (.c (.int .i64 1))), none, [0]⟩, ⟨(some 19), (.mv (.t 63)), none, [1, 0, 1]⟩] false)))))) (.seq (.reg [⟨(some 121), (.mv (.t 7)), none, []⟩, ⟨(some 6), (.mv (.t 121)), none, [0, 0]⟩] false) .ret))))))))))))
theorem mcOkc5 : (match Try.f5.body with | some c => compC Try.prog 122 c | none => none) = some mcc5 := by kernel_rfl

set_option maxHeartbeats 1000000 in
theorem gc5 (ls : List (List Int)) (ev : Int) (hls : ∀ L ∈ ls, L.length ≤ 4611686018427387904) (hlls : ls.length ≤ 4611686018427387904) (hev : 0 ≤ ev ∧ ev < 256) (f0 f1 m0 m1 : Int) (hf0 : 0 ≤ f0 ∧ f0 < 256) (hf1 : 0 ≤ f1 ∧ f1 < 256) (hm0 : 0 ≤ m0 ∧ m0 < 256) (hm1 : 0 ≤ m1 ∧ m1 < 256) : FC Try.prog 5 [.agg [.rs 1 (ls.map cL), .int .u8 ev], .agg [.int .u8 f0, .int .u8 f1], .agg [.int .u8 m0, .int .u8 m1]] [] (.bool true) [] false := by
  obtain ⟨p, n, h10, hnw, hpl, ha, hn⟩ := made_ex ls ev hls hlls hev
  have h12 := at12 900 901 902 rfl p n (by omega) hnw
  have h28 := gc28 p (by omega)
  generalize pstep p = a at h12 h28 ha
  have hI0 : Iv 0 (st0 a n) := iv_0 ⟨by omega, by omega⟩ ⟨by omega, by omega⟩
  have e0 : f0.tmod 9 = f0 % 9 := Int.tmod_eq_emod_of_nonneg hf0.1
  have e1 : f1.tmod 9 = f1 % 9 := Int.tmod_eq_emod_of_nonneg hf1.1
  have e2 : m0.tmod 60 = m0 % 60 := Int.tmod_eq_emod_of_nonneg hm0.1
  have e3 : m1.tmod 60 = m1 % 60 := Int.tmod_eq_emod_of_nonneg hm1.1
  obtain ⟨u1, hu1⟩ : ∃ u1, u1 = f0.tmod 9 := ⟨_, rfl⟩
  obtain ⟨u2, hu2⟩ : ∃ u2, u2 = f1.tmod 9 := ⟨_, rfl⟩
  have hb1 : 0 ≤ u1 ∧ u1 ≤ 8 := by omega
  have hb2 : 0 ≤ u2 ∧ u2 ≤ 8 := by omega
  obtain ⟨x, hx⟩ : ∃ x : Nat, (x : Int) = m0.tmod 60 := ⟨(m0.tmod 60).toNat, by omega⟩
  obtain ⟨y, hy⟩ : ∃ y : Nat, (y : Int) = m1.tmod 60 := ⟨(m1.tmod 60).toNat, by omega⟩
  obtain ⟨s0, hs0, hfd0⟩ := fd_feed (fd_0 (n := n) ha.1) (g := 1 + u1) (by omega)
  have hI1 := iv_do hI0 5 (1 + u1)
  rw [hs0] at hI1
  dsimp only at hI1
  have hL0 : L5 a n u1 u2 x y 0 s0 0 0 0 := ⟨by omega, by rw [if_pos (by omega)]; exact hfd0, hI1, by omega, by omega, by omega, fun _ _ => by omega⟩
  refine fc_run (nt := 122) Try.func5 rfl rfl mcOkc5 (Nat.le_of_ble_eq_true rfl) ?_
  delta mcc5
  refine aw_seq ?_
  refine aw_reg ?_
  refine rs_box rfl rfl rfl rfl rfl rfl ?_
  refine rs_box rfl rfl rfl rfl rfl rfl ?_
  refine rs_box rfl rfl rfl rfl rfl rfl ?_
  refine rs_mv rfl rfl ?_
  refine rs_nil fun _ => ?_
  refine th_n ?_
  refine aw_seq ?_
  refine aw_reg ?_
  refine rs_calln [] rfl rfl gc9 .nil rfl ?_
  refine rs_mv rfl rfl ?_
  refine rs_nil fun _ => ?_
  refine th_n ?_
  refine aw_seq ?_
  refine aw_reg ?_
  refine rs_ld_pa rfl rfl rfl rfl (Nat.le_of_ble_eq_true rfl) rfl ?_
  refine rs_callo [] rfl rfl (h10) (.cons (hv_same rfl) (.nil)) (.nil) rfl rfl rfl ?_
  refine rs_mv rfl rfl ?_
  refine rs_ext rfl rfl rfl ?_
  refine rs_ext rfl rfl rfl ?_
  refine rs_mv rfl rfl ?_
  refine rs_mv rfl rfl ?_
  refine rs_nil fun _ => ?_
  refine th_n ?_
  refine aw_seq ?_
  refine aw_reg ?_
  refine rs_mv rfl rfl ?_
  refine rs_mv rfl rfl ?_
  refine rs_calln [] rfl rfl (h12) (.cons (hv_same rfl) (.cons (hv_same rfl) (.nil))) rfl ?_
  refine rs_mv rfl rfl ?_
  refine rs_nil fun _ => ?_
  refine th_n ?_
  refine aw_seq ?_
  refine aw_seq ?_
  refine aw_reg ?_
  refine rs_mv rfl rfl ?_
  refine rs_nil_p rfl rfl (.inr ⟨_, _, _, rfl⟩) ?_
  refine rs_nil fun _ => ?_
  refine th_n ?_
  refine aw_cond rfl (fun h => by cases h) (fun _ => ?_)
  refine aw_skip ?_
  refine th_n ?_
  refine aw_seq ?_
  refine aw_reg ?_
  refine rs_mv rfl rfl ?_
  refine rs_calln [] rfl rfl (h28) (.cons (hv_same rfl) (.nil)) rfl ?_
  refine rs_mv rfl rfl ?_
  refine rs_nil fun _ => ?_
  refine th_n ?_
  refine aw_seq ?_
  refine aw_draw hmix ?_
  refine rs_ixarr_p rfl rfl rfl (by decide) (by decide) ?_
  refine rs_ld_p rfl rfl rfl rfl rfl ?_
  refine rs_cvt rfl rfl (W_eq (by omega)) ?_
  refine rs_rem (c := u1) rfl rfl rfl (by decide) hu1.symm ?_
  refine rs_add rfl rfl rfl (by omega) ?_
  refine rs_ixarr_p rfl rfl rfl (by decide) (by decide) ?_
  refine rs_ld_p rfl rfl rfl rfl rfl ?_
  refine rs_cvt rfl rfl (W_eq (by omega)) ?_
  refine rs_rem (c := u2) rfl rfl rfl (by decide) hu2.symm ?_
  refine rs_add rfl rfl rfl (by omega) ?_
  refine rs_mv rfl rfl ?_
  refine rs_mv rfl rfl ?_
  refine rs_nil ⟨by kernel_rfl, fun _ => ?_⟩
  refine th_n ?_
  refine aw_seq ?_
  refine aw_draw hmix ?_
  refine rs_ixarr_p rfl rfl rfl (by decide) (by decide) ?_
  refine rs_ld_p rfl rfl rfl rfl rfl ?_
  refine rs_cvt rfl rfl (W_eq (by omega)) ?_
  refine rs_rem (c := (x : Int)) rfl rfl rfl (by decide) hx.symm ?_
  refine rs_ixarr_p rfl rfl rfl (by decide) (by decide) ?_
  refine rs_ld_p rfl rfl rfl rfl rfl ?_
  refine rs_cvt rfl rfl (W_eq (by omega)) ?_
  refine rs_rem (c := (y : Int)) rfl rfl rfl (by decide) hy.symm ?_
  refine rs_mv rfl rfl ?_
  refine rs_mv rfl rfl ?_
  refine rs_nil ⟨by kernel_rfl, fun _ => ?_⟩
  refine th_n ?_
  refine aw_seq ?_
  refine aw_seq ?_
  refine aw_reg ?_
  refine rs_mv rfl rfl ?_
  refine rs_mv rfl rfl ?_
  refine rs_callo (hC 900 901 (st0 a n)) rfl rfl (at29 900 901 902 rfl (st0 a n) s0 5 (1 + u1) 0 (hI0.sm (by decide)) hs0) (.cons (hv_same rfl) (.cons (hv_same rfl) (.cons (hv_same rfl) (.nil)))) (.cons rfl (.cons rfl (.nil))) rfl rfl rfl ?_
  refine rs_cmp_f rfl rfl rfl rfl (fun h => h rfl) ?_
  refine rs_nil fun _ => ?_
  refine th_n ?_
  refine aw_cond rfl (fun h => by cases h) (fun _ => ?_)
  refine aw_skip ?_
  refine th_n ?_
  refine aw_seq ?_
  refine aw_reg ?_
  refine rs_mv rfl rfl ?_
  refine rs_mv rfl rfl ?_
  refine rs_mv rfl rfl ?_
  refine rs_nil fun _ => ?_
  refine th_n ?_
  refine aw_seq ?_
  refine aw_seq ?_
  refine aw_reg ?_
  refine rs_mv rfl rfl ?_
  refine rs_nil fun _ => ?_
  refine th_n ?_
  refine aw_block ?_
  refine aw_fam (α := Q5) (fun q => x + y - q.k) (fun q => [(7, .bool true), (10, .ptr 900 0 0), (11, iv a), (12, iv (1 + u1)), (13, iv (1 + u2)), (14, iv (x : Int)), (15, iv (y : Int)), (16, iv (q.rn)), (17, iv (q.m)), (18, iv (q.sc)), (19, iv (((q.k) : Nat) : Int))]) (fun q => [(900, ctlO 903 q.s), (903, rowO q.s.rs)]) (fun q => L5 a n u1 u2 x y q.k q.s q.rn q.m q.sc) ⟨0, s0, 0, 0, 0⟩ (hL0)
    (show Weak _ _ _ _ [(7, .bool true), (10, .ptr 900 0 0), (11, iv a), (12, iv (1 + u1)), (13, iv (1 + u2)), (14, iv (x : Int)), (15, iv (y : Int)), (16, iv (0)), (17, iv (0)), (18, iv (0)), (19, iv (((0) : Nat) : Int))] [(900, ctlO 903 s0), (903, rowO s0.rs)] from Weak.trans (F1 := [(7, .bool true), (10, .ptr 900 0 0), (11, iv a), (12, iv (1 + u1)), (13, iv (1 + u2)), (14, iv (x : Int)), (15, iv (y : Int)), (16, iv (0)), (17, iv (0)), (18, iv (0)), (19, iv (((0) : Nat) : Int))]) (H1 := [(900, ctlO 902 s0), (902, rowO s0.rs)]) (weak_to (.cons rfl (rc_same rfl (.inl rfl)) (.cons rfl (rc_same rfl (.inl rfl)) (.cons rfl (rc_same rfl (.inl rfl)) (.cons rfl (rc_same rfl (.inl rfl)) (.cons rfl (rc_same rfl (.inl rfl)) (.cons rfl (rc_same rfl (.inl rfl)) (.cons rfl (rc_same rfl (.inl rfl)) (.cons rfl (rc_same rfl (.inl rfl)) (.cons rfl (rc_same rfl (.inl rfl)) (.cons rfl (rc_same rfl (.inl rfl)) (.cons rfl (rc_same rfl (.inl rfl)) (.nil)))))))))))) (.keep (rfl) rfl (.keep (rfl) rfl (.nil))) fun i h => by cases h) (Weak.trans (F1 := [(7, .bool true), (10, .ptr 900 0 0), (11, iv a), (12, iv (1 + u1)), (13, iv (1 + u2)), (14, iv (x : Int)), (15, iv (y : Int)), (16, iv (0)), (17, iv (0)), (18, iv (0)), (19, iv (((0) : Nat) : Int))]) (weak_ren_row (i := 902) (i' := 903) (k := 900) rfl rfl (.cons rfl (.same _) (.cons rfl (.same _) (.cons rfl (.same _) (.cons rfl (.same _) (.cons rfl (.same _) (.cons rfl (.same _) (.cons rfl (.same _) (.cons rfl (.same _) (.cons rfl (.same _) (.cons rfl (.same _) (.cons rfl (.same _) (.nil)))))))))))) (by decide) rfl (.cons (.sl _ _) (RenL.refl _ _ _))) (weak_to (.cons rfl (rc_same rfl (.inl rfl)) (.cons rfl (rc_same rfl (.inl rfl)) (.cons rfl (rc_same rfl (.inl rfl)) (.cons rfl (rc_same rfl (.inl rfl)) (.cons rfl (rc_same rfl (.inl rfl)) (.cons rfl (rc_same rfl (.inl rfl)) (.cons rfl (rc_same rfl (.inl rfl)) (.cons rfl (rc_same rfl (.inl rfl)) (.cons rfl (rc_same rfl (.inl rfl)) (.cons rfl (rc_same rfl (.inl rfl)) (.cons rfl (rc_same rfl (.inl rfl)) (.nil)))))))))))) (.keep (rfl) rfl (.keep (rfl) rfl (.nil))) fun i h => by cases h))) ?_
  rintro ⟨k, s, rn, m, sc⟩ hL
  dsimp only at hL
  try dsimp only
  have hLm := hL.hm
  have hLs := hL.hsc
  have hLr := hL.hrn
  have hLk := hL.hkk
  refine aw_seq ?_
  refine aw_seq ?_
  refine aw_reg ?_
  refine rs_mv rfl rfl ?_
  refine rs_mv rfl rfl ?_
  refine rs_mv rfl rfl ?_
  refine rs_add rfl rfl rfl (by omega) ?_
  refine rs_lss rfl rfl rfl ?_
  refine rs_nil fun _ => ?_
  refine th_n ?_
  refine aw_cond rfl (fun h61 => ?_) (fun h61 => ?_)
  · replace h61 := of_decide_eq_true h61
    refine aw_skip ?_
    refine th_n ?_
    refine aw_seq ?_
    refine aw_block ?_
    refine aw_seq ?_
    refine aw_reg ?_
    refine rs_mv rfl rfl ?_
    refine rs_mv rfl rfl ?_
    refine rs_nil fun _ => ?_
    refine th_n ?_
    refine aw_seq ?_
    refine aw_seq ?_
    refine aw_reg ?_
    refine rs_mv rfl rfl ?_
    refine rs_mv rfl rfl ?_
    refine rs_geq rfl rfl rfl ?_
    refine rs_nil fun _ => ?_
    refine th_n ?_
    refine aw_cond rfl (fun h67 => ?_) (fun h67 => ?_)
    · replace h67 := of_decide_eq_true h67
      refine aw_reg ?_
      refine rs_mv rfl rfl ?_
      refine rs_mv rfl rfl ?_
      refine rs_nil fun _ => ?_
      refine th_n ?_
      refine aw_seq ?_
      refine aw_seq ?_
      refine aw_reg ?_
      refine rs_mv rfl rfl ?_
      refine rs_mv rfl rfl ?_
      refine rs_cmp rfl rfl rfl rfl (fun h71 => ?_) (fun h71 => ?_)
      · skip
        refine rs_mv rfl rfl ?_
        refine rs_mv rfl rfl ?_
        refine rs_mv rfl rfl ?_
        obtain ⟨s', hs1, hfd'⟩ := fd_feed hL.fd (g := 1 + u2) (by omega)
        have hIs : Iv (2 + 2 * k) s' := by
          have := iv_do hL.iv 5 (1 + u2)
          rw [hs1] at this
          exact this.mono (by omega)
        refine rs_callo (hC 900 903 s) rfl rfl (at29 900 903 904 rfl s s' 5 (1 + u2) 0 (hL.iv.sm (by omega)) hs1) (.cons (hv_same rfl) (.cons (hv_same rfl) (.cons (hv_same rfl) (.nil)))) (.cons rfl (.cons rfl (.nil))) rfl rfl rfl ?_
        refine rs_cmp_f rfl rfl rfl rfl (fun h => h rfl) ?_
        refine rs_pick rfl rfl rfl ?_
        refine rs_nil fun _ => ?_
        refine th_n ?_
        refine aw_cond rfl (fun h => by cases h) (fun _ => ?_)
        refine aw_skip ?_
        refine th_n ?_
        refine aw_seq ?_
        refine aw_reg ?_
        refine rs_mv rfl rfl ?_
        have hfd : FD a n (if k < x then 1 + u1 else 1 + u2) m sc rn s' := by
          rw [if_neg (by omega)]
          exact hfd'
        have hI2 := iv_do hIs 1 0
        have heA : m = a → (doS s' 1 0).1 = 43 ∧ (doS s' 1 0).2 = s' := fun h => by rw [fd_end (h ▸ hfd)]; exact ⟨rfl, rfl⟩
        have heB : m < a → (doS s' 1 0).1 = 0 := fun h => by
          obtain ⟨s3, h3, _⟩ := fd_tick hfd h
          rw [h3]
        have hs2 : tkS s' 1 = doS s' 1 0 := rfl
        have hF2 : m < a → (sc + 1 ≥ (if k < x then 1 + u1 else 1 + u2) → FD a n (if k < x then 1 + u1 else 1 + u2) (m + 1) 0 (rn + 1) (doS s' 1 0).2) ∧ (¬ sc + 1 ≥ (if k < x then 1 + u1 else 1 + u2) → FD a n (if k < x then 1 + u1 else 1 + u2) m (sc + 1) (rn + 1) (doS s' 1 0).2) := fun h => by
          obtain ⟨s3, h3, h4⟩ := fd_tick hfd h
          rw [h3]
          exact h4
        generalize hq : doS s' 1 0 = q at hI2 heA heB hF2 hs2
        obtain ⟨e, s2⟩ := q
        dsimp only at hI2 heA heB hF2
        refine rs_callo (hC 900 904 s') rfl rfl (at30 900 904 905 rfl s' s2 1 e _ hIs (by omega) hs2) (.cons (hv_same rfl) (.cons (hv_same rfl) (.nil))) (.cons rfl (.cons rfl (.nil))) rfl rfl rfl ?_
        refine rs_mv rfl rfl ?_
        refine rs_nil fun _ => ?_
        refine th_n ?_
        refine aw_seq ?_
        refine aw_seq ?_
        refine aw_reg ?_
        refine rs_mv rfl rfl ?_
        refine rs_mv rfl rfl ?_
        refine rs_eql rfl rfl rfl ?_
        refine rs_nil fun _ => ?_
        refine th_n ?_
        refine aw_cond rfl (fun h82 => ?_) (fun h82 => ?_)
        · replace h82 := of_decide_eq_true h82
          replace heA := heA h82
          obtain ⟨heA, rfl⟩ := heA
          have heA := fun (_ : m = a) => heA
          refine aw_seq ?_
          refine aw_seq ?_
          refine aw_reg ?_
          refine rs_mv rfl rfl ?_
          refine rs_cmp_f rfl rfl rfl rfl (fun h => h (heA h82)) ?_
          refine rs_nil fun _ => ?_
          refine th_n ?_
          refine aw_cond rfl (fun h => by cases h) (fun _ => ?_)
          refine aw_skip ?_
          refine th_n ?_
          refine aw_exit ?_
          refine th_e ?_
          refine in_hit ?_
          refine th_n ?_
          refine aw_reg ?_
          refine rs_mv rfl rfl ?_
          refine rs_add rfl rfl rfl (by omega) ?_
          refine rs_mv rfl rfl ?_
          refine rs_nil fun _ => ?_
          refine th_n ?_
          (refine ⟨⟨k + 1, s2, rn, m, sc⟩, hL.next_a (by omega) h82 hfd (hI2.mono (by omega)), by dsimp only; omega, ?_⟩
           exact show Weak _ _ _ _ [(7, .bool true), (10, .ptr 900 0 0), (11, iv a), (12, iv (1 + u1)), (13, iv (1 + u2)), (14, iv (x : Int)), (15, iv (y : Int)), (16, iv (rn)), (17, iv (m)), (18, iv (sc)), (19, iv (((k + 1) : Nat) : Int))] [(900, ctlO 903 s2), (903, rowO s2.rs)] from Weak.trans (F1 := [(7, .bool true), (10, .ptr 900 0 0), (11, iv a), (12, iv (1 + u1)), (13, iv (1 + u2)), (14, iv (x : Int)), (15, iv (y : Int)), (16, iv (rn)), (17, iv (m)), (18, iv (sc)), (19, iv (((k + 1) : Nat) : Int))]) (H1 := [(900, ctlO 905 s2), (905, rowO s2.rs)]) (weak_to (.cons rfl (rc_same rfl (.inl rfl)) (.cons rfl (rc_same rfl (.inl rfl)) (.cons rfl (rc_same rfl (.inl rfl)) (.cons rfl (rc_same rfl (.inl rfl)) (.cons rfl (rc_same rfl (.inl rfl)) (.cons rfl (rc_same rfl (.inl rfl)) (.cons rfl (rc_same rfl (.inl rfl)) (.cons rfl (rc_same rfl (.inl rfl)) (.cons rfl (rc_same rfl (.inl rfl)) (.cons rfl (rc_same rfl (.inl rfl)) (.cons rfl (rc_same rfl (.inl rfl)) (.nil)))))))))))) (.keep (rfl) rfl (.keep (rfl) rfl (.nil))) fun i h => by cases h) (Weak.trans (F1 := [(7, .bool true), (10, .ptr 900 0 0), (11, iv a), (12, iv (1 + u1)), (13, iv (1 + u2)), (14, iv (x : Int)), (15, iv (y : Int)), (16, iv (rn)), (17, iv (m)), (18, iv (sc)), (19, iv (((k + 1) : Nat) : Int))]) (weak_ren_row (i := 905) (i' := 903) (k := 900) rfl rfl (.cons rfl (.same _) (.cons rfl (.same _) (.cons rfl (.same _) (.cons rfl (.same _) (.cons rfl (.same _) (.cons rfl (.same _) (.cons rfl (.same _) (.cons rfl (.same _) (.cons rfl (.same _) (.cons rfl (.same _) (.cons rfl (.same _) (.nil)))))))))))) (by decide) rfl (.cons (.sl _ _) (RenL.refl _ _ _))) (weak_to (.cons rfl (rc_same rfl (.inl rfl)) (.cons rfl (rc_same rfl (.inl rfl)) (.cons rfl (rc_same rfl (.inl rfl)) (.cons rfl (rc_same rfl (.inl rfl)) (.cons rfl (rc_same rfl (.inl rfl)) (.cons rfl (rc_same rfl (.inl rfl)) (.cons rfl (rc_same rfl (.inl rfl)) (.cons rfl (rc_same rfl (.inl rfl)) (.cons rfl (rc_same rfl (.inl rfl)) (.cons rfl (rc_same rfl (.inl rfl)) (.cons rfl (rc_same rfl (.inl rfl)) (.nil)))))))))))) (.keep (rfl) rfl (.keep (rfl) rfl (.nil))) fun i h => by cases h)))
        · replace h82 := of_decide_eq_false h82
          refine aw_skip ?_
          refine th_n ?_
          refine aw_seq ?_
          refine aw_reg ?_
          refine rs_mv rfl rfl ?_
          refine rs_add rfl rfl rfl (by omega) ?_
          refine rs_mv rfl rfl ?_
          refine rs_nil fun _ => ?_
          refine th_n ?_
          refine aw_seq ?_
          refine aw_reg ?_
          refine rs_mv rfl rfl ?_
          refine rs_add rfl rfl rfl (by omega) ?_
          refine rs_mv rfl rfl ?_
          refine rs_nil fun _ => ?_
          refine th_n ?_
          refine aw_seq ?_
          refine aw_seq ?_
          refine aw_reg ?_
          refine rs_mv rfl rfl ?_
          refine rs_mv rfl rfl ?_
          refine rs_geq rfl rfl rfl ?_
          refine rs_nil fun _ => ?_
          refine th_n ?_
          refine aw_cond rfl (fun h91 => ?_) (fun h91 => ?_)
          · replace h91 := of_decide_eq_true h91
            have hge : sc + 1 ≥ (if k < x then 1 + u1 else 1 + u2) := by
              rw [if_neg (by omega)]
              exact h91
            have hF := (hF2 (by omega)).1 hge
            refine aw_seq ?_
            refine aw_reg ?_
            refine rs_mv rfl rfl ?_
            refine rs_add rfl rfl rfl (by omega) ?_
            refine rs_mv rfl rfl ?_
            refine rs_nil fun _ => ?_
            refine th_n ?_
            refine aw_reg ?_
            refine rs_mv rfl rfl ?_
            refine rs_nil fun _ => ?_
            refine th_n ?_
            refine aw_seq ?_
            refine aw_seq ?_
            refine aw_reg ?_
            refine rs_mv rfl rfl ?_
            refine rs_cmp_f rfl rfl rfl rfl (fun h => h (heB (by omega))) ?_
            refine rs_mv rfl rfl ?_
            refine rs_mv rfl rfl ?_
            refine rs_mv rfl rfl ?_
            refine rs_calln [900, 905] rfl rfl (gc31 s2 (m + 1) (-1) true (hI2.sm (by omega)) (by rw [hF.made, brkV, hF.broken]; simp)) (.cons (hv_obj (by simp) rfl (.sl (by simp) rfl (by simp) (.int (.bool (.int (.int (.int (.int (.int (.int (.bool (.int (.bool (.bool (.bool (.bool .nil)))))))))))))))) (.cons (hv_same rfl) (.cons (hv_same rfl) (.nil)))) rfl ?_
            refine rs_not rfl rfl ?_
            refine rs_pick rfl rfl rfl ?_
            refine rs_mv rfl rfl ?_
            refine rs_mv rfl rfl ?_
            refine rs_calln [900, 905] rfl rfl (gc23 s2 (hI2.sm (by omega))) (.cons (hv_obj (by simp) rfl (.sl (by simp) rfl (by simp) (.int (.bool (.int (.int (.int (.int (.int (.int (.bool (.int (.bool (.bool (.bool (.bool .nil)))))))))))))))) (.nil)) rfl ?_
            refine rs_mv rfl rfl ?_
            refine rs_cmp_f rfl rfl rfl rfl (fun h => h hF.ran) ?_
            refine rs_pick rfl rfl rfl ?_
            refine rs_nil fun _ => ?_
            refine th_n ?_
            refine aw_cond rfl (fun h => by cases h) (fun _ => ?_)
            refine aw_skip ?_
            refine th_n ?_
            refine aw_seq ?_
            refine aw_reg ?_
            refine rs_mv rfl rfl ?_
            refine rs_mv rfl rfl ?_
            refine rs_cmp_f rfl rfl rfl rfl (by omega) ?_
            refine rs_mv rfl rfl ?_
            refine rs_skip rfl ?_
            refine rs_skip rfl ?_
            refine rs_skip rfl ?_
            refine rs_skip rfl ?_
            refine rs_skip rfl ?_
            refine rs_skip rfl ?_
            refine rs_skip rfl ?_
            refine rs_skip rfl ?_
            refine rs_pick rfl rfl rfl ?_
            refine rs_nil fun _ => ?_
            refine th_n ?_
            refine aw_cond rfl (fun h => by cases h) (fun _ => ?_)
            refine aw_skip ?_
            refine in_n ?_
            refine th_n ?_
            refine aw_reg ?_
            refine rs_mv rfl rfl ?_
            refine rs_add rfl rfl rfl (by omega) ?_
            refine rs_mv rfl rfl ?_
            refine rs_nil fun _ => ?_
            refine th_n ?_
            (refine ⟨⟨k + 1, s2, rn + 1, m + 1, 0⟩, hL.next_t (by omega) (by omega) hge hb1.1 hF (hI2.mono (by omega)), by dsimp only; omega, ?_⟩
             exact show Weak _ _ _ _ [(7, .bool true), (10, .ptr 900 0 0), (11, iv a), (12, iv (1 + u1)), (13, iv (1 + u2)), (14, iv (x : Int)), (15, iv (y : Int)), (16, iv (rn + 1)), (17, iv (m + 1)), (18, iv (0)), (19, iv (((k + 1) : Nat) : Int))] [(900, ctlO 903 s2), (903, rowO s2.rs)] from Weak.trans (F1 := [(7, .bool true), (10, .ptr 900 0 0), (11, iv a), (12, iv (1 + u1)), (13, iv (1 + u2)), (14, iv (x : Int)), (15, iv (y : Int)), (16, iv (rn + 1)), (17, iv (m + 1)), (18, iv (0)), (19, iv (((k + 1) : Nat) : Int))]) (H1 := [(900, ctlO 905 s2), (905, rowO s2.rs)]) (weak_to (.cons rfl (rc_same rfl (.inl rfl)) (.cons rfl (rc_same rfl (.inl rfl)) (.cons rfl (rc_same rfl (.inl rfl)) (.cons rfl (rc_same rfl (.inl rfl)) (.cons rfl (rc_same rfl (.inl rfl)) (.cons rfl (rc_same rfl (.inl rfl)) (.cons rfl (rc_same rfl (.inl rfl)) (.cons rfl (rc_same rfl (.inl rfl)) (.cons rfl (rc_same rfl (.inl rfl)) (.cons rfl (rc_same rfl (.inl rfl)) (.cons rfl (rc_same rfl (.inl rfl)) (.nil)))))))))))) (.keep (rfl) rfl (.keep (rfl) rfl (.nil))) fun i h => by cases h) (Weak.trans (F1 := [(7, .bool true), (10, .ptr 900 0 0), (11, iv a), (12, iv (1 + u1)), (13, iv (1 + u2)), (14, iv (x : Int)), (15, iv (y : Int)), (16, iv (rn + 1)), (17, iv (m + 1)), (18, iv (0)), (19, iv (((k + 1) : Nat) : Int))]) (weak_ren_row (i := 905) (i' := 903) (k := 900) rfl rfl (.cons rfl (.same _) (.cons rfl (.same _) (.cons rfl (.same _) (.cons rfl (.same _) (.cons rfl (.same _) (.cons rfl (.same _) (.cons rfl (.same _) (.cons rfl (.same _) (.cons rfl (.same _) (.cons rfl (.same _) (.cons rfl (.same _) (.nil)))))))))))) (by decide) rfl (.cons (.sl _ _) (RenL.refl _ _ _))) (weak_to (.cons rfl (rc_same rfl (.inl rfl)) (.cons rfl (rc_same rfl (.inl rfl)) (.cons rfl (rc_same rfl (.inl rfl)) (.cons rfl (rc_same rfl (.inl rfl)) (.cons rfl (rc_same rfl (.inl rfl)) (.cons rfl (rc_same rfl (.inl rfl)) (.cons rfl (rc_same rfl (.inl rfl)) (.cons rfl (rc_same rfl (.inl rfl)) (.cons rfl (rc_same rfl (.inl rfl)) (.cons rfl (rc_same rfl (.inl rfl)) (.cons rfl (rc_same rfl (.inl rfl)) (.nil)))))))))))) (.keep (rfl) rfl (.keep (rfl) rfl (.nil))) fun i h => by cases h)))
          · replace h91 := of_decide_eq_false h91
            have hge : ¬ sc + 1 ≥ (if k < x then 1 + u1 else 1 + u2) := by
              rw [if_neg (by omega)]
              exact h91
            have hF := (hF2 (by omega)).2 hge
            refine aw_skip ?_
            refine th_n ?_
            refine aw_seq ?_
            refine aw_seq ?_
            refine aw_reg ?_
            refine rs_mv rfl rfl ?_
            refine rs_cmp_f rfl rfl rfl rfl (fun h => h (heB (by omega))) ?_
            refine rs_mv rfl rfl ?_
            refine rs_mv rfl rfl ?_
            refine rs_mv rfl rfl ?_
            refine rs_calln [900, 905] rfl rfl (gc31 s2 m (-1) true (hI2.sm (by omega)) (by rw [hF.made, brkV, hF.broken]; simp)) (.cons (hv_obj (by simp) rfl (.sl (by simp) rfl (by simp) (.int (.bool (.int (.int (.int (.int (.int (.int (.bool (.int (.bool (.bool (.bool (.bool .nil)))))))))))))))) (.cons (hv_same rfl) (.cons (hv_same rfl) (.nil)))) rfl ?_
            refine rs_not rfl rfl ?_
            refine rs_pick rfl rfl rfl ?_
            refine rs_mv rfl rfl ?_
            refine rs_mv rfl rfl ?_
            refine rs_calln [900, 905] rfl rfl (gc23 s2 (hI2.sm (by omega))) (.cons (hv_obj (by simp) rfl (.sl (by simp) rfl (by simp) (.int (.bool (.int (.int (.int (.int (.int (.int (.bool (.int (.bool (.bool (.bool (.bool .nil)))))))))))))))) (.nil)) rfl ?_
            refine rs_mv rfl rfl ?_
            refine rs_cmp_f rfl rfl rfl rfl (fun h => h hF.ran) ?_
            refine rs_pick rfl rfl rfl ?_
            refine rs_nil fun _ => ?_
            refine th_n ?_
            refine aw_cond rfl (fun h => by cases h) (fun _ => ?_)
            refine aw_skip ?_
            refine th_n ?_
            refine aw_seq ?_
            refine aw_reg ?_
            refine rs_mv rfl rfl ?_
            refine rs_mv rfl rfl ?_
            refine rs_cmp_f rfl rfl rfl rfl (by omega) ?_
            refine rs_mv rfl rfl ?_
            refine rs_skip rfl ?_
            refine rs_skip rfl ?_
            refine rs_skip rfl ?_
            refine rs_skip rfl ?_
            refine rs_skip rfl ?_
            refine rs_skip rfl ?_
            refine rs_skip rfl ?_
            refine rs_skip rfl ?_
            refine rs_pick rfl rfl rfl ?_
            refine rs_nil fun _ => ?_
            refine th_n ?_
            refine aw_cond rfl (fun h => by cases h) (fun _ => ?_)
            refine aw_skip ?_
            refine in_n ?_
            refine th_n ?_
            refine aw_reg ?_
            refine rs_mv rfl rfl ?_
            refine rs_add rfl rfl rfl (by omega) ?_
            refine rs_mv rfl rfl ?_
            refine rs_nil fun _ => ?_
            refine th_n ?_
            (refine ⟨⟨k + 1, s2, rn + 1, m, sc + 1⟩, hL.next_f (by omega) (by omega) hge hF (hI2.mono (by omega)), by dsimp only; omega, ?_⟩
             exact show Weak _ _ _ _ [(7, .bool true), (10, .ptr 900 0 0), (11, iv a), (12, iv (1 + u1)), (13, iv (1 + u2)), (14, iv (x : Int)), (15, iv (y : Int)), (16, iv (rn + 1)), (17, iv (m)), (18, iv (sc + 1)), (19, iv (((k + 1) : Nat) : Int))] [(900, ctlO 903 s2), (903, rowO s2.rs)] from Weak.trans (F1 := [(7, .bool true), (10, .ptr 900 0 0), (11, iv a), (12, iv (1 + u1)), (13, iv (1 + u2)), (14, iv (x : Int)), (15, iv (y : Int)), (16, iv (rn + 1)), (17, iv (m)), (18, iv (sc + 1)), (19, iv (((k + 1) : Nat) : Int))]) (H1 := [(900, ctlO 905 s2), (905, rowO s2.rs)]) (weak_to (.cons rfl (rc_same rfl (.inl rfl)) (.cons rfl (rc_same rfl (.inl rfl)) (.cons rfl (rc_same rfl (.inl rfl)) (.cons rfl (rc_same rfl (.inl rfl)) (.cons rfl (rc_same rfl (.inl rfl)) (.cons rfl (rc_same rfl (.inl rfl)) (.cons rfl (rc_same rfl (.inl rfl)) (.cons rfl (rc_same rfl (.inl rfl)) (.cons rfl (rc_same rfl (.inl rfl)) (.cons rfl (rc_same rfl (.inl rfl)) (.cons rfl (rc_same rfl (.inl rfl)) (.nil)))))))))))) (.keep (rfl) rfl (.keep (rfl) rfl (.nil))) fun i h => by cases h) (Weak.trans (F1 := [(7, .bool true), (10, .ptr 900 0 0), (11, iv a), (12, iv (1 + u1)), (13, iv (1 + u2)), (14, iv (x : Int)), (15, iv (y : Int)), (16, iv (rn + 1)), (17, iv (m)), (18, iv (sc + 1)), (19, iv (((k + 1) : Nat) : Int))]) (weak_ren_row (i := 905) (i' := 903) (k := 900) rfl rfl (.cons rfl (.same _) (.cons rfl (.same _) (.cons rfl (.same _) (.cons rfl (.same _) (.cons rfl (.same _) (.cons rfl (.same _) (.cons rfl (.same _) (.cons rfl (.same _) (.cons rfl (.same _) (.cons rfl (.same _) (.cons rfl (.same _) (.nil)))))))))))) (by decide) rfl (.cons (.sl _ _) (RenL.refl _ _ _))) (weak_to (.cons rfl (rc_same rfl (.inl rfl)) (.cons rfl (rc_same rfl (.inl rfl)) (.cons rfl (rc_same rfl (.inl rfl)) (.cons rfl (rc_same rfl (.inl rfl)) (.cons rfl (rc_same rfl (.inl rfl)) (.cons rfl (rc_same rfl (.inl rfl)) (.cons rfl (rc_same rfl (.inl rfl)) (.cons rfl (rc_same rfl (.inl rfl)) (.cons rfl (rc_same rfl (.inl rfl)) (.cons rfl (rc_same rfl (.inl rfl)) (.cons rfl (rc_same rfl (.inl rfl)) (.nil)))))))))))) (.keep (rfl) rfl (.keep (rfl) rfl (.nil))) fun i h => by cases h)))
      · skip
        refine rs_mv rfl rfl ?_
        refine rs_skip rfl ?_
        refine rs_skip rfl ?_
        refine rs_skip rfl ?_
        refine rs_skip rfl ?_
        refine rs_pick rfl rfl rfl ?_
        refine rs_nil fun _ => ?_
        refine th_n ?_
        refine aw_cond rfl (fun h => by cases h) (fun _ => ?_)
        refine aw_skip ?_
        refine th_n ?_
        refine aw_seq ?_
        refine aw_reg ?_
        refine rs_mv rfl rfl ?_
        have hfd : FD a n (if k < x then 1 + u1 else 1 + u2) m sc rn s := by
          rw [if_neg (by omega)]
          have := hL.fd
          rwa [if_neg (by omega)] at this
        have hIs : Iv (2 + 2 * k) s := hL.iv.mono (by omega)
        have hI2 := iv_do hIs 1 0
        have heA : m = a → (doS s 1 0).1 = 43 ∧ (doS s 1 0).2 = s := fun h => by rw [fd_end (h ▸ hfd)]; exact ⟨rfl, rfl⟩
        have heB : m < a → (doS s 1 0).1 = 0 := fun h => by
          obtain ⟨s3, h3, _⟩ := fd_tick hfd h
          rw [h3]
        have hs2 : tkS s 1 = doS s 1 0 := rfl
        have hF2 : m < a → (sc + 1 ≥ (if k < x then 1 + u1 else 1 + u2) → FD a n (if k < x then 1 + u1 else 1 + u2) (m + 1) 0 (rn + 1) (doS s 1 0).2) ∧ (¬ sc + 1 ≥ (if k < x then 1 + u1 else 1 + u2) → FD a n (if k < x then 1 + u1 else 1 + u2) m (sc + 1) (rn + 1) (doS s 1 0).2) := fun h => by
          obtain ⟨s3, h3, h4⟩ := fd_tick hfd h
          rw [h3]
          exact h4
        generalize hq : doS s 1 0 = q at hI2 heA heB hF2 hs2
        obtain ⟨e, s2⟩ := q
        dsimp only at hI2 heA heB hF2
        refine rs_callo (hC 900 903 s) rfl rfl (at30 900 903 905 rfl s s2 1 e _ hIs (by omega) hs2) (.cons (hv_same rfl) (.cons (hv_same rfl) (.nil))) (.cons rfl (.cons rfl (.nil))) rfl rfl rfl ?_
        refine rs_mv rfl rfl ?_
        refine rs_nil fun _ => ?_
        refine th_n ?_
        refine aw_seq ?_
        refine aw_seq ?_
        refine aw_reg ?_
        refine rs_mv rfl rfl ?_
        refine rs_mv rfl rfl ?_
        refine rs_eql rfl rfl rfl ?_
        refine rs_nil fun _ => ?_
        refine th_n ?_
        refine aw_cond rfl (fun h82 => ?_) (fun h82 => ?_)
        · replace h82 := of_decide_eq_true h82
          replace heA := heA h82
          obtain ⟨heA, rfl⟩ := heA
          have heA := fun (_ : m = a) => heA
          refine aw_seq ?_
          refine aw_seq ?_
          refine aw_reg ?_
          refine rs_mv rfl rfl ?_
          refine rs_cmp_f rfl rfl rfl rfl (fun h => h (heA h82)) ?_
          refine rs_nil fun _ => ?_
          refine th_n ?_
          refine aw_cond rfl (fun h => by cases h) (fun _ => ?_)
          refine aw_skip ?_
          refine th_n ?_
          refine aw_exit ?_
          refine th_e ?_
          refine in_hit ?_
          refine th_n ?_
          refine aw_reg ?_
          refine rs_mv rfl rfl ?_
          refine rs_add rfl rfl rfl (by omega) ?_
          refine rs_mv rfl rfl ?_
          refine rs_nil fun _ => ?_
          refine th_n ?_
          (refine ⟨⟨k + 1, s2, rn, m, sc⟩, hL.next_a (by omega) h82 hfd (hI2.mono (by omega)), by dsimp only; omega, ?_⟩
           exact show Weak _ _ _ _ [(7, .bool true), (10, .ptr 900 0 0), (11, iv a), (12, iv (1 + u1)), (13, iv (1 + u2)), (14, iv (x : Int)), (15, iv (y : Int)), (16, iv (rn)), (17, iv (m)), (18, iv (sc)), (19, iv (((k + 1) : Nat) : Int))] [(900, ctlO 903 s2), (903, rowO s2.rs)] from Weak.trans (F1 := [(7, .bool true), (10, .ptr 900 0 0), (11, iv a), (12, iv (1 + u1)), (13, iv (1 + u2)), (14, iv (x : Int)), (15, iv (y : Int)), (16, iv (rn)), (17, iv (m)), (18, iv (sc)), (19, iv (((k + 1) : Nat) : Int))]) (H1 := [(900, ctlO 905 s2), (905, rowO s2.rs)]) (weak_to (.cons rfl (rc_same rfl (.inl rfl)) (.cons rfl (rc_same rfl (.inl rfl)) (.cons rfl (rc_same rfl (.inl rfl)) (.cons rfl (rc_same rfl (.inl rfl)) (.cons rfl (rc_same rfl (.inl rfl)) (.cons rfl (rc_same rfl (.inl rfl)) (.cons rfl (rc_same rfl (.inl rfl)) (.cons rfl (rc_same rfl (.inl rfl)) (.cons rfl (rc_same rfl (.inl rfl)) (.cons rfl (rc_same rfl (.inl rfl)) (.cons rfl (rc_same rfl (.inl rfl)) (.nil)))))))))))) (.keep (rfl) rfl (.keep (rfl) rfl (.nil))) fun i h => by cases h) (Weak.trans (F1 := [(7, .bool true), (10, .ptr 900 0 0), (11, iv a), (12, iv (1 + u1)), (13, iv (1 + u2)), (14, iv (x : Int)), (15, iv (y : Int)), (16, iv (rn)), (17, iv (m)), (18, iv (sc)), (19, iv (((k + 1) : Nat) : Int))]) (weak_ren_row (i := 905) (i' := 903) (k := 900) rfl rfl (.cons rfl (.same _) (.cons rfl (.same _) (.cons rfl (.same _) (.cons rfl (.same _) (.cons rfl (.same _) (.cons rfl (.same _) (.cons rfl (.same _) (.cons rfl (.same _) (.cons rfl (.same _) (.cons rfl (.same _) (.cons rfl (.same _) (.nil)))))))))))) (by decide) rfl (.cons (.sl _ _) (RenL.refl _ _ _))) (weak_to (.cons rfl (rc_same rfl (.inl rfl)) (.cons rfl (rc_same rfl (.inl rfl)) (.cons rfl (rc_same rfl (.inl rfl)) (.cons rfl (rc_same rfl (.inl rfl)) (.cons rfl (rc_same rfl (.inl rfl)) (.cons rfl (rc_same rfl (.inl rfl)) (.cons rfl (rc_same rfl (.inl rfl)) (.cons rfl (rc_same rfl (.inl rfl)) (.cons rfl (rc_same rfl (.inl rfl)) (.cons rfl (rc_same rfl (.inl rfl)) (.cons rfl (rc_same rfl (.inl rfl)) (.nil)))))))))))) (.keep (rfl) rfl (.keep (rfl) rfl (.nil))) fun i h => by cases h)))
        · replace h82 := of_decide_eq_false h82
          refine aw_skip ?_
          refine th_n ?_
          refine aw_seq ?_
          refine aw_reg ?_
          refine rs_mv rfl rfl ?_
          refine rs_add rfl rfl rfl (by omega) ?_
          refine rs_mv rfl rfl ?_
          refine rs_nil fun _ => ?_
          refine th_n ?_
          refine aw_seq ?_
          refine aw_reg ?_
          refine rs_mv rfl rfl ?_
          refine rs_add rfl rfl rfl (by omega) ?_
          refine rs_mv rfl rfl ?_
          refine rs_nil fun _ => ?_
          refine th_n ?_
          refine aw_seq ?_
          refine aw_seq ?_
          refine aw_reg ?_
          refine rs_mv rfl rfl ?_
          refine rs_mv rfl rfl ?_
          refine rs_geq rfl rfl rfl ?_
          refine rs_nil fun _ => ?_
          refine th_n ?_
          refine aw_cond rfl (fun h91 => ?_) (fun h91 => ?_)
          · replace h91 := of_decide_eq_true h91
            have hge : sc + 1 ≥ (if k < x then 1 + u1 else 1 + u2) := by
              rw [if_neg (by omega)]
              exact h91
            have hF := (hF2 (by omega)).1 hge
            refine aw_seq ?_
            refine aw_reg ?_
            refine rs_mv rfl rfl ?_
            refine rs_add rfl rfl rfl (by omega) ?_
            refine rs_mv rfl rfl ?_
            refine rs_nil fun _ => ?_
            refine th_n ?_
            refine aw_reg ?_
            refine rs_mv rfl rfl ?_
            refine rs_nil fun _ => ?_
            refine th_n ?_
            refine aw_seq ?_
            refine aw_seq ?_
            refine aw_reg ?_
            refine rs_mv rfl rfl ?_
            refine rs_cmp_f rfl rfl rfl rfl (fun h => h (heB (by omega))) ?_
            refine rs_mv rfl rfl ?_
            refine rs_mv rfl rfl ?_
            refine rs_mv rfl rfl ?_
            refine rs_calln [900, 905] rfl rfl (gc31 s2 (m + 1) (-1) true (hI2.sm (by omega)) (by rw [hF.made, brkV, hF.broken]; simp)) (.cons (hv_obj (by simp) rfl (.sl (by simp) rfl (by simp) (.int (.bool (.int (.int (.int (.int (.int (.int (.bool (.int (.bool (.bool (.bool (.bool .nil)))))))))))))))) (.cons (hv_same rfl) (.cons (hv_same rfl) (.nil)))) rfl ?_
            refine rs_not rfl rfl ?_
            refine rs_pick rfl rfl rfl ?_
            refine rs_mv rfl rfl ?_
            refine rs_mv rfl rfl ?_
            refine rs_calln [900, 905] rfl rfl (gc23 s2 (hI2.sm (by omega))) (.cons (hv_obj (by simp) rfl (.sl (by simp) rfl (by simp) (.int (.bool (.int (.int (.int (.int (.int (.int (.bool (.int (.bool (.bool (.bool (.bool .nil)))))))))))))))) (.nil)) rfl ?_
            refine rs_mv rfl rfl ?_
            refine rs_cmp_f rfl rfl rfl rfl (fun h => h hF.ran) ?_
            refine rs_pick rfl rfl rfl ?_
            refine rs_nil fun _ => ?_
            refine th_n ?_
            refine aw_cond rfl (fun h => by cases h) (fun _ => ?_)
            refine aw_skip ?_
            refine th_n ?_
            refine aw_seq ?_
            refine aw_reg ?_
            refine rs_mv rfl rfl ?_
            refine rs_mv rfl rfl ?_
            refine rs_cmp_f rfl rfl rfl rfl (by omega) ?_
            refine rs_mv rfl rfl ?_
            refine rs_skip rfl ?_
            refine rs_skip rfl ?_
            refine rs_skip rfl ?_
            refine rs_skip rfl ?_
            refine rs_skip rfl ?_
            refine rs_skip rfl ?_
            refine rs_skip rfl ?_
            refine rs_skip rfl ?_
            refine rs_pick rfl rfl rfl ?_
            refine rs_nil fun _ => ?_
            refine th_n ?_
            refine aw_cond rfl (fun h => by cases h) (fun _ => ?_)
            refine aw_skip ?_
            refine in_n ?_
            refine th_n ?_
            refine aw_reg ?_
            refine rs_mv rfl rfl ?_
            refine rs_add rfl rfl rfl (by omega) ?_
            refine rs_mv rfl rfl ?_
            refine rs_nil fun _ => ?_
            refine th_n ?_
            (refine ⟨⟨k + 1, s2, rn + 1, m + 1, 0⟩, hL.next_t (by omega) (by omega) hge hb1.1 hF (hI2.mono (by omega)), by dsimp only; omega, ?_⟩
             exact show Weak _ _ _ _ [(7, .bool true), (10, .ptr 900 0 0), (11, iv a), (12, iv (1 + u1)), (13, iv (1 + u2)), (14, iv (x : Int)), (15, iv (y : Int)), (16, iv (rn + 1)), (17, iv (m + 1)), (18, iv (0)), (19, iv (((k + 1) : Nat) : Int))] [(900, ctlO 903 s2), (903, rowO s2.rs)] from Weak.trans (F1 := [(7, .bool true), (10, .ptr 900 0 0), (11, iv a), (12, iv (1 + u1)), (13, iv (1 + u2)), (14, iv (x : Int)), (15, iv (y : Int)), (16, iv (rn + 1)), (17, iv (m + 1)), (18, iv (0)), (19, iv (((k + 1) : Nat) : Int))]) (H1 := [(900, ctlO 905 s2), (905, rowO s2.rs)]) (weak_to (.cons rfl (rc_same rfl (.inl rfl)) (.cons rfl (rc_same rfl (.inl rfl)) (.cons rfl (rc_same rfl (.inl rfl)) (.cons rfl (rc_same rfl (.inl rfl)) (.cons rfl (rc_same rfl (.inl rfl)) (.cons rfl (rc_same rfl (.inl rfl)) (.cons rfl (rc_same rfl (.inl rfl)) (.cons rfl (rc_same rfl (.inl rfl)) (.cons rfl (rc_same rfl (.inl rfl)) (.cons rfl (rc_same rfl (.inl rfl)) (.cons rfl (rc_same rfl (.inl rfl)) (.nil)))))))))))) (.keep (rfl) rfl (.keep (rfl) rfl (.nil))) fun i h => by cases h) (Weak.trans (F1 := [(7, .bool true), (10, .ptr 900 0 0), (11, iv a), (12, iv (1 + u1)), (13, iv (1 + u2)), (14, iv (x : Int)), (15, iv (y : Int)), (16, iv (rn + 1)), (17, iv (m + 1)), (18, iv (0)), (19, iv (((k + 1) : Nat) : Int))]) (weak_ren_row (i := 905) (i' := 903) (k := 900) rfl rfl (.cons rfl (.same _) (.cons rfl (.same _) (.cons rfl (.same _) (.cons rfl (.same _) (.cons rfl (.same _) (.cons rfl (.same _) (.cons rfl (.same _) (.cons rfl (.same _) (.cons rfl (.same _) (.cons rfl (.same _) (.cons rfl (.same _) (.nil)))))))))))) (by decide) rfl (.cons (.sl _ _) (RenL.refl _ _ _))) (weak_to (.cons rfl (rc_same rfl (.inl rfl)) (.cons rfl (rc_same rfl (.inl rfl)) (.cons rfl (rc_same rfl (.inl rfl)) (.cons rfl (rc_same rfl (.inl rfl)) (.cons rfl (rc_same rfl (.inl rfl)) (.cons rfl (rc_same rfl (.inl rfl)) (.cons rfl (rc_same rfl (.inl rfl)) (.cons rfl (rc_same rfl (.inl rfl)) (.cons rfl (rc_same rfl (.inl rfl)) (.cons rfl (rc_same rfl (.inl rfl)) (.cons rfl (rc_same rfl (.inl rfl)) (.nil)))))))))))) (.keep (rfl) rfl (.keep (rfl) rfl (.nil))) fun i h => by cases h)))
          · replace h91 := of_decide_eq_false h91
            have hge : ¬ sc + 1 ≥ (if k < x then 1 + u1 else 1 + u2) := by
              rw [if_neg (by omega)]
              exact h91
            have hF := (hF2 (by omega)).2 hge
            refine aw_skip ?_
            refine th_n ?_
            refine aw_seq ?_
            refine aw_seq ?_
            refine aw_reg ?_
            refine rs_mv rfl rfl ?_
            refine rs_cmp_f rfl rfl rfl rfl (fun h => h (heB (by omega))) ?_
            refine rs_mv rfl rfl ?_
            refine rs_mv rfl rfl ?_
            refine rs_mv rfl rfl ?_
            refine rs_calln [900, 905] rfl rfl (gc31 s2 m (-1) true (hI2.sm (by omega)) (by rw [hF.made, brkV, hF.broken]; simp)) (.cons (hv_obj (by simp) rfl (.sl (by simp) rfl (by simp) (.int (.bool (.int (.int (.int (.int (.int (.int (.bool (.int (.bool (.bool (.bool (.bool .nil)))))))))))))))) (.cons (hv_same rfl) (.cons (hv_same rfl) (.nil)))) rfl ?_
            refine rs_not rfl rfl ?_
            refine rs_pick rfl rfl rfl ?_
            refine rs_mv rfl rfl ?_
            refine rs_mv rfl rfl ?_
            refine rs_calln [900, 905] rfl rfl (gc23 s2 (hI2.sm (by omega))) (.cons (hv_obj (by simp) rfl (.sl (by simp) rfl (by simp) (.int (.bool (.int (.int (.int (.int (.int (.int (.bool (.int (.bool (.bool (.bool (.bool .nil)))))))))))))))) (.nil)) rfl ?_
            refine rs_mv rfl rfl ?_
            refine rs_cmp_f rfl rfl rfl rfl (fun h => h hF.ran) ?_
            refine rs_pick rfl rfl rfl ?_
            refine rs_nil fun _ => ?_
            refine th_n ?_
            refine aw_cond rfl (fun h => by cases h) (fun _ => ?_)
            refine aw_skip ?_
            refine th_n ?_
            refine aw_seq ?_
            refine aw_reg ?_
            refine rs_mv rfl rfl ?_
            refine rs_mv rfl rfl ?_
            refine rs_cmp_f rfl rfl rfl rfl (by omega) ?_
            refine rs_mv rfl rfl ?_
            refine rs_skip rfl ?_
            refine rs_skip rfl ?_
            refine rs_skip rfl ?_
            refine rs_skip rfl ?_
            refine rs_skip rfl ?_
            refine rs_skip rfl ?_
            refine rs_skip rfl ?_
            refine rs_skip rfl ?_
            refine rs_pick rfl rfl rfl ?_
            refine rs_nil fun _ => ?_
            refine th_n ?_
            refine aw_cond rfl (fun h => by cases h) (fun _ => ?_)
            refine aw_skip ?_
            refine in_n ?_
            refine th_n ?_
            refine aw_reg ?_
            refine rs_mv rfl rfl ?_
            refine rs_add rfl rfl rfl (by omega) ?_
            refine rs_mv rfl rfl ?_
            refine rs_nil fun _ => ?_
            refine th_n ?_
            (refine ⟨⟨k + 1, s2, rn + 1, m, sc + 1⟩, hL.next_f (by omega) (by omega) hge hF (hI2.mono (by omega)), by dsimp only; omega, ?_⟩
             exact show Weak _ _ _ _ [(7, .bool true), (10, .ptr 900 0 0), (11, iv a), (12, iv (1 + u1)), (13, iv (1 + u2)), (14, iv (x : Int)), (15, iv (y : Int)), (16, iv (rn + 1)), (17, iv (m)), (18, iv (sc + 1)), (19, iv (((k + 1) : Nat) : Int))] [(900, ctlO 903 s2), (903, rowO s2.rs)] from Weak.trans (F1 := [(7, .bool true), (10, .ptr 900 0 0), (11, iv a), (12, iv (1 + u1)), (13, iv (1 + u2)), (14, iv (x : Int)), (15, iv (y : Int)), (16, iv (rn + 1)), (17, iv (m)), (18, iv (sc + 1)), (19, iv (((k + 1) : Nat) : Int))]) (H1 := [(900, ctlO 905 s2), (905, rowO s2.rs)]) (weak_to (.cons rfl (rc_same rfl (.inl rfl)) (.cons rfl (rc_same rfl (.inl rfl)) (.cons rfl (rc_same rfl (.inl rfl)) (.cons rfl (rc_same rfl (.inl rfl)) (.cons rfl (rc_same rfl (.inl rfl)) (.cons rfl (rc_same rfl (.inl rfl)) (.cons rfl (rc_same rfl (.inl rfl)) (.cons rfl (rc_same rfl (.inl rfl)) (.cons rfl (rc_same rfl (.inl rfl)) (.cons rfl (rc_same rfl (.inl rfl)) (.cons rfl (rc_same rfl (.inl rfl)) (.nil)))))))))))) (.keep (rfl) rfl (.keep (rfl) rfl (.nil))) fun i h => by cases h) (Weak.trans (F1 := [(7, .bool true), (10, .ptr 900 0 0), (11, iv a), (12, iv (1 + u1)), (13, iv (1 + u2)), (14, iv (x : Int)), (15, iv (y : Int)), (16, iv (rn + 1)), (17, iv (m)), (18, iv (sc + 1)), (19, iv (((k + 1) : Nat) : Int))]) (weak_ren_row (i := 905) (i' := 903) (k := 900) rfl rfl (.cons rfl (.same _) (.cons rfl (.same _) (.cons rfl (.same _) (.cons rfl (.same _) (.cons rfl (.same _) (.cons rfl (.same _) (.cons rfl (.same _) (.cons rfl (.same _) (.cons rfl (.same _) (.cons rfl (.same _) (.cons rfl (.same _) (.nil)))))))))))) (by decide) rfl (.cons (.sl _ _) (RenL.refl _ _ _))) (weak_to (.cons rfl (rc_same rfl (.inl rfl)) (.cons rfl (rc_same rfl (.inl rfl)) (.cons rfl (rc_same rfl (.inl rfl)) (.cons rfl (rc_same rfl (.inl rfl)) (.cons rfl (rc_same rfl (.inl rfl)) (.cons rfl (rc_same rfl (.inl rfl)) (.cons rfl (rc_same rfl (.inl rfl)) (.cons rfl (rc_same rfl (.inl rfl)) (.cons rfl (rc_same rfl (.inl rfl)) (.cons rfl (rc_same rfl (.inl rfl)) (.cons rfl (rc_same rfl (.inl rfl)) (.nil)))))))))))) (.keep (rfl) rfl (.keep (rfl) rfl (.nil))) fun i h => by cases h)))
    · replace h67 := of_decide_eq_false h67
      refine aw_skip ?_
      refine th_n ?_
      refine aw_seq ?_
      refine aw_seq ?_
      refine aw_reg ?_
      refine rs_mv rfl rfl ?_
      refine rs_mv rfl rfl ?_
      refine rs_cmp_f rfl rfl rfl rfl (by omega) ?_
      refine rs_mv rfl rfl ?_
      refine rs_skip rfl ?_
      refine rs_skip rfl ?_
      refine rs_skip rfl ?_
      refine rs_skip rfl ?_
      refine rs_pick rfl rfl rfl ?_
      refine rs_nil fun _ => ?_
      refine th_n ?_
      refine aw_cond rfl (fun h => by cases h) (fun _ => ?_)
      refine aw_skip ?_
      refine th_n ?_
      refine aw_seq ?_
      refine aw_reg ?_
      refine rs_mv rfl rfl ?_
      have hfd : FD a n (if k < x then 1 + u1 else 1 + u2) m sc rn s := by
        rw [if_pos (by omega)]
        have := hL.fd
        rwa [if_pos (by omega)] at this
      have hIs : Iv (2 + 2 * k) s := hL.iv.mono (by omega)
      have hI2 := iv_do hIs 1 0
      have heA : m = a → (doS s 1 0).1 = 43 ∧ (doS s 1 0).2 = s := fun h => by rw [fd_end (h ▸ hfd)]; exact ⟨rfl, rfl⟩
      have heB : m < a → (doS s 1 0).1 = 0 := fun h => by
        obtain ⟨s3, h3, _⟩ := fd_tick hfd h
        rw [h3]
      have hs2 : tkS s 1 = doS s 1 0 := rfl
      have hF2 : m < a → (sc + 1 ≥ (if k < x then 1 + u1 else 1 + u2) → FD a n (if k < x then 1 + u1 else 1 + u2) (m + 1) 0 (rn + 1) (doS s 1 0).2) ∧ (¬ sc + 1 ≥ (if k < x then 1 + u1 else 1 + u2) → FD a n (if k < x then 1 + u1 else 1 + u2) m (sc + 1) (rn + 1) (doS s 1 0).2) := fun h => by
        obtain ⟨s3, h3, h4⟩ := fd_tick hfd h
        rw [h3]
        exact h4
      generalize hq : doS s 1 0 = q at hI2 heA heB hF2 hs2
      obtain ⟨e, s2⟩ := q
      dsimp only at hI2 heA heB hF2
      refine rs_callo (hC 900 903 s) rfl rfl (at30 900 903 905 rfl s s2 1 e _ hIs (by omega) hs2) (.cons (hv_same rfl) (.cons (hv_same rfl) (.nil))) (.cons rfl (.cons rfl (.nil))) rfl rfl rfl ?_
      refine rs_mv rfl rfl ?_
      refine rs_nil fun _ => ?_
      refine th_n ?_
      refine aw_seq ?_
      refine aw_seq ?_
      refine aw_reg ?_
      refine rs_mv rfl rfl ?_
      refine rs_mv rfl rfl ?_
      refine rs_eql rfl rfl rfl ?_
      refine rs_nil fun _ => ?_
      refine th_n ?_
      refine aw_cond rfl (fun h82 => ?_) (fun h82 => ?_)
      · replace h82 := of_decide_eq_true h82
        replace heA := heA h82
        obtain ⟨heA, rfl⟩ := heA
        have heA := fun (_ : m = a) => heA
        refine aw_seq ?_
        refine aw_seq ?_
        refine aw_reg ?_
        refine rs_mv rfl rfl ?_
        refine rs_cmp_f rfl rfl rfl rfl (fun h => h (heA h82)) ?_
        refine rs_nil fun _ => ?_
        refine th_n ?_
        refine aw_cond rfl (fun h => by cases h) (fun _ => ?_)
        refine aw_skip ?_
        refine th_n ?_
        refine aw_exit ?_
        refine th_e ?_
        refine in_hit ?_
        refine th_n ?_
        refine aw_reg ?_
        refine rs_mv rfl rfl ?_
        refine rs_add rfl rfl rfl (by omega) ?_
        refine rs_mv rfl rfl ?_
        refine rs_nil fun _ => ?_
        refine th_n ?_
        (refine ⟨⟨k + 1, s2, rn, m, sc⟩, hL.next_a (by omega) h82 hfd (hI2.mono (by omega)), by dsimp only; omega, ?_⟩
         exact show Weak _ _ _ _ [(7, .bool true), (10, .ptr 900 0 0), (11, iv a), (12, iv (1 + u1)), (13, iv (1 + u2)), (14, iv (x : Int)), (15, iv (y : Int)), (16, iv (rn)), (17, iv (m)), (18, iv (sc)), (19, iv (((k + 1) : Nat) : Int))] [(900, ctlO 903 s2), (903, rowO s2.rs)] from Weak.trans (F1 := [(7, .bool true), (10, .ptr 900 0 0), (11, iv a), (12, iv (1 + u1)), (13, iv (1 + u2)), (14, iv (x : Int)), (15, iv (y : Int)), (16, iv (rn)), (17, iv (m)), (18, iv (sc)), (19, iv (((k + 1) : Nat) : Int))]) (H1 := [(900, ctlO 905 s2), (905, rowO s2.rs)]) (weak_to (.cons rfl (rc_same rfl (.inl rfl)) (.cons rfl (rc_same rfl (.inl rfl)) (.cons rfl (rc_same rfl (.inl rfl)) (.cons rfl (rc_same rfl (.inl rfl)) (.cons rfl (rc_same rfl (.inl rfl)) (.cons rfl (rc_same rfl (.inl rfl)) (.cons rfl (rc_same rfl (.inl rfl)) (.cons rfl (rc_same rfl (.inl rfl)) (.cons rfl (rc_same rfl (.inl rfl)) (.cons rfl (rc_same rfl (.inl rfl)) (.cons rfl (rc_same rfl (.inl rfl)) (.nil)))))))))))) (.keep (rfl) rfl (.keep (rfl) rfl (.nil))) fun i h => by cases h) (Weak.trans (F1 := [(7, .bool true), (10, .ptr 900 0 0), (11, iv a), (12, iv (1 + u1)), (13, iv (1 + u2)), (14, iv (x : Int)), (15, iv (y : Int)), (16, iv (rn)), (17, iv (m)), (18, iv (sc)), (19, iv (((k + 1) : Nat) : Int))]) (weak_ren_row (i := 905) (i' := 903) (k := 900) rfl rfl (.cons rfl (.same _) (.cons rfl (.same _) (.cons rfl (.same _) (.cons rfl (.same _) (.cons rfl (.same _) (.cons rfl (.same _) (.cons rfl (.same _) (.cons rfl (.same _) (.cons rfl (.same _) (.cons rfl (.same _) (.cons rfl (.same _) (.nil)))))))))))) (by decide) rfl (.cons (.sl _ _) (RenL.refl _ _ _))) (weak_to (.cons rfl (rc_same rfl (.inl rfl)) (.cons rfl (rc_same rfl (.inl rfl)) (.cons rfl (rc_same rfl (.inl rfl)) (.cons rfl (rc_same rfl (.inl rfl)) (.cons rfl (rc_same rfl (.inl rfl)) (.cons rfl (rc_same rfl (.inl rfl)) (.cons rfl (rc_same rfl (.inl rfl)) (.cons rfl (rc_same rfl (.inl rfl)) (.cons rfl (rc_same rfl (.inl rfl)) (.cons rfl (rc_same rfl (.inl rfl)) (.cons rfl (rc_same rfl (.inl rfl)) (.nil)))))))))))) (.keep (rfl) rfl (.keep (rfl) rfl (.nil))) fun i h => by cases h)))
      · replace h82 := of_decide_eq_false h82
        refine aw_skip ?_
        refine th_n ?_
        refine aw_seq ?_
        refine aw_reg ?_
        refine rs_mv rfl rfl ?_
        refine rs_add rfl rfl rfl (by omega) ?_
        refine rs_mv rfl rfl ?_
        refine rs_nil fun _ => ?_
        refine th_n ?_
        refine aw_seq ?_
        refine aw_reg ?_
        refine rs_mv rfl rfl ?_
        refine rs_add rfl rfl rfl (by omega) ?_
        refine rs_mv rfl rfl ?_
        refine rs_nil fun _ => ?_
        refine th_n ?_
        refine aw_seq ?_
        refine aw_seq ?_
        refine aw_reg ?_
        refine rs_mv rfl rfl ?_
        refine rs_mv rfl rfl ?_
        refine rs_geq rfl rfl rfl ?_
        refine rs_nil fun _ => ?_
        refine th_n ?_
        refine aw_cond rfl (fun h91 => ?_) (fun h91 => ?_)
        · replace h91 := of_decide_eq_true h91
          have hge : sc + 1 ≥ (if k < x then 1 + u1 else 1 + u2) := by
            rw [if_pos (by omega)]
            exact h91
          have hF := (hF2 (by omega)).1 hge
          refine aw_seq ?_
          refine aw_reg ?_
          refine rs_mv rfl rfl ?_
          refine rs_add rfl rfl rfl (by omega) ?_
          refine rs_mv rfl rfl ?_
          refine rs_nil fun _ => ?_
          refine th_n ?_
          refine aw_reg ?_
          refine rs_mv rfl rfl ?_
          refine rs_nil fun _ => ?_
          refine th_n ?_
          refine aw_seq ?_
          refine aw_seq ?_
          refine aw_reg ?_
          refine rs_mv rfl rfl ?_
          refine rs_cmp_f rfl rfl rfl rfl (fun h => h (heB (by omega))) ?_
          refine rs_mv rfl rfl ?_
          refine rs_mv rfl rfl ?_
          refine rs_mv rfl rfl ?_
          refine rs_calln [900, 905] rfl rfl (gc31 s2 (m + 1) (-1) true (hI2.sm (by omega)) (by rw [hF.made, brkV, hF.broken]; simp)) (.cons (hv_obj (by simp) rfl (.sl (by simp) rfl (by simp) (.int (.bool (.int (.int (.int (.int (.int (.int (.bool (.int (.bool (.bool (.bool (.bool .nil)))))))))))))))) (.cons (hv_same rfl) (.cons (hv_same rfl) (.nil)))) rfl ?_
          refine rs_not rfl rfl ?_
          refine rs_pick rfl rfl rfl ?_
          refine rs_mv rfl rfl ?_
          refine rs_mv rfl rfl ?_
          refine rs_calln [900, 905] rfl rfl (gc23 s2 (hI2.sm (by omega))) (.cons (hv_obj (by simp) rfl (.sl (by simp) rfl (by simp) (.int (.bool (.int (.int (.int (.int (.int (.int (.bool (.int (.bool (.bool (.bool (.bool .nil)))))))))))))))) (.nil)) rfl ?_
          refine rs_mv rfl rfl ?_
          refine rs_cmp_f rfl rfl rfl rfl (fun h => h hF.ran) ?_
          refine rs_pick rfl rfl rfl ?_
          refine rs_nil fun _ => ?_
          refine th_n ?_
          refine aw_cond rfl (fun h => by cases h) (fun _ => ?_)
          refine aw_skip ?_
          refine th_n ?_
          refine aw_seq ?_
          refine aw_reg ?_
          refine rs_mv rfl rfl ?_
          refine rs_mv rfl rfl ?_
          refine rs_cmp_t rfl rfl rfl rfl (by omega) ?_
          refine rs_mv rfl rfl ?_
          refine rs_mv rfl rfl ?_
          refine rs_mv rfl rfl ?_
          refine rs_mv rfl rfl ?_
          refine rs_add rfl rfl rfl (by omega) ?_
          refine rs_mv rfl rfl ?_
          refine rs_quow (c := m + 1) rfl rfl rfl (by omega) (by rw [qd (m := m + 1) (sc := 0) (by have := hL.hk (by omega) (by omega); rw [Int.add_mul, Int.one_mul]; omega) (by omega) (by omega) (by omega)]; exact W_eq (by omega)) ?_
          refine rs_mn (c := m + 1) rfl rfl rfl (by omega) ?_
          refine rs_cmp_f rfl rfl rfl rfl (fun h => h rfl) ?_
          refine rs_pick rfl rfl rfl ?_
          refine rs_nil fun _ => ?_
          refine th_n ?_
          refine aw_cond rfl (fun h => by cases h) (fun _ => ?_)
          refine aw_skip ?_
          refine in_n ?_
          refine th_n ?_
          refine aw_reg ?_
          refine rs_mv rfl rfl ?_
          refine rs_add rfl rfl rfl (by omega) ?_
          refine rs_mv rfl rfl ?_
          refine rs_nil fun _ => ?_
          refine th_n ?_
          (refine ⟨⟨k + 1, s2, rn + 1, m + 1, 0⟩, hL.next_t (by omega) (by omega) hge hb1.1 hF (hI2.mono (by omega)), by dsimp only; omega, ?_⟩
           exact show Weak _ _ _ _ [(7, .bool true), (10, .ptr 900 0 0), (11, iv a), (12, iv (1 + u1)), (13, iv (1 + u2)), (14, iv (x : Int)), (15, iv (y : Int)), (16, iv (rn + 1)), (17, iv (m + 1)), (18, iv (0)), (19, iv (((k + 1) : Nat) : Int))] [(900, ctlO 903 s2), (903, rowO s2.rs)] from Weak.trans (F1 := [(7, .bool true), (10, .ptr 900 0 0), (11, iv a), (12, iv (1 + u1)), (13, iv (1 + u2)), (14, iv (x : Int)), (15, iv (y : Int)), (16, iv (rn + 1)), (17, iv (m + 1)), (18, iv (0)), (19, iv (((k + 1) : Nat) : Int))]) (H1 := [(900, ctlO 905 s2), (905, rowO s2.rs)]) (weak_to (.cons rfl (rc_same rfl (.inl rfl)) (.cons rfl (rc_same rfl (.inl rfl)) (.cons rfl (rc_same rfl (.inl rfl)) (.cons rfl (rc_same rfl (.inl rfl)) (.cons rfl (rc_same rfl (.inl rfl)) (.cons rfl (rc_same rfl (.inl rfl)) (.cons rfl (rc_same rfl (.inl rfl)) (.cons rfl (rc_same rfl (.inl rfl)) (.cons rfl (rc_same rfl (.inl rfl)) (.cons rfl (rc_same rfl (.inl rfl)) (.cons rfl (rc_same rfl (.inl rfl)) (.nil)))))))))))) (.keep (rfl) rfl (.keep (rfl) rfl (.nil))) fun i h => by cases h) (Weak.trans (F1 := [(7, .bool true), (10, .ptr 900 0 0), (11, iv a), (12, iv (1 + u1)), (13, iv (1 + u2)), (14, iv (x : Int)), (15, iv (y : Int)), (16, iv (rn + 1)), (17, iv (m + 1)), (18, iv (0)), (19, iv (((k + 1) : Nat) : Int))]) (weak_ren_row (i := 905) (i' := 903) (k := 900) rfl rfl (.cons rfl (.same _) (.cons rfl (.same _) (.cons rfl (.same _) (.cons rfl (.same _) (.cons rfl (.same _) (.cons rfl (.same _) (.cons rfl (.same _) (.cons rfl (.same _) (.cons rfl (.same _) (.cons rfl (.same _) (.cons rfl (.same _) (.nil)))))))))))) (by decide) rfl (.cons (.sl _ _) (RenL.refl _ _ _))) (weak_to (.cons rfl (rc_same rfl (.inl rfl)) (.cons rfl (rc_same rfl (.inl rfl)) (.cons rfl (rc_same rfl (.inl rfl)) (.cons rfl (rc_same rfl (.inl rfl)) (.cons rfl (rc_same rfl (.inl rfl)) (.cons rfl (rc_same rfl (.inl rfl)) (.cons rfl (rc_same rfl (.inl rfl)) (.cons rfl (rc_same rfl (.inl rfl)) (.cons rfl (rc_same rfl (.inl rfl)) (.cons rfl (rc_same rfl (.inl rfl)) (.cons rfl (rc_same rfl (.inl rfl)) (.nil)))))))))))) (.keep (rfl) rfl (.keep (rfl) rfl (.nil))) fun i h => by cases h)))
        · replace h91 := of_decide_eq_false h91
          have hge : ¬ sc + 1 ≥ (if k < x then 1 + u1 else 1 + u2) := by
            rw [if_pos (by omega)]
            exact h91
          have hF := (hF2 (by omega)).2 hge
          refine aw_skip ?_
          refine th_n ?_
          refine aw_seq ?_
          refine aw_seq ?_
          refine aw_reg ?_
          refine rs_mv rfl rfl ?_
          refine rs_cmp_f rfl rfl rfl rfl (fun h => h (heB (by omega))) ?_
          refine rs_mv rfl rfl ?_
          refine rs_mv rfl rfl ?_
          refine rs_mv rfl rfl ?_
          refine rs_calln [900, 905] rfl rfl (gc31 s2 m (-1) true (hI2.sm (by omega)) (by rw [hF.made, brkV, hF.broken]; simp)) (.cons (hv_obj (by simp) rfl (.sl (by simp) rfl (by simp) (.int (.bool (.int (.int (.int (.int (.int (.int (.bool (.int (.bool (.bool (.bool (.bool .nil)))))))))))))))) (.cons (hv_same rfl) (.cons (hv_same rfl) (.nil)))) rfl ?_
          refine rs_not rfl rfl ?_
          refine rs_pick rfl rfl rfl ?_
          refine rs_mv rfl rfl ?_
          refine rs_mv rfl rfl ?_
          refine rs_calln [900, 905] rfl rfl (gc23 s2 (hI2.sm (by omega))) (.cons (hv_obj (by simp) rfl (.sl (by simp) rfl (by simp) (.int (.bool (.int (.int (.int (.int (.int (.int (.bool (.int (.bool (.bool (.bool (.bool .nil)))))))))))))))) (.nil)) rfl ?_
          refine rs_mv rfl rfl ?_
          refine rs_cmp_f rfl rfl rfl rfl (fun h => h hF.ran) ?_
          refine rs_pick rfl rfl rfl ?_
          refine rs_nil fun _ => ?_
          refine th_n ?_
          refine aw_cond rfl (fun h => by cases h) (fun _ => ?_)
          refine aw_skip ?_
          refine th_n ?_
          refine aw_seq ?_
          refine aw_reg ?_
          refine rs_mv rfl rfl ?_
          refine rs_mv rfl rfl ?_
          refine rs_cmp_t rfl rfl rfl rfl (by omega) ?_
          refine rs_mv rfl rfl ?_
          refine rs_mv rfl rfl ?_
          refine rs_mv rfl rfl ?_
          refine rs_mv rfl rfl ?_
          refine rs_add rfl rfl rfl (by omega) ?_
          refine rs_mv rfl rfl ?_
          refine rs_quow (c := m) rfl rfl rfl (by omega) (by rw [qd (m := m) (sc := sc + 1) (by have := hL.hk (by omega) (by omega); omega) (by omega) (by omega) (by omega)]; exact W_eq (by omega)) ?_
          refine rs_mn (c := m) rfl rfl rfl (by omega) ?_
          refine rs_cmp_f rfl rfl rfl rfl (fun h => h rfl) ?_
          refine rs_pick rfl rfl rfl ?_
          refine rs_nil fun _ => ?_
          refine th_n ?_
          refine aw_cond rfl (fun h => by cases h) (fun _ => ?_)
          refine aw_skip ?_
          refine in_n ?_
          refine th_n ?_
          refine aw_reg ?_
          refine rs_mv rfl rfl ?_
          refine rs_add rfl rfl rfl (by omega) ?_
          refine rs_mv rfl rfl ?_
          refine rs_nil fun _ => ?_
          refine th_n ?_
          (refine ⟨⟨k + 1, s2, rn + 1, m, sc + 1⟩, hL.next_f (by omega) (by omega) hge hF (hI2.mono (by omega)), by dsimp only; omega, ?_⟩
           exact show Weak _ _ _ _ [(7, .bool true), (10, .ptr 900 0 0), (11, iv a), (12, iv (1 + u1)), (13, iv (1 + u2)), (14, iv (x : Int)), (15, iv (y : Int)), (16, iv (rn + 1)), (17, iv (m)), (18, iv (sc + 1)), (19, iv (((k + 1) : Nat) : Int))] [(900, ctlO 903 s2), (903, rowO s2.rs)] from Weak.trans (F1 := [(7, .bool true), (10, .ptr 900 0 0), (11, iv a), (12, iv (1 + u1)), (13, iv (1 + u2)), (14, iv (x : Int)), (15, iv (y : Int)), (16, iv (rn + 1)), (17, iv (m)), (18, iv (sc + 1)), (19, iv (((k + 1) : Nat) : Int))]) (H1 := [(900, ctlO 905 s2), (905, rowO s2.rs)]) (weak_to (.cons rfl (rc_same rfl (.inl rfl)) (.cons rfl (rc_same rfl (.inl rfl)) (.cons rfl (rc_same rfl (.inl rfl)) (.cons rfl (rc_same rfl (.inl rfl)) (.cons rfl (rc_same rfl (.inl rfl)) (.cons rfl (rc_same rfl (.inl rfl)) (.cons rfl (rc_same rfl (.inl rfl)) (.cons rfl (rc_same rfl (.inl rfl)) (.cons rfl (rc_same rfl (.inl rfl)) (.cons rfl (rc_same rfl (.inl rfl)) (.cons rfl (rc_same rfl (.inl rfl)) (.nil)))))))))))) (.keep (rfl) rfl (.keep (rfl) rfl (.nil))) fun i h => by cases h) (Weak.trans (F1 := [(7, .bool true), (10, .ptr 900 0 0), (11, iv a), (12, iv (1 + u1)), (13, iv (1 + u2)), (14, iv (x : Int)), (15, iv (y : Int)), (16, iv (rn + 1)), (17, iv (m)), (18, iv (sc + 1)), (19, iv (((k + 1) : Nat) : Int))]) (weak_ren_row (i := 905) (i' := 903) (k := 900) rfl rfl (.cons rfl (.same _) (.cons rfl (.same _) (.cons rfl (.same _) (.cons rfl (.same _) (.cons rfl (.same _) (.cons rfl (.same _) (.cons rfl (.same _) (.cons rfl (.same _) (.cons rfl (.same _) (.cons rfl (.same _) (.cons rfl (.same _) (.nil)))))))))))) (by decide) rfl (.cons (.sl _ _) (RenL.refl _ _ _))) (weak_to (.cons rfl (rc_same rfl (.inl rfl)) (.cons rfl (rc_same rfl (.inl rfl)) (.cons rfl (rc_same rfl (.inl rfl)) (.cons rfl (rc_same rfl (.inl rfl)) (.cons rfl (rc_same rfl (.inl rfl)) (.cons rfl (rc_same rfl (.inl rfl)) (.cons rfl (rc_same rfl (.inl rfl)) (.cons rfl (rc_same rfl (.inl rfl)) (.cons rfl (rc_same rfl (.inl rfl)) (.cons rfl (rc_same rfl (.inl rfl)) (.cons rfl (rc_same rfl (.inl rfl)) (.nil)))))))))))) (.keep (rfl) rfl (.keep (rfl) rfl (.nil))) fun i h => by cases h)))
  · replace h61 := of_decide_eq_false h61
    refine aw_exit ?_
    refine th_e ?_
    refine th_e ?_
    refine in_hit ?_
    refine th_n ?_
    refine aw_seq ?_
    refine aw_reg ?_
    refine rs_mv rfl rfl ?_
    refine rs_mv rfl rfl ?_
    refine rs_nil fun _ => ?_
    refine th_n ?_
    refine aw_ret ?_
    exact ret_pure rfl rfl rfl (.inr rfl)

end Go.Proofs.Ytigfcmcdjfmieaa

/-! The arguments of the laws of control, as they are read. -/
namespace Go.Proofs.Ytigfcmcdjfmieaa
open Go.RowKit Go.WideShapes Go.ChangeShapes Go.ChangeAt
set_option maxRecDepth 100000

theorem own_knob : ownKnob Try.prog.godebug = none := by kernel_rfl
theorem laid_out : laidOutB Try.prog = true := by kernel_rfl

theorem rd_i {H : Type} (d : DataW H) (h : Gd (.int .i64) d) : ∃ n : Int, True ∧ avD (.int .i64) d = ci n := by
  obtain ⟨n, _, e⟩ := rd_int d h
  exact ⟨n, trivial, e⟩
theorem rd_u8 {H : Type} (d : DataW H) (h : Gd (.int .u8) d) : ∃ n : Int, (0 ≤ n ∧ n < 256) ∧ avD (.int .u8) d = cu8 n := by
  obtain ⟨n, hw, e⟩ := rd_int d h
  have := bounds_u8 hw
  exact ⟨n, by omega, e⟩
abbrev shV : Sh := .st [.int .i64, .int .i64, .int .i64]
abbrev shM : Sh := .st [.int .i64, shV, shV, shV, .int .i64]
abbrev shE : Sh := .st [.int .i64, .int .i64]
abbrev shCase : Sh := .st [.sl 1 (.sl 1 (.int .i64)), .int .u8]
theorem rd_vec {H : Type} (d : DataW H) (h : Gd shV d) : ∃ v : V3, True ∧ avD shV d = cV v := by
  obtain ⟨ps, g, e⟩ := rd_st d h
  obtain ⟨d0, r0, g0, g, e0⟩ := rd_cons ps g
  obtain ⟨d1, r1, g1, g, e1⟩ := rd_cons r0 g
  obtain ⟨d2, r2, g2, g, e2⟩ := rd_cons r1 g
  obtain ⟨n0, _, a0⟩ := rd_i d0 g0
  obtain ⟨n1, _, a1⟩ := rd_i d1 g1
  obtain ⟨n2, _, a2⟩ := rd_i d2 g2
  exact ⟨⟨n0, n1, n2⟩, trivial, by rw [e, e0, e1, e2, rd_nil r2 g, a0, a1, a2]; rfl⟩
theorem rd_mv {H : Type} (d : DataW H) (h : Gd shM d) : ∃ m : Mv, True ∧ avD shM d = cM m := by
  obtain ⟨ps, g, e⟩ := rd_st d h
  obtain ⟨d0, r0, g0, g, e0⟩ := rd_cons ps g
  obtain ⟨d1, r1, g1, g, e1⟩ := rd_cons r0 g
  obtain ⟨d2, r2, g2, g, e2⟩ := rd_cons r1 g
  obtain ⟨d3, r3, g3, g, e3⟩ := rd_cons r2 g
  obtain ⟨d4, r4, g4, g, e4⟩ := rd_cons r3 g
  obtain ⟨n0, _, a0⟩ := rd_i d0 g0
  obtain ⟨v1, _, a1⟩ := rd_vec d1 g1
  obtain ⟨v2, _, a2⟩ := rd_vec d2 g2
  obtain ⟨v3, _, a3⟩ := rd_vec d3 g3
  obtain ⟨n4, _, a4⟩ := rd_i d4 g4
  exact ⟨⟨n0, v1, v2, v3, n4⟩, trivial, by rw [e, e0, e1, e2, e3, e4, rd_nil r4 g, a0, a1, a2, a3, a4]; rfl⟩
theorem rd_ev {H : Type} (d : DataW H) (h : Gd shE d) : ∃ p : Int × Int, True ∧ avD shE d = cE p := by
  obtain ⟨ps, g, e⟩ := rd_st d h
  obtain ⟨d0, r0, g0, g, e0⟩ := rd_cons ps g
  obtain ⟨d1, r1, g1, g, e1⟩ := rd_cons r0 g
  obtain ⟨n0, _, a0⟩ := rd_i d0 g0
  obtain ⟨n1, _, a1⟩ := rd_i d1 g1
  exact ⟨(n0, n1), trivial, by rw [e, e0, e1, rd_nil r1 g, a0, a1]; rfl⟩
theorem rd_ints {H : Type} (d : DataW H) (h : Gd (.sl 1 (.int .i64)) d) : ∃ L : List Int, L.length ≤ 140737488351232 ∧ avD (.sl 1 (.int .i64)) d = cL L := by
  obtain ⟨L, ⟨h1, _⟩, e⟩ := rd_sl (fun _ => True) ci rd_i d h
  exact ⟨L, h1, e⟩
theorem rd_case {H : Type} (d : DataW H) (h : Gd shCase d) : ∃ (ls : List (List Int)) (ev : Int), ((ls.length ≤ 140737488351232 ∧ ∀ L ∈ ls, L.length ≤ 140737488351232) ∧ (0 ≤ ev ∧ ev < 256)) ∧ argA shCase d = .agg [.rs 1 (ls.map cL), .int .u8 ev] := by
  obtain ⟨ps, g, e⟩ := rd_st d h
  obtain ⟨d0, r0, g0, g, e0⟩ := rd_cons ps g
  obtain ⟨d1, r1, g1, g, e1⟩ := rd_cons r0 g
  obtain ⟨n0, k0, a0⟩ := rd_sl _ cL rd_ints d0 g0
  obtain ⟨n1, k1, a1⟩ := rd_u8 d1 g1
  exact ⟨n0, n1, ⟨k0, k1⟩, by simp only [argA]; rw [e, e0, e1, rd_nil r1 g, a0, a1]; rfl⟩
end Go.Proofs.Ytigfcmcdjfmieaa
namespace Go.Proofs.Ytigfcmcdjfmieaa
open Go.RowKit Go.WideShapes Go.ChangeShapes Go.ChangeAt
set_option maxRecDepth 100000

abbrev shs5 : List Sh := [shCase, .arr 2 (.int .u8), .arr 2 (.int .u8)]

theorem lifted5 (os : Os) (started : os.Started) (H : Type) (enc : TypeId × Value → H) :
    ReturnsInHanded {} Try.checked os 5 .any (Rows.controlFeedsSpec.pre6 enc Try.prog Try.f5 Rows.controlFeedsRow.domain false) (Rows.controlFeedsSpec.post enc Try.prog Try.f5 false true false false) := by
  refine law_row (C := Try.checked) own_knob started (by kernel_rfl) Try.func5 laid_out rfl (tb := 4) rfl Try.underlying4 shs5 (by kernel_rfl) (fun ds h => ?_)
    (ChangeSpec.witness6 (enc := enc) (C := Try.checked) false ⟨#[], #[.agg #[.slice none 0 0, .int .u8 0], .agg #[.int .u8 0, .int .u8 0], .agg #[.int .u8 0, .int .u8 0]], []⟩ 8 (by kernel_rfl) (by kernel_rfl) (by kernel_rfl) (by kernel_rfl)) fun ds hg => ⟨false, ?_⟩
  · match ds, h with
    | [_, _, _], _ => rfl
  · simp only [shs5, GdFs] at hg
    obtain ⟨d0, _, rfl, g0, d1, _, rfl, g1, d2, _, rfl, g2, rfl⟩ := hg
    obtain ⟨ls, ev, ⟨⟨hll, hls⟩, hev⟩, e0⟩ := rd_case d0 g0
    obtain ⟨q1, ⟨hq1, hr1⟩, e1⟩ := rd_arr _ cu8 rd_u8 d1 g1
    obtain ⟨q2, ⟨hq2, hr2⟩, e2⟩ := rd_arr _ cu8 rd_u8 d2 g2
    match q1, hq1, q2, hq2 with
    | [f0, f1], _, [m0, m1], _ =>
      have e : argAs shs5 [d0, d1, d2] = [.agg [.rs 1 (ls.map cL), .int .u8 ev], .agg [.int .u8 f0, .int .u8 f1], .agg [.int .u8 m0, .int .u8 m1]] := by
        simp only [argAs, shs5]
        rw [e0]
        simp only [argA]
        rw [e1, e2]
        rfl
      rw [e]
      exact gc5 ls ev (fun L h => Nat.le_trans (hls L h) (by decide)) (Nat.le_trans hll (by decide)) hev f0 f1 m0 m1 (hr1 f0 (by simp)) (hr1 f1 (by simp)) (hr2 m0 (by simp)) (hr2 m1 (by simp))

theorem over5 : Rows.controlFeedsRow.holds Try.pinned (OpenSpec.ofChange Rows.controlFeedsSpec) :=
  OpenClaim.holds_of_wide 5 Try.f5 rfl rfl rfl rfl rfl rfl rfl ⟨rfl, rfl, rfl, rfl, rfl⟩ rfl rfl rfl rfl rfl (by kernel_rfl) Try.func5 (by kernel_rfl)
    (of_decide_eq_true (by kernel_rfl)) (by unfold Func.isWrapper; rw [if_neg (of_decide_eq_false (by kernel_rfl))]; exact ⟨rfl, rfl⟩)
    (fun os started H enc _ => lifted5 os started H enc)

theorem controlFeeds_holds : Rows.ControlFeedsSaid := over5
#print axioms controlFeeds_holds
end Go.Proofs.Ytigfcmcdjfmieaa
