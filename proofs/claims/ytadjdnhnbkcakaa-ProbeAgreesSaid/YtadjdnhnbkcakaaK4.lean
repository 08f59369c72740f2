/-
  Proved: colletlaw21.ProbeAgrees returns true for every input, and its arguments read as before. No condition.
-/
import Derived.Test.YtadjdnhnbkcakaaK3
import Derived.Test.YtadjdnhnbkcakaaRows
set_option linter.unusedVariables false

/-! Walks: A17. -/
namespace Go.Proofs.Ytadjdnhnbkcakaa
open Go.RowKit

abbrev cRs (r : List Rd) : List AV := [.rs 4 (r.map cR)]
abbrev cP (p : List Int × List Int) : List AV := [ints p.1, ints p.2]
theorem narrow_len (l : List Rd) (lo hi : List Int) (lies : Int) : (narrowA l lo hi lies).length ≤ 6 ∧ (narrowB l lo hi lies).length ≤ 6 := by
  by_cases h0 : checkS l lo hi lies = 0
  · obtain ⟨_, h2, h6, _⟩ := check_ok h0
    have h := ex51_len (l := l) (lies := lies) h2
    unfold narrowA narrowB
    split
    · simp
    · omega
  · obtain ⟨_, h2, h3⟩ := narrow_1 h0
    rw [h2, h3]; simp
theorem liars_len (l : List Rd) (lo hi : List Int) (lies : Int) : (liarsL l lo hi lies).length ≤ 8 := by
  unfold liarsL
  split
  · simp
  · exact outK_le _ _
theorem readS_len (ls : List (List Int)) (q : Int) : (readS ls q).length ≤ 10 := by
  unfold readS
  split
  · simp; omega
  · simp

def mc3 : MC := (.seq (.reg [⟨(some 5), (.box 25 3 (.t 0)), none, []⟩, ⟨(some 6), (.box 26 3 (.t 1)), none, []⟩, ⟨(some 8), (.box 29 2 (.t 3)), none, []⟩, ⟨(some 10), (.mv (.c (.bool false))), none, []⟩] false) (.seq (.reg [⟨(some 32), (.call 15 []), none, []⟩, ⟨(some 11), (.mv (.t 32)), none, [0, 0, 0]⟩] false) (.seq (.reg [⟨(some 34), (.ld true 3 (.t 5)), none, []⟩, ⟨(some 35), (.call 16 [(.t 34)]), none, [0]⟩, ⟨(some 33), (.mv (.t 35)), none, [1]⟩, ⟨(some 36), (.ext (.t 33) 0), none, [2]⟩, ⟨(some 37), (.ext (.t 33) 1), none, [2]⟩, ⟨(some 38), (.ext (.t 33) 2), none, [2]⟩, ⟨(some 39), (.ext (.t 33) 3), none, [2]⟩, ⟨(some 12), (.mv (.t 36)), none, [3, 1, 0, 1, 2, 3]⟩, ⟨(some 13), (.mv (.t 37)), none, [4, 7, 0, 1, 2, 3, 4, 7]⟩, ⟨(some 14), (.mv (.t 38)), none, [5, 8, 0, 1, 2, 3, 4, 5, 7, 8]⟩, ⟨(some 15), (.mv (.t 39)), none, [6, 9, 0, 1, 2, 3, 4, 5, 6, 7, 8, 9]⟩] false) (.seq (.seq (.reg [⟨(some 40), (.mv (.t 12)), none, []⟩, ⟨(some 41), (.mv (.t 12)), none, []⟩, ⟨(some 42), (.ld true 3 (.t 6)), none, []⟩, ⟨(some 43), (.call 17 [(.t 41), (.t 42)]), none, [1, 2]⟩, ⟨(some 44), (.mv (.t 2)), none, []⟩, ⟨(some 45), (.mv (.t 2)), none, []⟩, ⟨(some 46), (.len (.t 45)), none, [5]⟩, ⟨(some 47), (.mn (.t 46) (.c (.int .i64 12))), none, [6]⟩, ⟨(some 48), (.slc 4 (.t 44) none (some (.t 47))), none, [4, 7]⟩, ⟨(some 49), (.bslice 27 1 [.nils] 3 [(0, (.t 40)), (1, (.t 43)), (2, (.t 48))]), none, [0, 3, 8]⟩, ⟨(some 50), (.len (.t 49)), none, [9]⟩, ⟨(some 51), (.mv (.c (.int .i64 0))), none, []⟩] true) (.block 0 (.loop (.seq (.reg [⟨(some 52), (.bin .lss (.t 51) (.t 50)), none, []⟩] false) (.seq (.cond (.t 52) .skip (.exit 0)) (.seq (.block 1 (.seq (.reg [⟨(some 53), (.ixsl 1 (.t 49) (.t 51)), none, []⟩, ⟨(some 54), (.ld false 1 (.t 53)), none, [0]⟩, ⟨(some 17), (.mv (.t 54)), none, [1, 0, 1]⟩] false) (.seq (.reg [⟨(some 55), (.mv (.t 13)), none, []⟩, ⟨(some 56), (.mv (.t 14)), none, []⟩, ⟨(some 57), (.build [.nils, .nils] [(0, (1, (.t 55))), (1, (1, (.t 56)))]), none, [0, 1]⟩, ⟨(some 58), (.ixarr 2 1 (.t 8) (.c (.int .i64 0))), none, []⟩, ⟨(some 59), (.ld false 1 (.t 58)), none, [3]⟩, ⟨(some 60), (.call 18 [(.t 59), (.c (.int .i64 8))]), none, [4]⟩, ⟨(some 61), (.ixarr 2 1 (.t 8) (.c (.int .i64 1))), none, []⟩, ⟨(some 62), (.ld false 1 (.t 61)), none, [6]⟩, ⟨(some 63), (.call 18 [(.t 62), (.c (.int .i64 8))]), none, [7, 5]⟩, ⟨(some 64), (.build [.nils, .nils] [(0, (1, (.t 60))), (1, (1, (.t 63)))]), none, [5, 8]⟩, ⟨(some 65), (.mv (.t 13)), none, []⟩, ⟨(some 66), (.ixarr 2 1 (.t 8) (.c (.int .i64 1))), none, []⟩, ⟨(some 67), (.ld false 1 (.t 66)), none, [11]⟩, ⟨(some 68), (.call 18 [(.t 67), (.c (.int .i64 8))]), none, [12, 8]⟩, ⟨(some 69), (.build [.nils, .nils] [(0, (1, (.t 65))), (1, (1, (.t 68)))]), none, [10, 13]⟩, ⟨(some 70), (.bslice 29 2 [.nils, .nils] 3 [(0, (.t 57)), (1, (.t 64)), (2, (.t 69))]), none, [2, 9, 14]⟩, ⟨(some 71), (.len (.t 70)), none, [15]⟩, ⟨(some 72), (.mv (.c (.int .i64 0))), none, []⟩] true) (.block 2 (.loop (.seq (.reg [⟨(some 73), (.bin .lss (.t 72) (.t 71)), none, []⟩] false) (.seq (.cond (.t 73) .skip (.exit 2)) (.seq (.block 3 (.seq (.reg [⟨(some 74), (.ixsl 2 (.t 70) (.t 72)), none, []⟩, ⟨(some 75), (.ld true 2 (.t 74)), none, [0]⟩, ⟨(some 19), (.alloc 29 2 [.nils, .nils]), none, []⟩, ⟨none, (.st 2 (.t 19) (.t 75)), none, [2, 1, 0, 1, 2]⟩] false) (.seq (.reg [⟨(some 76), (.mv (.t 15)), none, []⟩, ⟨(some 77), (.mv (.t 4)), none, []⟩, ⟨(some 78), (.bslice 3 1 [(.int .i64 0)] 2 [(0, (.t 76)), (1, (.t 77))]), none, [0, 1]⟩, ⟨(some 79), (.len (.t 78)), none, [2]⟩, ⟨(some 80), (.mv (.c (.int .i64 0))), none, []⟩] false) (.block 4 (.loop (.seq (.reg [⟨(some 81), (.bin .lss (.t 80) (.t 79)), none, []⟩] false) (.seq (.cond (.t 81) .skip (.exit 4)) (.seq (.block 5 (.seq (.reg [⟨(some 82), (.ixsl 1 (.t 78) (.t 80)), none, []⟩, ⟨(some 83), (.ld false 1 (.t 82)), none, [0]⟩, ⟨(some 21), (.mv (.t 83)), none, [1, 0, 1]⟩] false) (.seq (.seq (.reg [⟨(some 84), (.mv (.t 17)), none, []⟩, ⟨(some 85), (.ixarr 2 1 (.t 19) (.c (.int .i64 0))), none, []⟩, ⟨(some 86), (.ld false 1 (.t 85)), none, [1]⟩, ⟨(some 87), (.ixarr 2 1 (.t 19) (.c (.int .i64 1))), none, []⟩, ⟨(some 88), (.ld false 1 (.t 87)), none, [3]⟩, ⟨(some 89), (.mv (.t 21)), none, []⟩, ⟨(some 90), (.call 19 [(.t 84), (.t 86), (.t 88), (.t 89)]), none, [0, 2, 4, 5]⟩, ⟨(some 91), (.mv (.t 17)), none, []⟩, ⟨(some 92), (.ixarr 2 1 (.t 19) (.c (.int .i64 0))), none, []⟩, ⟨(some 93), (.ld false 1 (.t 92)), none, [8]⟩, ⟨(some 94), (.ixarr 2 1 (.t 19) (.c (.int .i64 1))), none, []⟩, ⟨(some 95), (.ld false 1 (.t 94)), none, [10]⟩, ⟨(some 96), (.mv (.t 21)), none, []⟩, ⟨(some 97), (.call 20 [(.t 91), (.t 93), (.t 95), (.t 96)]), none, [7, 9, 11, 12, 6]⟩, ⟨(some 98), (.bin .neq (.t 90) (.t 97)), none, [6, 13]⟩] true) (.cond (.t 98) (.seq (.reg [⟨(some 10), (.mv (.c (.bool false))), none, []⟩] false) .ret) .skip)) (.seq (.reg [⟨(some 100), (.mv (.t 17)), none, []⟩, ⟨(some 101), (.ixarr 2 1 (.t 19) (.c (.int .i64 0))), none, []⟩, ⟨(some 102), (.ld false 1 (.t 101)), none, [1]⟩, ⟨(some 103), (.ixarr 2 1 (.t 19) (.c (.int .i64 1))), none, []⟩, ⟨(some 104), (.ld false 1 (.t 103)), none, [3]⟩, ⟨(some 105), (.mv (.t 21)), none, []⟩, ⟨(some 106), (.call 21 [(.t 100), (.t 102), (.t 104), (.t 105)]), none, [0, 2, 4, 5]⟩, ⟨(some 99), (.mv (.t 106)), none, [6]⟩, ⟨(some 107), (.ext (.t 99) 0), none, [7]⟩, ⟨(some 108), (.ext (.t 99) 1), none, [7]⟩, ⟨(some 109), (.ext (.t 99) 2), none, [7]⟩, ⟨(some 22), (.mv (.t 107)), none, [8, 6, 0, 1, 2, 3, 4, 5, 6, 7, 8]⟩, ⟨(some 23), (.mv (.t 108)), none, [9, 11, 0, 1, 2, 3, 4, 5, 6, 7, 8, 9, 11]⟩, ⟨(some 24), (.mv (.t 109)), none, [10, 12, 0, 1, 2, 3, 4, 5, 6, 7, 8, 9, 10, 11, 12]⟩] false) (.seq (.reg [⟨(some 111), (.mv (.t 17)), none, []⟩, ⟨(some 112), (.ixarr 2 1 (.t 19) (.c (.int .i64 0))), none, []⟩, ⟨(some 113), (.ld false 1 (.t 112)), none, [1]⟩, ⟨(some 114), (.ixarr 2 1 (.t 19) (.c (.int .i64 1))), none, []⟩, ⟨(some 115), (.ld false 1 (.t 114)), none, [3]⟩, ⟨(some 116), (.mv (.t 21)), none, []⟩, ⟨(some 117), (.call 22 [(.t 111), (.t 113), (.t 115), (.t 116)]), none, [0, 2, 4, 5]⟩, ⟨(some 110), (.mv (.t 117)), none, [6]⟩, ⟨(some 118), (.ext (.t 110) 0), none, [7]⟩, ⟨(some 119), (.ext (.t 110) 1), none, [7]⟩, ⟨(some 120), (.ext (.t 110) 2), none, [7]⟩, ⟨(some 25), (.mv (.t 118)), none, [8, 6, 0, 1, 2, 3, 4, 5, 6, 7, 8]⟩, ⟨(some 26), (.mv (.t 119)), none, [9, 11, 0, 1, 2, 3, 4, 5, 6, 7, 8, 9, 11]⟩, ⟨(some 27), (.mv (.t 120)), none, [10, 12, 0, 1, 2, 3, 4, 5, 6, 7, 8, 9, 10, 11, 12]⟩] false) (.seq (.seq (.reg [⟨(some 121), (.mv (.t 24)), none, []⟩, ⟨(some 122), (.mv (.t 27)), none, []⟩, ⟨(some 123), (.bin .neq (.t 121) (.t 122)), none, [0, 1]⟩, ⟨(some 124), (.mv (.t 123)), none, [2]⟩, ⟨(some 125), (.mv (.t 22)), (some (124, false)), [3]⟩, ⟨(some 126), (.mv (.t 25)), (some (124, false)), [3]⟩, ⟨(some 127), (.call 23 [(.t 125), (.t 126)]), (some (124, false)), [4, 5, 3, 3]⟩, ⟨(some 128), (.un .not (.t 127)), (some (124, false)), [6, 3]⟩, ⟨(some 129), (.pick (.t 124) (.c (.bool true)) (.t 128)), none, [3, 7]⟩, ⟨(some 130), (.mv (.t 129)), none, [8, 6]⟩, ⟨(some 131), (.mv (.t 23)), (some (130, false)), [9]⟩, ⟨(some 132), (.mv (.t 26)), (some (130, false)), [9]⟩, ⟨(some 133), (.call 23 [(.t 131), (.t 132)]), (some (130, false)), [10, 11, 9, 9]⟩, ⟨(some 134), (.un .not (.t 133)), (some (130, false)), [12, 9]⟩, ⟨(some 135), (.pick (.t 130) (.c (.bool true)) (.t 134)), none, [9, 13]⟩] false) (.cond (.t 135) (.seq (.reg [⟨(some 10), (.mv (.c (.bool false))), none, []⟩] false) .ret) .skip)) (.seq (.reg [⟨(some 137), (.mv (.t 17)), none, []⟩, ⟨(some 138), (.ixarr 2 1 (.t 19) (.c (.int .i64 0))), none, []⟩, ⟨(some 139), (.ld false 1 (.t 138)), none, [1]⟩, ⟨(some 140), (.ixarr 2 1 (.t 19) (.c (.int .i64 1))), none, []⟩, ⟨(some 141), (.ld false 1 (.t 140)), none, [3]⟩, ⟨(some 142), (.mv (.t 21)), none, []⟩, ⟨(some 143), (.call 24 [(.t 137), (.t 139), (.t 141), (.t 142)]), none, [0, 2, 4, 5]⟩, ⟨(some 136), (.mv (.t 143)), none, [6]⟩, ⟨(some 144), (.ext (.t 136) 0), none, [7]⟩, ⟨(some 145), (.ext (.t 136) 1), none, [7]⟩, ⟨(some 28), (.mv (.t 144)), none, [8, 6, 0, 1, 2, 3, 4, 5, 6, 7, 8]⟩, ⟨(some 29), (.mv (.t 145)), none, [9, 10, 0, 1, 2, 3, 4, 5, 6, 7, 8, 9, 10]⟩] false) (.seq (.reg [⟨(some 147), (.mv (.t 17)), none, []⟩, ⟨(some 148), (.ixarr 2 1 (.t 19) (.c (.int .i64 0))), none, []⟩, ⟨(some 149), (.ld false 1 (.t 148)), none, [1]⟩, ⟨(some 150), (.ixarr 2 1 (.t 19) (.c (.int .i64 1))), none, []⟩, ⟨(some 151), (.ld false 1 (.t 150)), none, [3]⟩, ⟨(some 152), (.mv (.t 21)), none, []⟩, ⟨(some 153), (.call 25 [(.t 147), (.t 149), (.t 151), (.t 152)]), none, [0, 2, 4, 5]⟩, ⟨(some 146), (.mv (.t 153)), none, [6]⟩, ⟨(some 154), (.ext (.t 146) 0), none, [7]⟩, ⟨(some 155), (.ext (.t 146) 1), none, [7]⟩, ⟨(some 30), (.mv (.t 154)), none, [8, 6, 0, 1, 2, 3, 4, 5, 6, 7, 8]⟩, ⟨(some 31), (.mv (.t 155)), none, [9, 10, 0, 1, 2, 3, 4, 5, 6, 7, 8, 9, 10]⟩] false) (.seq (.reg [⟨(some 156), (.mv (.t 29)), none, []⟩, ⟨(some 157), (.mv (.t 31)), none, []⟩, ⟨(some 158), (.bin .neq (.t 156) (.t 157)), none, [0, 1]⟩, ⟨(some 159), (.mv (.t 158)), none, [2]⟩, ⟨(some 160), (.mv (.t 28)), (some (159, false)), [3]⟩, ⟨(some 161), (.mv (.t 30)), (some (159, false)), [3]⟩, ⟨(some 162), (.call 23 [(.t 160), (.t 161)]), (some (159, false)), [4, 5, 3, 3]⟩, ⟨(some 163), (.un .not (.t 162)), (some (159, false)), [6, 3]⟩, ⟨(some 164), (.pick (.t 159) (.c (.bool true)) (.t 163)), none, [3, 7]⟩] false) (.cond (.t 164) (.seq (.reg [⟨(some 10), (.mv (.c (.bool false))), none, []⟩] false) .ret) .skip)))))))))) (.reg [⟨(some 165), (.bin .add (.t 80) (.c (.int .i64 1))), none, []⟩, ⟨(some 80), (.mv (.t 165)), none, [0]⟩] false))))))))) (.reg [⟨(some 166), (.bin .add (.t 72) (.c (.int .i64 1))), none, []⟩, ⟨(some 72), (.mv (.t 166)), none, [0]⟩] false))))))))) (.reg [⟨(some 167), (.bin .add (.t 51) (.c (.int .i64 1))), none, []⟩, ⟨(some 51), (.mv (.t 167)), none, [0]⟩] false))))))) (.seq (.reg [⟨(some 168), (.mv (.t 11)), none, []⟩, ⟨(some 10), (.mv (.t 168)), none, [0, 0]⟩] false) .ret)))))
theorem mcOk3 : (match Try.f3.body with | some c => compC Try.prog 169 c | none => none) = some mc3 := by kernel_rfl

theorem fc3 (ls : List (List Int)) (lims : List Int) (lies8 q0 q1 q2 : Int) (wild : List Rd) (l0 l1 : List Int) (lies : Int) (hls : ∀ L ∈ ls, L.length ≤ 4611686018427387904) (hlims : ∀ x ∈ lims, 0 ≤ x ∧ x < 256) (hlies : 0 ≤ lies8 ∧ lies8 < 256) : FC Try.prog 3 [.agg [.rs 1 (ls.map cL), .rs 1 (lims.map cu8), .int .u8 lies8], .agg [iv q0, iv q1, iv q2], .rs 4 (wild.map cR), .agg [ints l0, ints l1], iv lies] [] (.bool true) [] false := by
  refine fc_run (nt := 169) Try.func3 rfl rfl mcOk3 (Nat.le_of_ble_eq_true rfl) ?_
  delta mc3
  refine aw_seq ?_
  refine aw_reg ?_
  refine rs_box rfl rfl rfl rfl rfl rfl ?_
  refine rs_box rfl rfl rfl rfl rfl rfl ?_
  refine rs_box rfl rfl rfl rfl rfl rfl ?_
  refine rs_mv rfl rfl ?_
  refine rs_nil fun _ => ?_
  refine th_n ?_
  refine aw_seq ?_
  refine aw_reg ?_
  refine rs_calln [] rfl rfl fc15 .nil rfl ?_
  refine rs_mv rfl rfl ?_
  refine rs_nil fun _ => ?_
  refine th_n ?_
  refine aw_seq ?_
  refine aw_reg ?_
  first | refine rs_ld_pa rfl rfl rfl rfl (Nat.le_of_ble_eq_true rfl) rfl ?_ | refine rs_ld_ra rfl rfl (Nat.le_of_ble_eq_true rfl) rfl ?_ | refine rs_ld_ma rfl rfl rfl (by omega) (Nat.le_of_ble_eq_true rfl) rfl ?_
  refine rs_callo [] rfl rfl (fc16 ls lims lies8 hls hlims hlies) (.cons (hv_same rfl) .nil) .nil rfl rfl rfl ?_
  refine rs_mv rfl rfl ?_
  refine rs_ext rfl rfl rfl ?_
  refine rs_ext rfl rfl rfl ?_
  refine rs_ext rfl rfl rfl ?_
  refine rs_ext rfl rfl rfl ?_
  refine rs_mv rfl rfl ?_
  refine rs_mv rfl rfl ?_
  refine rs_mv rfl rfl ?_
  refine rs_mv rfl rfl ?_
  refine rs_nil fun _ => ?_
  refine th_n ?_
  refine aw_seq ?_
  refine aw_seq ?_
  refine aw_draw hmix ?_
  refine rs_mv rfl rfl ?_
  refine rs_mv rfl rfl ?_
  first | refine rs_ld_pa rfl rfl rfl rfl (Nat.le_of_ble_eq_true rfl) rfl ?_ | refine rs_ld_ra rfl rfl (Nat.le_of_ble_eq_true rfl) rfl ?_ | refine rs_ld_ma rfl rfl rfl (by omega) (Nat.le_of_ble_eq_true rfl) rfl ?_
  refine rs_calln [] rfl rfl (fc17 (readS ls ((1 + lims.length % 3) : Nat)) q0 q1 q2 (by have := readS_len ls ((1 + lims.length % 3) : Nat); omega)) (.cons (hv_same rfl) (.cons (hv_same rfl) (.nil))) rfl ?_
  refine rs_mv rfl rfl ?_
  refine rs_mv rfl rfl ?_
  first | refine rs_len_m rfl rfl ?_ | refine rs_len_s rfl rfl ?_ | refine rs_len_n rfl rfl ?_ | refine rs_len_r rfl rfl rfl ?_
  refine rs_mn rfl rfl rfl rfl ?_
  refine rs_slc_r (l := 0) (q := min (wild.length : Int) 12) (els' := (wild.take 12).map cR) rfl rfl rfl rfl rfl (by omega) (by omega) (by simp; omega) (by rw [show (min (wild.length : Int) 12).toNat = min wild.length 12 by omega]; simp [List.take_eq_take_min, Nat.min_comm]) ?_
  refine rs_bslice rfl rfl rfl rfl rfl rfl ?_
  first | refine rs_len_m rfl rfl ?_ | refine rs_len_s rfl rfl ?_ | refine rs_len_n rfl rfl ?_ | refine rs_len_r rfl rfl rfl ?_
  refine rs_mv rfl rfl ?_
  refine rs_nil ⟨by kernel_rfl, fun _ => ?_⟩
  refine th_n ?_
  refine aw_block ?_
  refine aw_fam (α := Nat) (fun k => 3 - k) (fun k => [(4, iv lies), (8, .ptr 8 0 0), (11, .bool true), (13, ints (madeLo lims (1 + lims.length % 3))), (14, ints (madeHi lims (1 + lims.length % 3))), (15, iv (lies8.tmod 4)), (49, .sl 49 0 3), (50, iv 3), (51, iv (((k) : Nat) : Int))]) (fun k => [(8, .cells 29 2 [[ints l0, ints l1]] true), (49, .cells 27 1 (([(readS ls ((1 + lims.length % 3) : Nat)), oddS (readS ls ((1 + lims.length % 3) : Nat)) q0 q1 q2, wild.take 12]).map cRs) true)]) (fun k => k ≤ 3) 0 (by omega)
    (weak_to (.cons rfl (rc_same rfl (.inl rfl)) (.cons rfl (rc_same rfl (.inl rfl)) (.cons rfl (rc_same rfl (.inl rfl)) (.cons rfl (rc_same rfl (.inl rfl)) (.cons rfl (rc_same rfl (.inl rfl)) (.cons rfl (rc_same rfl (.inl rfl)) (.cons rfl (rc_same rfl (.inl rfl)) (.cons rfl (rc_same rfl (.inl rfl)) (.cons rfl (rc_same rfl (.inl rfl)) (.nil)))))))))) (.keep (rfl) rfl (.keep (rfl) rfl (.nil))) (fun i h => by cases h)) ?_
  intro k hk
  refine aw_seq ?_
  refine aw_reg ?_
  refine rs_lss rfl rfl rfl ?_
  refine rs_nil fun _ => ?_
  refine th_n ?_
  refine aw_seq ?_
  refine aw_cond rfl (fun h52 => ?_) (fun h52 => ?_)
  · first | replace h52 := of_decide_eq_true h52 | skip
    refine aw_skip ?_
    refine th_n ?_
    refine aw_seq ?_
    refine aw_block ?_
    refine aw_seq ?_
    refine aw_reg ?_
    refine rs_ix_sm (t := k) rfl rfl rfl rfl (by omega) ?_
    refine rs_ld_m (t := k) rfl rfl rfl (by simp; omega) rfl ?_
    refine rs_mv rfl rfl ?_
    refine rs_nil fun _ => ?_
    refine th_n ?_
    refine aw_seq ?_
    refine aw_draw hmix ?_
    refine rs_mv rfl rfl ?_
    refine rs_mv rfl rfl ?_
    refine rs_build rfl rfl ?_
    refine rs_ixarr_p rfl rfl rfl (by decide) (by decide) ?_
    first | refine rs_ld_r rfl rfl rfl ?_ | refine rs_ld_p rfl rfl rfl rfl rfl ?_ | refine rs_ld_m rfl rfl rfl (by omega) rfl ?_
    refine rs_callo [] rfl rfl (fc18 l0 8) (.cons (hv_same rfl) (.cons (hv_same rfl) .nil)) .nil rfl rfl rfl ?_
    refine rs_ixarr_p rfl rfl rfl (by decide) (by decide) ?_
    first | refine rs_ld_r rfl rfl rfl ?_ | refine rs_ld_p rfl rfl rfl rfl rfl ?_ | refine rs_ld_m rfl rfl rfl (by omega) rfl ?_
    refine rs_callo [] rfl rfl (fc18 l1 8) (.cons (hv_same rfl) (.cons (hv_same rfl) .nil)) .nil rfl rfl rfl ?_
    refine rs_build rfl rfl ?_
    refine rs_mv rfl rfl ?_
    refine rs_ixarr_p rfl rfl rfl (by decide) (by decide) ?_
    first | refine rs_ld_r rfl rfl rfl ?_ | refine rs_ld_p rfl rfl rfl rfl rfl ?_ | refine rs_ld_m rfl rfl rfl (by omega) rfl ?_
    refine rs_callo [] rfl rfl (fc18 l1 8) (.cons (hv_same rfl) (.cons (hv_same rfl) .nil)) .nil rfl rfl rfl ?_
    refine rs_build rfl rfl ?_
    refine rs_bslice rfl rfl rfl rfl rfl rfl ?_
    first | refine rs_len_m rfl rfl ?_ | refine rs_len_s rfl rfl ?_ | refine rs_len_n rfl rfl ?_ | refine rs_len_r rfl rfl rfl ?_
    refine rs_mv rfl rfl ?_
    refine rs_nil ⟨by kernel_rfl, fun _ => ?_⟩
    refine th_n ?_
    refine aw_block ?_
    have hk3 : k < 3 := by omega
    refine aw_fam (α := Nat) (fun q => 3 - q) (fun q => [(4, iv lies), (8, .ptr 8 0 0), (11, .bool true), (13, ints (madeLo lims (1 + lims.length % 3))), (14, ints (madeHi lims (1 + lims.length % 3))), (15, iv (lies8.tmod 4)), (49, .sl 49 0 3), (50, iv 3), (51, iv (((k) : Nat) : Int)), (17, .rs 4 ((([(readS ls ((1 + lims.length % 3) : Nat)), oddS (readS ls ((1 + lims.length % 3) : Nat)) q0 q1 q2, wild.take 12])[k]'(by simp; omega)).map cR)), (70, .sl 70 0 3), (71, iv 3), (72, iv (((q) : Nat) : Int))]) (fun q => [(8, .cells 29 2 [[ints l0, ints l1]] true), (49, .cells 27 1 (([(readS ls ((1 + lims.length % 3) : Nat)), oddS (readS ls ((1 + lims.length % 3) : Nat)) q0 q1 q2, wild.take 12]).map cRs) true), (70, .cells 29 2 (([((madeLo lims (1 + lims.length % 3)), (madeHi lims (1 + lims.length % 3))), (l0.take 8, l1.take 8), ((madeLo lims (1 + lims.length % 3)), l1.take 8)]).map cP) true)]) (fun q => q ≤ 3) 0 (by omega)
      (weak_to (.cons rfl (rc_same rfl (.inl rfl)) (.cons rfl (rc_same rfl (.inl rfl)) (.cons rfl (rc_same rfl (.inl rfl)) (.cons rfl (rc_same rfl (.inl rfl)) (.cons rfl (rc_same rfl (.inl rfl)) (.cons rfl (rc_same rfl (.inl rfl)) (.cons rfl (rc_same rfl (.inl rfl)) (.cons rfl (rc_same rfl (.inl rfl)) (.cons rfl (rc_same rfl (.inl rfl)) (.cons rfl (rc_same rfl (.inl rfl)) (.cons rfl (rc_same rfl (.inl rfl)) (.cons rfl (rc_same rfl (.inl rfl)) (.cons rfl (rc_same rfl (.inl rfl)) (.nil)))))))))))))) (.keep (rfl) rfl (.keep (rfl) rfl (.keep (rfl) rfl (.nil)))) (fun i h => by cases h)) ?_
    intro q hq
    refine aw_seq ?_
    refine aw_reg ?_
    refine rs_lss rfl rfl rfl ?_
    refine rs_nil fun _ => ?_
    refine th_n ?_
    refine aw_seq ?_
    refine aw_cond rfl (fun h73 => ?_) (fun h73 => ?_)
    · first | replace h73 := of_decide_eq_true h73 | skip
      refine aw_skip ?_
      refine th_n ?_
      refine aw_seq ?_
      refine aw_block ?_
      refine aw_seq ?_
      refine aw_reg ?_
      refine rs_ix_sm (t := q) rfl rfl rfl rfl (by omega) ?_
      refine rs_ld_ma (t := q) rfl rfl rfl (by simp; omega) (Nat.le_of_ble_eq_true rfl) rfl ?_
      refine rs_alloc rfl rfl rfl ?_
      refine rs_st rfl rfl rfl rfl rfl rfl rfl (Nat.le_of_ble_eq_true rfl) rfl rfl ?_
      refine rs_nil fun _ => ?_
      refine th_n ?_
      refine aw_seq ?_
      refine aw_reg ?_
      refine rs_mv rfl rfl ?_
      refine rs_mv rfl rfl ?_
      refine rs_bslice rfl rfl rfl rfl rfl rfl ?_
      first | refine rs_len_m rfl rfl ?_ | refine rs_len_s rfl rfl ?_ | refine rs_len_n rfl rfl ?_ | refine rs_len_r rfl rfl rfl ?_
      refine rs_mv rfl rfl ?_
      refine rs_nil fun _ => ?_
      refine th_n ?_
      refine aw_block ?_
      have hq3 : q < 3 := by omega
      refine aw_fam (α := Nat) (fun r => 2 - r) (fun r => [(4, iv lies), (8, .ptr 8 0 0), (11, .bool true), (13, ints (madeLo lims (1 + lims.length % 3))), (14, ints (madeHi lims (1 + lims.length % 3))), (15, iv (lies8.tmod 4)), (49, .sl 49 0 3), (50, iv 3), (51, iv (((k) : Nat) : Int)), (17, .rs 4 ((([(readS ls ((1 + lims.length % 3) : Nat)), oddS (readS ls ((1 + lims.length % 3) : Nat)) q0 q1 q2, wild.take 12])[k]'(by simp; omega)).map cR)), (70, .sl 70 0 3), (71, iv 3), (72, iv (((q) : Nat) : Int)), (19, .ptr 19 0 0), (78, .sl 78 0 2), (79, iv 2), (80, iv (((r) : Nat) : Int))]) (fun r => [(8, .cells 29 2 [[ints l0, ints l1]] true), (49, .cells 27 1 (([(readS ls ((1 + lims.length % 3) : Nat)), oddS (readS ls ((1 + lims.length % 3) : Nat)) q0 q1 q2, wild.take 12]).map cRs) true), (70, .cells 29 2 (([((madeLo lims (1 + lims.length % 3)), (madeHi lims (1 + lims.length % 3))), (l0.take 8, l1.take 8), ((madeLo lims (1 + lims.length % 3)), l1.take 8)]).map cP) true), (19, .cells 29 2 [[ints (([((madeLo lims (1 + lims.length % 3)), (madeHi lims (1 + lims.length % 3))), (l0.take 8, l1.take 8), ((madeLo lims (1 + lims.length % 3)), l1.take 8)])[q]'(by simp; omega)).1, ints (([((madeLo lims (1 + lims.length % 3)), (madeHi lims (1 + lims.length % 3))), (l0.take 8, l1.take 8), ((madeLo lims (1 + lims.length % 3)), l1.take 8)])[q]'(by simp; omega)).2]] true), (78, .cells 3 1 (([lies8.tmod 4, lies]).map ci) true)]) (fun r => r ≤ 2) 0 (by omega)
        (weak_to (.cons rfl (rc_same rfl (.inl rfl)) (.cons rfl (rc_same rfl (.inl rfl)) (.cons rfl (rc_same rfl (.inl rfl)) (.cons rfl (rc_same rfl (.inl rfl)) (.cons rfl (rc_same rfl (.inl rfl)) (.cons rfl (rc_same rfl (.inl rfl)) (.cons rfl (rc_same rfl (.inl rfl)) (.cons rfl (rc_same rfl (.inl rfl)) (.cons rfl (rc_same rfl (.inl rfl)) (.cons rfl (rc_same rfl (.inl rfl)) (.cons rfl (rc_same rfl (.inl rfl)) (.cons rfl (rc_same rfl (.inl rfl)) (.cons rfl (rc_same rfl (.inl rfl)) (.cons rfl (rc_same rfl (.inl rfl)) (.cons rfl (rc_same rfl (.inl rfl)) (.cons rfl (rc_same rfl (.inl rfl)) (.cons rfl (rc_same rfl (.inl rfl)) (.nil)))))))))))))))))) (.keep (rfl) rfl (.keep (rfl) rfl (.keep (rfl) rfl (.keep (rfl) rfl (.keep (rfl) rfl (.nil)))))) (fun i h => by cases h)) ?_
      intro r hr
      refine aw_seq ?_
      refine aw_reg ?_
      refine rs_lss rfl rfl rfl ?_
      refine rs_nil fun _ => ?_
      refine th_n ?_
      refine aw_seq ?_
      refine aw_cond rfl (fun h81 => ?_) (fun h81 => ?_)
      · first | replace h81 := of_decide_eq_true h81 | skip
        refine aw_skip ?_
        refine th_n ?_
        refine aw_seq ?_
        refine aw_block ?_
        refine aw_seq ?_
        refine aw_reg ?_
        refine rs_ix_sm (t := r) rfl rfl rfl rfl (by omega) ?_
        refine rs_ld_m (t := r) rfl rfl rfl (by simp; omega) rfl ?_
        refine rs_mv rfl rfl ?_
        refine rs_nil fun _ => ?_
        refine th_n ?_
        refine aw_seq ?_
        refine aw_seq ?_
        refine aw_draw hmix ?_
        refine rs_mv rfl rfl ?_
        refine rs_ixarr_p rfl rfl rfl (by decide) (by decide) ?_
        first | refine rs_ld_r rfl rfl rfl ?_ | refine rs_ld_p rfl rfl rfl rfl rfl ?_ | refine rs_ld_m rfl rfl rfl (by omega) rfl ?_
        refine rs_ixarr_p rfl rfl rfl (by decide) (by decide) ?_
        first | refine rs_ld_r rfl rfl rfl ?_ | refine rs_ld_p rfl rfl rfl rfl rfl ?_ | refine rs_ld_m rfl rfl rfl (by omega) rfl ?_
        refine rs_mv rfl rfl ?_
        refine rs_calln [] rfl rfl (fc19 _ _ _ _) (.cons (hv_same rfl) (.cons (hv_same rfl) (.cons (hv_same rfl) (.cons (hv_same rfl) (.nil))))) rfl ?_
        refine rs_mv rfl rfl ?_
        refine rs_ixarr_p rfl rfl rfl (by decide) (by decide) ?_
        first | refine rs_ld_r rfl rfl rfl ?_ | refine rs_ld_p rfl rfl rfl rfl rfl ?_ | refine rs_ld_m rfl rfl rfl (by omega) rfl ?_
        refine rs_ixarr_p rfl rfl rfl (by decide) (by decide) ?_
        first | refine rs_ld_r rfl rfl rfl ?_ | refine rs_ld_p rfl rfl rfl rfl rfl ?_ | refine rs_ld_m rfl rfl rfl (by omega) rfl ?_
        refine rs_mv rfl rfl ?_
        refine rs_calln [] rfl rfl (fc20 _ _ _ _) (.cons (hv_same rfl) (.cons (hv_same rfl) (.cons (hv_same rfl) (.cons (hv_same rfl) (.nil))))) rfl ?_
        refine rs_cmp_f rfl rfl rfl rfl (fun h => h rfl) ?_
        refine rs_nil ⟨by kernel_rfl, fun _ => ?_⟩
        refine th_n ?_
        refine aw_cond rfl (fun h => by cases h) (fun _ => ?_)
        refine aw_skip ?_
        refine th_n ?_
        refine aw_seq ?_
        refine aw_reg ?_
        refine rs_mv rfl rfl ?_
        refine rs_ixarr_p rfl rfl rfl (by decide) (by decide) ?_
        first | refine rs_ld_r rfl rfl rfl ?_ | refine rs_ld_p rfl rfl rfl rfl rfl ?_ | refine rs_ld_m rfl rfl rfl (by omega) rfl ?_
        refine rs_ixarr_p rfl rfl rfl (by decide) (by decide) ?_
        first | refine rs_ld_r rfl rfl rfl ?_ | refine rs_ld_p rfl rfl rfl rfl rfl ?_ | refine rs_ld_m rfl rfl rfl (by omega) rfl ?_
        refine rs_mv rfl rfl ?_
        refine rs_calln [] rfl rfl (fz21 _ _ _ _) (.cons (hv_same rfl) (.cons (hv_same rfl) (.cons (hv_same rfl) (.cons (hv_same rfl) (.nil))))) rfl ?_
        refine rs_mv rfl rfl ?_
        refine rs_ext rfl rfl rfl ?_
        refine rs_ext rfl rfl rfl ?_
        refine rs_ext rfl rfl rfl ?_
        refine rs_mv rfl rfl ?_
        refine rs_mv rfl rfl ?_
        refine rs_mv rfl rfl ?_
        refine rs_nil fun _ => ?_
        refine th_n ?_
        refine aw_seq ?_
        refine aw_reg ?_
        refine rs_mv rfl rfl ?_
        refine rs_ixarr_p rfl rfl rfl (by decide) (by decide) ?_
        first | refine rs_ld_r rfl rfl rfl ?_ | refine rs_ld_p rfl rfl rfl rfl rfl ?_ | refine rs_ld_m rfl rfl rfl (by omega) rfl ?_
        refine rs_ixarr_p rfl rfl rfl (by decide) (by decide) ?_
        first | refine rs_ld_r rfl rfl rfl ?_ | refine rs_ld_p rfl rfl rfl rfl rfl ?_ | refine rs_ld_m rfl rfl rfl (by omega) rfl ?_
        refine rs_mv rfl rfl ?_
        refine rs_calln [] rfl rfl (fz22 _ _ _ _) (.cons (hv_same rfl) (.cons (hv_same rfl) (.cons (hv_same rfl) (.cons (hv_same rfl) (.nil))))) rfl ?_
        refine rs_mv rfl rfl ?_
        refine rs_ext rfl rfl rfl ?_
        refine rs_ext rfl rfl rfl ?_
        refine rs_ext rfl rfl rfl ?_
        refine rs_mv rfl rfl ?_
        refine rs_mv rfl rfl ?_
        refine rs_mv rfl rfl ?_
        refine rs_nil fun _ => ?_
        refine th_n ?_
        refine aw_seq ?_
        refine aw_seq ?_
        refine aw_reg ?_
        refine rs_mv rfl rfl ?_
        refine rs_mv rfl rfl ?_
        refine rs_cmp_f rfl rfl rfl rfl (fun h => h rfl) ?_
        refine rs_mv rfl rfl ?_
        refine rs_mv rfl rfl ?_
        refine rs_mv rfl rfl ?_
        refine rs_calln [] rfl rfl (fc23_t _ (Nat.le_trans (narrow_len _ _ _ _).1 (by decide))) (.cons (hv_same rfl) (.cons (hv_same rfl) (.nil))) rfl ?_
        refine rs_not rfl rfl ?_
        refine rs_pick rfl rfl rfl ?_
        refine rs_mv rfl rfl ?_
        refine rs_mv rfl rfl ?_
        refine rs_mv rfl rfl ?_
        refine rs_calln [] rfl rfl (fc23_t _ (Nat.le_trans (narrow_len _ _ _ _).2 (by decide))) (.cons (hv_same rfl) (.cons (hv_same rfl) (.nil))) rfl ?_
        refine rs_not rfl rfl ?_
        refine rs_pick rfl rfl rfl ?_
        refine rs_nil fun _ => ?_
        refine th_n ?_
        refine aw_cond rfl (fun h => by cases h) (fun _ => ?_)
        refine aw_skip ?_
        refine th_n ?_
        refine aw_seq ?_
        refine aw_reg ?_
        refine rs_mv rfl rfl ?_
        refine rs_ixarr_p rfl rfl rfl (by decide) (by decide) ?_
        first | refine rs_ld_r rfl rfl rfl ?_ | refine rs_ld_p rfl rfl rfl rfl rfl ?_ | refine rs_ld_m rfl rfl rfl (by omega) rfl ?_
        refine rs_ixarr_p rfl rfl rfl (by decide) (by decide) ?_
        first | refine rs_ld_r rfl rfl rfl ?_ | refine rs_ld_p rfl rfl rfl rfl rfl ?_ | refine rs_ld_m rfl rfl rfl (by omega) rfl ?_
        refine rs_mv rfl rfl ?_
        refine rs_calln [] rfl rfl (fz24 _ _ _ _) (.cons (hv_same rfl) (.cons (hv_same rfl) (.cons (hv_same rfl) (.cons (hv_same rfl) (.nil))))) rfl ?_
        refine rs_mv rfl rfl ?_
        refine rs_ext rfl rfl rfl ?_
        refine rs_ext rfl rfl rfl ?_
        refine rs_mv rfl rfl ?_
        refine rs_mv rfl rfl ?_
        refine rs_nil fun _ => ?_
        refine th_n ?_
        refine aw_seq ?_
        refine aw_reg ?_
        refine rs_mv rfl rfl ?_
        refine rs_ixarr_p rfl rfl rfl (by decide) (by decide) ?_
        first | refine rs_ld_r rfl rfl rfl ?_ | refine rs_ld_p rfl rfl rfl rfl rfl ?_ | refine rs_ld_m rfl rfl rfl (by omega) rfl ?_
        refine rs_ixarr_p rfl rfl rfl (by decide) (by decide) ?_
        first | refine rs_ld_r rfl rfl rfl ?_ | refine rs_ld_p rfl rfl rfl rfl rfl ?_ | refine rs_ld_m rfl rfl rfl (by omega) rfl ?_
        refine rs_mv rfl rfl ?_
        refine rs_calln [] rfl rfl (fz25 _ _ _ _) (.cons (hv_same rfl) (.cons (hv_same rfl) (.cons (hv_same rfl) (.cons (hv_same rfl) (.nil))))) rfl ?_
        refine rs_mv rfl rfl ?_
        refine rs_ext rfl rfl rfl ?_
        refine rs_ext rfl rfl rfl ?_
        refine rs_mv rfl rfl ?_
        refine rs_mv rfl rfl ?_
        refine rs_nil fun _ => ?_
        refine th_n ?_
        refine aw_seq ?_
        refine aw_reg ?_
        refine rs_mv rfl rfl ?_
        refine rs_mv rfl rfl ?_
        refine rs_cmp_f rfl rfl rfl rfl (fun h => h rfl) ?_
        refine rs_mv rfl rfl ?_
        refine rs_mv rfl rfl ?_
        refine rs_mv rfl rfl ?_
        refine rs_calln [] rfl rfl (fc23_t _ (Nat.le_trans (liars_len _ _ _ _) (by decide))) (.cons (hv_same rfl) (.cons (hv_same rfl) (.nil))) rfl ?_
        refine rs_not rfl rfl ?_
        refine rs_pick rfl rfl rfl ?_
        refine rs_nil fun _ => ?_
        refine th_n ?_
        refine aw_cond rfl (fun h => by cases h) (fun _ => ?_)
        refine aw_skip ?_
        refine in_n ?_
        refine th_n ?_
        refine aw_reg ?_
        first | refine rs_add rfl rfl rfl (by omega) ?_ | refine rs_addw rfl rfl rfl rfl ?_
        refine rs_mv rfl rfl ?_
        refine rs_nil fun _ => ?_
        refine th_n ?_
        exact ⟨r + 1, by omega, by omega, weak_to (.cons rfl (rc_same rfl (.inl rfl)) (.cons rfl (rc_same rfl (.inl rfl)) (.cons rfl (rc_same rfl (.inl rfl)) (.cons rfl (rc_same rfl (.inl rfl)) (.cons rfl (rc_same rfl (.inl rfl)) (.cons rfl (rc_same rfl (.inl rfl)) (.cons rfl (rc_same rfl (.inl rfl)) (.cons rfl (rc_same rfl (.inl rfl)) (.cons rfl (rc_same rfl (.inl rfl)) (.cons rfl (rc_same rfl (.inl rfl)) (.cons rfl (rc_same rfl (.inl rfl)) (.cons rfl (rc_same rfl (.inl rfl)) (.cons rfl (rc_same rfl (.inl rfl)) (.cons rfl (rc_same rfl (.inl rfl)) (.cons rfl (rc_same rfl (.inl rfl)) (.cons rfl (rc_same rfl (.inl rfl)) (.cons rfl (rc_same rfl (.inl rfl)) (.nil)))))))))))))))))) (.keep (rfl) rfl (.keep (rfl) rfl (.keep (rfl) rfl (.keep (rfl) rfl (.keep (rfl) rfl (.nil)))))) (fun i h => by cases h)⟩
      · first | replace h81 := of_decide_eq_false h81 | skip
        refine aw_exit ?_
        refine th_e ?_
        refine th_e ?_
        refine in_hit ?_
        refine in_n ?_
        refine th_n ?_
        refine aw_reg ?_
        first | refine rs_add rfl rfl rfl (by omega) ?_ | refine rs_addw rfl rfl rfl rfl ?_
        refine rs_mv rfl rfl ?_
        refine rs_nil fun _ => ?_
        refine th_n ?_
        exact ⟨q + 1, by omega, by omega, weak_to (.cons rfl (rc_same rfl (.inl rfl)) (.cons rfl (rc_same rfl (.inl rfl)) (.cons rfl (rc_same rfl (.inl rfl)) (.cons rfl (rc_same rfl (.inl rfl)) (.cons rfl (rc_same rfl (.inl rfl)) (.cons rfl (rc_same rfl (.inl rfl)) (.cons rfl (rc_same rfl (.inl rfl)) (.cons rfl (rc_same rfl (.inl rfl)) (.cons rfl (rc_same rfl (.inl rfl)) (.cons rfl (rc_same rfl (.inl rfl)) (.cons rfl (rc_same rfl (.inl rfl)) (.cons rfl (rc_same rfl (.inl rfl)) (.cons rfl (rc_same rfl (.inl rfl)) (.nil)))))))))))))) (.keep (rfl) rfl (.keep (rfl) rfl (.keep (rfl) rfl (.nil)))) (fun i h => by cases h)⟩
    · first | replace h73 := of_decide_eq_false h73 | skip
      refine aw_exit ?_
      refine th_e ?_
      refine th_e ?_
      refine in_hit ?_
      refine in_n ?_
      refine th_n ?_
      refine aw_reg ?_
      first | refine rs_add rfl rfl rfl (by omega) ?_ | refine rs_addw rfl rfl rfl rfl ?_
      refine rs_mv rfl rfl ?_
      refine rs_nil fun _ => ?_
      refine th_n ?_
      exact ⟨k + 1, by omega, by omega, weak_to (.cons rfl (rc_same rfl (.inl rfl)) (.cons rfl (rc_same rfl (.inl rfl)) (.cons rfl (rc_same rfl (.inl rfl)) (.cons rfl (rc_same rfl (.inl rfl)) (.cons rfl (rc_same rfl (.inl rfl)) (.cons rfl (rc_same rfl (.inl rfl)) (.cons rfl (rc_same rfl (.inl rfl)) (.cons rfl (rc_same rfl (.inl rfl)) (.cons rfl (rc_same rfl (.inl rfl)) (.nil)))))))))) (.keep (rfl) rfl (.keep (rfl) rfl (.nil))) (fun i h => by cases h)⟩
  · first | replace h52 := of_decide_eq_false h52 | skip
    refine aw_exit ?_
    refine th_e ?_
    refine th_e ?_
    refine in_hit ?_
    refine th_n ?_
    refine aw_seq ?_
    refine aw_reg ?_
    refine rs_mv rfl rfl ?_
    refine rs_mv rfl rfl ?_
    refine rs_nil fun _ => ?_
    refine th_n ?_
    refine aw_ret ?_
    exact ret_pure rfl rfl rfl (.inr rfl)

end Go.Proofs.Ytadjdnhnbkcakaa

/-! Walks: A18. -/
namespace Go.Proofs.Ytadjdnhnbkcakaa
open Go.RowKit

section
variable {P : Program} {N : Nat} {Z : List Nat} {F : Fr} {H : Hp} {ml : List MOper} {K : List Fp → Fr → Hp → Prop} {d : Nat} {g : Option (Nat × Bool)} {pre : List Nat}
theorem rs_bne_f {x y : Arg} {a : Bool} (hg : gOK F g = true) (hx : aarg F x = some (.bool a)) (hy : aarg F y = some (.bool a)) (h : RS P N ml ((d, .bool false) :: F) H (fun fps => K (([], []) :: fps))) : RS P N (⟨some d, .beq true x y, g, pre⟩ :: ml) F H K :=
  rs_beq hg hx hy (by rw [show (true != (a == a)) = false by simp]; exact h)
end

def mc4 : MC := (.seq (.reg [⟨(some 4), (.box 25 3 (.t 0)), none, []⟩, ⟨(some 8), (.mv (.c (.bool false))), none, []⟩] false) (.seq (.reg [⟨(some 20), (.call 15 []), none, []⟩, ⟨(some 9), (.mv (.t 20)), none, [0, 0, 0]⟩] false) (.seq (.reg [⟨(some 22), (.ld true 3 (.t 4)), none, []⟩, ⟨(some 23), (.call 16 [(.t 22)]), none, [0]⟩, ⟨(some 21), (.mv (.t 23)), none, [1]⟩, ⟨(some 24), (.ext (.t 21) 0), none, [2]⟩, ⟨(some 25), (.ext (.t 21) 1), none, [2]⟩, ⟨(some 26), (.ext (.t 21) 2), none, [2]⟩, ⟨(some 27), (.ext (.t 21) 3), none, [2]⟩, ⟨(some 10), (.mv (.t 24)), none, [3, 1, 0, 1, 2, 3]⟩, ⟨(some 11), (.mv (.t 25)), none, [4, 7, 0, 1, 2, 3, 4, 7]⟩, ⟨(some 12), (.mv (.t 26)), none, [5, 8, 0, 1, 2, 3, 4, 5, 7, 8]⟩, ⟨(some 13), (.mv (.t 27)), none, [6, 9, 0, 1, 2, 3, 4, 5, 6, 7, 8, 9]⟩] false) (.seq (.reg [⟨(some 28), (.mv (.t 2)), none, []⟩, ⟨(some 29), (.call 18 [(.t 28), (.c (.int .i64 8))]), none, [0]⟩, ⟨(some 2), (.mv (.t 29)), none, [1, 1, 0, 1]⟩] false) (.seq (.seq (.reg [⟨(some 30), (.mv (.t 10)), none, []⟩, ⟨(some 31), (.mv (.t 1)), none, []⟩, ⟨(some 32), (.mv (.t 1)), none, []⟩, ⟨(some 33), (.len (.t 32)), none, [2]⟩, ⟨(some 34), (.mn (.t 33) (.c (.int .i64 12))), none, [3]⟩, ⟨(some 35), (.slc 4 (.t 31) none (some (.t 34))), none, [1, 4]⟩, ⟨(some 36), (.bslice 27 1 [.nils] 2 [(0, (.t 30)), (1, (.t 35))]), none, [0, 5]⟩, ⟨(some 37), (.len (.t 36)), none, [6]⟩, ⟨(some 38), (.mv (.c (.int .i64 0))), none, []⟩] false) (.block 0 (.loop (.seq (.reg [⟨(some 39), (.bin .lss (.t 38) (.t 37)), none, []⟩] false) (.seq (.cond (.t 39) .skip (.exit 0)) (.seq (.block 1 (.seq (.reg [⟨(some 40), (.ixsl 1 (.t 36) (.t 38)), none, []⟩, ⟨(some 41), (.ld false 1 (.t 40)), none, [0]⟩, ⟨(some 15), (.mv (.t 41)), none, [1, 0, 1]⟩] false) (.seq (.reg [⟨(some 42), (.mv (.t 2)), none, []⟩, ⟨(some 43), (.mv (.t 11)), none, []⟩, ⟨(some 44), (.mv (.t 12)), none, []⟩, ⟨(some 45), (.bslice 28 1 [.nils] 3 [(0, (.t 42)), (1, (.t 43)), (2, (.t 44))]), none, [0, 1, 2]⟩, ⟨(some 46), (.len (.t 45)), none, [3]⟩, ⟨(some 47), (.mv (.c (.int .i64 0))), none, []⟩] false) (.block 2 (.loop (.seq (.reg [⟨(some 48), (.bin .lss (.t 47) (.t 46)), none, []⟩] false) (.seq (.cond (.t 48) .skip (.exit 2)) (.seq (.block 3 (.seq (.reg [⟨(some 49), (.ixsl 1 (.t 45) (.t 47)), none, []⟩, ⟨(some 50), (.ld false 1 (.t 49)), none, [0]⟩, ⟨(some 17), (.mv (.t 50)), none, [1, 0, 1]⟩] false) (.seq (.reg [⟨(some 51), (.mv (.t 13)), none, []⟩, ⟨(some 52), (.mv (.t 3)), none, []⟩, ⟨(some 53), (.mv (.t 15)), none, []⟩, ⟨(some 54), (.len (.t 53)), none, [2]⟩, ⟨(some 55), (.bslice 3 1 [(.int .i64 0)] 3 [(0, (.t 51)), (1, (.t 52)), (2, (.t 54))]), none, [0, 1, 3]⟩, ⟨(some 56), (.len (.t 55)), none, [4]⟩, ⟨(some 57), (.mv (.c (.int .i64 0))), none, []⟩] false) (.block 4 (.loop (.seq (.reg [⟨(some 58), (.bin .lss (.t 57) (.t 56)), none, []⟩] false) (.seq (.cond (.t 58) .skip (.exit 4)) (.seq (.block 5 (.seq (.reg [⟨(some 59), (.ixsl 1 (.t 55) (.t 57)), none, []⟩, ⟨(some 60), (.ld false 1 (.t 59)), none, [0]⟩, ⟨(some 19), (.mv (.t 60)), none, [1, 0, 1]⟩] false) (.seq (.reg [⟨(some 61), (.mv (.t 15)), none, []⟩, ⟨(some 62), (.mv (.t 17)), none, []⟩, ⟨(some 63), (.mv (.t 19)), none, []⟩, ⟨(some 64), (.call 26 [(.t 61), (.t 62), (.t 63)]), none, [0, 1, 2]⟩, ⟨(some 65), (.mv (.t 15)), none, []⟩, ⟨(some 66), (.mv (.t 17)), none, []⟩, ⟨(some 67), (.mv (.t 19)), none, []⟩, ⟨(some 68), (.call 27 [(.t 65), (.t 66), (.t 67)]), none, [4, 5, 6, 3]⟩, ⟨(some 69), (.beq true (.t 64) (.t 68)), none, [3, 7]⟩] false) (.cond (.t 69) (.seq (.reg [⟨(some 8), (.mv (.c (.bool false))), none, []⟩] false) .ret) .skip)))) (.reg [⟨(some 70), (.bin .add (.t 57) (.c (.int .i64 1))), none, []⟩, ⟨(some 57), (.mv (.t 70)), none, [0]⟩] false))))))))) (.reg [⟨(some 71), (.bin .add (.t 47) (.c (.int .i64 1))), none, []⟩, ⟨(some 47), (.mv (.t 71)), none, [0]⟩] false))))))))) (.reg [⟨(some 72), (.bin .add (.t 38) (.c (.int .i64 1))), none, []⟩, ⟨(some 38), (.mv (.t 72)), none, [0]⟩] false))))))) (.seq (.reg [⟨(some 73), (.mv (.t 9)), none, []⟩, ⟨(some 8), (.mv (.t 73)), none, [0, 0]⟩] false) .ret))))))
theorem mcOk4 : (match Try.f4.body with | some c => compC Try.prog 74 c | none => none) = some mc4 := by kernel_rfl

theorem fc4 (ls : List (List Int)) (lims : List Int) (lies8 : Int) (wild : List Rd) (vs : List Int) (lies : Int) (hls : ∀ L ∈ ls, L.length ≤ 4611686018427387904) (hlims : ∀ x ∈ lims, 0 ≤ x ∧ x < 256) (hlies : 0 ≤ lies8 ∧ lies8 < 256) : FC Try.prog 4 [.agg [.rs 1 (ls.map cL), .rs 1 (lims.map cu8), .int .u8 lies8], .rs 4 (wild.map cR), ints vs, iv lies] [] (.bool true) [] false := by
  have hrl : ∀ r ∈ ([(readS ls ((1 + lims.length % 3) : Nat)), wild.take 12]), r.length ≤ 12 := by
    have h1 := readS_len ls ((1 + lims.length % 3) : Nat)
    intro r hr
    simp only [List.mem_cons, List.not_mem_nil, or_false] at hr
    rcases hr with rfl | rfl
    · omega
    · simp; omega
  refine fc_run (nt := 74) Try.func4 rfl rfl mcOk4 (Nat.le_of_ble_eq_true rfl) ?_
  delta mc4
  refine aw_seq ?_
  refine aw_reg ?_
  refine rs_box rfl rfl rfl rfl rfl rfl ?_
  refine rs_mv rfl rfl ?_
  refine rs_nil fun _ => ?_
  refine th_n ?_
  refine aw_seq ?_
  refine aw_reg ?_
  refine rs_calln [] rfl rfl fc15 .nil rfl ?_
  refine rs_mv rfl rfl ?_
  refine rs_nil fun _ => ?_
  refine th_n ?_
  refine aw_seq ?_
  refine aw_reg ?_
  first | refine rs_ld_pa rfl rfl rfl rfl (Nat.le_of_ble_eq_true rfl) rfl ?_ | refine rs_ld_ra rfl rfl (Nat.le_of_ble_eq_true rfl) rfl ?_ | refine rs_ld_ma rfl rfl rfl (by omega) (Nat.le_of_ble_eq_true rfl) rfl ?_
  refine rs_callo [] rfl rfl (fc16 ls lims lies8 hls hlims hlies) (.cons (hv_same rfl) .nil) .nil rfl rfl rfl ?_
  refine rs_mv rfl rfl ?_
  refine rs_ext rfl rfl rfl ?_
  refine rs_ext rfl rfl rfl ?_
  refine rs_ext rfl rfl rfl ?_
  refine rs_ext rfl rfl rfl ?_
  refine rs_mv rfl rfl ?_
  refine rs_mv rfl rfl ?_
  refine rs_mv rfl rfl ?_
  refine rs_mv rfl rfl ?_
  refine rs_nil fun _ => ?_
  refine th_n ?_
  refine aw_seq ?_
  refine aw_reg ?_
  refine rs_mv rfl rfl ?_
  refine rs_callo [] rfl rfl (fc18 vs 8) (.cons (hv_same rfl) (.cons (hv_same rfl) .nil)) .nil rfl rfl rfl ?_
  refine rs_mv rfl rfl ?_
  refine rs_nil fun _ => ?_
  refine th_n ?_
  refine aw_seq ?_
  refine aw_seq ?_
  refine aw_reg ?_
  refine rs_mv rfl rfl ?_
  refine rs_mv rfl rfl ?_
  refine rs_mv rfl rfl ?_
  first | refine rs_len_m rfl rfl ?_ | refine rs_len_s rfl rfl ?_ | refine rs_len_n rfl rfl ?_ | refine rs_len_r rfl rfl rfl ?_
  refine rs_mn rfl rfl rfl rfl ?_
  refine rs_slc_r (l := 0) (q := min (wild.length : Int) 12) (els' := (wild.take 12).map cR) rfl rfl rfl rfl rfl (by omega) (by omega) (by simp; omega) (by rw [show (min (wild.length : Int) 12).toNat = min wild.length 12 by omega]; simp [List.take_eq_take_min, Nat.min_comm]) ?_
  refine rs_bslice rfl rfl rfl rfl rfl rfl ?_
  first | refine rs_len_m rfl rfl ?_ | refine rs_len_s rfl rfl ?_ | refine rs_len_n rfl rfl ?_ | refine rs_len_r rfl rfl rfl ?_
  refine rs_mv rfl rfl ?_
  refine rs_nil fun _ => ?_
  refine th_n ?_
  refine aw_block ?_
  refine aw_fam (α := Nat) (fun k => 2 - k) (fun k => [(2, ints (vs.take 8)), (3, iv lies), (9, .bool true), (11, ints (madeLo lims (1 + lims.length % 3))), (12, ints (madeHi lims (1 + lims.length % 3))), (13, iv (lies8.tmod 4)), (36, .sl 36 0 2), (37, iv 2), (38, iv (((k) : Nat) : Int))]) (fun k => [(36, .cells 27 1 (([(readS ls ((1 + lims.length % 3) : Nat)), wild.take 12]).map cRs) true)]) (fun k => k ≤ 2) 0 (by omega)
    (weak_to (.cons rfl (rc_same rfl (.inl rfl)) (.cons rfl (rc_same rfl (.inl rfl)) (.cons rfl (rc_same rfl (.inl rfl)) (.cons rfl (rc_same rfl (.inl rfl)) (.cons rfl (rc_same rfl (.inl rfl)) (.cons rfl (rc_same rfl (.inl rfl)) (.cons rfl (rc_same rfl (.inl rfl)) (.cons rfl (rc_same rfl (.inl rfl)) (.cons rfl (rc_same rfl (.inl rfl)) (.nil)))))))))) (.keep (rfl) rfl (.nil)) (fun i h => by cases h)) ?_
  intro k hk
  refine aw_seq ?_
  refine aw_reg ?_
  refine rs_lss rfl rfl rfl ?_
  refine rs_nil fun _ => ?_
  refine th_n ?_
  refine aw_seq ?_
  refine aw_cond rfl (fun h39 => ?_) (fun h39 => ?_)
  · first | replace h39 := of_decide_eq_true h39 | skip
    refine aw_skip ?_
    refine th_n ?_
    refine aw_seq ?_
    refine aw_block ?_
    refine aw_seq ?_
    refine aw_reg ?_
    refine rs_ix_sm (t := k) rfl rfl rfl rfl (by omega) ?_
    refine rs_ld_m (t := k) rfl rfl rfl (by simp; omega) rfl ?_
    refine rs_mv rfl rfl ?_
    refine rs_nil fun _ => ?_
    refine th_n ?_
    refine aw_seq ?_
    refine aw_reg ?_
    refine rs_mv rfl rfl ?_
    refine rs_mv rfl rfl ?_
    refine rs_mv rfl rfl ?_
    refine rs_bslice rfl rfl rfl rfl rfl rfl ?_
    first | refine rs_len_m rfl rfl ?_ | refine rs_len_s rfl rfl ?_ | refine rs_len_n rfl rfl ?_ | refine rs_len_r rfl rfl rfl ?_
    refine rs_mv rfl rfl ?_
    refine rs_nil fun _ => ?_
    refine th_n ?_
    refine aw_block ?_
    have hk3 : k < 2 := by omega
    refine aw_fam (α := Nat) (fun q => 3 - q) (fun q => [(2, ints (vs.take 8)), (3, iv lies), (9, .bool true), (11, ints (madeLo lims (1 + lims.length % 3))), (12, ints (madeHi lims (1 + lims.length % 3))), (13, iv (lies8.tmod 4)), (36, .sl 36 0 2), (37, iv 2), (38, iv (((k) : Nat) : Int)), (15, .rs 4 ((([(readS ls ((1 + lims.length % 3) : Nat)), wild.take 12])[k]'(by simp; omega)).map cR)), (45, .sl 45 0 3), (46, iv 3), (47, iv (((q) : Nat) : Int))]) (fun q => [(36, .cells 27 1 (([(readS ls ((1 + lims.length % 3) : Nat)), wild.take 12]).map cRs) true), (45, .cells 28 1 (([vs.take 8, (madeLo lims (1 + lims.length % 3)), (madeHi lims (1 + lims.length % 3))]).map cL) true)]) (fun q => q ≤ 3) 0 (by omega)
      (weak_to (.cons rfl (rc_same rfl (.inl rfl)) (.cons rfl (rc_same rfl (.inl rfl)) (.cons rfl (rc_same rfl (.inl rfl)) (.cons rfl (rc_same rfl (.inl rfl)) (.cons rfl (rc_same rfl (.inl rfl)) (.cons rfl (rc_same rfl (.inl rfl)) (.cons rfl (rc_same rfl (.inl rfl)) (.cons rfl (rc_same rfl (.inl rfl)) (.cons rfl (rc_same rfl (.inl rfl)) (.cons rfl (rc_same rfl (.inl rfl)) (.cons rfl (rc_same rfl (.inl rfl)) (.cons rfl (rc_same rfl (.inl rfl)) (.cons rfl (rc_same rfl (.inl rfl)) (.nil)))))))))))))) (.keep (rfl) rfl (.keep (rfl) rfl (.nil))) (fun i h => by cases h)) ?_
    intro q hq
    refine aw_seq ?_
    refine aw_reg ?_
    refine rs_lss rfl rfl rfl ?_
    refine rs_nil fun _ => ?_
    refine th_n ?_
    refine aw_seq ?_
    refine aw_cond rfl (fun h48 => ?_) (fun h48 => ?_)
    · first | replace h48 := of_decide_eq_true h48 | skip
      refine aw_skip ?_
      refine th_n ?_
      refine aw_seq ?_
      refine aw_block ?_
      refine aw_seq ?_
      refine aw_reg ?_
      refine rs_ix_sm (t := q) rfl rfl rfl rfl (by omega) ?_
      refine rs_ld_m (t := q) rfl rfl rfl (by simp; omega) rfl ?_
      refine rs_mv rfl rfl ?_
      refine rs_nil fun _ => ?_
      refine th_n ?_
      refine aw_seq ?_
      refine aw_reg ?_
      refine rs_mv rfl rfl ?_
      refine rs_mv rfl rfl ?_
      refine rs_mv rfl rfl ?_
      first | refine rs_len_m rfl rfl ?_ | refine rs_len_s rfl rfl ?_ | refine rs_len_n rfl rfl ?_ | refine rs_len_r rfl rfl rfl ?_
      refine rs_bslice rfl rfl rfl rfl rfl rfl ?_
      first | refine rs_len_m rfl rfl ?_ | refine rs_len_s rfl rfl ?_ | refine rs_len_n rfl rfl ?_ | refine rs_len_r rfl rfl rfl ?_
      refine rs_mv rfl rfl ?_
      refine rs_nil fun _ => ?_
      refine th_n ?_
      refine aw_block ?_
      have hq3 : q < 3 := by omega
      refine aw_fam (α := Nat) (fun r => 3 - r) (fun r => [(2, ints (vs.take 8)), (3, iv lies), (9, .bool true), (11, ints (madeLo lims (1 + lims.length % 3))), (12, ints (madeHi lims (1 + lims.length % 3))), (13, iv (lies8.tmod 4)), (36, .sl 36 0 2), (37, iv 2), (38, iv (((k) : Nat) : Int)), (15, .rs 4 ((([(readS ls ((1 + lims.length % 3) : Nat)), wild.take 12])[k]'(by simp; omega)).map cR)), (45, .sl 45 0 3), (46, iv 3), (47, iv (((q) : Nat) : Int)), (17, ints (([vs.take 8, (madeLo lims (1 + lims.length % 3)), (madeHi lims (1 + lims.length % 3))])[q]'(by simp; omega))), (55, .sl 55 0 3), (56, iv 3), (57, iv (((r) : Nat) : Int))]) (fun r => [(36, .cells 27 1 (([(readS ls ((1 + lims.length % 3) : Nat)), wild.take 12]).map cRs) true), (45, .cells 28 1 (([vs.take 8, (madeLo lims (1 + lims.length % 3)), (madeHi lims (1 + lims.length % 3))]).map cL) true), (55, .cells 3 1 (([lies8.tmod 4, lies, ((([(readS ls ((1 + lims.length % 3) : Nat)), wild.take 12])[k]'(by simp; omega)).length : Int)]).map ci) true)]) (fun r => r ≤ 3) 0 (by omega)
        (weak_to (.cons rfl (rc_same rfl (.inl rfl)) (.cons rfl (rc_same rfl (.inl rfl)) (.cons rfl (rc_same rfl (.inl rfl)) (.cons rfl (rc_same rfl (.inl rfl)) (.cons rfl (rc_same rfl (.inl rfl)) (.cons rfl (rc_same rfl (.inl rfl)) (.cons rfl (rc_same rfl (.inl rfl)) (.cons rfl (rc_same rfl (.inl rfl)) (.cons rfl (rc_same rfl (.inl rfl)) (.cons rfl (rc_same rfl (.inl rfl)) (.cons rfl (rc_same rfl (.inl rfl)) (.cons rfl (rc_same rfl (.inl rfl)) (.cons rfl (rc_same rfl (.inl rfl)) (.cons rfl (rc_same rfl (.inl rfl)) (.cons rfl (rc_same rfl (.inl rfl)) (.cons rfl (rc_same rfl (.inl rfl)) (.cons rfl (rc_same rfl (.inl rfl)) (.nil)))))))))))))))))) (.keep (rfl) rfl (.keep (rfl) rfl (.keep (rfl) rfl (.nil)))) (fun i h => by cases h)) ?_
      intro r hr
      refine aw_seq ?_
      refine aw_reg ?_
      refine rs_lss rfl rfl rfl ?_
      refine rs_nil fun _ => ?_
      refine th_n ?_
      refine aw_seq ?_
      refine aw_cond rfl (fun h58 => ?_) (fun h58 => ?_)
      · first | replace h58 := of_decide_eq_true h58 | skip
        refine aw_skip ?_
        refine th_n ?_
        refine aw_seq ?_
        refine aw_block ?_
        refine aw_seq ?_
        refine aw_reg ?_
        refine rs_ix_sm (t := r) rfl rfl rfl rfl (by omega) ?_
        refine rs_ld_m (t := r) rfl rfl rfl (by simp; omega) rfl ?_
        refine rs_mv rfl rfl ?_
        refine rs_nil fun _ => ?_
        refine th_n ?_
        refine aw_seq ?_
        refine aw_reg ?_
        refine rs_mv rfl rfl ?_
        refine rs_mv rfl rfl ?_
        refine rs_mv rfl rfl ?_
        refine rs_calln [] rfl rfl (fc26 _ _ _ (Nat.le_trans (hrl _ (List.getElem_mem _)) (by decide))) (.cons (hv_same rfl) (.cons (hv_same rfl) (.cons (hv_same rfl) (.nil)))) rfl ?_
        refine rs_mv rfl rfl ?_
        refine rs_mv rfl rfl ?_
        refine rs_mv rfl rfl ?_
        refine rs_calln [] rfl rfl (fc27 _ _ _ (Nat.le_trans (hrl _ (List.getElem_mem _)) (by decide))) (.cons (hv_same rfl) (.cons (hv_same rfl) (.cons (hv_same rfl) (.nil)))) rfl ?_
        refine rs_bne_f rfl rfl rfl ?_
        refine rs_nil fun _ => ?_
        refine th_n ?_
        refine aw_cond rfl (fun h => by cases h) (fun _ => ?_)
        refine aw_skip ?_
        refine in_n ?_
        refine th_n ?_
        refine aw_reg ?_
        first | refine rs_add rfl rfl rfl (by omega) ?_ | refine rs_addw rfl rfl rfl rfl ?_
        refine rs_mv rfl rfl ?_
        refine rs_nil fun _ => ?_
        refine th_n ?_
        exact ⟨r + 1, by omega, by omega, weak_to (.cons rfl (rc_same rfl (.inl rfl)) (.cons rfl (rc_same rfl (.inl rfl)) (.cons rfl (rc_same rfl (.inl rfl)) (.cons rfl (rc_same rfl (.inl rfl)) (.cons rfl (rc_same rfl (.inl rfl)) (.cons rfl (rc_same rfl (.inl rfl)) (.cons rfl (rc_same rfl (.inl rfl)) (.cons rfl (rc_same rfl (.inl rfl)) (.cons rfl (rc_same rfl (.inl rfl)) (.cons rfl (rc_same rfl (.inl rfl)) (.cons rfl (rc_same rfl (.inl rfl)) (.cons rfl (rc_same rfl (.inl rfl)) (.cons rfl (rc_same rfl (.inl rfl)) (.cons rfl (rc_same rfl (.inl rfl)) (.cons rfl (rc_same rfl (.inl rfl)) (.cons rfl (rc_same rfl (.inl rfl)) (.cons rfl (rc_same rfl (.inl rfl)) (.nil)))))))))))))))))) (.keep (rfl) rfl (.keep (rfl) rfl (.keep (rfl) rfl (.nil)))) (fun i h => by cases h)⟩
      · first | replace h58 := of_decide_eq_false h58 | skip
        refine aw_exit ?_
        refine th_e ?_
        refine th_e ?_
        refine in_hit ?_
        refine in_n ?_
        refine th_n ?_
        refine aw_reg ?_
        first | refine rs_add rfl rfl rfl (by omega) ?_ | refine rs_addw rfl rfl rfl rfl ?_
        refine rs_mv rfl rfl ?_
        refine rs_nil fun _ => ?_
        refine th_n ?_
        exact ⟨q + 1, by omega, by omega, weak_to (.cons rfl (rc_same rfl (.inl rfl)) (.cons rfl (rc_same rfl (.inl rfl)) (.cons rfl (rc_same rfl (.inl rfl)) (.cons rfl (rc_same rfl (.inl rfl)) (.cons rfl (rc_same rfl (.inl rfl)) (.cons rfl (rc_same rfl (.inl rfl)) (.cons rfl (rc_same rfl (.inl rfl)) (.cons rfl (rc_same rfl (.inl rfl)) (.cons rfl (rc_same rfl (.inl rfl)) (.cons rfl (rc_same rfl (.inl rfl)) (.cons rfl (rc_same rfl (.inl rfl)) (.cons rfl (rc_same rfl (.inl rfl)) (.cons rfl (rc_same rfl (.inl rfl)) (.nil)))))))))))))) (.keep (rfl) rfl (.keep (rfl) rfl (.nil))) (fun i h => by cases h)⟩
    · first | replace h48 := of_decide_eq_false h48 | skip
      refine aw_exit ?_
      refine th_e ?_
      refine th_e ?_
      refine in_hit ?_
      refine in_n ?_
      refine th_n ?_
      refine aw_reg ?_
      first | refine rs_add rfl rfl rfl (by omega) ?_ | refine rs_addw rfl rfl rfl rfl ?_
      refine rs_mv rfl rfl ?_
      refine rs_nil fun _ => ?_
      refine th_n ?_
      exact ⟨k + 1, by omega, by omega, weak_to (.cons rfl (rc_same rfl (.inl rfl)) (.cons rfl (rc_same rfl (.inl rfl)) (.cons rfl (rc_same rfl (.inl rfl)) (.cons rfl (rc_same rfl (.inl rfl)) (.cons rfl (rc_same rfl (.inl rfl)) (.cons rfl (rc_same rfl (.inl rfl)) (.cons rfl (rc_same rfl (.inl rfl)) (.cons rfl (rc_same rfl (.inl rfl)) (.cons rfl (rc_same rfl (.inl rfl)) (.nil)))))))))) (.keep (rfl) rfl (.nil)) (fun i h => by cases h)⟩
  · first | replace h39 := of_decide_eq_false h39 | skip
    refine aw_exit ?_
    refine th_e ?_
    refine th_e ?_
    refine in_hit ?_
    refine th_n ?_
    refine aw_seq ?_
    refine aw_reg ?_
    refine rs_mv rfl rfl ?_
    refine rs_mv rfl rfl ?_
    refine rs_nil fun _ => ?_
    refine th_n ?_
    refine aw_ret ?_
    exact ret_pure rfl rfl rfl (.inr rfl)

end Go.Proofs.Ytadjdnhnbkcakaa

/-! The arguments of the laws, as they are read: the shapes of their types, and what a reading tells. -/
namespace Go.Proofs.Ytadjdnhnbkcakaa
open Go.RowKit Go.WideShapes Go.ChangeShapes Go.ChangeAt
set_option maxRecDepth 100000

theorem own_knob : ownKnob Try.prog.godebug = none := by kernel_rfl
theorem laid_out : laidOutB Try.prog = true := by kernel_rfl

abbrev shCase21 : Sh := .st [.sl 1 (.sl 1 (.int .i64)), .sl 1 (.int .u8), .int .u8]
abbrev shRd : Sh := .st [.int .i64, .int .i64, .int .i64, .int .i64]

theorem rd_i {H : Type} (d : DataW H) (h : Gd (.int .i64) d) : ∃ n : Int, True ∧ avD (.int .i64) d = ci n := by
  obtain ⟨n, _, e⟩ := rd_int d h
  exact ⟨n, trivial, e⟩
theorem rd_u8 {H : Type} (d : DataW H) (h : Gd (.int .u8) d) : ∃ n : Int, (0 ≤ n ∧ n < 256) ∧ avD (.int .u8) d = cu8 n := by
  obtain ⟨n, hw, e⟩ := rd_int d h
  have := bounds_u8 hw
  exact ⟨n, by omega, e⟩
theorem rd_ints {H : Type} (d : DataW H) (h : Gd (.sl 1 (.int .i64)) d) : ∃ L : List Int, L.length ≤ 140737488351232 ∧ avD (.sl 1 (.int .i64)) d = cL L := by
  obtain ⟨L, ⟨h1, _⟩, e⟩ := rd_sl (fun _ => True) ci rd_i d h
  exact ⟨L, h1, e⟩
theorem rd_lists {H : Type} (d : DataW H) (h : Gd (.sl 1 (.sl 1 (.int .i64))) d) : ∃ ls : List (List Int), (ls.length ≤ 140737488351232 ∧ ∀ L ∈ ls, L.length ≤ 140737488351232) ∧ avD (.sl 1 (.sl 1 (.int .i64))) d = [.rs 1 (ls.map cL)] :=
  rd_sl _ cL rd_ints d h
theorem rd_u8s {H : Type} (d : DataW H) (h : Gd (.sl 1 (.int .u8)) d) : ∃ ls : List Int, (ls.length ≤ 140737488351232 ∧ ∀ x ∈ ls, 0 ≤ x ∧ x < 256) ∧ avD (.sl 1 (.int .u8)) d = [.rs 1 (ls.map cu8)] :=
  rd_sl _ cu8 rd_u8 d h
theorem rd_rd {H : Type} (d : DataW H) (h : Gd shRd d) : ∃ r : Rd, True ∧ avD shRd d = cR r := by
  obtain ⟨ps, g, e⟩ := rd_st d h
  obtain ⟨d0, r0, g0, g, e0⟩ := rd_cons ps g
  obtain ⟨d1, r1, g1, g, e1⟩ := rd_cons r0 g
  obtain ⟨d2, r2, g2, g, e2⟩ := rd_cons r1 g
  obtain ⟨d3, r3, g3, g, e3⟩ := rd_cons r2 g
  obtain ⟨n0, _, a0⟩ := rd_i d0 g0
  obtain ⟨n1, _, a1⟩ := rd_i d1 g1
  obtain ⟨n2, _, a2⟩ := rd_i d2 g2
  obtain ⟨n3, _, a3⟩ := rd_i d3 g3
  exact ⟨⟨n0, n1, n2, n3⟩, trivial, by rw [e, e0, e1, e2, e3, rd_nil r3 g, a0, a1, a2, a3]; rfl⟩
theorem rd_case21 {H : Type} (d : DataW H) (h : Gd shCase21 d) : ∃ (ls : List (List Int)) (lims : List Int) (lies : Int), ((ls.length ≤ 140737488351232 ∧ ∀ L ∈ ls, L.length ≤ 140737488351232) ∧ (lims.length ≤ 140737488351232 ∧ ∀ x ∈ lims, 0 ≤ x ∧ x < 256) ∧ (0 ≤ lies ∧ lies < 256)) ∧
    argA shCase21 d = .agg [.rs 1 (ls.map cL), .rs 1 (lims.map cu8), .int .u8 lies] := by
  obtain ⟨ps, g, e⟩ := rd_st d h
  obtain ⟨d0, r0, g0, g, e0⟩ := rd_cons ps g
  obtain ⟨d1, r1, g1, g, e1⟩ := rd_cons r0 g
  obtain ⟨d2, r2, g2, g, e2⟩ := rd_cons r1 g
  obtain ⟨n0, k0, a0⟩ := rd_lists d0 g0
  obtain ⟨n1, k1, a1⟩ := rd_u8s d1 g1
  obtain ⟨n2, k2, a2⟩ := rd_u8 d2 g2
  exact ⟨n0, n1, n2, ⟨k0, k1, k2⟩, by simp only [argA]; rw [e, e0, e1, e2, rd_nil r2 g, a0, a1, a2]; rfl⟩

end Go.Proofs.Ytadjdnhnbkcakaa
namespace Go.Proofs.Ytadjdnhnbkcakaa
open Go.RowKit Go.WideShapes Go.ChangeShapes Go.ChangeAt
set_option maxRecDepth 100000

abbrev shs4 : List Sh := [shCase21, .sl 4 (shRd), .sl 1 (.int .i64), .int .i64]

theorem lifted4 (os : Os) (started : os.Started) (H : Type) (enc : TypeId × Value → H) :
    ReturnsInHanded {} Try.checked os 4 .any (Rows.probeAgreesSpec.pre6 enc Try.prog Try.f4 Rows.probeAgreesRow.domain false) (Rows.probeAgreesSpec.post enc Try.prog Try.f4 false true false false) := by
  refine law_row (C := Try.checked) own_knob started (by kernel_rfl) Try.func4 laid_out rfl (tb := 4) rfl Try.underlying4 shs4 (by kernel_rfl) (fun ds h => ?_)
    (ChangeSpec.witness6 (enc := enc) (C := Try.checked) false ⟨#[], #[.agg #[.slice none 0 0, .slice none 0 0, .int .u8 0], .slice none 0 0, .slice none 0 0, .int .i64 0], []⟩ 8 (by kernel_rfl) (by kernel_rfl) (by kernel_rfl) (by kernel_rfl)) fun ds hg => ⟨false, ?_⟩
  · match ds, h with
    | [_, _, _, _], _ => rfl
  · simp only [shs4, GdFs] at hg
    obtain ⟨d0, _, rfl, g0, d1, _, rfl, g1, d2, _, rfl, g2, d3, _, rfl, g3, rfl⟩ := hg
    obtain ⟨ls, lims, lies8, ⟨⟨_, hls⟩, ⟨_, hlims⟩, hl8⟩, e0⟩ := rd_case21 d0 g0
    obtain ⟨wild, ⟨hl_wild, hr_wild⟩, e1⟩ := rd_sl _ cR rd_rd d1 g1
    obtain ⟨vs, ⟨hl_vs, hr_vs⟩, e2⟩ := rd_sl _ ci rd_i d2 g2
    obtain ⟨lies, _, e3⟩ := rd_i d3 g3
    have e : argAs shs4 [d0, d1, d2, d3] = [.agg [.rs 1 (ls.map cL), .rs 1 (lims.map cu8), .int .u8 lies8], .rs 4 (wild.map cR), .rs 1 (vs.map ci), iv lies] := by
      simp only [argAs, shs4]
      rw [e0]
      simp only [argA]
      rw [e1, e2, e3]
      rfl
    rw [e]
    exact fc4 ls lims lies8 wild vs lies (fun L h => Nat.le_trans (hls L h) (by decide)) hlims hl8

theorem over4 : Rows.probeAgreesRow.holds Try.pinned (OpenSpec.ofChange Rows.probeAgreesSpec) :=
  OpenClaim.holds_of_wide 4 Try.f4 rfl rfl rfl rfl rfl rfl rfl ⟨rfl, rfl, rfl, rfl, rfl⟩ rfl rfl rfl rfl rfl (by kernel_rfl) Try.func4 (by kernel_rfl)
    (of_decide_eq_true (by kernel_rfl)) (by unfold Func.isWrapper; rw [if_neg (of_decide_eq_false (by kernel_rfl))]; exact ⟨rfl, rfl⟩)
    (fun os started H enc _ => lifted4 os started H enc)

theorem probeAgrees_holds : Rows.ProbeAgreesSaid := over4
#print axioms probeAgrees_holds
end Go.Proofs.Ytadjdnhnbkcakaa
