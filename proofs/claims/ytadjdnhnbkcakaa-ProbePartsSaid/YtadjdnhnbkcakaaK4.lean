/-
  Parts of the proof: A17 A18 B0 B1 A19 A20 B2.
-/
import Derived.Test.YtadjdnhnbkcakaaK3
set_option linter.unusedVariables false

/-! Walks: A17. -/
namespace Go.Proofs.Ytadjdnhnbkcakaa
open Go.RowKit

abbrev cRs (r : List Rd) : List AV := [.rs 4 (r.map cR)]
abbrev cP (p : List Int × List Int) : List AV := [ints p.1, ints p.2]
theorem narrow_len (l : List Rd) (lo hi : List Int) (lies : Int) : (narrowA l lo hi lies).length ≤ 6 ∧ (narrowB l lo hi lies).length ≤ 6 := by
  by_cases h0 : checkS l lo hi lies = 0
  · obtain ⟨_, h2, h6, _⟩ := check_ok h0
    have h := ex51_len (l := l) (lies := lies) h2
    unfold narrowA narrowB
    split
    · simp
    · omega
  · obtain ⟨_, h2, h3⟩ := narrow_1 h0
    rw [h2, h3]; simp
theorem liars_len (l : List Rd) (lo hi : List Int) (lies : Int) : (liarsL l lo hi lies).length ≤ 8 := by
  unfold liarsL
  split
  · simp
  · exact outK_le _ _
theorem readS_len (ls : List (List Int)) (q : Int) : (readS ls q).length ≤ 10 := by
  unfold readS
  split
  · simp; omega
  · simp

def mc3 : MC := (.seq (.reg [⟨(some 5), (.box 25 3 (.t 0)), none, []⟩, ⟨(some 6), (.box 26 3 (.t 1)), none, []⟩, ⟨(some 8), (.box 29 2 (.t 3)), none, []⟩, ⟨(some 10), (.mv (.c (.bool false))), none, []⟩] false) (.seq (.reg [⟨(some 32), (.call 15 []), none, []⟩, ⟨(some 11), (.mv (.t 32)), none, [0, 0, 0]⟩] false) (.seq (.reg [⟨(some 34), (.ld true 3 (.t 5)), none, []⟩, ⟨(some 35), (.call 16 [(.t 34)]), none, [0]⟩, ⟨(some 33), (.mv (.t 35)), none, [1]⟩, ⟨(some 36), (.ext (.t 33) 0), none, [2]⟩, ⟨(some 37), (.ext (.t 33) 1), none, [2]⟩, ⟨(some 38), (.ext (.t 33) 2), none, [2]⟩, ⟨(some 39), (.ext (.t 33) 3), none, [2]⟩, ⟨(some 12), (.mv (.t 36)), none, [3, 1, 0, 1, 2, 3]⟩, ⟨(some 13), (.mv (.t 37)), none, [4, 7, 0, 1, 2, 3, 4, 7]⟩, ⟨(some 14), (.mv (.t 38)), none, [5, 8, 0, 1, 2, 3, 4, 5, 7, 8]⟩, ⟨(some 15), (.mv (.t 39)), none, [6, 9, 0, 1, 2, 3, 4, 5, 6, 7, 8, 9]⟩] false) (.seq (.seq (.reg [⟨(some 40), (.mv (.t 12)), none, []⟩, ⟨(some 41), (.mv (.t 12)), none, []⟩, ⟨(some 42), (.ld true 3 (.t 6)), none, []⟩, ⟨(some 43), (.call 17 [(.t 41), (.t 42)]), none, [1, 2]⟩, ⟨(some 44), (.mv (.t 2)), none, []⟩, ⟨(some 45), (.mv (.t 2)), none, []⟩, ⟨(some 46), (.len (.t 45)), none, [5]⟩, ⟨(some 47), (.mn (.t 46) (.c (.int .i64 12))), none, [6]⟩, ⟨(some 48), (.slc 4 (.t 44) none (some (.t 47))), none, [4, 7]⟩, ⟨(some 49), (.bslice 27 1 [.nils] 3 [(0, (.t 40)), (1, (.t 43)), (2, (.t 48))]), none, [0, 3, 8]⟩, ⟨(some 50), (.len (.t 49)), none, [9]⟩, ⟨(some 51), (.mv (.c (.int .i64 0))), none, []⟩] true) (.block 0 (.loop (.seq (.reg [⟨(some 52), (.bin .lss (.t 51) (.t 50)), none, []⟩] false) (.seq (.cond (.t 52) .skip (.exit 0)) (.seq (.block 1 (.seq (.reg [⟨(some 53), (.ixsl 1 (.t 49) (.t 51)), none, []⟩, ⟨(some 54), (.ld false 1 (.t 53)), none, [0]⟩, ⟨(some 17), (.mv (.t 54)), none, [1, 0, 1]⟩] false) (.seq (.reg [⟨(some 55), (.mv (.t 13)), none, []⟩, ⟨(some 56), (.mv (.t 14)), none, []⟩, ⟨(some 57), (.build [.nils, .nils] [(0, (1, (.t 55))), (1, (1, (.t 56)))]), none, [0, 1]⟩, ⟨(some 58), (.ixarr 2 1 (.t 8) (.c (.int .i64 0))), none, []⟩, ⟨(some 59), (.ld false 1 (.t 58)), none, [3]⟩, ⟨(some 60), (.call 18 [(.t 59), (.c (.int .i64 8))]), none, [4]⟩, ⟨(some 61), (.ixarr 2 1 (.t 8) (.c (.int .i64 1))), none, []⟩, ⟨(some 62), (.ld false 1 (.t 61)), none, [6]⟩, ⟨(some 63), (.call 18 [(.t 62), (.c (.int .i64 8))]), none, [7, 5]⟩, ⟨(some 64), (.build [.nils, .nils] [(0, (1, (.t 60))), (1, (1, (.t 63)))]), none, [5, 8]⟩, ⟨(some 65), (.mv (.t 13)), none, []⟩, ⟨(some 66), (.ixarr 2 1 (.t 8) (.c (.int .i64 1))), none, []⟩, ⟨(some 67), (.ld false 1 (.t 66)), none, [11]⟩, ⟨(some 68), (.call 18 [(.t 67), (.c (.int .i64 8))]), none, [12, 8]⟩, ⟨(some 69), (.build [.nils, .nils] [(0, (1, (.t 65))), (1, (1, (.t 68)))]), none, [10, 13]⟩, ⟨(some 70), (.bslice 29 2 [.nils, .nils] 3 [(0, (.t 57)), (1, (.t 64)), (2, (.t 69))]), none, [2, 9, 14]⟩, ⟨(some 71), (.len (.t 70)), none, [15]⟩, ⟨(some 72), (.mv (.c (.int .i64 0))), none, []⟩] true) (.block 2 (.loop (.seq (.reg [⟨(some 73), (.bin .lss (.t 72) (.t 71)), none, []⟩] false) (.seq (.cond (.t 73) .skip (.exit 2)) (.seq (.block 3 (.seq (.reg [⟨(some 74), (.ixsl 2 (.t 70) (.t 72)), none, []⟩, ⟨(some 75), (.ld true 2 (.t 74)), none, [0]⟩, ⟨(some 19), (.alloc 29 2 [.nils, .nils]), none, []⟩, ⟨none, (.st 2 (.t 19) (.t 75)), none, [2, 1, 0, 1, 2]⟩] false) (.seq (.reg [⟨(some 76), (.mv (.t 15)), none, []⟩, ⟨(some 77), (.mv (.t 4)), none, []⟩, ⟨(some 78), (.bslice 3 1 [(.int .i64 0)] 2 [(0, (.t 76)), (1, (.t 77))]), none, [0, 1]⟩, ⟨(some 79), (.len (.t 78)), none, [2]⟩, ⟨(some 80), (.mv (.c (.int .i64 0))), none, []⟩] false) (.block 4 (.loop (.seq (.reg [⟨(some 81), (.bin .lss (.t 80) (.t 79)), none, []⟩] false) (.seq (.cond (.t 81) .skip (.exit 4)) (.seq (.block 5 (.seq (.reg [⟨(some 82), (.ixsl 1 (.t 78) (.t 80)), none, []⟩, ⟨(some 83), (.ld false 1 (.t 82)), none, [0]⟩, ⟨(some 21), (.mv (.t 83)), none, [1, 0, 1]⟩] false) (.seq (.seq (.reg [⟨(some 84), (.mv (.t 17)), none, []⟩, ⟨(some 85), (.ixarr 2 1 (.t 19) (.c (.int .i64 0))), none, []⟩, ⟨(some 86), (.ld false 1 (.t 85)), none, [1]⟩, ⟨(some 87), (.ixarr 2 1 (.t 19) (.c (.int .i64 1))), none, []⟩, ⟨(some 88), (.ld false 1 (.t 87)), none, [3]⟩, ⟨(some 89), (.mv (.t 21)), none, []⟩, ⟨(some 90), (.call 19 [(.t 84), (.t 86), (.t 88), (.t 89)]), none, [0, 2, 4, 5]⟩, ⟨(some 91), (.mv (.t 17)), none, []⟩, ⟨(some 92), (.ixarr 2 1 (.t 19) (.c (.int .i64 0))), none, []⟩, ⟨(some 93), (.ld false 1 (.t 92)), none, [8]⟩, ⟨(some 94), (.ixarr 2 1 (.t 19) (.c (.int .i64 1))), none, []⟩, ⟨(some 95), (.ld false 1 (.t 94)), none, [10]⟩, ⟨(some 96), (.mv (.t 21)), none, []⟩, ⟨(some 97), (.call 20 [(.t 91), (.t 93), (.t 95), (.t 96)]), none, [7, 9, 11, 12, 6]⟩, ⟨(some 98), (.bin .neq (.t 90) (.t 97)), none, [6, 13]⟩] true) (.cond (.t 98) (.seq (.reg [⟨(some 10), (.mv (.c (.bool false))), none, []⟩] false) .ret) .skip)) (.seq (.reg [⟨(some 100), (.mv (.t 17)), none, []⟩, ⟨(some 101), (.ixarr 2 1 (.t 19) (.c (.int .i64 0))), none, []⟩, ⟨(some 102), (.ld false 1 (.t 101)), none, [1]⟩, ⟨(some 103), (.ixarr 2 1 (.t 19) (.c (.int .i64 1))), none, []⟩, ⟨(some 104), (.ld false 1 (.t 103)), none, [3]⟩, ⟨(some 105), (.mv (.t 21)), none, []⟩, ⟨(some 106), (.call 21 [(.t 100), (.t 102), (.t 104), (.t 105)]), none, [0, 2, 4, 5]⟩, ⟨(some 99), (.mv (.t 106)), none, [6]⟩, ⟨(some 107), (.ext (.t 99) 0), none, [7]⟩, ⟨(some 108), (.ext (.t 99) 1), none, [7]⟩, ⟨(some 109), (.ext (.t 99) 2), none, [7]⟩, ⟨(some 22), (.mv (.t 107)), none, [8, 6, 0, 1, 2, 3, 4, 5, 6, 7, 8]⟩, ⟨(some 23), (.mv (.t 108)), none, [9, 11, 0, 1, 2, 3, 4, 5, 6, 7, 8, 9, 11]⟩, ⟨(some 24), (.mv (.t 109)), none, [10, 12, 0, 1, 2, 3, 4, 5, 6, 7, 8, 9, 10, 11, 12]⟩] false) (.seq (.reg [⟨(some 111), (.mv (.t 17)), none, []⟩, ⟨(some 112), (.ixarr 2 1 (.t 19) (.c (.int .i64 0))), none, []⟩, ⟨(some 113), (.ld false 1 (.t 112)), none, [1]⟩, ⟨(some 114), (.ixarr 2 1 (.t 19) (.c (.int .i64 1))), none, []⟩, ⟨(some 115), (.ld false 1 (.t 114)), none, [3]⟩, ⟨(some 116), (.mv (.t 21)), none, []⟩, ⟨(some 117), (.call 22 [(.t 111), (.t 113), (.t 115), (.t 116)]), none, [0, 2, 4, 5]⟩, ⟨(some 110), (.mv (.t 117)), none, [6]⟩, ⟨(some 118), (.ext (.t 110) 0), none, [7]⟩, ⟨(some 119), (.ext (.t 110) 1), none, [7]⟩, ⟨(some 120), (.ext (.t 110) 2), none, [7]⟩, ⟨(some 25), (.mv (.t 118)), none, [8, 6, 0, 1, 2, 3, 4, 5, 6, 7, 8]⟩, ⟨(some 26), (.mv (.t 119)), none, [9, 11, 0, 1, 2, 3, 4, 5, 6, 7, 8, 9, 11]⟩, ⟨(some 27), (.mv (.t 120)), none, [10, 12, 0, 1, 2, 3, 4, 5, 6, 7, 8, 9, 10, 11, 12]⟩] false) (.seq (.seq (.reg [⟨(some 121), (.mv (.t 24)), none, []⟩, ⟨(some 122), (.mv (.t 27)), none, []⟩, ⟨(some 123), (.bin .neq (.t 121) (.t 122)), none, [0, 1]⟩, ⟨(some 124), (.mv (.t 123)), none, [2]⟩, ⟨(some 125), (.mv (.t 22)), (some (124, false)), [3]⟩, ⟨(some 126), (.mv (.t 25)), (some (124, false)), [3]⟩, ⟨(some 127), (.call 23 [(.t 125), (.t 126)]), (some (124, false)), [4, 5, 3, 3]⟩, ⟨(some 128), (.un .not (.t 127)), (some (124, false)), [6, 3]⟩, ⟨(some 129), (.pick (.t 124) (.c (.bool true)) (.t 128)), none, [3, 7]⟩, ⟨(some 130), (.mv (.t 129)), none, [8, 6]⟩, ⟨(some 131), (.mv (.t 23)), (some (130, false)), [9]⟩, ⟨(some 132), (.mv (.t 26)), (some (130, false)), [9]⟩, ⟨(some 133), (.call 23 [(.t 131), (.t 132)]), (some (130, false)), [10, 11, 9, 9]⟩, ⟨(some 134), (.un .not (.t 133)), (some (130, false)), [12, 9]⟩, ⟨(some 135), (.pick (.t 130) (.c (.bool true)) (.t 134)), none, [9, 13]⟩] false) (.cond (.t 135) (.seq (.reg [⟨(some 10), (.mv (.c (.bool false))), none, []⟩] false) .ret) .skip)) (.seq (.reg [⟨(some 137), (.mv (.t 17)), none, []⟩, ⟨(some 138), (.ixarr 2 1 (.t 19) (.c (.int .i64 0))), none, []⟩, ⟨(some 139), (.ld false 1 (.t 138)), none, [1]⟩, ⟨(some 140), (.ixarr 2 1 (.t 19) (.c (.int .i64 1))), none, []⟩, ⟨(some 141), (.ld false 1 (.t 140)), none, [3]⟩, ⟨(some 142), (.mv (.t 21)), none, []⟩, ⟨(some 143), (.call 24 [(.t 137), (.t 139), (.t 141), (.t 142)]), none, [0, 2, 4, 5]⟩, ⟨(some 136), (.mv (.t 143)), none, [6]⟩, ⟨(some 144), (.ext (.t 136) 0), none, [7]⟩, ⟨(some 145), (.ext (.t 136) 1), none, [7]⟩, ⟨(some 28), (.mv (.t 144)), none, [8, 6, 0, 1, 2, 3, 4, 5, 6, 7, 8]⟩, ⟨(some 29), (.mv (.t 145)), none, [9, 10, 0, 1, 2, 3, 4, 5, 6, 7, 8, 9, 10]⟩] false) (.seq (.reg [⟨(some 147), (.mv (.t 17)), none, []⟩, ⟨(some 148), (.ixarr 2 1 (.t 19) (.c (.int .i64 0))), none, []⟩, ⟨(some 149), (.ld false 1 (.t 148)), none, [1]⟩, ⟨(some 150), (.ixarr 2 1 (.t 19) (.c (.int .i64 1))), none, []⟩, ⟨(some 151), (.ld false 1 (.t 150)), none, [3]⟩, ⟨(some 152), (.mv (.t 21)), none, []⟩, ⟨(some 153), (.call 25 [(.t 147), (.t 149), (.t 151), (.t 152)]), none, [0, 2, 4, 5]⟩, ⟨(some 146), (.mv (.t 153)), none, [6]⟩, ⟨(some 154), (.ext (.t 146) 0), none, [7]⟩, ⟨(some 155), (.ext (.t 146) 1), none, [7]⟩, ⟨(some 30), (.mv (.t 154)), none, [8, 6, 0, 1, 2, 3, 4, 5, 6, 7, 8]⟩, ⟨(some 31), (.mv (.t 155)), none, [9, 10, 0, 1, 2, 3, 4, 5, 6, 7, 8, 9, 10]⟩] false) (.seq (.reg [⟨(some 156), (.mv (.t 29)), none, []⟩, ⟨(some 157), (.mv (.t 31)), none, []⟩, ⟨(some 158), (.bin .neq (.t 156) (.t 157)), none, [0, 1]⟩, ⟨(some 159), (.mv (.t 158)), none, [2]⟩, ⟨(some 160), (.mv (.t 28)), (some (159, false)), [3]⟩, ⟨(some 161), (.mv (.t 30)), (some (159, false)), [3]⟩, ⟨(some 162), (.call 23 [(.t 160), (.t 161)]), (some (159, false)), [4, 5, 3, 3]⟩, ⟨(some 163), (.un .not (.t 162)), (some (159, false)), [6, 3]⟩, ⟨(some 164), (.pick (.t 159) (.c (.bool true)) (.t 163)), none, [3, 7]⟩] false) (.cond (.t 164) (.seq (.reg [⟨(some 10), (.mv (.c (.bool false))), none, []⟩] false) .ret) .skip)))))))))) (.reg [⟨(some 165), (.bin .add (.t 80) (.c (.int .i64 1))), none, []⟩, ⟨(some 80), (.mv (.t 165)), none, [0]⟩] false))))))))) (.reg [⟨(some 166), (.bin .add (.t 72) (.c (.int .i64 1))), none, []⟩, ⟨(some 72), (.mv (.t 166)), none, [0]⟩] false))))))))) (.reg [⟨(some 167), (.bin .add (.t 51) (.c (.int .i64 1))), none, []⟩, ⟨(some 51), (.mv (.t 167)), none, [0]⟩] false))))))) (.seq (.reg [⟨(some 168), (.mv (.t 11)), none, []⟩, ⟨(some 10), (.mv (.t 168)), none, [0, 0]⟩] false) .ret)))))
theorem mcOk3 : (match Try.f3.body with | some c => compC Try.prog 169 c | none => none) = some mc3 := by kernel_rfl

theorem fc3 (ls : List (List Int)) (lims : List Int) (lies8 q0 q1 q2 : Int) (wild : List Rd) (l0 l1 : List Int) (lies : Int) (hls : ∀ L ∈ ls, L.length ≤ 4611686018427387904) (hlims : ∀ x ∈ lims, 0 ≤ x ∧ x < 256) (hlies : 0 ≤ lies8 ∧ lies8 < 256) : FC Try.prog 3 [.agg [.rs 1 (ls.map cL), .rs 1 (lims.map cu8), .int .u8 lies8], .agg [iv q0, iv q1, iv q2], .rs 4 (wild.map cR), .agg [ints l0, ints l1], iv lies] [] (.bool true) [] false := by
  refine fc_run (nt := 169) Try.func3 rfl rfl mcOk3 (Nat.le_of_ble_eq_true rfl) ?_
  delta mc3
  refine aw_seq ?_
  refine aw_reg ?_
  refine rs_box rfl rfl rfl rfl rfl rfl ?_
  refine rs_box rfl rfl rfl rfl rfl rfl ?_
  refine rs_box rfl rfl rfl rfl rfl rfl ?_
  refine rs_mv rfl rfl ?_
  refine rs_nil fun _ => ?_
  refine th_n ?_
  refine aw_seq ?_
  refine aw_reg ?_
  refine rs_calln [] rfl rfl fc15 .nil rfl ?_
  refine rs_mv rfl rfl ?_
  refine rs_nil fun _ => ?_
  refine th_n ?_
  refine aw_seq ?_
  refine aw_reg ?_
  first | refine rs_ld_pa rfl rfl rfl rfl (Nat.le_of_ble_eq_true rfl) rfl ?_ | refine rs_ld_ra rfl rfl (Nat.le_of_ble_eq_true rfl) rfl ?_ | refine rs_ld_ma rfl rfl rfl (by omega) (Nat.le_of_ble_eq_true rfl) rfl ?_
  refine rs_callo [] rfl rfl (fc16 ls lims lies8 hls hlims hlies) (.cons (hv_same rfl) .nil) .nil rfl rfl rfl ?_
  refine rs_mv rfl rfl ?_
  refine rs_ext rfl rfl rfl ?_
  refine rs_ext rfl rfl rfl ?_
  refine rs_ext rfl rfl rfl ?_
  refine rs_ext rfl rfl rfl ?_
  refine rs_mv rfl rfl ?_
  refine rs_mv rfl rfl ?_
  refine rs_mv rfl rfl ?_
  refine rs_mv rfl rfl ?_
  refine rs_nil fun _ => ?_
  refine th_n ?_
  refine aw_seq ?_
  refine aw_seq ?_
  refine aw_draw hmix ?_
  refine rs_mv rfl rfl ?_
  refine rs_mv rfl rfl ?_
  first | refine rs_ld_pa rfl rfl rfl rfl (Nat.le_of_ble_eq_true rfl) rfl ?_ | refine rs_ld_ra rfl rfl (Nat.le_of_ble_eq_true rfl) rfl ?_ | refine rs_ld_ma rfl rfl rfl (by omega) (Nat.le_of_ble_eq_true rfl) rfl ?_
  refine rs_calln [] rfl rfl (fc17 (readS ls ((1 + lims.length % 3) : Nat)) q0 q1 q2 (by have := readS_len ls ((1 + lims.length % 3) : Nat); omega)) (.cons (hv_same rfl) (.cons (hv_same rfl) (.nil))) rfl ?_
  refine rs_mv rfl rfl ?_
  refine rs_mv rfl rfl ?_
  first | refine rs_len_m rfl rfl ?_ | refine rs_len_s rfl rfl ?_ | refine rs_len_n rfl rfl ?_ | refine rs_len_r rfl rfl rfl ?_
  refine rs_mn rfl rfl rfl rfl ?_
  refine rs_slc_r (l := 0) (q := min (wild.length : Int) 12) (els' := (wild.take 12).map cR) rfl rfl rfl rfl rfl (by omega) (by omega) (by simp; omega) (by rw [show (min (wild.length : Int) 12).toNat = min wild.length 12 by omega]; simp [List.take_eq_take_min, Nat.min_comm]) ?_
  refine rs_bslice rfl rfl rfl rfl rfl rfl ?_
  first | refine rs_len_m rfl rfl ?_ | refine rs_len_s rfl rfl ?_ | refine rs_len_n rfl rfl ?_ | refine rs_len_r rfl rfl rfl ?_
  refine rs_mv rfl rfl ?_
  refine rs_nil ⟨by kernel_rfl, fun _ => ?_⟩
  refine th_n ?_
  refine aw_block ?_
  refine aw_fam (α := Nat) (fun k => 3 - k) (fun k => [(4, iv lies), (8, .ptr 8 0 0), (11, .bool true), (13, ints (madeLo lims (1 + lims.length % 3))), (14, ints (madeHi lims (1 + lims.length % 3))), (15, iv (lies8.tmod 4)), (49, .sl 49 0 3), (50, iv 3), (51, iv (((k) : Nat) : Int))]) (fun k => [(8, .cells 29 2 [[ints l0, ints l1]] true), (49, .cells 27 1 (([(readS ls ((1 + lims.length % 3) : Nat)), oddS (readS ls ((1 + lims.length % 3) : Nat)) q0 q1 q2, wild.take 12]).map cRs) true)]) (fun k => k ≤ 3) 0 (by omega)
    (weak_to (.cons rfl (rc_same rfl (.inl rfl)) (.cons rfl (rc_same rfl (.inl rfl)) (.cons rfl (rc_same rfl (.inl rfl)) (.cons rfl (rc_same rfl (.inl rfl)) (.cons rfl (rc_same rfl (.inl rfl)) (.cons rfl (rc_same rfl (.inl rfl)) (.cons rfl (rc_same rfl (.inl rfl)) (.cons rfl (rc_same rfl (.inl rfl)) (.cons rfl (rc_same rfl (.inl rfl)) (.nil)))))))))) (.keep (rfl) rfl (.keep (rfl) rfl (.nil))) (fun i h => by cases h)) ?_
  intro k hk
  refine aw_seq ?_
  refine aw_reg ?_
  refine rs_lss rfl rfl rfl ?_
  refine rs_nil fun _ => ?_
  refine th_n ?_
  refine aw_seq ?_
  refine aw_cond rfl (fun h52 => ?_) (fun h52 => ?_)
  · first | replace h52 := of_decide_eq_true h52 | skip
    refine aw_skip ?_
    refine th_n ?_
    refine aw_seq ?_
    refine aw_block ?_
    refine aw_seq ?_
    refine aw_reg ?_
    refine rs_ix_sm (t := k) rfl rfl rfl rfl (by omega) ?_
    refine rs_ld_m (t := k) rfl rfl rfl (by simp; omega) rfl ?_
    refine rs_mv rfl rfl ?_
    refine rs_nil fun _ => ?_
    refine th_n ?_
    refine aw_seq ?_
    refine aw_draw hmix ?_
    refine rs_mv rfl rfl ?_
    refine rs_mv rfl rfl ?_
    refine rs_build rfl rfl ?_
    refine rs_ixarr_p rfl rfl rfl (by decide) (by decide) ?_
    first | refine rs_ld_r rfl rfl rfl ?_ | refine rs_ld_p rfl rfl rfl rfl rfl ?_ | refine rs_ld_m rfl rfl rfl (by omega) rfl ?_
    refine rs_callo [] rfl rfl (fc18 l0 8) (.cons (hv_same rfl) (.cons (hv_same rfl) .nil)) .nil rfl rfl rfl ?_
    refine rs_ixarr_p rfl rfl rfl (by decide) (by decide) ?_
    first | refine rs_ld_r rfl rfl rfl ?_ | refine rs_ld_p rfl rfl rfl rfl rfl ?_ | refine rs_ld_m rfl rfl rfl (by omega) rfl ?_
    refine rs_callo [] rfl rfl (fc18 l1 8) (.cons (hv_same rfl) (.cons (hv_same rfl) .nil)) .nil rfl rfl rfl ?_
    refine rs_build rfl rfl ?_
    refine rs_mv rfl rfl ?_
    refine rs_ixarr_p rfl rfl rfl (by decide) (by decide) ?_
    first | refine rs_ld_r rfl rfl rfl ?_ | refine rs_ld_p rfl rfl rfl rfl rfl ?_ | refine rs_ld_m rfl rfl rfl (by omega) rfl ?_
    refine rs_callo [] rfl rfl (fc18 l1 8) (.cons (hv_same rfl) (.cons (hv_same rfl) .nil)) .nil rfl rfl rfl ?_
    refine rs_build rfl rfl ?_
    refine rs_bslice rfl rfl rfl rfl rfl rfl ?_
    first | refine rs_len_m rfl rfl ?_ | refine rs_len_s rfl rfl ?_ | refine rs_len_n rfl rfl ?_ | refine rs_len_r rfl rfl rfl ?_
    refine rs_mv rfl rfl ?_
    refine rs_nil ⟨by kernel_rfl, fun _ => ?_⟩
    refine th_n ?_
    refine aw_block ?_
    have hk3 : k < 3 := by omega
    refine aw_fam (α := Nat) (fun q => 3 - q) (fun q => [(4, iv lies), (8, .ptr 8 0 0), (11, .bool true), (13, ints (madeLo lims (1 + lims.length % 3))), (14, ints (madeHi lims (1 + lims.length % 3))), (15, iv (lies8.tmod 4)), (49, .sl 49 0 3), (50, iv 3), (51, iv (((k) : Nat) : Int)), (17, .rs 4 ((([(readS ls ((1 + lims.length % 3) : Nat)), oddS (readS ls ((1 + lims.length % 3) : Nat)) q0 q1 q2, wild.take 12])[k]'(by simp; omega)).map cR)), (70, .sl 70 0 3), (71, iv 3), (72, iv (((q) : Nat) : Int))]) (fun q => [(8, .cells 29 2 [[ints l0, ints l1]] true), (49, .cells 27 1 (([(readS ls ((1 + lims.length % 3) : Nat)), oddS (readS ls ((1 + lims.length % 3) : Nat)) q0 q1 q2, wild.take 12]).map cRs) true), (70, .cells 29 2 (([((madeLo lims (1 + lims.length % 3)), (madeHi lims (1 + lims.length % 3))), (l0.take 8, l1.take 8), ((madeLo lims (1 + lims.length % 3)), l1.take 8)]).map cP) true)]) (fun q => q ≤ 3) 0 (by omega)
      (weak_to (.cons rfl (rc_same rfl (.inl rfl)) (.cons rfl (rc_same rfl (.inl rfl)) (.cons rfl (rc_same rfl (.inl rfl)) (.cons rfl (rc_same rfl (.inl rfl)) (.cons rfl (rc_same rfl (.inl rfl)) (.cons rfl (rc_same rfl (.inl rfl)) (.cons rfl (rc_same rfl (.inl rfl)) (.cons rfl (rc_same rfl (.inl rfl)) (.cons rfl (rc_same rfl (.inl rfl)) (.cons rfl (rc_same rfl (.inl rfl)) (.cons rfl (rc_same rfl (.inl rfl)) (.cons rfl (rc_same rfl (.inl rfl)) (.cons rfl (rc_same rfl (.inl rfl)) (.nil)))))))))))))) (.keep (rfl) rfl (.keep (rfl) rfl (.keep (rfl) rfl (.nil)))) (fun i h => by cases h)) ?_
    intro q hq
    refine aw_seq ?_
    refine aw_reg ?_
    refine rs_lss rfl rfl rfl ?_
    refine rs_nil fun _ => ?_
    refine th_n ?_
    refine aw_seq ?_
    refine aw_cond rfl (fun h73 => ?_) (fun h73 => ?_)
    · first | replace h73 := of_decide_eq_true h73 | skip
      refine aw_skip ?_
      refine th_n ?_
      refine aw_seq ?_
      refine aw_block ?_
      refine aw_seq ?_
      refine aw_reg ?_
      refine rs_ix_sm (t := q) rfl rfl rfl rfl (by omega) ?_
      refine rs_ld_ma (t := q) rfl rfl rfl (by simp; omega) (Nat.le_of_ble_eq_true rfl) rfl ?_
      refine rs_alloc rfl rfl rfl ?_
      refine rs_st rfl rfl rfl rfl rfl rfl rfl (Nat.le_of_ble_eq_true rfl) rfl rfl ?_
      refine rs_nil fun _ => ?_
      refine th_n ?_
      refine aw_seq ?_
      refine aw_reg ?_
      refine rs_mv rfl rfl ?_
      refine rs_mv rfl rfl ?_
      refine rs_bslice rfl rfl rfl rfl rfl rfl ?_
      first | refine rs_len_m rfl rfl ?_ | refine rs_len_s rfl rfl ?_ | refine rs_len_n rfl rfl ?_ | refine rs_len_r rfl rfl rfl ?_
      refine rs_mv rfl rfl ?_
      refine rs_nil fun _ => ?_
      refine th_n ?_
      refine aw_block ?_
      have hq3 : q < 3 := by omega
      refine aw_fam (α := Nat) (fun r => 2 - r) (fun r => [(4, iv lies), (8, .ptr 8 0 0), (11, .bool true), (13, ints (madeLo lims (1 + lims.length % 3))), (14, ints (madeHi lims (1 + lims.length % 3))), (15, iv (lies8.tmod 4)), (49, .sl 49 0 3), (50, iv 3), (51, iv (((k) : Nat) : Int)), (17, .rs 4 ((([(readS ls ((1 + lims.length % 3) : Nat)), oddS (readS ls ((1 + lims.length % 3) : Nat)) q0 q1 q2, wild.take 12])[k]'(by simp; omega)).map cR)), (70, .sl 70 0 3), (71, iv 3), (72, iv (((q) : Nat) : Int)), (19, .ptr 19 0 0), (78, .sl 78 0 2), (79, iv 2), (80, iv (((r) : Nat) : Int))]) (fun r => [(8, .cells 29 2 [[ints l0, ints l1]] true), (49, .cells 27 1 (([(readS ls ((1 + lims.length % 3) : Nat)), oddS (readS ls ((1 + lims.length % 3) : Nat)) q0 q1 q2, wild.take 12]).map cRs) true), (70, .cells 29 2 (([((madeLo lims (1 + lims.length % 3)), (madeHi lims (1 + lims.length % 3))), (l0.take 8, l1.take 8), ((madeLo lims (1 + lims.length % 3)), l1.take 8)]).map cP) true), (19, .cells 29 2 [[ints (([((madeLo lims (1 + lims.length % 3)), (madeHi lims (1 + lims.length % 3))), (l0.take 8, l1.take 8), ((madeLo lims (1 + lims.length % 3)), l1.take 8)])[q]'(by simp; omega)).1, ints (([((madeLo lims (1 + lims.length % 3)), (madeHi lims (1 + lims.length % 3))), (l0.take 8, l1.take 8), ((madeLo lims (1 + lims.length % 3)), l1.take 8)])[q]'(by simp; omega)).2]] true), (78, .cells 3 1 (([lies8.tmod 4, lies]).map ci) true)]) (fun r => r ≤ 2) 0 (by omega)
        (weak_to (.cons rfl (rc_same rfl (.inl rfl)) (.cons rfl (rc_same rfl (.inl rfl)) (.cons rfl (rc_same rfl (.inl rfl)) (.cons rfl (rc_same rfl (.inl rfl)) (.cons rfl (rc_same rfl (.inl rfl)) (.cons rfl (rc_same rfl (.inl rfl)) (.cons rfl (rc_same rfl (.inl rfl)) (.cons rfl (rc_same rfl (.inl rfl)) (.cons rfl (rc_same rfl (.inl rfl)) (.cons rfl (rc_same rfl (.inl rfl)) (.cons rfl (rc_same rfl (.inl rfl)) (.cons rfl (rc_same rfl (.inl rfl)) (.cons rfl (rc_same rfl (.inl rfl)) (.cons rfl (rc_same rfl (.inl rfl)) (.cons rfl (rc_same rfl (.inl rfl)) (.cons rfl (rc_same rfl (.inl rfl)) (.cons rfl (rc_same rfl (.inl rfl)) (.nil)))))))))))))))))) (.keep (rfl) rfl (.keep (rfl) rfl (.keep (rfl) rfl (.keep (rfl) rfl (.keep (rfl) rfl (.nil)))))) (fun i h => by cases h)) ?_
      intro r hr
      refine aw_seq ?_
      refine aw_reg ?_
      refine rs_lss rfl rfl rfl ?_
      refine rs_nil fun _ => ?_
      refine th_n ?_
      refine aw_seq ?_
      refine aw_cond rfl (fun h81 => ?_) (fun h81 => ?_)
      · first | replace h81 := of_decide_eq_true h81 | skip
        refine aw_skip ?_
        refine th_n ?_
        refine aw_seq ?_
        refine aw_block ?_
        refine aw_seq ?_
        refine aw_reg ?_
        refine rs_ix_sm (t := r) rfl rfl rfl rfl (by omega) ?_
        refine rs_ld_m (t := r) rfl rfl rfl (by simp; omega) rfl ?_
        refine rs_mv rfl rfl ?_
        refine rs_nil fun _ => ?_
        refine th_n ?_
        refine aw_seq ?_
        refine aw_seq ?_
        refine aw_draw hmix ?_
        refine rs_mv rfl rfl ?_
        refine rs_ixarr_p rfl rfl rfl (by decide) (by decide) ?_
        first | refine rs_ld_r rfl rfl rfl ?_ | refine rs_ld_p rfl rfl rfl rfl rfl ?_ | refine rs_ld_m rfl rfl rfl (by omega) rfl ?_
        refine rs_ixarr_p rfl rfl rfl (by decide) (by decide) ?_
        first | refine rs_ld_r rfl rfl rfl ?_ | refine rs_ld_p rfl rfl rfl rfl rfl ?_ | refine rs_ld_m rfl rfl rfl (by omega) rfl ?_
        refine rs_mv rfl rfl ?_
        refine rs_calln [] rfl rfl (fc19 _ _ _ _) (.cons (hv_same rfl) (.cons (hv_same rfl) (.cons (hv_same rfl) (.cons (hv_same rfl) (.nil))))) rfl ?_
        refine rs_mv rfl rfl ?_
        refine rs_ixarr_p rfl rfl rfl (by decide) (by decide) ?_
        first | refine rs_ld_r rfl rfl rfl ?_ | refine rs_ld_p rfl rfl rfl rfl rfl ?_ | refine rs_ld_m rfl rfl rfl (by omega) rfl ?_
        refine rs_ixarr_p rfl rfl rfl (by decide) (by decide) ?_
        first | refine rs_ld_r rfl rfl rfl ?_ | refine rs_ld_p rfl rfl rfl rfl rfl ?_ | refine rs_ld_m rfl rfl rfl (by omega) rfl ?_
        refine rs_mv rfl rfl ?_
        refine rs_calln [] rfl rfl (fc20 _ _ _ _) (.cons (hv_same rfl) (.cons (hv_same rfl) (.cons (hv_same rfl) (.cons (hv_same rfl) (.nil))))) rfl ?_
        refine rs_cmp_f rfl rfl rfl rfl (fun h => h rfl) ?_
        refine rs_nil ⟨by kernel_rfl, fun _ => ?_⟩
        refine th_n ?_
        refine aw_cond rfl (fun h => by cases h) (fun _ => ?_)
        refine aw_skip ?_
        refine th_n ?_
        refine aw_seq ?_
        refine aw_reg ?_
        refine rs_mv rfl rfl ?_
        refine rs_ixarr_p rfl rfl rfl (by decide) (by decide) ?_
        first | refine rs_ld_r rfl rfl rfl ?_ | refine rs_ld_p rfl rfl rfl rfl rfl ?_ | refine rs_ld_m rfl rfl rfl (by omega) rfl ?_
        refine rs_ixarr_p rfl rfl rfl (by decide) (by decide) ?_
        first | refine rs_ld_r rfl rfl rfl ?_ | refine rs_ld_p rfl rfl rfl rfl rfl ?_ | refine rs_ld_m rfl rfl rfl (by omega) rfl ?_
        refine rs_mv rfl rfl ?_
        refine rs_calln [] rfl rfl (fz21 _ _ _ _) (.cons (hv_same rfl) (.cons (hv_same rfl) (.cons (hv_same rfl) (.cons (hv_same rfl) (.nil))))) rfl ?_
        refine rs_mv rfl rfl ?_
        refine rs_ext rfl rfl rfl ?_
        refine rs_ext rfl rfl rfl ?_
        refine rs_ext rfl rfl rfl ?_
        refine rs_mv rfl rfl ?_
        refine rs_mv rfl rfl ?_
        refine rs_mv rfl rfl ?_
        refine rs_nil fun _ => ?_
        refine th_n ?_
        refine aw_seq ?_
        refine aw_reg ?_
        refine rs_mv rfl rfl ?_
        refine rs_ixarr_p rfl rfl rfl (by decide) (by decide) ?_
        first | refine rs_ld_r rfl rfl rfl ?_ | refine rs_ld_p rfl rfl rfl rfl rfl ?_ | refine rs_ld_m rfl rfl rfl (by omega) rfl ?_
        refine rs_ixarr_p rfl rfl rfl (by decide) (by decide) ?_
        first | refine rs_ld_r rfl rfl rfl ?_ | refine rs_ld_p rfl rfl rfl rfl rfl ?_ | refine rs_ld_m rfl rfl rfl (by omega) rfl ?_
        refine rs_mv rfl rfl ?_
        refine rs_calln [] rfl rfl (fz22 _ _ _ _) (.cons (hv_same rfl) (.cons (hv_same rfl) (.cons (hv_same rfl) (.cons (hv_same rfl) (.nil))))) rfl ?_
        refine rs_mv rfl rfl ?_
        refine rs_ext rfl rfl rfl ?_
        refine rs_ext rfl rfl rfl ?_
        refine rs_ext rfl rfl rfl ?_
        refine rs_mv rfl rfl ?_
        refine rs_mv rfl rfl ?_
        refine rs_mv rfl rfl ?_
        refine rs_nil fun _ => ?_
        refine th_n ?_
        refine aw_seq ?_
        refine aw_seq ?_
        refine aw_reg ?_
        refine rs_mv rfl rfl ?_
        refine rs_mv rfl rfl ?_
        refine rs_cmp_f rfl rfl rfl rfl (fun h => h rfl) ?_
        refine rs_mv rfl rfl ?_
        refine rs_mv rfl rfl ?_
        refine rs_mv rfl rfl ?_
        refine rs_calln [] rfl rfl (fc23_t _ (Nat.le_trans (narrow_len _ _ _ _).1 (by decide))) (.cons (hv_same rfl) (.cons (hv_same rfl) (.nil))) rfl ?_
        refine rs_not rfl rfl ?_
        refine rs_pick rfl rfl rfl ?_
        refine rs_mv rfl rfl ?_
        refine rs_mv rfl rfl ?_
        refine rs_mv rfl rfl ?_
        refine rs_calln [] rfl rfl (fc23_t _ (Nat.le_trans (narrow_len _ _ _ _).2 (by decide))) (.cons (hv_same rfl) (.cons (hv_same rfl) (.nil))) rfl ?_
        refine rs_not rfl rfl ?_
        refine rs_pick rfl rfl rfl ?_
        refine rs_nil fun _ => ?_
        refine th_n ?_
        refine aw_cond rfl (fun h => by cases h) (fun _ => ?_)
        refine aw_skip ?_
        refine th_n ?_
        refine aw_seq ?_
        refine aw_reg ?_
        refine rs_mv rfl rfl ?_
        refine rs_ixarr_p rfl rfl rfl (by decide) (by decide) ?_
        first | refine rs_ld_r rfl rfl rfl ?_ | refine rs_ld_p rfl rfl rfl rfl rfl ?_ | refine rs_ld_m rfl rfl rfl (by omega) rfl ?_
        refine rs_ixarr_p rfl rfl rfl (by decide) (by decide) ?_
        first | refine rs_ld_r rfl rfl rfl ?_ | refine rs_ld_p rfl rfl rfl rfl rfl ?_ | refine rs_ld_m rfl rfl rfl (by omega) rfl ?_
        refine rs_mv rfl rfl ?_
        refine rs_calln [] rfl rfl (fz24 _ _ _ _) (.cons (hv_same rfl) (.cons (hv_same rfl) (.cons (hv_same rfl) (.cons (hv_same rfl) (.nil))))) rfl ?_
        refine rs_mv rfl rfl ?_
        refine rs_ext rfl rfl rfl ?_
        refine rs_ext rfl rfl rfl ?_
        refine rs_mv rfl rfl ?_
        refine rs_mv rfl rfl ?_
        refine rs_nil fun _ => ?_
        refine th_n ?_
        refine aw_seq ?_
        refine aw_reg ?_
        refine rs_mv rfl rfl ?_
        refine rs_ixarr_p rfl rfl rfl (by decide) (by decide) ?_
        first | refine rs_ld_r rfl rfl rfl ?_ | refine rs_ld_p rfl rfl rfl rfl rfl ?_ | refine rs_ld_m rfl rfl rfl (by omega) rfl ?_
        refine rs_ixarr_p rfl rfl rfl (by decide) (by decide) ?_
        first | refine rs_ld_r rfl rfl rfl ?_ | refine rs_ld_p rfl rfl rfl rfl rfl ?_ | refine rs_ld_m rfl rfl rfl (by omega) rfl ?_
        refine rs_mv rfl rfl ?_
        refine rs_calln [] rfl rfl (fz25 _ _ _ _) (.cons (hv_same rfl) (.cons (hv_same rfl) (.cons (hv_same rfl) (.cons (hv_same rfl) (.nil))))) rfl ?_
        refine rs_mv rfl rfl ?_
        refine rs_ext rfl rfl rfl ?_
        refine rs_ext rfl rfl rfl ?_
        refine rs_mv rfl rfl ?_
        refine rs_mv rfl rfl ?_
        refine rs_nil fun _ => ?_
        refine th_n ?_
        refine aw_seq ?_
        refine aw_reg ?_
        refine rs_mv rfl rfl ?_
        refine rs_mv rfl rfl ?_
        refine rs_cmp_f rfl rfl rfl rfl (fun h => h rfl) ?_
        refine rs_mv rfl rfl ?_
        refine rs_mv rfl rfl ?_
        refine rs_mv rfl rfl ?_
        refine rs_calln [] rfl rfl (fc23_t _ (Nat.le_trans (liars_len _ _ _ _) (by decide))) (.cons (hv_same rfl) (.cons (hv_same rfl) (.nil))) rfl ?_
        refine rs_not rfl rfl ?_
        refine rs_pick rfl rfl rfl ?_
        refine rs_nil fun _ => ?_
        refine th_n ?_
        refine aw_cond rfl (fun h => by cases h) (fun _ => ?_)
        refine aw_skip ?_
        refine in_n ?_
        refine th_n ?_
        refine aw_reg ?_
        first | refine rs_add rfl rfl rfl (by omega) ?_ | refine rs_addw rfl rfl rfl rfl ?_
        refine rs_mv rfl rfl ?_
        refine rs_nil fun _ => ?_
        refine th_n ?_
        exact ⟨r + 1, by omega, by omega, weak_to (.cons rfl (rc_same rfl (.inl rfl)) (.cons rfl (rc_same rfl (.inl rfl)) (.cons rfl (rc_same rfl (.inl rfl)) (.cons rfl (rc_same rfl (.inl rfl)) (.cons rfl (rc_same rfl (.inl rfl)) (.cons rfl (rc_same rfl (.inl rfl)) (.cons rfl (rc_same rfl (.inl rfl)) (.cons rfl (rc_same rfl (.inl rfl)) (.cons rfl (rc_same rfl (.inl rfl)) (.cons rfl (rc_same rfl (.inl rfl)) (.cons rfl (rc_same rfl (.inl rfl)) (.cons rfl (rc_same rfl (.inl rfl)) (.cons rfl (rc_same rfl (.inl rfl)) (.cons rfl (rc_same rfl (.inl rfl)) (.cons rfl (rc_same rfl (.inl rfl)) (.cons rfl (rc_same rfl (.inl rfl)) (.cons rfl (rc_same rfl (.inl rfl)) (.nil)))))))))))))))))) (.keep (rfl) rfl (.keep (rfl) rfl (.keep (rfl) rfl (.keep (rfl) rfl (.keep (rfl) rfl (.nil)))))) (fun i h => by cases h)⟩
      · first | replace h81 := of_decide_eq_false h81 | skip
        refine aw_exit ?_
        refine th_e ?_
        refine th_e ?_
        refine in_hit ?_
        refine in_n ?_
        refine th_n ?_
        refine aw_reg ?_
        first | refine rs_add rfl rfl rfl (by omega) ?_ | refine rs_addw rfl rfl rfl rfl ?_
        refine rs_mv rfl rfl ?_
        refine rs_nil fun _ => ?_
        refine th_n ?_
        exact ⟨q + 1, by omega, by omega, weak_to (.cons rfl (rc_same rfl (.inl rfl)) (.cons rfl (rc_same rfl (.inl rfl)) (.cons rfl (rc_same rfl (.inl rfl)) (.cons rfl (rc_same rfl (.inl rfl)) (.cons rfl (rc_same rfl (.inl rfl)) (.cons rfl (rc_same rfl (.inl rfl)) (.cons rfl (rc_same rfl (.inl rfl)) (.cons rfl (rc_same rfl (.inl rfl)) (.cons rfl (rc_same rfl (.inl rfl)) (.cons rfl (rc_same rfl (.inl rfl)) (.cons rfl (rc_same rfl (.inl rfl)) (.cons rfl (rc_same rfl (.inl rfl)) (.cons rfl (rc_same rfl (.inl rfl)) (.nil)))))))))))))) (.keep (rfl) rfl (.keep (rfl) rfl (.keep (rfl) rfl (.nil)))) (fun i h => by cases h)⟩
    · first | replace h73 := of_decide_eq_false h73 | skip
      refine aw_exit ?_
      refine th_e ?_
      refine th_e ?_
      refine in_hit ?_
      refine in_n ?_
      refine th_n ?_
      refine aw_reg ?_
      first | refine rs_add rfl rfl rfl (by omega) ?_ | refine rs_addw rfl rfl rfl rfl ?_
      refine rs_mv rfl rfl ?_
      refine rs_nil fun _ => ?_
      refine th_n ?_
      exact ⟨k + 1, by omega, by omega, weak_to (.cons rfl (rc_same rfl (.inl rfl)) (.cons rfl (rc_same rfl (.inl rfl)) (.cons rfl (rc_same rfl (.inl rfl)) (.cons rfl (rc_same rfl (.inl rfl)) (.cons rfl (rc_same rfl (.inl rfl)) (.cons rfl (rc_same rfl (.inl rfl)) (.cons rfl (rc_same rfl (.inl rfl)) (.cons rfl (rc_same rfl (.inl rfl)) (.cons rfl (rc_same rfl (.inl rfl)) (.nil)))))))))) (.keep (rfl) rfl (.keep (rfl) rfl (.nil))) (fun i h => by cases h)⟩
  · first | replace h52 := of_decide_eq_false h52 | skip
    refine aw_exit ?_
    refine th_e ?_
    refine th_e ?_
    refine in_hit ?_
    refine th_n ?_
    refine aw_seq ?_
    refine aw_reg ?_
    refine rs_mv rfl rfl ?_
    refine rs_mv rfl rfl ?_
    refine rs_nil fun _ => ?_
    refine th_n ?_
    refine aw_ret ?_
    exact ret_pure rfl rfl rfl (.inr rfl)

end Go.Proofs.Ytadjdnhnbkcakaa

/-! Walks: A18. -/
namespace Go.Proofs.Ytadjdnhnbkcakaa
open Go.RowKit

section
variable {P : Program} {N : Nat} {Z : List Nat} {F : Fr} {H : Hp} {ml : List MOper} {K : List Fp → Fr → Hp → Prop} {d : Nat} {g : Option (Nat × Bool)} {pre : List Nat}
theorem rs_bne_f {x y : Arg} {a : Bool} (hg : gOK F g = true) (hx : aarg F x = some (.bool a)) (hy : aarg F y = some (.bool a)) (h : RS P N ml ((d, .bool false) :: F) H (fun fps => K (([], []) :: fps))) : RS P N (⟨some d, .beq true x y, g, pre⟩ :: ml) F H K :=
  rs_beq hg hx hy (by rw [show (true != (a == a)) = false by simp]; exact h)
end

def mc4 : MC := (.seq (.reg [⟨(some 4), (.box 25 3 (.t 0)), none, []⟩, ⟨(some 8), (.mv (.c (.bool false))), none, []⟩] false) (.seq (.reg [⟨(some 20), (.call 15 []), none, []⟩, ⟨(some 9), (.mv (.t 20)), none, [0, 0, 0]⟩] false) (.seq (.reg [⟨(some 22), (.ld true 3 (.t 4)), none, []⟩, ⟨(some 23), (.call 16 [(.t 22)]), none, [0]⟩, ⟨(some 21), (.mv (.t 23)), none, [1]⟩, ⟨(some 24), (.ext (.t 21) 0), none, [2]⟩, ⟨(some 25), (.ext (.t 21) 1), none, [2]⟩, ⟨(some 26), (.ext (.t 21) 2), none, [2]⟩, ⟨(some 27), (.ext (.t 21) 3), none, [2]⟩, ⟨(some 10), (.mv (.t 24)), none, [3, 1, 0, 1, 2, 3]⟩, ⟨(some 11), (.mv (.t 25)), none, [4, 7, 0, 1, 2, 3, 4, 7]⟩, ⟨(some 12), (.mv (.t 26)), none, [5, 8, 0, 1, 2, 3, 4, 5, 7, 8]⟩, ⟨(some 13), (.mv (.t 27)), none, [6, 9, 0, 1, 2, 3, 4, 5, 6, 7, 8, 9]⟩] false) (.seq (.reg [⟨(some 28), (.mv (.t 2)), none, []⟩, ⟨(some 29), (.call 18 [(.t 28), (.c (.int .i64 8))]), none, [0]⟩, ⟨(some 2), (.mv (.t 29)), none, [1, 1, 0, 1]⟩] false) (.seq (.seq (.reg [⟨(some 30), (.mv (.t 10)), none, []⟩, ⟨(some 31), (.mv (.t 1)), none, []⟩, ⟨(some 32), (.mv (.t 1)), none, []⟩, ⟨(some 33), (.len (.t 32)), none, [2]⟩, ⟨(some 34), (.mn (.t 33) (.c (.int .i64 12))), none, [3]⟩, ⟨(some 35), (.slc 4 (.t 31) none (some (.t 34))), none, [1, 4]⟩, ⟨(some 36), (.bslice 27 1 [.nils] 2 [(0, (.t 30)), (1, (.t 35))]), none, [0, 5]⟩, ⟨(some 37), (.len (.t 36)), none, [6]⟩, ⟨(some 38), (.mv (.c (.int .i64 0))), none, []⟩] false) (.block 0 (.loop (.seq (.reg [⟨(some 39), (.bin .lss (.t 38) (.t 37)), none, []⟩] false) (.seq (.cond (.t 39) .skip (.exit 0)) (.seq (.block 1 (.seq (.reg [⟨(some 40), (.ixsl 1 (.t 36) (.t 38)), none, []⟩, ⟨(some 41), (.ld false 1 (.t 40)), none, [0]⟩, ⟨(some 15), (.mv (.t 41)), none, [1, 0, 1]⟩] false) (.seq (.reg [⟨(some 42), (.mv (.t 2)), none, []⟩, ⟨(some 43), (.mv (.t 11)), none, []⟩, ⟨(some 44), (.mv (.t 12)), none, []⟩, ⟨(some 45), (.bslice 28 1 [.nils] 3 [(0, (.t 42)), (1, (.t 43)), (2, (.t 44))]), none, [0, 1, 2]⟩, ⟨(some 46), (.len (.t 45)), none, [3]⟩, ⟨(some 47), (.mv (.c (.int .i64 0))), none, []⟩] false) (.block 2 (.loop (.seq (.reg [⟨(some 48), (.bin .lss (.t 47) (.t 46)), none, []⟩] false) (.seq (.cond (.t 48) .skip (.exit 2)) (.seq (.block 3 (.seq (.reg [⟨(some 49), (.ixsl 1 (.t 45) (.t 47)), none, []⟩, ⟨(some 50), (.ld false 1 (.t 49)), none, [0]⟩, ⟨(some 17), (.mv (.t 50)), none, [1, 0, 1]⟩] false) (.seq (.reg [⟨(some 51), (.mv (.t 13)), none, []⟩, ⟨(some 52), (.mv (.t 3)), none, []⟩, ⟨(some 53), (.mv (.t 15)), none, []⟩, ⟨(some 54), (.len (.t 53)), none, [2]⟩, ⟨(some 55), (.bslice 3 1 [(.int .i64 0)] 3 [(0, (.t 51)), (1, (.t 52)), (2, (.t 54))]), none, [0, 1, 3]⟩, ⟨(some 56), (.len (.t 55)), none, [4]⟩, ⟨(some 57), (.mv (.c (.int .i64 0))), none, []⟩] false) (.block 4 (.loop (.seq (.reg [⟨(some 58), (.bin .lss (.t 57) (.t 56)), none, []⟩] false) (.seq (.cond (.t 58) .skip (.exit 4)) (.seq (.block 5 (.seq (.reg [⟨(some 59), (.ixsl 1 (.t 55) (.t 57)), none, []⟩, ⟨(some 60), (.ld false 1 (.t 59)), none, [0]⟩, ⟨(some 19), (.mv (.t 60)), none, [1, 0, 1]⟩] false) (.seq (.reg [⟨(some 61), (.mv (.t 15)), none, []⟩, ⟨(some 62), (.mv (.t 17)), none, []⟩, ⟨(some 63), (.mv (.t 19)), none, []⟩, ⟨(some 64), (.call 26 [(.t 61), (.t 62), (.t 63)]), none, [0, 1, 2]⟩, ⟨(some 65), (.mv (.t 15)), none, []⟩, ⟨(some 66), (.mv (.t 17)), none, []⟩, ⟨(some 67), (.mv (.t 19)), none, []⟩, ⟨(some 68), (.call 27 [(.t 65), (.t 66), (.t 67)]), none, [4, 5, 6, 3]⟩, ⟨(some 69), (.beq true (.t 64) (.t 68)), none, [3, 7]⟩] false) (.cond (.t 69) (.seq (.reg [⟨(some 8), (.mv (.c (.bool false))), none, []⟩] false) .ret) .skip)))) (.reg [⟨(some 70), (.bin .add (.t 57) (.c (.int .i64 1))), none, []⟩, ⟨(some 57), (.mv (.t 70)), none, [0]⟩] false))))))))) (.reg [⟨(some 71), (.bin .add (.t 47) (.c (.int .i64 1))), none, []⟩, ⟨(some 47), (.mv (.t 71)), none, [0]⟩] false))))))))) (.reg [⟨(some 72), (.bin .add (.t 38) (.c (.int .i64 1))), none, []⟩, ⟨(some 38), (.mv (.t 72)), none, [0]⟩] false))))))) (.seq (.reg [⟨(some 73), (.mv (.t 9)), none, []⟩, ⟨(some 8), (.mv (.t 73)), none, [0, 0]⟩] false) .ret))))))
theorem mcOk4 : (match Try.f4.body with | some c => compC Try.prog 74 c | none => none) = some mc4 := by kernel_rfl

theorem fc4 (ls : List (List Int)) (lims : List Int) (lies8 : Int) (wild : List Rd) (vs : List Int) (lies : Int) (hls : ∀ L ∈ ls, L.length ≤ 4611686018427387904) (hlims : ∀ x ∈ lims, 0 ≤ x ∧ x < 256) (hlies : 0 ≤ lies8 ∧ lies8 < 256) : FC Try.prog 4 [.agg [.rs 1 (ls.map cL), .rs 1 (lims.map cu8), .int .u8 lies8], .rs 4 (wild.map cR), ints vs, iv lies] [] (.bool true) [] false := by
  have hrl : ∀ r ∈ ([(readS ls ((1 + lims.length % 3) : Nat)), wild.take 12]), r.length ≤ 12 := by
    have h1 := readS_len ls ((1 + lims.length % 3) : Nat)
    intro r hr
    simp only [List.mem_cons, List.not_mem_nil, or_false] at hr
    rcases hr with rfl | rfl
    · omega
    · simp; omega
  refine fc_run (nt := 74) Try.func4 rfl rfl mcOk4 (Nat.le_of_ble_eq_true rfl) ?_
  delta mc4
  refine aw_seq ?_
  refine aw_reg ?_
  refine rs_box rfl rfl rfl rfl rfl rfl ?_
  refine rs_mv rfl rfl ?_
  refine rs_nil fun _ => ?_
  refine th_n ?_
  refine aw_seq ?_
  refine aw_reg ?_
  refine rs_calln [] rfl rfl fc15 .nil rfl ?_
  refine rs_mv rfl rfl ?_
  refine rs_nil fun _ => ?_
  refine th_n ?_
  refine aw_seq ?_
  refine aw_reg ?_
  first | refine rs_ld_pa rfl rfl rfl rfl (Nat.le_of_ble_eq_true rfl) rfl ?_ | refine rs_ld_ra rfl rfl (Nat.le_of_ble_eq_true rfl) rfl ?_ | refine rs_ld_ma rfl rfl rfl (by omega) (Nat.le_of_ble_eq_true rfl) rfl ?_
  refine rs_callo [] rfl rfl (fc16 ls lims lies8 hls hlims hlies) (.cons (hv_same rfl) .nil) .nil rfl rfl rfl ?_
  refine rs_mv rfl rfl ?_
  refine rs_ext rfl rfl rfl ?_
  refine rs_ext rfl rfl rfl ?_
  refine rs_ext rfl rfl rfl ?_
  refine rs_ext rfl rfl rfl ?_
  refine rs_mv rfl rfl ?_
  refine rs_mv rfl rfl ?_
  refine rs_mv rfl rfl ?_
  refine rs_mv rfl rfl ?_
  refine rs_nil fun _ => ?_
  refine th_n ?_
  refine aw_seq ?_
  refine aw_reg ?_
  refine rs_mv rfl rfl ?_
  refine rs_callo [] rfl rfl (fc18 vs 8) (.cons (hv_same rfl) (.cons (hv_same rfl) .nil)) .nil rfl rfl rfl ?_
  refine rs_mv rfl rfl ?_
  refine rs_nil fun _ => ?_
  refine th_n ?_
  refine aw_seq ?_
  refine aw_seq ?_
  refine aw_reg ?_
  refine rs_mv rfl rfl ?_
  refine rs_mv rfl rfl ?_
  refine rs_mv rfl rfl ?_
  first | refine rs_len_m rfl rfl ?_ | refine rs_len_s rfl rfl ?_ | refine rs_len_n rfl rfl ?_ | refine rs_len_r rfl rfl rfl ?_
  refine rs_mn rfl rfl rfl rfl ?_
  refine rs_slc_r (l := 0) (q := min (wild.length : Int) 12) (els' := (wild.take 12).map cR) rfl rfl rfl rfl rfl (by omega) (by omega) (by simp; omega) (by rw [show (min (wild.length : Int) 12).toNat = min wild.length 12 by omega]; simp [List.take_eq_take_min, Nat.min_comm]) ?_
  refine rs_bslice rfl rfl rfl rfl rfl rfl ?_
  first | refine rs_len_m rfl rfl ?_ | refine rs_len_s rfl rfl ?_ | refine rs_len_n rfl rfl ?_ | refine rs_len_r rfl rfl rfl ?_
  refine rs_mv rfl rfl ?_
  refine rs_nil fun _ => ?_
  refine th_n ?_
  refine aw_block ?_
  refine aw_fam (α := Nat) (fun k => 2 - k) (fun k => [(2, ints (vs.take 8)), (3, iv lies), (9, .bool true), (11, ints (madeLo lims (1 + lims.length % 3))), (12, ints (madeHi lims (1 + lims.length % 3))), (13, iv (lies8.tmod 4)), (36, .sl 36 0 2), (37, iv 2), (38, iv (((k) : Nat) : Int))]) (fun k => [(36, .cells 27 1 (([(readS ls ((1 + lims.length % 3) : Nat)), wild.take 12]).map cRs) true)]) (fun k => k ≤ 2) 0 (by omega)
    (weak_to (.cons rfl (rc_same rfl (.inl rfl)) (.cons rfl (rc_same rfl (.inl rfl)) (.cons rfl (rc_same rfl (.inl rfl)) (.cons rfl (rc_same rfl (.inl rfl)) (.cons rfl (rc_same rfl (.inl rfl)) (.cons rfl (rc_same rfl (.inl rfl)) (.cons rfl (rc_same rfl (.inl rfl)) (.cons rfl (rc_same rfl (.inl rfl)) (.cons rfl (rc_same rfl (.inl rfl)) (.nil)))))))))) (.keep (rfl) rfl (.nil)) (fun i h => by cases h)) ?_
  intro k hk
  refine aw_seq ?_
  refine aw_reg ?_
  refine rs_lss rfl rfl rfl ?_
  refine rs_nil fun _ => ?_
  refine th_n ?_
  refine aw_seq ?_
  refine aw_cond rfl (fun h39 => ?_) (fun h39 => ?_)
  · first | replace h39 := of_decide_eq_true h39 | skip
    refine aw_skip ?_
    refine th_n ?_
    refine aw_seq ?_
    refine aw_block ?_
    refine aw_seq ?_
    refine aw_reg ?_
    refine rs_ix_sm (t := k) rfl rfl rfl rfl (by omega) ?_
    refine rs_ld_m (t := k) rfl rfl rfl (by simp; omega) rfl ?_
    refine rs_mv rfl rfl ?_
    refine rs_nil fun _ => ?_
    refine th_n ?_
    refine aw_seq ?_
    refine aw_reg ?_
    refine rs_mv rfl rfl ?_
    refine rs_mv rfl rfl ?_
    refine rs_mv rfl rfl ?_
    refine rs_bslice rfl rfl rfl rfl rfl rfl ?_
    first | refine rs_len_m rfl rfl ?_ | refine rs_len_s rfl rfl ?_ | refine rs_len_n rfl rfl ?_ | refine rs_len_r rfl rfl rfl ?_
    refine rs_mv rfl rfl ?_
    refine rs_nil fun _ => ?_
    refine th_n ?_
    refine aw_block ?_
    have hk3 : k < 2 := by omega
    refine aw_fam (α := Nat) (fun q => 3 - q) (fun q => [(2, ints (vs.take 8)), (3, iv lies), (9, .bool true), (11, ints (madeLo lims (1 + lims.length % 3))), (12, ints (madeHi lims (1 + lims.length % 3))), (13, iv (lies8.tmod 4)), (36, .sl 36 0 2), (37, iv 2), (38, iv (((k) : Nat) : Int)), (15, .rs 4 ((([(readS ls ((1 + lims.length % 3) : Nat)), wild.take 12])[k]'(by simp; omega)).map cR)), (45, .sl 45 0 3), (46, iv 3), (47, iv (((q) : Nat) : Int))]) (fun q => [(36, .cells 27 1 (([(readS ls ((1 + lims.length % 3) : Nat)), wild.take 12]).map cRs) true), (45, .cells 28 1 (([vs.take 8, (madeLo lims (1 + lims.length % 3)), (madeHi lims (1 + lims.length % 3))]).map cL) true)]) (fun q => q ≤ 3) 0 (by omega)
      (weak_to (.cons rfl (rc_same rfl (.inl rfl)) (.cons rfl (rc_same rfl (.inl rfl)) (.cons rfl (rc_same rfl (.inl rfl)) (.cons rfl (rc_same rfl (.inl rfl)) (.cons rfl (rc_same rfl (.inl rfl)) (.cons rfl (rc_same rfl (.inl rfl)) (.cons rfl (rc_same rfl (.inl rfl)) (.cons rfl (rc_same rfl (.inl rfl)) (.cons rfl (rc_same rfl (.inl rfl)) (.cons rfl (rc_same rfl (.inl rfl)) (.cons rfl (rc_same rfl (.inl rfl)) (.cons rfl (rc_same rfl (.inl rfl)) (.cons rfl (rc_same rfl (.inl rfl)) (.nil)))))))))))))) (.keep (rfl) rfl (.keep (rfl) rfl (.nil))) (fun i h => by cases h)) ?_
    intro q hq
    refine aw_seq ?_
    refine aw_reg ?_
    refine rs_lss rfl rfl rfl ?_
    refine rs_nil fun _ => ?_
    refine th_n ?_
    refine aw_seq ?_
    refine aw_cond rfl (fun h48 => ?_) (fun h48 => ?_)
    · first | replace h48 := of_decide_eq_true h48 | skip
      refine aw_skip ?_
      refine th_n ?_
      refine aw_seq ?_
      refine aw_block ?_
      refine aw_seq ?_
      refine aw_reg ?_
      refine rs_ix_sm (t := q) rfl rfl rfl rfl (by omega) ?_
      refine rs_ld_m (t := q) rfl rfl rfl (by simp; omega) rfl ?_
      refine rs_mv rfl rfl ?_
      refine rs_nil fun _ => ?_
      refine th_n ?_
      refine aw_seq ?_
      refine aw_reg ?_
      refine rs_mv rfl rfl ?_
      refine rs_mv rfl rfl ?_
      refine rs_mv rfl rfl ?_
      first | refine rs_len_m rfl rfl ?_ | refine rs_len_s rfl rfl ?_ | refine rs_len_n rfl rfl ?_ | refine rs_len_r rfl rfl rfl ?_
      refine rs_bslice rfl rfl rfl rfl rfl rfl ?_
      first | refine rs_len_m rfl rfl ?_ | refine rs_len_s rfl rfl ?_ | refine rs_len_n rfl rfl ?_ | refine rs_len_r rfl rfl rfl ?_
      refine rs_mv rfl rfl ?_
      refine rs_nil fun _ => ?_
      refine th_n ?_
      refine aw_block ?_
      have hq3 : q < 3 := by omega
      refine aw_fam (α := Nat) (fun r => 3 - r) (fun r => [(2, ints (vs.take 8)), (3, iv lies), (9, .bool true), (11, ints (madeLo lims (1 + lims.length % 3))), (12, ints (madeHi lims (1 + lims.length % 3))), (13, iv (lies8.tmod 4)), (36, .sl 36 0 2), (37, iv 2), (38, iv (((k) : Nat) : Int)), (15, .rs 4 ((([(readS ls ((1 + lims.length % 3) : Nat)), wild.take 12])[k]'(by simp; omega)).map cR)), (45, .sl 45 0 3), (46, iv 3), (47, iv (((q) : Nat) : Int)), (17, ints (([vs.take 8, (madeLo lims (1 + lims.length % 3)), (madeHi lims (1 + lims.length % 3))])[q]'(by simp; omega))), (55, .sl 55 0 3), (56, iv 3), (57, iv (((r) : Nat) : Int))]) (fun r => [(36, .cells 27 1 (([(readS ls ((1 + lims.length % 3) : Nat)), wild.take 12]).map cRs) true), (45, .cells 28 1 (([vs.take 8, (madeLo lims (1 + lims.length % 3)), (madeHi lims (1 + lims.length % 3))]).map cL) true), (55, .cells 3 1 (([lies8.tmod 4, lies, ((([(readS ls ((1 + lims.length % 3) : Nat)), wild.take 12])[k]'(by simp; omega)).length : Int)]).map ci) true)]) (fun r => r ≤ 3) 0 (by omega)
        (weak_to (.cons rfl (rc_same rfl (.inl rfl)) (.cons rfl (rc_same rfl (.inl rfl)) (.cons rfl (rc_same rfl (.inl rfl)) (.cons rfl (rc_same rfl (.inl rfl)) (.cons rfl (rc_same rfl (.inl rfl)) (.cons rfl (rc_same rfl (.inl rfl)) (.cons rfl (rc_same rfl (.inl rfl)) (.cons rfl (rc_same rfl (.inl rfl)) (.cons rfl (rc_same rfl (.inl rfl)) (.cons rfl (rc_same rfl (.inl rfl)) (.cons rfl (rc_same rfl (.inl rfl)) (.cons rfl (rc_same rfl (.inl rfl)) (.cons rfl (rc_same rfl (.inl rfl)) (.cons rfl (rc_same rfl (.inl rfl)) (.cons rfl (rc_same rfl (.inl rfl)) (.cons rfl (rc_same rfl (.inl rfl)) (.cons rfl (rc_same rfl (.inl rfl)) (.nil)))))))))))))))))) (.keep (rfl) rfl (.keep (rfl) rfl (.keep (rfl) rfl (.nil)))) (fun i h => by cases h)) ?_
      intro r hr
      refine aw_seq ?_
      refine aw_reg ?_
      refine rs_lss rfl rfl rfl ?_
      refine rs_nil fun _ => ?_
      refine th_n ?_
      refine aw_seq ?_
      refine aw_cond rfl (fun h58 => ?_) (fun h58 => ?_)
      · first | replace h58 := of_decide_eq_true h58 | skip
        refine aw_skip ?_
        refine th_n ?_
        refine aw_seq ?_
        refine aw_block ?_
        refine aw_seq ?_
        refine aw_reg ?_
        refine rs_ix_sm (t := r) rfl rfl rfl rfl (by omega) ?_
        refine rs_ld_m (t := r) rfl rfl rfl (by simp; omega) rfl ?_
        refine rs_mv rfl rfl ?_
        refine rs_nil fun _ => ?_
        refine th_n ?_
        refine aw_seq ?_
        refine aw_reg ?_
        refine rs_mv rfl rfl ?_
        refine rs_mv rfl rfl ?_
        refine rs_mv rfl rfl ?_
        refine rs_calln [] rfl rfl (fc26 _ _ _ (Nat.le_trans (hrl _ (List.getElem_mem _)) (by decide))) (.cons (hv_same rfl) (.cons (hv_same rfl) (.cons (hv_same rfl) (.nil)))) rfl ?_
        refine rs_mv rfl rfl ?_
        refine rs_mv rfl rfl ?_
        refine rs_mv rfl rfl ?_
        refine rs_calln [] rfl rfl (fc27 _ _ _ (Nat.le_trans (hrl _ (List.getElem_mem _)) (by decide))) (.cons (hv_same rfl) (.cons (hv_same rfl) (.cons (hv_same rfl) (.nil)))) rfl ?_
        refine rs_bne_f rfl rfl rfl ?_
        refine rs_nil fun _ => ?_
        refine th_n ?_
        refine aw_cond rfl (fun h => by cases h) (fun _ => ?_)
        refine aw_skip ?_
        refine in_n ?_
        refine th_n ?_
        refine aw_reg ?_
        first | refine rs_add rfl rfl rfl (by omega) ?_ | refine rs_addw rfl rfl rfl rfl ?_
        refine rs_mv rfl rfl ?_
        refine rs_nil fun _ => ?_
        refine th_n ?_
        exact ⟨r + 1, by omega, by omega, weak_to (.cons rfl (rc_same rfl (.inl rfl)) (.cons rfl (rc_same rfl (.inl rfl)) (.cons rfl (rc_same rfl (.inl rfl)) (.cons rfl (rc_same rfl (.inl rfl)) (.cons rfl (rc_same rfl (.inl rfl)) (.cons rfl (rc_same rfl (.inl rfl)) (.cons rfl (rc_same rfl (.inl rfl)) (.cons rfl (rc_same rfl (.inl rfl)) (.cons rfl (rc_same rfl (.inl rfl)) (.cons rfl (rc_same rfl (.inl rfl)) (.cons rfl (rc_same rfl (.inl rfl)) (.cons rfl (rc_same rfl (.inl rfl)) (.cons rfl (rc_same rfl (.inl rfl)) (.cons rfl (rc_same rfl (.inl rfl)) (.cons rfl (rc_same rfl (.inl rfl)) (.cons rfl (rc_same rfl (.inl rfl)) (.cons rfl (rc_same rfl (.inl rfl)) (.nil)))))))))))))))))) (.keep (rfl) rfl (.keep (rfl) rfl (.keep (rfl) rfl (.nil)))) (fun i h => by cases h)⟩
      · first | replace h58 := of_decide_eq_false h58 | skip
        refine aw_exit ?_
        refine th_e ?_
        refine th_e ?_
        refine in_hit ?_
        refine in_n ?_
        refine th_n ?_
        refine aw_reg ?_
        first | refine rs_add rfl rfl rfl (by omega) ?_ | refine rs_addw rfl rfl rfl rfl ?_
        refine rs_mv rfl rfl ?_
        refine rs_nil fun _ => ?_
        refine th_n ?_
        exact ⟨q + 1, by omega, by omega, weak_to (.cons rfl (rc_same rfl (.inl rfl)) (.cons rfl (rc_same rfl (.inl rfl)) (.cons rfl (rc_same rfl (.inl rfl)) (.cons rfl (rc_same rfl (.inl rfl)) (.cons rfl (rc_same rfl (.inl rfl)) (.cons rfl (rc_same rfl (.inl rfl)) (.cons rfl (rc_same rfl (.inl rfl)) (.cons rfl (rc_same rfl (.inl rfl)) (.cons rfl (rc_same rfl (.inl rfl)) (.cons rfl (rc_same rfl (.inl rfl)) (.cons rfl (rc_same rfl (.inl rfl)) (.cons rfl (rc_same rfl (.inl rfl)) (.cons rfl (rc_same rfl (.inl rfl)) (.nil)))))))))))))) (.keep (rfl) rfl (.keep (rfl) rfl (.nil))) (fun i h => by cases h)⟩
    · first | replace h48 := of_decide_eq_false h48 | skip
      refine aw_exit ?_
      refine th_e ?_
      refine th_e ?_
      refine in_hit ?_
      refine in_n ?_
      refine th_n ?_
      refine aw_reg ?_
      first | refine rs_add rfl rfl rfl (by omega) ?_ | refine rs_addw rfl rfl rfl rfl ?_
      refine rs_mv rfl rfl ?_
      refine rs_nil fun _ => ?_
      refine th_n ?_
      exact ⟨k + 1, by omega, by omega, weak_to (.cons rfl (rc_same rfl (.inl rfl)) (.cons rfl (rc_same rfl (.inl rfl)) (.cons rfl (rc_same rfl (.inl rfl)) (.cons rfl (rc_same rfl (.inl rfl)) (.cons rfl (rc_same rfl (.inl rfl)) (.cons rfl (rc_same rfl (.inl rfl)) (.cons rfl (rc_same rfl (.inl rfl)) (.cons rfl (rc_same rfl (.inl rfl)) (.cons rfl (rc_same rfl (.inl rfl)) (.nil)))))))))) (.keep (rfl) rfl (.nil)) (fun i h => by cases h)⟩
  · first | replace h39 := of_decide_eq_false h39 | skip
    refine aw_exit ?_
    refine th_e ?_
    refine th_e ?_
    refine in_hit ?_
    refine th_n ?_
    refine aw_seq ?_
    refine aw_reg ?_
    refine rs_mv rfl rfl ?_
    refine rs_mv rfl rfl ?_
    refine rs_nil fun _ => ?_
    refine th_n ?_
    refine aw_ret ?_
    exact ret_pure rfl rfl rfl (.inr rfl)

end Go.Proofs.Ytadjdnhnbkcakaa

/-! The plain law of probes: what Narrow and Liars compute, said by assignments and sets that explain the readings. No program in sight. -/
namespace Go.Proofs.Ytadjdnhnbkcakaa
open Go.RowKit

/-- Within the limits. -/
def InB (lo hi : List Int) (v : Nat → Int) : Prop := ∀ i, i < lo.length → lo.getD i 0 ≤ v i ∧ v i ≤ hi.getD i 0
/-- All readings of probes that are not in the set contain the values. -/
def Expl (l : List Rd) (v : Nat → Int) (s : Nat) : Prop := ∀ r ∈ l, hasS s r.probe.toNat = true ∨ (r.lo ≤ v r.of_.toNat ∧ v r.of_.toNat ≤ r.hi)
/-- An assignment that agrees, with a small set of probes that may lie. -/
structure AgS (l : List Rd) (lo hi : List Int) (lies : Int) (s : Nat) (v : Nat → Int) : Prop where
  lt : s < 256
  small : (sizeS s 8 : Int) ≤ lies
  inb : InB lo hi v
  expl : Expl l v s

def Rok (n : Nat) (l : List Rd) : Prop := ∀ r ∈ l, 0 ≤ r.probe ∧ r.probe < 8 ∧ 0 ≤ r.of_ ∧ r.of_ < (n : Int)

theorem getD_set_eq {L : List Int} {i : Nat} {a : Int} (h : i < L.length) : (L.set i a).getD i 0 = a := by
  simp [h]
theorem getD_set_ne {L : List Int} {i j : Nat} {a : Int} (h : i ≠ j) : (L.set i a).getD j 0 = L.getD j 0 := by
  simp only [List.getD_eq_getElem?_getD]
  rw [List.getElem?_set_ne h]

theorem wstep_low {s : Nat} {x : List Int} {r : Rd} (hx : x.length = 13) (hr : 0 ≤ r.of_ ∧ r.of_ < 6) {i : Nat} (hi : i < 6) (c : Int) :
    (wstep s x r).getD i 0 ≤ c ↔ x.getD i 0 ≤ c ∧ (hasS s r.probe.toNat = true ∨ (r.of_.toNat = i → r.lo ≤ c)) := by
  unfold wstep
  split
  · rename_i h; simp [h]
  · rename_i h
    simp only [h, Bool.false_eq_true, false_or]
    rw [getD_set_ne (by omega)]
    by_cases e : r.of_.toNat = i
    · subst e
      rw [getD_set_eq (by omega)]
      simp only [forall_const]
      omega
    · rw [getD_set_ne e]
      simp [e]
theorem wstep_high {s : Nat} {x : List Int} {r : Rd} (hx : x.length = 13) (hr : 0 ≤ r.of_ ∧ r.of_ < 6) {i : Nat} (hi : i < 6) (c : Int) :
    c ≤ (wstep s x r).getD (6 + i) 0 ↔ c ≤ x.getD (6 + i) 0 ∧ (hasS s r.probe.toNat = true ∨ (r.of_.toNat = i → c ≤ r.hi)) := by
  unfold wstep
  split
  · rename_i h; simp [h]
  · rename_i h
    simp only [h, Bool.false_eq_true, false_or]
    by_cases e : r.of_.toNat = i
    · subst e
      rw [getD_set_eq (by simp; omega)]
      simp only [forall_const]
      omega
    · rw [getD_set_ne (by omega), getD_set_ne (by omega)]
      simp [e]
theorem without_low {s : Nat} {i : Nat} (hi : i < 6) (c : Int) : ∀ (l : List Rd) (x : List Int), x.length = 13 → Rok 6 l →
    ((withoutS l s x).getD i 0 ≤ c ↔ x.getD i 0 ≤ c ∧ ∀ r ∈ l, hasS s r.probe.toNat = true ∨ (r.of_.toNat = i → r.lo ≤ c))
  | [], x, _, _ => by simp [withoutS]
  | r :: l, x, hx, hr => by
    have h0 := hr r (by simp)
    have ih := without_low (s := s) hi c l (wstep s x r) (by rw [length_wstep, hx]) (fun r h => hr r (by simp [h]))
    show (withoutS l s (wstep s x r)).getD i 0 ≤ c ↔ _
    rw [ih, wstep_low hx h0.2.2 hi, List.forall_mem_cons, and_assoc]
theorem without_high {s : Nat} {i : Nat} (hi : i < 6) (c : Int) : ∀ (l : List Rd) (x : List Int), x.length = 13 → Rok 6 l →
    (c ≤ (withoutS l s x).getD (6 + i) 0 ↔ c ≤ x.getD (6 + i) 0 ∧ ∀ r ∈ l, hasS s r.probe.toNat = true ∨ (r.of_.toNat = i → c ≤ r.hi))
  | [], x, _, _ => by simp [withoutS]
  | r :: l, x, hx, hr => by
    have h0 := hr r (by simp)
    have ih := without_high (s := s) hi c l (wstep s x r) (by rw [length_wstep, hx]) (fun r h => hr r (by simp [h]))
    show c ≤ (withoutS l s (wstep s x r)).getD (6 + i) 0 ↔ _
    rw [ih, wstep_high hx h0.2.2 hi, List.forall_mem_cons, and_assoc]

theorem ofS_lo {lo hi : List Int} {n : Nat} (h1 : lo.length = n) (h2 : hi.length = n) (hn : n ≤ 6) {i : Nat} (hi' : i < n) : (ofS lo hi).getD i 0 = lo.getD i 0 := by
  rw [ofS, getD_setL _ _ _ _ (by simp [length_setL]; omega), if_neg (by omega), getD_setL _ _ _ _ (by simp; omega), if_pos (by omega)]
  rfl
theorem ofS_hi {lo hi : List Int} {n : Nat} (h2 : hi.length = n) (hn : n ≤ 6) {i : Nat} (hi' : i < n) : (ofS lo hi).getD (6 + i) 0 = hi.getD i 0 := by
  rw [ofS, getD_setL _ _ _ _ (by simp [length_setL]; omega), if_pos (by omega), show 6 + i - 6 = i by omega]

section
variable {l : List Rd} {lo hi : List Int} {lies : Int} {n : Nat}

/-- The least and the greatest value that a set leaves. -/
def lowS (l : List Rd) (lo hi : List Int) (s i : Nat) : Int := (withoutS l s (ofS lo hi)).getD i 0
def highS (l : List Rd) (lo hi : List Int) (s i : Nat) : Int := (withoutS l s (ofS lo hi)).getD (6 + i) 0

theorem rok6 (hr : Rok n l) (hn : n ≤ 6) : Rok 6 l := fun r h => by
  have := hr r h
  exact ⟨this.1, this.2.1, this.2.2.1, by omega⟩

theorem box_iff (h1 : lo.length = n) (h2 : hi.length = n) (hn : n ≤ 6) (hr : Rok n l) (s : Nat) (v : Nat → Int) :
    (∀ i, i < n → lowS l lo hi s i ≤ v i ∧ v i ≤ highS l lo hi s i) ↔ InB lo hi v ∧ Expl l v s := by
  have hr6 := rok6 hr hn
  constructor
  · intro h
    refine ⟨fun i hi' => ?_, fun r hr' => ?_⟩
    · have := h i (by omega)
      have a := (without_low (s := s) (i := i) (by omega) (v i) l (ofS lo hi) (length_ofS _ _) hr6).1 this.1
      have b := (without_high (s := s) (i := i) (by omega) (v i) l (ofS lo hi) (length_ofS _ _) hr6).1 this.2
      rw [ofS_lo h1 h2 hn (by omega)] at a
      rw [ofS_hi h2 hn (by omega)] at b
      exact ⟨a.1, b.1⟩
    · have h0 := hr r hr'
      have := h r.of_.toNat (by omega)
      have a := (without_low (s := s) (i := r.of_.toNat) (by omega) _ l (ofS lo hi) (length_ofS _ _) hr6).1 this.1
      have b := (without_high (s := s) (i := r.of_.toNat) (by omega) _ l (ofS lo hi) (length_ofS _ _) hr6).1 this.2
      rcases a.2 r hr' with e | e
      · exact .inl e
      · rcases b.2 r hr' with e' | e'
        · exact .inl e'
        · exact .inr ⟨e rfl, e' rfl⟩
  · rintro ⟨hb, he⟩ i hi'
    have := hb i (by omega)
    constructor
    · refine (without_low (s := s) (i := i) (by omega) (v i) l (ofS lo hi) (length_ofS _ _) hr6).2 ⟨by rw [ofS_lo h1 h2 hn hi']; exact this.1, fun r hr' => ?_⟩
      rcases he r hr' with e | e
      · exact .inl e
      · exact .inr fun e' => by rw [← e']; exact e.1
    · refine (without_high (s := s) (i := i) (by omega) (v i) l (ofS lo hi) (length_ofS _ _) hr6).2 ⟨by rw [ofS_hi h2 hn hi']; exact this.2, fun r hr' => ?_⟩
      rcases he r hr' with e | e
      · exact .inl e
      · exact .inr fun e' => by rw [← e']; exact e.2

/-- A set explains the readings. -/
def Exs (l : List Rd) (lo hi : List Int) (lies : Int) (s : Nat) : Prop := (sizeS s 8 : Int) ≤ lies ∧ emptyS (withoutS l s (ofS lo hi)) lo.length = false

theorem empty_false {x : List Int} {n : Nat} : emptyS x n = false ↔ ∀ i, i < n → x.getD i 0 ≤ x.getD (6 + i) 0 := by
  unfold emptyS
  rw [List.any_eq_false]
  constructor
  · intro h i hi
    have := h i (List.mem_range.2 hi)
    simp at this ⊢
    omega
  · intro h i hi
    have := h i (List.mem_range.1 hi)
    simp at this ⊢
    omega

theorem exs_iff (h1 : lo.length = n) (h2 : hi.length = n) (hn : n ≤ 6) (hr : Rok n l) {s : Nat} (hs : s < 256) : Exs l lo hi lies s ↔ ∃ v, AgS l lo hi lies s v := by
  unfold Exs
  rw [empty_false]
  constructor
  · rintro ⟨a, b⟩
    have := (box_iff h1 h2 hn hr s (lowS l lo hi s)).1 fun i hi' => ⟨Int.le_refl _, b i (by omega)⟩
    exact ⟨_, hs, a, this.1, this.2⟩
  · rintro ⟨v, hv⟩
    refine ⟨hv.small, fun i hi' => ?_⟩
    have := (box_iff h1 h2 hn hr s v).2 ⟨hv.inb, hv.expl⟩ i (by omega)
    exact Int.le_trans this.1 this.2

theorem low_ag (h1 : lo.length = n) (h2 : hi.length = n) (hn : n ≤ 6) (hr : Rok n l) {s : Nat} (hs : s < 256) (h : Exs l lo hi lies s) : AgS l lo hi lies s (lowS l lo hi s) := by
  have := (box_iff h1 h2 hn hr s (lowS l lo hi s)).1 fun i hi' => ⟨Int.le_refl _, empty_false.1 h.2 i (by omega)⟩
  exact ⟨hs, h.1, this.1, this.2⟩
theorem high_ag (h1 : lo.length = n) (h2 : hi.length = n) (hn : n ≤ 6) (hr : Rok n l) {s : Nat} (hs : s < 256) (h : Exs l lo hi lies s) : AgS l lo hi lies s (highS l lo hi s) := by
  have := (box_iff h1 h2 hn hr s (highS l lo hi s)).1 fun i hi' => ⟨empty_false.1 h.2 i (by omega), Int.le_refl _⟩
  exact ⟨hs, h.1, this.1, this.2⟩

theorem exK_ind {σ : Type} (x : List Int) (m : Nat) (f : σ → Nat → List Int → σ) (s0 : σ) (p : Nat → σ × Nat → Prop) (h0 : p 0 (s0, 0))
    (ht : ∀ k s, k < 256 → ((sizeS k 8 : Int) ≤ lies ∧ emptyS (withoutS l k x) m = false) → p k s → p (k + 1) (f s.1 k (withoutS l k x), s.2 + 1))
    (hf : ∀ k s, ¬ ((sizeS k 8 : Int) ≤ lies ∧ emptyS (withoutS l k x) m = false) → p k s → p (k + 1) s) : ∀ k, k ≤ 256 → p k (exK l x lies m f s0 k)
  | 0, _ => h0
  | k + 1, hk => by
    have ih := exK_ind x m f s0 p h0 ht hf k (by omega)
    unfold exK
    split
    · rename_i h; exact ht k _ (by omega) h ih
    · rename_i h; exact hf k _ h ih

theorem getD_minK {a y : List Int} {k i : Nat} (h : i < a.length) (hk : i < k) : (minK a y k).getD i 0 = min (a.getD i 0) (y.getD i 0) := by
  simp [minK, h, hk]
theorem getD_maxK {a y : List Int} {k i : Nat} (h : i < a.length) (hk : i < k) : (maxK a y k).getD i 0 = max (a.getD i 0) (y.getD (6 + i) 0) := by
  simp [maxK, h, hk]

theorem ex51_sem (h1 : lo.length = n) (h2 : hi.length = n) :
    (ex51 l lo hi lies).1.1.length = n ∧ (ex51 l lo hi lies).1.2.length = n ∧ ((ex51 l lo hi lies).2 ≠ 0 ↔ ∃ s, s < 256 ∧ Exs l lo hi lies s) ∧ ∀ i, i < n →
      ((∀ s, s < 256 → Exs l lo hi lies s → (ex51 l lo hi lies).1.1.getD i 0 ≤ lowS l lo hi s i) ∧ (ex51 l lo hi lies).1.1.getD i 0 ≤ hi.getD i 0 ∧ ((ex51 l lo hi lies).1.1.getD i 0 = hi.getD i 0 ∨ ∃ s, s < 256 ∧ Exs l lo hi lies s ∧ (ex51 l lo hi lies).1.1.getD i 0 = lowS l lo hi s i)) ∧
      ((∀ s, s < 256 → Exs l lo hi lies s → highS l lo hi s i ≤ (ex51 l lo hi lies).1.2.getD i 0) ∧ lo.getD i 0 ≤ (ex51 l lo hi lies).1.2.getD i 0 ∧ ((ex51 l lo hi lies).1.2.getD i 0 = lo.getD i 0 ∨ ∃ s, s < 256 ∧ Exs l lo hi lies s ∧ (ex51 l lo hi lies).1.2.getD i 0 = highS l lo hi s i)) := by
  refine exK_ind (ofS lo hi) lo.length (f51 lo.length) (hi, lo) (fun k s => s.1.1.length = n ∧ s.1.2.length = n ∧ (s.2 ≠ 0 ↔ ∃ t, t < k ∧ Exs l lo hi lies t) ∧ ∀ i, i < n →
      ((∀ t, t < k → Exs l lo hi lies t → s.1.1.getD i 0 ≤ lowS l lo hi t i) ∧ s.1.1.getD i 0 ≤ hi.getD i 0 ∧ (s.1.1.getD i 0 = hi.getD i 0 ∨ ∃ t, t < k ∧ Exs l lo hi lies t ∧ s.1.1.getD i 0 = lowS l lo hi t i)) ∧
      ((∀ t, t < k → Exs l lo hi lies t → highS l lo hi t i ≤ s.1.2.getD i 0) ∧ lo.getD i 0 ≤ s.1.2.getD i 0 ∧ (s.1.2.getD i 0 = lo.getD i 0 ∨ ∃ t, t < k ∧ Exs l lo hi lies t ∧ s.1.2.getD i 0 = highS l lo hi t i))) ?_ ?_ ?_ 256 (Nat.le_refl _)
  · exact ⟨h2, h1, by simp, fun i hi' => ⟨⟨fun t ht => by omega, Int.le_refl _, .inl rfl⟩, ⟨fun t ht => by omega, Int.le_refl _, .inl rfl⟩⟩⟩
  · rintro k ⟨⟨A, B⟩, c⟩ hk hx ⟨hA, hB, hc, h⟩
    refine ⟨by simp [f51, minK]; exact hA, by simp [f51, maxK]; exact hB, ⟨fun _ => ⟨k, by omega, hx⟩, fun _ => by simp⟩, fun i hi' => ?_⟩
    obtain ⟨⟨a1, a2, a3⟩, b1, b2, b3⟩ := h i hi'
    simp only at hA hB a1 a2 a3 b1 b2 b3
    simp only [f51]
    rw [getD_minK (by omega) (by omega), getD_maxK (by omega) (by omega)]
    rw [show (withoutS l k (ofS lo hi)).getD i 0 = lowS l lo hi k i from rfl, show (withoutS l k (ofS lo hi)).getD (6 + i) 0 = highS l lo hi k i from rfl]
    refine ⟨⟨fun t ht he => ?_, by omega, ?_⟩, fun t ht he => ?_, by omega, ?_⟩
    · rcases Nat.lt_or_ge t k with h' | h'
      · have := a1 t h' he; omega
      · obtain rfl : t = k := by omega
        omega
    · by_cases e : A.getD i 0 ≤ lowS l lo hi k i
      · rw [Int.min_eq_left e]; exact a3.imp_right fun ⟨t, ht, r⟩ => ⟨t, by omega, r⟩
      · exact .inr ⟨k, by omega, hx, by omega⟩
    · rcases Nat.lt_or_ge t k with h' | h'
      · have := b1 t h' he; omega
      · obtain rfl : t = k := by omega
        omega
    · by_cases e : highS l lo hi k i ≤ B.getD i 0
      · rw [Int.max_eq_left e]; exact b3.imp_right fun ⟨t, ht, r⟩ => ⟨t, by omega, r⟩
      · exact .inr ⟨k, by omega, hx, by omega⟩
  · rintro k s hx ⟨hA, hB, hc, h⟩
    have hlt : ∀ t, t < k + 1 → Exs l lo hi lies t → t < k := fun t ht he => by
      rcases Nat.lt_or_ge t k with h' | h'
      · exact h'
      · obtain rfl : t = k := by omega
        exact absurd he hx
    refine ⟨hA, hB, hc.trans ⟨fun ⟨t, ht, he⟩ => ⟨t, by omega, he⟩, fun ⟨t, ht, he⟩ => ⟨t, hlt t ht he, he⟩⟩, fun i hi' => ?_⟩
    obtain ⟨⟨a1, a2, a3⟩, b1, b2, b3⟩ := h i hi'
    exact ⟨⟨fun t ht he => a1 t (hlt t ht he) he, a2, a3.imp_right fun ⟨t, ht, r⟩ => ⟨t, by omega, r⟩⟩, fun t ht he => b1 t (hlt t ht he) he, b2, b3.imp_right fun ⟨t, ht, r⟩ => ⟨t, by omega, r⟩⟩

theorem hasS_and (a b p : Nat) : hasS (a &&& b) p = (hasS a p && hasS b p) := Nat.testBit_and a b p
theorem hasS_255 : ∀ p, p < 8 → hasS 255 p = true := by decide

theorem ex54_sem : (ex54 l lo hi lies).1 < 256 ∧ ((ex54 l lo hi lies).2 ≠ 0 ↔ ∃ s, s < 256 ∧ Exs l lo hi lies s) ∧ ∀ p, p < 8 → (hasS (ex54 l lo hi lies).1 p = true ↔ ∀ s, s < 256 → Exs l lo hi lies s → hasS s p = true) := by
  refine exK_ind (ofS lo hi) lo.length f54 255 (fun k s => s.1 < 256 ∧ (s.2 ≠ 0 ↔ ∃ t, t < k ∧ Exs l lo hi lies t) ∧ ∀ p, p < 8 → (hasS s.1 p = true ↔ ∀ t, t < k → Exs l lo hi lies t → hasS t p = true)) ?_ ?_ ?_ 256 (Nat.le_refl _)
  · exact ⟨by decide, by simp, fun p hp => ⟨fun _ t ht => by omega, fun _ => hasS_255 p hp⟩⟩
  · rintro k ⟨A, c⟩ hk hx ⟨hA, hc, h⟩
    refine ⟨Nat.lt_of_le_of_lt Nat.and_le_left hA, ⟨fun _ => ⟨k, by omega, hx⟩, fun _ => by simp⟩, fun p hp => ?_⟩
    simp only [f54] at hA h ⊢
    rw [hasS_and, Bool.and_eq_true, h p hp]
    constructor
    · rintro ⟨a, b⟩ t ht he
      rcases Nat.lt_or_ge t k with h' | h'
      · exact a t h' he
      · obtain rfl : t = k := by omega
        exact b
    · exact fun a => ⟨fun t ht he => a t (by omega) he, a k (by omega) hx⟩
  · rintro k s hx ⟨hA, hc, h⟩
    have hlt : ∀ t, t < k + 1 → Exs l lo hi lies t → t < k := fun t ht he => by
      rcases Nat.lt_or_ge t k with h' | h'
      · exact h'
      · obtain rfl : t = k := by omega
        exact absurd he hx
    refine ⟨hA, hc.trans ⟨fun ⟨t, ht, he⟩ => ⟨t, by omega, he⟩, fun ⟨t, ht, he⟩ => ⟨t, hlt t ht he, he⟩⟩, fun p hp => (h p hp).trans ⟨fun a t ht he => a t (hlt t ht he) he, fun a t ht he => a t (by omega) he⟩⟩

/-- What Narrow and Liars say where some assignment agrees. -/
structure Sem (l : List Rd) (lo hi : List Int) (lies : Int) (A B : List Int) (all : Nat) : Prop where
  lenA : A.length = lo.length
  lenB : B.length = lo.length
  lt : all < 256
  le : ∀ s v, AgS l lo hi lies s v → ∀ i, i < lo.length → A.getD i 0 ≤ v i ∧ v i ≤ B.getD i 0
  least : ∀ i, i < lo.length → ∃ s v, AgS l lo hi lies s v ∧ v i = A.getD i 0
  most : ∀ i, i < lo.length → ∃ s v, AgS l lo hi lies s v ∧ v i = B.getD i 0
  liars : ∀ p, p < 8 → (hasS all p = true ↔ ∀ s v, AgS l lo hi lies s v → hasS s p = true)

theorem narrow_sem (h0 : checkS l lo hi lies = 0) :
    ((∃ s v, AgS l lo hi lies s v) ∧ narrowE l lo hi lies = 0 ∧ liarsE l lo hi lies = 0 ∧ ∃ all, liarsL l lo hi lies = outK all 8 ∧ Sem l lo hi lies (narrowA l lo hi lies) (narrowB l lo hi lies) all) ∨
    ((¬ ∃ s v, AgS l lo hi lies s v) ∧ narrowE l lo hi lies = 21 ∧ liarsE l lo hi lies = 21 ∧ narrowA l lo hi lies = [] ∧ narrowB l lo hi lies = [] ∧ liarsL l lo hi lies = []) := by
  obtain ⟨hl, h2, h6, hls, hr⟩ := check_ok h0
  have hr' : Rok lo.length l := hr
  obtain ⟨m1, m2, m3, m4⟩ := ex51_sem (l := l) (lo := lo) (hi := hi) (lies := lies) rfl h2
  obtain ⟨n1, n2, n3⟩ := ex54_sem (l := l) (lo := lo) (hi := hi) (lies := lies)
  have hiff : (∃ s, s < 256 ∧ Exs l lo hi lies s) ↔ ∃ s v, AgS l lo hi lies s v := ⟨fun ⟨s, hs, he⟩ => ⟨s, (exs_iff rfl h2 h6 hr' hs).1 he⟩, fun ⟨s, v, hv⟩ => ⟨s, hv.lt, (exs_iff rfl h2 h6 hr' hv.lt).2 ⟨v, hv⟩⟩⟩
  by_cases hx : ∃ s v, AgS l lo hi lies s v
  · left
    have q1 := m3.2 (hiff.2 hx)
    have q2 := n2.2 (hiff.2 hx)
    obtain ⟨e1, e2, e3⟩ := narrow_3 h0 q1
    obtain ⟨e4, e5⟩ := liars_3 h0 q2
    refine ⟨hx, e1, e4, _, e5, ?_⟩
    rw [e2, e3]
    obtain ⟨s0, v0, hv0⟩ := hx
    refine ⟨m1, m2, n1, fun s v hv i hi' => ?_, fun i hi' => ?_, fun i hi' => ?_, fun p hp => ?_⟩
    · obtain ⟨a, b⟩ := m4 i hi'
      have he := (exs_iff rfl h2 h6 hr' hv.lt).2 ⟨v, hv⟩
      have hb := (box_iff rfl h2 h6 hr' s v).2 ⟨hv.inb, hv.expl⟩ i hi'
      have h1 := a.1 s hv.lt he
      have h3 := b.1 s hv.lt he
      omega
    · obtain ⟨⟨a1, a2, a3⟩, _⟩ := m4 i hi'
      rcases a3 with e | ⟨s, hs, he, e⟩
      · have he := (exs_iff rfl h2 h6 hr' hv0.lt).2 ⟨v0, hv0⟩
        have h1 := a1 s0 hv0.lt he
        have h3 := (low_ag rfl h2 h6 hr' hv0.lt he)
        have h4 := h3.inb i hi'
        exact ⟨s0, _, h3, by omega⟩
      · exact ⟨s, _, low_ag rfl h2 h6 hr' hs he, e.symm⟩
    · obtain ⟨_, a1, a2, a3⟩ := m4 i hi'
      rcases a3 with e | ⟨s, hs, he, e⟩
      · have he := (exs_iff rfl h2 h6 hr' hv0.lt).2 ⟨v0, hv0⟩
        have h1 := a1 s0 hv0.lt he
        have h3 := (high_ag rfl h2 h6 hr' hv0.lt he)
        have h4 := h3.inb i hi'
        exact ⟨s0, _, h3, by omega⟩
      · exact ⟨s, _, high_ag rfl h2 h6 hr' hs he, e.symm⟩
    · rw [n3 p hp]
      exact ⟨fun a s v hv => a s hv.lt ((exs_iff rfl h2 h6 hr' hv.lt).2 ⟨v, hv⟩), fun a s hs he => by
        obtain ⟨v, hv⟩ := (exs_iff rfl h2 h6 hr' hs).1 he
        exact a s v hv⟩
  · right
    have q1 : (ex51 l lo hi lies).2 = 0 := by
      by_cases e : (ex51 l lo hi lies).2 = 0
      · exact e
      · exact absurd (hiff.1 (m3.1 e)) hx
    have q2 : (ex54 l lo hi lies).2 = 0 := by
      by_cases e : (ex54 l lo hi lies).2 = 0
      · exact e
      · exact absurd (hiff.1 (n2.1 e)) hx
    obtain ⟨e1, e2, e3⟩ := narrow_2 h0 q1
    obtain ⟨e4, e5⟩ := liars_2 h0 q2
    exact ⟨hx, e1, e4, e2, e3, e5⟩

end
end Go.Proofs.Ytadjdnhnbkcakaa

/-! The plain law of probes, on: the probes that lie as a set, Agree, and the least and greatest values as they are found one by one. No program in sight. -/
namespace Go.Proofs.Ytadjdnhnbkcakaa
open Go.RowKit

/-- A reading that the values contradict. -/
def badV (v : Nat → Int) (r : Rd) : Bool := decide (v r.of_.toNat < r.lo ∨ v r.of_.toNat > r.hi)
/-- The probes that lie, as a set. -/
def maskS (l : List Rd) (v : Nat → Int) (m : Nat) : Nat := l.foldl (fun m r => if badV v r = true then m ||| 2 ^ r.probe.toNat else m) m

theorem or_pow_lt : ∀ m, m < 256 → ∀ p, p < 8 → m ||| 2 ^ p < 256 := by decide +kernel
theorem size_or : ∀ m, m < 256 → ∀ p, p < 8 → sizeS (m ||| 2 ^ p) 8 = if hasS m p = true then sizeS m 8 else sizeS m 8 + 1 := by decide +kernel
theorem hasS_or (m p q : Nat) : hasS (m ||| 2 ^ p) q = (hasS m q || decide (p = q)) := by
  simp [hasS, Nat.testBit_or, Nat.testBit_two_pow]
theorem hasS_0 (q : Nat) : hasS 0 q = false := by simp [hasS]
theorem badV_false {v : Nat → Int} {r : Rd} : badV v r = false ↔ r.lo ≤ v r.of_.toNat ∧ v r.of_.toNat ≤ r.hi := by
  unfold badV
  rw [decide_eq_false_iff_not]; omega

theorem mask_lt {n : Nat} {v : Nat → Int} : ∀ (l : List Rd) (m : Nat), Rok n l → m < 256 → maskS l v m < 256
  | [], m, _, hm => hm
  | r :: l, m, hr, hm => by
    have h0 := hr r (by simp)
    show maskS l v (if badV v r = true then m ||| 2 ^ r.probe.toNat else m) < 256
    refine mask_lt l _ (fun r h => hr r (by simp [h])) ?_
    split
    · exact or_pow_lt m hm _ (by omega)
    · exact hm
theorem mask_has {v : Nat → Int} {q : Nat} : ∀ (l : List Rd) (m : Nat), hasS (maskS l v m) q = true ↔ hasS m q = true ∨ ∃ r ∈ l, r.probe.toNat = q ∧ badV v r = true
  | [], m => by simp [maskS]
  | r :: l, m => by
    show hasS (maskS l v (if badV v r = true then m ||| 2 ^ r.probe.toNat else m)) q = true ↔ _
    rw [mask_has l]
    by_cases hb : badV v r = true
    · rw [if_pos hb, hasS_or]
      simp only [Bool.or_eq_true, decide_eq_true_eq, List.mem_cons]
      constructor
      · rintro ((h | h) | ⟨r', h1, h2⟩)
        · exact .inl h
        · exact .inr ⟨r, .inl rfl, h, hb⟩
        · exact .inr ⟨r', .inr h1, h2⟩
      · rintro (h | ⟨r', h1 | h1, h2, h3⟩)
        · exact .inl (.inl h)
        · subst h1; exact .inl (.inr h2)
        · exact .inr ⟨r', h1, h2, h3⟩
    · rw [if_neg hb]
      simp only [List.mem_cons]
      constructor
      · rintro (h | ⟨r', h1, h2⟩)
        · exact .inl h
        · exact .inr ⟨r', .inr h1, h2⟩
      · rintro (h | ⟨r', h1 | h1, h2, h3⟩)
        · exact .inl h
        · subst h1; exact absurd h3 hb
        · exact .inr ⟨r', h1, h2, h3⟩

theorem size_mono {a b : Nat} (h : ∀ p, p < 8 → hasS a p = true → hasS b p = true) : ∀ n, n ≤ 8 → sizeS a n ≤ sizeS b n
  | 0, _ => Nat.le_refl _
  | n + 1, hn => by
    have ih := size_mono h n (by omega)
    have := h n (by omega)
    simp only [sizeS]
    split
    · rename_i e; rw [if_pos (this e)]; omega
    · split <;> omega
theorem size_congr {a b : Nat} (h : ∀ p, p < 8 → hasS a p = hasS b p) : ∀ n, n ≤ 8 → sizeS a n = sizeS b n
  | 0, _ => rfl
  | n + 1, hn => by
    simp only [sizeS]
    rw [size_congr h n (by omega), h n (by omega)]

theorem mask_expl {l : List Rd} {v : Nat → Int} : Expl l v (maskS l v 0) := fun r hr => by
  by_cases hb : badV v r = true
  · exact .inl ((mask_has l 0).2 (.inr ⟨r, hr, rfl, hb⟩))
  · exact .inr (badV_false.1 (by simpa using hb))
theorem expl_mask {l : List Rd} {v : Nat → Int} {s : Nat} (h : Expl l v s) : ∀ p, p < 8 → hasS (maskS l v 0) p = true → hasS s p = true := fun p _ hp => by
  rcases (mask_has l 0).1 hp with h0 | ⟨r, hr, e, hb⟩
  · rw [hasS_0] at h0; cases h0
  · rcases h r hr with h1 | h1
    · rw [← e]; exact h1
    · rw [badV_false.2 h1] at hb; cases hb
/-- An assignment agrees if the set of the probes that lie in it is small. -/
theorem ag_iff {n : Nat} {l : List Rd} {lo hi : List Int} {lies : Int} {v : Nat → Int} (hr : Rok n l) : (∃ s, AgS l lo hi lies s v) ↔ InB lo hi v ∧ (sizeS (maskS l v 0) 8 : Int) ≤ lies := by
  constructor
  · rintro ⟨s, hs⟩
    have := size_mono (expl_mask hs.expl) 8 (Nat.le_refl _)
    have h2 := hs.small
    exact ⟨hs.inb, by omega⟩
  · rintro ⟨h1, h2⟩
    exact ⟨_, mask_lt l 0 hr (by decide), h2, h1, mask_expl⟩
theorem ag_mask {n : Nat} {l : List Rd} {lo hi : List Int} {lies : Int} {v : Nat → Int} {s : Nat} (hr : Rok n l) (h : AgS l lo hi lies s v) : AgS l lo hi lies (maskS l v 0) v := by
  obtain ⟨h1, h2⟩ := (ag_iff hr).1 ⟨s, h⟩
  exact ⟨mask_lt l 0 hr (by decide), h2, h1, mask_expl⟩

/-- The values of a list, by their places. -/
abbrev vOf (V : List Int) (i : Nat) : Int := V.getD i 0

theorem wrong_size {n : Nat} {V : List Int} (hV : n ≤ V.length) : ∀ (l : List Rd) (ks : List Int) (m : Nat), Rok n l → m < 256 → ks.length = sizeS m 8 → (∀ p : Int, 0 ≤ p → p < 8 → (p ∈ ks ↔ hasS m p.toNat = true)) →
    (l.foldl (addW V) ks).length = sizeS (maskS l (vOf V) m) 8
  | [], ks, m, _, _, h, _ => h
  | r :: l, ks, m, hr, hm, h, hk => by
    have h0 := hr r (by simp)
    have hr' : Rok n l := fun r h => hr r (by simp [h])
    show (l.foldl (addW V) (addW V ks r)).length = sizeS (maskS l (vOf V) (if badV (vOf V) r = true then m ||| 2 ^ r.probe.toNat else m)) 8
    have hw : isWrong V r ↔ badV (vOf V) r = true := by
      unfold isWrong badV
      rw [decide_eq_true_iff]
      exact ⟨fun h => h.2.2, fun h => ⟨h0.2.2.1, by omega, h⟩⟩
    unfold addW
    by_cases hb : badV (vOf V) r = true
    · rw [if_pos hb, if_pos (hw.2 hb)]
      have hpk := hk r.probe h0.1 h0.2.1
      refine wrong_size hV l _ _ hr' (or_pow_lt m hm _ (by omega)) ?_ fun p p0 p8 => ?_
      · rw [size_or m hm _ (by omega)]
        unfold addK
        by_cases hc : ks.contains r.probe = true
        · rw [if_pos hc, if_pos (hpk.1 (by simpa using hc))]; exact h
        · rw [if_neg hc, if_neg (fun e => hc (by simpa using hpk.2 e))]; simp [h]
      · rw [hasS_or, Bool.or_eq_true, decide_eq_true_eq, ← hk p p0 p8]
        unfold addK
        by_cases hc : ks.contains r.probe = true
        · rw [if_pos hc]
          have hc' : r.probe ∈ ks := by simpa using hc
          exact ⟨.inl, fun h => h.elim id fun e => by rw [show p = r.probe by omega]; exact hc'⟩
        · rw [if_neg hc, List.mem_append, List.mem_singleton]
          exact ⟨fun h => h.imp_right fun e => by rw [e], fun h => h.imp_right fun e => by omega⟩
    · rw [if_neg hb, if_neg (fun e => hb (hw.1 e))]
      exact wrong_size hV l ks m hr' hm h hk
theorem agree_iff {n : Nat} {l : List Rd} {V : List Int} {lies : Int} (hr : Rok n l) (hV : n ≤ V.length) : agreeS l V lies = true ↔ (sizeS (maskS l (vOf V) 0) 8 : Int) ≤ lies := by
  unfold agreeS wrongS
  rw [wrong_size hV l [] 0 hr (by decide) (by decide) (fun p _ _ => by simp [hasS_0]), decide_eq_true_iff]

/-! ### What Narrow and Liars say depends on what agrees, and on nothing else -/

theorem outK_congr {a b : Nat} (h : ∀ p, p < 8 → hasS a p = hasS b p) : outK a 8 = outK b 8 := by
  unfold outK
  rw [List.filter_congr fun p hp => h p (List.mem_range.1 hp)]
theorem mem_outK {a : Nat} {p : Int} : p ∈ outK a 8 ↔ 0 ≤ p ∧ p < 8 ∧ hasS a p.toNat = true := by
  unfold outK
  simp only [List.mem_map, List.mem_filter, List.mem_range]
  constructor
  · rintro ⟨q, ⟨h1, h2⟩, rfl⟩
    exact ⟨Int.natCast_nonneg _, by show (q : Int) < 8; omega, h2⟩
  · rintro ⟨h1, h2, h3⟩
    exact ⟨p.toNat, ⟨by omega, h3⟩, by show ((p.toNat : Nat) : Int) = p; omega⟩

theorem list_ext_getD {a b : List Int} (hl : a.length = b.length) (h : ∀ i, i < a.length → a.getD i 0 = b.getD i 0) : a = b := by
  apply List.ext_getElem hl
  intro i h1 h2
  have := h i h1
  simpa [h1, h2] using this

/-- Two cases in which the same assignments agree, and the same probes lie in them. -/
theorem sem_congr {l l' : List Rd} {lo hi lo' hi' : List Int} {lies lies' : Int} {A B A' B' : List Int} {all all' : Nat} (h : Sem l lo hi lies A B all) (h' : Sem l' lo' hi' lies' A' B' all') (hn : lo.length = lo'.length)
    (hag : ∀ s v, AgS l lo hi lies s v ↔ AgS l' lo' hi' lies' s v) : A = A' ∧ B = B' ∧ outK all 8 = outK all' 8 := by
  refine ⟨list_ext_getD (by rw [h.lenA, h'.lenA, hn]) fun i hi => ?_, list_ext_getD (by rw [h.lenB, h'.lenB, hn]) fun i hi => ?_, outK_congr fun p hp => ?_⟩
  · rw [h.lenA] at hi
    obtain ⟨s, v, h1, h2⟩ := h.least i hi
    obtain ⟨s', v', h3, h4⟩ := h'.least i (by omega)
    have := h'.le s v ((hag s v).1 h1) i (by omega)
    have := h.le s' v' ((hag s' v').2 h3) i hi
    omega
  · rw [h.lenB] at hi
    obtain ⟨s, v, h1, h2⟩ := h.most i hi
    obtain ⟨s', v', h3, h4⟩ := h'.most i (by omega)
    have := h'.le s v ((hag s v).1 h1) i (by omega)
    have := h.le s' v' ((hag s' v').2 h3) i hi
    omega
  · have : hasS all p = true ↔ hasS all' p = true := by
      rw [h.liars p hp, h'.liars p hp]
      exact ⟨fun a s v hv => a s v ((hag s v).2 hv), fun a s v hv => a s v ((hag s v).1 hv)⟩
    cases e1 : hasS all p <;> cases e2 : hasS all' p <;> simp_all

theorem narrow_congr {l l' : List Rd} {lo hi lo' hi' : List Int} {lies lies' : Int} (h : checkS l lo hi lies = 0) (h' : checkS l' lo' hi' lies' = 0) (hn : lo.length = lo'.length)
    (hag : ∀ s v, AgS l lo hi lies s v ↔ AgS l' lo' hi' lies' s v) :
    narrowE l lo hi lies = narrowE l' lo' hi' lies' ∧ narrowA l lo hi lies = narrowA l' lo' hi' lies' ∧ narrowB l lo hi lies = narrowB l' lo' hi' lies' ∧ liarsE l lo hi lies = liarsE l' lo' hi' lies' ∧ liarsL l lo hi lies = liarsL l' lo' hi' lies' := by
  rcases narrow_sem h with ⟨⟨s, v, hv⟩, a1, a2, all, a3, a4⟩ | ⟨hx, a1, a2, a3, a4, a5⟩ <;> rcases narrow_sem h' with ⟨⟨s', v', hv'⟩, b1, b2, all', b3, b4⟩ | ⟨hx', b1, b2, b3, b4, b5⟩
  · obtain ⟨c1, c2, c3⟩ := sem_congr a4 b4 hn hag
    exact ⟨a1.trans b1.symm, c1, c2, a2.trans b2.symm, by rw [a3, b3, c3]⟩
  · exact absurd ⟨s, v, (hag s v).1 hv⟩ hx'
  · exact absurd ⟨s', v', (hag s' v').2 hv'⟩ hx
  · exact ⟨a1.trans b1.symm, a3.trans b3.symm, a4.trans b4.symm, a2.trans b2.symm, a5.trans b5.symm⟩

end Go.Proofs.Ytadjdnhnbkcakaa

/-! Walks: A19. -/
namespace Go.Proofs.Ytadjdnhnbkcakaa
open Go.RowKit


theorem fc16o (ls : List (List Int)) (lims : List Int) (lies : Int) (hls : ∀ L ∈ ls, L.length ≤ 4611686018427387904) (hlims : ∀ x ∈ lims, 0 ≤ x ∧ x < 256) (hlies : 0 ≤ lies ∧ lies < 256) : FC Try.prog 16 [.agg [.rs 1 (ls.map cL), .rs 1 (lims.map cu8), .int .u8 lies]] [] (.tup [.sl 1005 0 (readS ls ((1 + lims.length % 3) : Nat)).length, .sl 1007 0 (1 + lims.length % 3), .sl 1008 0 (1 + lims.length % 3), iv (lies.tmod 4)]) [(1005, .cells 50 4 ((readS ls ((1 + lims.length % 3) : Nat)).map cR) true), (1007, .cells 3 1 ((madeLo lims (1 + lims.length % 3)).map ci) true), (1008, .cells 3 1 ((madeHi lims (1 + lims.length % 3)).map ci) true)] true := by
  refine fc_run (nt := 56) Try.func16 rfl rfl mcOk16 (Nat.le_of_ble_eq_true rfl) ?_
  delta mc16
  refine aw_seq ?_
  refine aw_reg ?_
  refine rs_box rfl rfl rfl rfl rfl rfl ?_
  refine rs_mv rfl rfl ?_
  refine rs_mv rfl rfl ?_
  refine rs_mv rfl rfl ?_
  refine rs_mv rfl rfl ?_
  refine rs_nil fun _ => ?_
  refine th_n ?_
  refine aw_seq ?_
  refine aw_reg ?_
  first | refine rs_fa_p rfl rfl ?_ | refine rs_fa_r rfl rfl rfl ?_
  first | refine rs_ld_r rfl rfl rfl ?_ | refine rs_ld_p rfl rfl rfl rfl rfl ?_ | refine rs_ld_m rfl rfl rfl (by omega) rfl ?_
  first | refine rs_len_m rfl rfl ?_ | refine rs_len_s rfl rfl ?_ | refine rs_len_n rfl rfl ?_ | refine rs_len_r rfl rfl rfl ?_
  refine rs_rem (c := ((lims.length % 3 : Nat) : Int)) rfl rfl rfl (by decide) rfl ?_
  first | refine rs_add rfl rfl rfl (by omega) ?_ | refine rs_addw rfl rfl rfl rfl ?_
  refine rs_mv rfl rfl ?_
  refine rs_nil fun _ => ?_
  refine th_n ?_
  refine aw_seq ?_
  refine aw_reg ?_
  refine rs_mv rfl rfl ?_
  refine rs_mv rfl rfl ?_
  refine rs_nil fun _ => ?_
  refine th_n ?_
  refine aw_seq ?_
  refine aw_seq ?_
  refine aw_reg ?_
  refine rs_mv rfl rfl ?_
  refine rs_nil fun _ => ?_
  refine th_n ?_
  refine aw_block ?_
  refine aw_fam (α := Nat) (fun k => (1 + lims.length % 3) - k) (fun k => [(1, .ptr 1 0 0), (6, iv (((1 + lims.length % 3) : Nat) : Int)), (7, .sl 1007 0 (k)), (8, .sl 1008 0 (k)), (9, iv (((k) : Nat) : Int))]) (fun k => [(1, .cells 25 3 [[.rs 1 (ls.map cL), .rs 1 (lims.map cu8), .int .u8 lies]] true), (1007, .cells 3 1 ((madeLo lims (k)).map ci) true), (1008, .cells 3 1 ((madeHi lims (k)).map ci) true)]) (fun k => k ≤ (1 + lims.length % 3)) 0 (by omega)
    (weak_to (.cons rfl (rc_same rfl (.inl rfl)) (.cons rfl (rc_same rfl (.inl rfl)) (.cons rfl (rc_virt rfl rfl) (.cons rfl (rc_virt rfl rfl) (.cons rfl (rc_same rfl (.inl rfl)) (.nil)))))) (.keep (rfl) rfl (.virt rfl (.virt rfl (.nil)))) (fun i h => by cases h)) ?_
  intro k hk
  refine aw_seq ?_
  refine aw_seq ?_
  refine aw_reg ?_
  refine rs_mv rfl rfl ?_
  refine rs_mv rfl rfl ?_
  refine rs_lss rfl rfl rfl ?_
  refine rs_nil fun _ => ?_
  refine th_n ?_
  refine aw_cond rfl (fun h18 => ?_) (fun h18 => ?_)
  · first | replace h18 := of_decide_eq_true h18 | skip
    have hlr := limAt_range hlims k
    have hmf := mfacts _ hlr
    refine aw_skip ?_
    refine th_n ?_
    refine aw_seq ?_
    refine aw_block ?_
    refine aw_seq ?_
    refine aw_reg ?_
    refine rs_mv rfl rfl ?_
    refine rs_nil fun _ => ?_
    refine th_n ?_
    refine aw_seq ?_
    refine aw_seq ?_
    refine aw_reg ?_
    refine rs_mv rfl rfl ?_
    first | refine rs_fa_p rfl rfl ?_ | refine rs_fa_r rfl rfl rfl ?_
    first | refine rs_ld_r rfl rfl rfl ?_ | refine rs_ld_p rfl rfl rfl rfl rfl ?_ | refine rs_ld_m rfl rfl rfl (by omega) rfl ?_
    first | refine rs_len_m rfl rfl ?_ | refine rs_len_s rfl rfl ?_ | refine rs_len_n rfl rfl ?_ | refine rs_len_r rfl rfl rfl ?_
    refine rs_lss rfl rfl rfl ?_
    refine rs_nil fun _ => ?_
    refine th_n ?_
    refine aw_cond rfl (fun h25 => ?_) (fun h25 => ?_)
    · first | replace h25 := of_decide_eq_true h25 | skip
      refine aw_reg ?_
      first | refine rs_fa_p rfl rfl ?_ | refine rs_fa_r rfl rfl rfl ?_
      first | refine rs_ld_r rfl rfl rfl ?_ | refine rs_ld_p rfl rfl rfl rfl rfl ?_ | refine rs_ld_m rfl rfl rfl (by omega) rfl ?_
      refine rs_mv rfl rfl ?_
      first | refine rs_ix_m rfl rfl rfl (by omega) ?_ | refine rs_ix_sm rfl rfl rfl rfl (by omega) ?_
      refine rs_ld_r rfl rfl rfl ?_
      refine rs_cvt (m := limAt lims k) rfl rfl (by rw [limAt_in (by omega)]; exact wrap64_eq (by omega)) ?_
      refine rs_mv rfl rfl ?_
      refine rs_nil fun _ => ?_
      refine th_n ?_
      refine aw_seq ?_
      refine aw_reg ?_
      refine rs_mv rfl rfl ?_
      refine rs_mv rfl rfl ?_
      refine rs_rem (a := limAt lims k) (c := loF (limAt lims k)) rfl (by first | rfl | exact congrArg (fun x => some (AV.int .i64 x)) (limAt_out (by omega))) rfl (by decide) rfl ?_
      refine rs_bslice rfl rfl rfl rfl rfl rfl ?_
      refine rs_app_m (y := loF (limAt lims k)) rfl rfl rfl rfl (length_madeLo _ _) rfl rfl rfl (by decide) rfl (by omega) (by omega) rfl ?_
      refine rs_mv rfl rfl ?_
      refine rs_nil fun _ => ?_
      refine th_n ?_
      refine aw_reg ?_
      refine rs_mv rfl rfl ?_
      refine rs_mv rfl rfl ?_
      refine rs_rem (a := limAt lims k) rfl (by first | rfl | exact congrArg (fun x => some (AV.int .i64 x)) (limAt_out (by omega))) rfl (by decide) rfl ?_
      refine rs_mv rfl rfl ?_
      refine rs_quow (a := limAt lims k) rfl (by first | rfl | exact congrArg (fun x => some (AV.int .i64 x)) (limAt_out (by omega))) rfl (by decide) hmf.2.2.1 ?_
      refine rs_rem rfl rfl rfl (by decide) rfl ?_
      refine rs_add rfl rfl rfl (by omega) ?_
      refine rs_bslice rfl rfl rfl rfl rfl rfl ?_
      refine rs_app_m (y := hiF (limAt lims k)) rfl rfl rfl rfl (length_madeHi _ _) rfl rfl rfl (by decide) rfl (by omega) (by omega) rfl ?_
      refine rs_mv rfl rfl ?_
      refine rs_nil fun _ => ?_
      refine in_n ?_
      refine th_n ?_
      refine aw_reg ?_
      refine rs_mv rfl rfl ?_
      first | refine rs_add rfl rfl rfl (by omega) ?_ | refine rs_addw rfl rfl rfl rfl ?_
      refine rs_mv rfl rfl ?_
      refine rs_nil fun _ => ?_
      refine th_n ?_
      refine ⟨k + 1, by omega, by omega, ?_⟩
      exact Weak.trans (F1 := [(1, .ptr 1 0 0), (6, iv (((1 + lims.length % 3) : Nat) : Int)), (7, .sl 1007 0 (k + 1)), (8, .sl 45 0 (k + 1)), (9, iv (((k + 1) : Nat) : Int))]) (H1 := [(1, .cells 25 3 [[.rs 1 (ls.map cL), .rs 1 (lims.map cu8), .int .u8 lies]] true), (1007, .cells 3 1 ((madeLo lims (k + 1)).map ci) true), (45, .cells 3 1 ((madeHi lims (k + 1)).map ci) true)]) (weak_to_ren (i := 36) (i' := 1007) (F1 := [(1, .ptr 1 0 0), (6, iv (((1 + lims.length % 3) : Nat) : Int)), (7, .sl 36 0 (k + 1)), (8, .sl 45 0 (k + 1)), (9, iv (((k + 1) : Nat) : Int))]) (H1 := [(1, .cells 25 3 [[.rs 1 (ls.map cL), .rs 1 (lims.map cu8), .int .u8 lies]] true), (36, .cells 3 1 ((madeLo lims (k + 1)).map ci) true), (45, .cells 3 1 ((madeHi lims (k + 1)).map ci) true)]) (.cons rfl (rc_same rfl (.inl rfl)) (.cons rfl (rc_same rfl (.inl rfl)) (.cons rfl (rc_same rfl (.inl rfl)) (.cons rfl (rc_same rfl (.inl rfl)) (.cons rfl (rc_same rfl (.inl rfl)) (.nil)))))) (.keep (rfl) rfl (.keep ((by (rw [madeLo_succ]) <;> rfl)) rfl (.keep ((by (rw [madeHi_succ]) <;> rfl)) rfl (.nil)))) (fun i h => by cases h) rfl rfl (.cons rfl (.same _) (.cons rfl (.same _) (.cons rfl (.sl _ _) (.cons rfl (.same _) (.cons rfl (.same _) (.nil)))))) (.cons rfl (rc_same rfl (.inl rfl)) (.cons rfl (rc_same rfl (.inl rfl)) (.cons rfl (rc_same rfl (.inl rfl)) (.cons rfl (rc_same rfl (.inl rfl)) (.cons rfl (rc_same rfl (.inl rfl)) (.nil)))))) (.keep (rfl) rfl (.keep (rfl) rfl (.keep (rfl) rfl (.nil)))) (fun i h => by cases h)) (weak_to_ren (i := 45) (i' := 1008) (F1 := [(1, .ptr 1 0 0), (6, iv (((1 + lims.length % 3) : Nat) : Int)), (7, .sl 1007 0 (k + 1)), (8, .sl 45 0 (k + 1)), (9, iv (((k + 1) : Nat) : Int))]) (H1 := [(1, .cells 25 3 [[.rs 1 (ls.map cL), .rs 1 (lims.map cu8), .int .u8 lies]] true), (1007, .cells 3 1 ((madeLo lims (k + 1)).map ci) true), (45, .cells 3 1 ((madeHi lims (k + 1)).map ci) true)]) (.cons rfl (rc_same rfl (.inl rfl)) (.cons rfl (rc_same rfl (.inl rfl)) (.cons rfl (rc_same rfl (.inl rfl)) (.cons rfl (rc_same rfl (.inl rfl)) (.cons rfl (rc_same rfl (.inl rfl)) (.nil)))))) (.keep (rfl) rfl (.keep (rfl) rfl (.keep (rfl) rfl (.nil)))) (fun i h => by cases h) rfl rfl (.cons rfl (.same _) (.cons rfl (.same _) (.cons rfl (.same _) (.cons rfl (.sl _ _) (.cons rfl (.same _) (.nil)))))) (.cons rfl (rc_same rfl (.inl rfl)) (.cons rfl (rc_same rfl (.inl rfl)) (.cons rfl (rc_same rfl (.inl rfl)) (.cons rfl (rc_same rfl (.inl rfl)) (.cons rfl (rc_same rfl (.inl rfl)) (.nil)))))) (.keep (rfl) rfl (.keep (rfl) rfl (.keep (rfl) rfl (.nil)))) (fun i h => by cases h))
    · first | replace h25 := of_decide_eq_false h25 | skip
      
      refine aw_skip ?_
      refine th_n ?_
      refine aw_seq ?_
      refine aw_reg ?_
      refine rs_mv rfl rfl ?_
      refine rs_mv rfl rfl ?_
      refine rs_rem (a := limAt lims k) (c := loF (limAt lims k)) rfl (by first | rfl | exact congrArg (fun x => some (AV.int .i64 x)) (limAt_out (by omega))) rfl (by decide) rfl ?_
      refine rs_bslice rfl rfl rfl rfl rfl rfl ?_
      refine rs_app_m (y := loF (limAt lims k)) rfl rfl rfl rfl (length_madeLo _ _) rfl rfl rfl (by decide) rfl (by omega) (by omega) rfl ?_
      refine rs_mv rfl rfl ?_
      refine rs_nil fun _ => ?_
      refine th_n ?_
      refine aw_reg ?_
      refine rs_mv rfl rfl ?_
      refine rs_mv rfl rfl ?_
      refine rs_rem (a := limAt lims k) rfl (by first | rfl | exact congrArg (fun x => some (AV.int .i64 x)) (limAt_out (by omega))) rfl (by decide) rfl ?_
      refine rs_mv rfl rfl ?_
      refine rs_quow (a := limAt lims k) rfl (by first | rfl | exact congrArg (fun x => some (AV.int .i64 x)) (limAt_out (by omega))) rfl (by decide) hmf.2.2.1 ?_
      refine rs_rem rfl rfl rfl (by decide) rfl ?_
      refine rs_add rfl rfl rfl (by omega) ?_
      refine rs_bslice rfl rfl rfl rfl rfl rfl ?_
      refine rs_app_m (y := hiF (limAt lims k)) rfl rfl rfl rfl (length_madeHi _ _) rfl rfl rfl (by decide) rfl (by omega) (by omega) rfl ?_
      refine rs_mv rfl rfl ?_
      refine rs_nil fun _ => ?_
      refine in_n ?_
      refine th_n ?_
      refine aw_reg ?_
      refine rs_mv rfl rfl ?_
      first | refine rs_add rfl rfl rfl (by omega) ?_ | refine rs_addw rfl rfl rfl rfl ?_
      refine rs_mv rfl rfl ?_
      refine rs_nil fun _ => ?_
      refine th_n ?_
      refine ⟨k + 1, by omega, by omega, ?_⟩
      exact Weak.trans (F1 := [(1, .ptr 1 0 0), (6, iv (((1 + lims.length % 3) : Nat) : Int)), (7, .sl 1007 0 (k + 1)), (8, .sl 45 0 (k + 1)), (9, iv (((k + 1) : Nat) : Int))]) (H1 := [(1, .cells 25 3 [[.rs 1 (ls.map cL), .rs 1 (lims.map cu8), .int .u8 lies]] true), (1007, .cells 3 1 ((madeLo lims (k + 1)).map ci) true), (45, .cells 3 1 ((madeHi lims (k + 1)).map ci) true)]) (weak_to_ren (i := 36) (i' := 1007) (F1 := [(1, .ptr 1 0 0), (6, iv (((1 + lims.length % 3) : Nat) : Int)), (7, .sl 36 0 (k + 1)), (8, .sl 45 0 (k + 1)), (9, iv (((k + 1) : Nat) : Int))]) (H1 := [(1, .cells 25 3 [[.rs 1 (ls.map cL), .rs 1 (lims.map cu8), .int .u8 lies]] true), (36, .cells 3 1 ((madeLo lims (k + 1)).map ci) true), (45, .cells 3 1 ((madeHi lims (k + 1)).map ci) true)]) (.cons rfl (rc_same rfl (.inl rfl)) (.cons rfl (rc_same rfl (.inl rfl)) (.cons rfl (rc_same rfl (.inl rfl)) (.cons rfl (rc_same rfl (.inl rfl)) (.cons rfl (rc_same rfl (.inl rfl)) (.nil)))))) (.keep (rfl) rfl (.keep ((by (rw [madeLo_succ]) <;> rfl)) rfl (.keep ((by (rw [madeHi_succ]) <;> rfl)) rfl (.nil)))) (fun i h => by cases h) rfl rfl (.cons rfl (.same _) (.cons rfl (.same _) (.cons rfl (.sl _ _) (.cons rfl (.same _) (.cons rfl (.same _) (.nil)))))) (.cons rfl (rc_same rfl (.inl rfl)) (.cons rfl (rc_same rfl (.inl rfl)) (.cons rfl (rc_same rfl (.inl rfl)) (.cons rfl (rc_same rfl (.inl rfl)) (.cons rfl (rc_same rfl (.inl rfl)) (.nil)))))) (.keep (rfl) rfl (.keep (rfl) rfl (.keep (rfl) rfl (.nil)))) (fun i h => by cases h)) (weak_to_ren (i := 45) (i' := 1008) (F1 := [(1, .ptr 1 0 0), (6, iv (((1 + lims.length % 3) : Nat) : Int)), (7, .sl 1007 0 (k + 1)), (8, .sl 45 0 (k + 1)), (9, iv (((k + 1) : Nat) : Int))]) (H1 := [(1, .cells 25 3 [[.rs 1 (ls.map cL), .rs 1 (lims.map cu8), .int .u8 lies]] true), (1007, .cells 3 1 ((madeLo lims (k + 1)).map ci) true), (45, .cells 3 1 ((madeHi lims (k + 1)).map ci) true)]) (.cons rfl (rc_same rfl (.inl rfl)) (.cons rfl (rc_same rfl (.inl rfl)) (.cons rfl (rc_same rfl (.inl rfl)) (.cons rfl (rc_same rfl (.inl rfl)) (.cons rfl (rc_same rfl (.inl rfl)) (.nil)))))) (.keep (rfl) rfl (.keep (rfl) rfl (.keep (rfl) rfl (.nil)))) (fun i h => by cases h) rfl rfl (.cons rfl (.same _) (.cons rfl (.same _) (.cons rfl (.same _) (.cons rfl (.sl _ _) (.cons rfl (.same _) (.nil)))))) (.cons rfl (rc_same rfl (.inl rfl)) (.cons rfl (rc_same rfl (.inl rfl)) (.cons rfl (rc_same rfl (.inl rfl)) (.cons rfl (rc_same rfl (.inl rfl)) (.cons rfl (rc_same rfl (.inl rfl)) (.nil)))))) (.keep (rfl) rfl (.keep (rfl) rfl (.keep (rfl) rfl (.nil)))) (fun i h => by cases h))
  · first | replace h18 := of_decide_eq_false h18 | skip
    refine aw_exit ?_
    refine th_e ?_
    refine th_e ?_
    refine in_hit ?_
    refine th_n ?_
    refine aw_seq ?_
    refine aw_draw hmix ?_
    first | refine rs_fa_p rfl rfl ?_ | refine rs_fa_r rfl rfl rfl ?_
    first | refine rs_ld_r rfl rfl rfl ?_ | refine rs_ld_p rfl rfl rfl rfl rfl ?_ | refine rs_ld_m rfl rfl rfl (by omega) rfl ?_
    refine rs_mv rfl rfl ?_
    refine rs_calln [] rfl rfl (fc29 ls ((1 + lims.length % 3) : Nat) (by omega) hls) (.cons (hv_same rfl) (.cons (hv_same rfl) (.nil))) rfl ?_
    refine rs_mv rfl rfl ?_
    refine rs_mv rfl rfl ?_
    first | refine rs_fa_p rfl rfl ?_ | refine rs_fa_r rfl rfl rfl ?_
    first | refine rs_ld_r rfl rfl rfl ?_ | refine rs_ld_p rfl rfl rfl rfl rfl ?_ | refine rs_ld_m rfl rfl rfl (by omega) rfl ?_
    refine rs_rem rfl rfl rfl (by decide) rfl ?_
    refine rs_cvt rfl rfl (mfacts lies hlies).2.2.2 ?_
    refine rs_mv rfl rfl ?_
    refine rs_mv rfl rfl ?_
    refine rs_mv rfl rfl ?_
    refine rs_mv rfl rfl ?_
    refine rs_nil ⟨by kernel_rfl, fun _ => ?_⟩
    refine th_n ?_
    refine aw_ret ?_
    obtain rfl : k = (1 + lims.length % 3) := by omega
    exact ret_own rfl (rc_same rfl (.inl rfl)) (.keep (rfl) rfl (.keep (rfl) rfl (.keep (rfl) rfl (.nil)))) .nil

/-- What made hands out, as it is used. -/
structure MadeOk (n : Nat) (R : List Rd) (lo hi : List Int) (m : Int) : Prop where
  n1 : 1 ≤ n
  n3 : n ≤ 3
  llo : lo.length = n
  lhi : hi.length = n
  lims : ∀ i, i < n → 0 ≤ lo.getD i 0 ∧ lo.getD i 0 ≤ 3 ∧ lo.getD i 0 ≤ hi.getD i 0 ∧ hi.getD i 0 ≤ lo.getD i 0 + 11
  m0 : 0 ≤ m
  m3 : m ≤ 3
  lR : R.length ≤ 10
  rd : ∀ r ∈ R, 0 ≤ r.probe ∧ r.probe < 4 ∧ 0 ≤ r.of_ ∧ r.of_ < (n : Int) ∧ 0 ≤ r.lo ∧ r.lo ≤ r.hi ∧ r.hi ≤ 17
abbrev hMade (R : List Rd) (lo hi : List Int) : Hp := [(1005, .cells 50 4 (R.map cR) true), (1007, .cells 3 1 (lo.map ci) true), (1008, .cells 3 1 (hi.map ci) true)]
theorem mkR_ok (q : Int) (hq : 1 ≤ q) (L : List Int) : 0 ≤ (mkR q L).probe ∧ (mkR q L).probe < 4 ∧ 0 ≤ (mkR q L).of_ ∧ (mkR q L).of_ < q ∧ 0 ≤ (mkR q L).lo ∧ (mkR q L).lo ≤ (mkR q L).hi ∧ (mkR q L).hi ≤ 17 := by
  have h1 := nextV_range L 0 4 (by decide)
  have h2 := nextV_range L (nextA L 0) q hq
  have h3 := nextV_range L (nextA L (nextA L 0)) 9 (by decide)
  have h4 := wid_range (nextV L (nextA L (nextA L (nextA L 0))) 4)
  simp only [mkR]
  omega
theorem readS_ok (ls : List (List Int)) (q : Int) (hq : 1 ≤ q) : ∀ r ∈ readS ls q, 0 ≤ r.probe ∧ r.probe < 4 ∧ 0 ≤ r.of_ ∧ r.of_ < q ∧ 0 ≤ r.lo ∧ r.lo ≤ r.hi ∧ r.hi ≤ 17 := fun r hr => by
  unfold readS at hr
  rw [if_pos (by omega)] at hr
  obtain ⟨L, _, rfl⟩ := List.mem_map.1 hr
  exact mkR_ok q hq L
theorem made_o (ls : List (List Int)) (lims : List Int) (lies : Int) (hls : ∀ L ∈ ls, L.length ≤ 4611686018427387904) (hlims : ∀ x ∈ lims, 0 ≤ x ∧ x < 256) (hlies : 0 ≤ lies ∧ lies < 256) :
    ∃ (n : Nat) (R : List Rd) (lo hi : List Int) (m : Int), MadeOk n R lo hi m ∧
      FC Try.prog 16 [.agg [.rs 1 (ls.map cL), .rs 1 (lims.map cu8), .int .u8 lies]] [] (.tup [.sl 1005 0 R.length, .sl 1007 0 n, .sl 1008 0 n, iv m]) (hMade R lo hi) true := by
  refine ⟨1 + lims.length % 3, readS ls ((1 + lims.length % 3 : Nat) : Int), madeLo lims (1 + lims.length % 3), madeHi lims (1 + lims.length % 3), lies.tmod 4, ?_, fc16o ls lims lies hls hlims hlies⟩
  have hm := mfacts lies hlies
  refine ⟨by omega, by omega, length_madeLo _ _, length_madeHi _ _, fun i hi => ?_, hm.1.1, by omega, readS_len _ _, readS_ok _ _ (by omega)⟩
  have hf := mfacts _ (limAt_range hlims i)
  have e1 : (madeLo lims (1 + lims.length % 3)).getD i 0 = loF (limAt lims i) := by simp [madeLo, hi]
  have e2 : (madeHi lims (1 + lims.length % 3)).getD i 0 = hiF (limAt lims i) := by simp [madeHi, hi]
  rw [e1, e2]
  unfold loF hiF
  omega
theorem made_check {n : Nat} {R : List Rd} {lo hi : List Int} {m : Int} (h : MadeOk n R lo hi m) {l : List Rd} (hl : l.length ≤ 40) (hr : ∀ r ∈ l, 0 ≤ r.probe ∧ r.probe < 8 ∧ 0 ≤ r.of_ ∧ r.of_ < (n : Int) ∧ r.lo ≤ r.hi) {m' : Int} (h0 : 0 ≤ m') (h3 : m' ≤ 3) : checkS l lo hi m' = 0 := by
  have := h.llo
  have := h.lhi
  have := h.n3
  refine check_6 (by omega) (by omega) (by omega) (fun j hj h1 h2 => ?_) (fun j hj h1 => ?_)
  · have := h.lims j (by omega)
    simp only [List.getD_eq_getElem?_getD, List.getElem?_eq_getElem h1, List.getElem?_eq_getElem h2, Option.getD_some] at this
    unfold badL
    omega
  · have := hr l[j] (List.getElem_mem _)
    unfold badR
    rw [h.llo]
    omega

end Go.Proofs.Ytadjdnhnbkcakaa

/-! Walks: A20. -/
namespace Go.Proofs.Ytadjdnhnbkcakaa
open Go.RowKit

section
variable {P : Program} {N : Nat} {Z : List Nat} {F : Fr} {H : Hp} {ml : List MOper} {K : List Fp → Fr → Hp → Prop} {d : Nat} {g : Option (Nat × Bool)} {pre : List Nat}
/-- A cell of a row of an own list. -/
theorem rs_ld_g {α : Type} {f : α → List AV} {xs : List α} {t a n o e z : Nat} {fl : Bool} {x : Arg} {v : AV} {y : α} (hg : gOK F g = true) (hx : aarg F x = some (.ptr a t o)) (ha : get H a = some (.cells e z (xs.map f) fl)) (hy : xs[t]? = some y) (hv : (f y)[o]? = some v)
    (h : RS P N ml ((d, v) :: F) H (fun fps => K (([a], []) :: fps))) : RS P N (⟨some d, .ld false n x, g, pre⟩ :: ml) F H K := rs_ld_p hg hx ha (el := f y) (by simp [hy]) hv h
theorem rs_ld_ga {α : Type} {f : α → List AV} {xs : List α} {t a n o e z : Nat} {fl : Bool} {x : Arg} {cs : List AV} {y : α} (hg : gOK F g = true) (hx : aarg F x = some (.ptr a t o)) (ha : get H a = some (.cells e z (xs.map f) fl)) (hy : xs[t]? = some y) (hn : o + n ≤ (f y).length) (hc : ((f y).drop o).take n = cs)
    (h : RS P N ml ((d, .agg cs) :: F) H (fun fps => K (([a], []) :: fps))) : RS P N (⟨some d, .ld true n x, g, pre⟩ :: ml) F H K := rs_ld_pa hg hx ha (el := f y) (by simp [hy]) hn hc h
/-- An element of a read-only list. -/
theorem rs_ix_g {α : Type} {f : α → List AV} {xs : List α} {z : Nat} {x i : Arg} {k : IntKind} {t : Int} {y : α} (hg : gOK F g = true) (hx : aarg F x = some (.rs z (xs.map f))) (hi : aarg F i = some (.int k t)) (h0 : 0 ≤ t) (hy : xs[t.toNat]? = some y)
    (h : RS P N ml ((d, .rp (f y)) :: F) H (fun fps => K (([], []) :: fps))) : RS P N (⟨some d, .ixsl z x i, g, pre⟩ :: ml) F H K :=
  rs_ix_r hg hx hi h0 (by have := (List.getElem?_eq_some_iff.1 hy).1; simp; omega) (by simp [hy]) h
/-- An own array. -/
theorem rs_ld_f {α : Type} {f : α → AV} {L : List α} {a o n e z k : Nat} {fl : Bool} {x : Arg} {y : α} (hg : gOK F g = true) (hx : aarg F x = some (.ptr a 0 o)) (ha : get H a = some (.cells e z [L.map f] fl)) (hk : o = k) (hy : L[k]? = some y)
    (h : RS P N ml ((d, f y) :: F) H (fun fps => K (([a], []) :: fps))) : RS P N (⟨some d, .ld false n x, g, pre⟩ :: ml) F H K :=
  rs_ld_p hg hx ha (el := L.map f) rfl (by rw [hk]; simp [hy]) h
theorem rs_st_f {α : Type} {f : α → AV} {L : List α} {a o e z k : Nat} {y : α} {v : AV} {fl : Bool} {x w : Arg} (hg : gOK F g = true) (hx : aarg F x = some (.ptr a 0 o)) (hw : aarg F w = some v) (hv : v = f y) (hc : acells (f y) = some [f y]) (hcl : closedV (f y) = true) (ha : get H a = some (.cells e z [L.map f] fl)) (hk : o = k) (ho : k < L.length)
    (h : RS P N ml F ((a, .cells e z [(L.set k y).map f] fl) :: H) (fun fps => K (([], [a]) :: fps))) : RS P N (⟨none, .st 1 x w, g, pre⟩ :: ml) F H K := by
  subst hv
  exact rs_st (el := L.map f) (fl' := fl) hg hx hw ha hc rfl rfl (by simp; omega) (by subst hk; simp [setAt, List.map_set]) (by simp [closedL, hcl]) h
end
theorem at_some {α : Type} {L : List α} {k : Nat} (h : k < L.length) : ∃ a, L[k]? = some a ∧ a ∈ L := ⟨L[k], List.getElem?_eq_getElem h, List.getElem_mem h⟩
theorem getD_of {L : List Int} {k : Nat} {a : Int} (h : L[k]? = some a) : L.getD k 0 = a := by simp [List.getD_eq_getElem?_getD, h]
theorem getDb_of {L : List Bool} {k : Nat} {a : Bool} (h : L[k]? = some a) : L.getD k false = a := by simp [List.getD_eq_getElem?_getD, h]
theorem lt_of_at {α : Type} {L : List α} {k : Nat} {a : α} (h : L[k]? = some a) : k < L.length := (List.getElem?_eq_some_iff.1 h).1
theorem mem_of_at {α : Type} {L : List α} {k : Nat} {a : α} (h : L[k]? = some a) : a ∈ L := List.mem_of_getElem? h

/-- The true values, by remainders. -/
def tvF (lo hi truth : List Int) (i : Nat) : Int := if i < truth.length then lo.getD i 0 + (truth.getD i 0).tmod (hi.getD i 0 - lo.getD i 0 + 1) else lo.getD i 0
def tvS (lo hi truth : List Int) (k : Nat) : List Int := (List.range k).map (tvF lo hi truth)
theorem length_tv (lo hi truth : List Int) (k : Nat) : (tvS lo hi truth k).length = k := by simp [tvS]
theorem tv_t {lo hi truth : List Int} {k : Nat} {a b c : Int} (ha : lo[k]? = some a) (hb : hi[k]? = some b) (hc : truth[k]? = some c) : tvS lo hi truth (k + 1) = tvS lo hi truth k ++ [a + c.tmod (b - a + 1)] := by
  have h1 := lt_of_at hc
  have h2 : truth.getD k 0 = c := getD_of hc
  rw [tvS, tvS, List.range_succ, List.map_append, List.map_singleton, tvF, if_pos h1, h2, getD_of ha, getD_of hb]
theorem tv_f {lo hi truth : List Int} {k : Nat} {a : Int} (ha : lo[k]? = some a) (hc : ¬ (k : Int) < (truth.length : Int)) : tvS lo hi truth (k + 1) = tvS lo hi truth k ++ [a] := by
  have : ¬ k < truth.length := by omega
  simp [tvS, List.range_succ, tvF, ha, this]
theorem tmodr (a d : Int) (ha : 0 ≤ a) (hd : 0 < d) : 0 ≤ a.tmod d ∧ a.tmod d < d := by
  rw [Int.tmod_eq_emod_of_nonneg ha]
  exact ⟨Int.emod_nonneg _ (by omega), Int.emod_lt_of_pos _ hd⟩
theorem MadeOk.at_ {n : Nat} {R : List Rd} {lo hi : List Int} {m : Int} (h : MadeOk n R lo hi m) {i : Nat} {a b : Int} (ha : lo[i]? = some a) (hb : hi[i]? = some b) : 0 ≤ a ∧ a ≤ 3 ∧ a ≤ b ∧ b ≤ a + 11 := by
  have := h.lims i (by have := lt_of_at ha; have := h.llo; omega)
  rwa [getD_of ha, getD_of hb] at this
theorem tv_in {n : Nat} {R : List Rd} {lo hi : List Int} {m : Int} (h : MadeOk n R lo hi m) {truth : List Int} (ht : ∀ x ∈ truth, 0 ≤ x ∧ x < 256) : (tvS lo hi truth n).length = n ∧ ∀ i, i < n → lo.getD i 0 ≤ (tvS lo hi truth n).getD i 0 ∧ (tvS lo hi truth n).getD i 0 ≤ hi.getD i 0 := by
  refine ⟨length_tv _ _ _ _, fun i hi' => ?_⟩
  have hl := h.lims i hi'
  have e : (tvS lo hi truth n).getD i 0 = tvF lo hi truth i := by simp [tvS, hi']
  rw [e]
  unfold tvF
  split
  · rename_i ht'
    have e2 : truth.getD i 0 = truth[i] := by simp [ht']
    have h1 := ht truth[i] (List.getElem_mem _)
    have h2 := tmodr (truth.getD i 0) (hi.getD i 0 - lo.getD i 0 + 1) (by rw [e2]; omega) (by omega)
    omega
  · omega

/-- How many of the first ones are false. -/
def cntF (bs : List Bool) (k : Nat) : Nat := ((bs.take k).filter (fun b => !b)).length
theorem cnt_set {bs : List Bool} {k : Nat} {b : Bool} (h : k < bs.length) : cntF (bs.set k b) (k + 1) = cntF bs k + (if b = true then 0 else 1) := by
  have e : (bs.set k b).take (k + 1) = bs.take k ++ [b] := by
    rw [List.take_succ_eq_append_getElem (by simpa using h), List.getElem_set_self, List.take_set_of_le (Nat.le_refl _)]
  unfold cntF
  rw [e, List.filter_append, List.length_append]
  cases b <;> simp
def mask8 (b0 b1 b2 b3 b4 b5 b6 b7 : Bool) : Nat := (if b0 then 0 else 1) + (if b1 then 0 else 2) + (if b2 then 0 else 4) + (if b3 then 0 else 8) + (if b4 then 0 else 16) + (if b5 then 0 else 32) + (if b6 then 0 else 64) + (if b7 then 0 else 128)
theorem mask_ex8 : ∀ b0 b1 b2 b3 b4 b5 b6 b7 : Bool, mask8 b0 b1 b2 b3 b4 b5 b6 b7 < 256 ∧ sizeS (mask8 b0 b1 b2 b3 b4 b5 b6 b7) 8 = cntF [b0, b1, b2, b3, b4, b5, b6, b7] 8 ∧ ∀ p, p < 8 → hasS (mask8 b0 b1 b2 b3 b4 b5 b6 b7) p = !([b0, b1, b2, b3, b4, b5, b6, b7].getD p false) := by decide +kernel
theorem mask_ex (bs : List Bool) (h : bs.length = 8) : ∃ s, s < 256 ∧ sizeS s 8 = cntF bs 8 ∧ ∀ p, p < 8 → hasS s p = !(bs.getD p false) := by
  match bs, h with
  | [b0, b1, b2, b3, b4, b5, b6, b7], _ => exact ⟨_, mask_ex8 b0 b1 b2 b3 b4 b5 b6 b7⟩

def Lok (n : Nat) (L : List Rd) : Prop := ∀ r ∈ L, 0 ≤ r.probe ∧ r.probe < 8 ∧ 0 ≤ r.of_ ∧ r.of_ < (n : Int) ∧ r.lo ≤ r.hi
theorem made_lok {n : Nat} {R : List Rd} {lo hi : List Int} {m : Int} (h : MadeOk n R lo hi m) : Lok n R := fun r hr => by
  have := h.rd r hr
  omega
/-- While readings are changed: the first k are as they should be. -/
structure FixOk (n N : Nat) (V : List Int) (bs : List Bool) (k : Nat) (L : List Rd) (W : List Bool) : Prop where
  le : k ≤ N
  len : L.length = N
  lenW : W.length = 8
  lok : Lok n L
  good : ∀ j r, j < k → L[j]? = some r → (bs.getD r.probe.toNat false = true → r.lo ≤ vOf V r.of_.toNat ∧ vOf V r.of_.toNat ≤ r.hi) ∧ (badV (vOf V) r = true → W.getD r.probe.toNat false = true)
/-- One reading more. -/
structure Fx (n : Nat) (V : List Int) (bs : List Bool) (L : List Rd) (k : Nat) (L' : List Rd) : Prop where
  len : L'.length = L.length
  lok : Lok n L'
  ne : ∀ j, j ≠ k → L'[j]? = L[j]?
  at_ : ∃ r, L'[k]? = some r ∧ (bs.getD r.probe.toNat false = true → r.lo ≤ vOf V r.of_.toNat ∧ vOf V r.of_.toNat ≤ r.hi)
theorem fix_t {n : Nat} {V : List Int} {bs : List Bool} {L : List Rd} {k : Nat} {r : Rd} {v : Int} (hL : Lok n L) (hr : L[k]? = some r) (hv : V[r.of_.toNat]? = some v) :
    Fx n V bs L k ((L.set k ⟨r.probe, r.of_, min r.lo v, r.hi⟩).set k ⟨r.probe, r.of_, min r.lo v, max r.hi v⟩) := by
  have hk := lt_of_at hr
  have h0 := hL r (mem_of_at hr)
  rw [List.set_set]
  refine ⟨by simp, fun r' hr' => ?_, fun j hj => by rw [List.getElem?_set_ne (Ne.symm hj)], ⟨_, List.getElem?_set_self hk, fun _ => ?_⟩⟩
  · rcases List.mem_or_eq_of_mem_set hr' with h | rfl
    · exact hL r' h
    · simp only
      omega
  · simp only [vOf]
    rw [getD_of hv]
    omega
theorem fix_f {n : Nat} {V : List Int} {bs : List Bool} {L : List Rd} {k : Nat} {r : Rd} (hL : Lok n L) (hr : L[k]? = some r) (hb : bs[r.probe.toNat]? = some false) : Fx n V bs L k L :=
  ⟨rfl, hL, fun _ _ => rfl, r, hr, fun h => by rw [getDb_of hb] at h; cases h⟩
theorem fix_end {n N : Nat} {V : List Int} {bs : List Bool} {k : Nat} {L L' : List Rd} {W : List Bool} {r : Rd} {b w : Bool} (h : FixOk n N V bs k L W) (hk : k < N) (hx : Fx n V bs L k L') (hr : L'[k]? = some r) (hw : W[r.probe.toNat]? = some w)
    (hb : b = true ∨ (w = false ∧ ∃ v, V[r.of_.toNat]? = some v ∧ ¬ v < r.lo ∧ ¬ v > r.hi)) : FixOk n N V bs (k + 1) L' (W.set r.probe.toNat b) := by
  refine ⟨by omega, hx.len.trans h.len, by simp [h.lenW], hx.lok, fun j r' hj hr' => ?_⟩
  have hup : W.getD r'.probe.toNat false = true → (W.set r.probe.toNat b).getD r'.probe.toNat false = true := fun e => by
    by_cases hp : r.probe.toNat = r'.probe.toNat
    · rcases hb with rfl | ⟨rfl, _⟩
      · rw [hp] at hw ⊢
        have := lt_of_at hw
        simp [this]
      · rw [hp] at hw
        rw [getDb_of hw] at e; cases e
    · simp only [List.getD_eq_getElem?_getD] at e ⊢
      rw [List.getElem?_set_ne hp]; exact e
  by_cases e : j = k
  · subst e
    obtain ⟨r0, q1, q2⟩ := hx.at_
    rw [hr'] at q1
    injection q1 with q1
    subst q1
    rw [hr'] at hr
    injection hr with hr
    subst hr
    refine ⟨q2, fun hbad => ?_⟩
    rcases hb with rfl | ⟨_, v, hv, h1, h2⟩
    · have := lt_of_at hw
      simp [this]
    · rw [badV_false.2 ⟨by simp only [vOf]; rw [getD_of hv]; omega, by simp only [vOf]; rw [getD_of hv]; omega⟩] at hbad
      cases hbad
  · rw [hx.ne j e] at hr'
    obtain ⟨q1, q2⟩ := h.good j r' (by omega) hr'
    exact ⟨q1, fun hb => hup (q2 hb)⟩

/-- What the calls say then. -/
theorem truth_calls {n : Nat} {R L : List Rd} {lo hi V : List Int} {m f : Int} {bs W : List Bool} (hm : MadeOk n R lo hi m) (hV : V.length = n) (hVi : ∀ i, i < n → lo.getD i 0 ≤ V.getD i 0 ∧ V.getD i 0 ≤ hi.getD i 0)
    (hbs : bs.length = 8) (hf : 0 ≤ f) (hc : (cntF bs 8 : Int) + f = m) (h : FixOk n R.length V bs R.length L W) :
    ∃ A B Ls : List Int, FC Try.prog 21 [.rs 4 (L.map cR), ints lo, ints hi, .int .i64 m] [] (.tup [ints A, ints B, iv 0]) [] false ∧ FC Try.prog 24 [.rs 4 (L.map cR), ints lo, ints hi, .int .i64 m] [] (.tup [ints Ls, iv 0]) [] false ∧ FC Try.prog 26 [.rs 4 (L.map cR), ints V, iv m] [] (.bool true) [] false ∧
      A.length = n ∧ B.length = n ∧ Ls.length ≤ 8 ∧ (∀ (i : Nat) (a b v l u : Int), A[i]? = some a → B[i]? = some b → V[i]? = some v → lo[i]? = some l → hi[i]? = some u → l ≤ a ∧ a ≤ v ∧ v ≤ b ∧ b ≤ u) ∧
      ∀ (k : Nat) (p : Int), Ls[k]? = some p → 0 ≤ p ∧ p < 8 ∧ W[p.toNat]? = some true := by
  have hLl : L.length ≤ 10 := by rw [h.len]; exact hm.lR
  have hchk : checkS L lo hi m = 0 := made_check hm (by omega) h.lok hm.m0 hm.m3
  have hrok : Rok n L := fun r hr => by
    have := h.lok r hr
    exact ⟨this.1, this.2.1, this.2.2.1, this.2.2.2.1⟩
  obtain ⟨s, s1, s2, s3⟩ := mask_ex bs hbs
  have hag : AgS L lo hi m s (vOf V) := by
    refine ⟨s1, by rw [s2]; omega, fun i hi' => hVi i (by have := hm.llo; omega), fun r hr => ?_⟩
    have h0 := h.lok r hr
    obtain ⟨j, hj⟩ := List.getElem?_of_mem hr
    have hg := (h.good j r (by have := lt_of_at hj; have := h.len; omega) hj).1
    rw [s3 r.probe.toNat (by omega)]
    cases e : bs.getD r.probe.toNat false with
    | true => exact .inr (hg e)
    | false => exact .inl rfl
  rcases narrow_sem hchk with ⟨_, a1, a2, all, a3, a4⟩ | ⟨hx, _⟩
  · have f1 := fz21 L lo hi m
    have f2 := fz24 L lo hi m
    have f3 := fc26 L V m (by omega)
    rw [a1] at f1
    rw [a2] at f2
    have hagm := ag_mask hrok hag
    rw [(agree_iff hrok (by omega)).2 hagm.small] at f3
    refine ⟨_, _, _, f1, f2, f3, a4.lenA.trans hm.llo, a4.lenB.trans hm.llo, by rw [a3]; exact outK_le _ _, fun i a b v l u ha hb hv hl hu => ?_, fun k p hp => ?_⟩
    · have hi' : i < lo.length := lt_of_at hl
      have q := a4.le s _ hag i hi'
      obtain ⟨s', v', q1, q2⟩ := a4.least i hi'
      obtain ⟨s'', v'', q3, q4⟩ := a4.most i hi'
      have q5 := q1.inb i hi'
      have q6 := q3.inb i hi'
      rw [getD_of ha] at q q2
      rw [getD_of hb] at q q4
      simp only [vOf] at q
      rw [getD_of hv] at q
      rw [getD_of hl] at q5
      rw [getD_of hu] at q6
      omega
    · rw [a3] at hp
      obtain ⟨p0, p8, hp'⟩ := mem_outK.1 (mem_of_at hp)
      refine ⟨p0, p8, ?_⟩
      have hin := (a4.liars p.toNat (by omega)).1 hp' _ _ hagm
      rcases (mask_has L 0).1 hin with h0 | ⟨r, hr, hrp, hb⟩
      · rw [hasS_0] at h0; cases h0
      · obtain ⟨j, hj⟩ := List.getElem?_of_mem hr
        have hg := (h.good j r (by have := lt_of_at hj; have := h.len; omega) hj).2 hb
        rw [hrp] at hg
        have hlt : p.toNat < W.length := by have := h.lenW; omega
        rw [List.getElem?_eq_getElem hlt]
        simpa [hlt] using hg
  · exact absurd ⟨s, _, hag⟩ hx

def mc5 : MC := (.seq (.reg [⟨(some 3), (.box 25 3 (.t 0)), none, []⟩, ⟨(some 6), (.mv (.c (.bool false))), none, []⟩] false) (.seq (.reg [⟨(some 29), (.call 15 []), none, []⟩, ⟨(some 7), (.mv (.t 29)), none, [0, 0, 0]⟩] false) (.seq (.reg [⟨(some 31), (.ld true 3 (.t 3)), none, []⟩, ⟨(some 32), (.call 16 [(.t 31)]), none, [0]⟩, ⟨(some 30), (.mv (.t 32)), none, [1]⟩, ⟨(some 33), (.ext (.t 30) 0), none, [2]⟩, ⟨(some 34), (.ext (.t 30) 1), none, [2]⟩, ⟨(some 35), (.ext (.t 30) 2), none, [2]⟩, ⟨(some 36), (.ext (.t 30) 3), none, [2]⟩, ⟨(some 8), (.mv (.t 33)), none, [3, 1, 0, 1, 2, 3]⟩, ⟨(some 9), (.mv (.t 34)), none, [4, 7, 0, 1, 2, 3, 4, 7]⟩, ⟨(some 10), (.mv (.t 35)), none, [5, 8, 0, 1, 2, 3, 4, 5, 7, 8]⟩, ⟨(some 11), (.mv (.t 36)), none, [6, 9, 0, 1, 2, 3, 4, 5, 6, 7, 8, 9]⟩] false) (.seq (.reg [⟨(some 12), (.mv (.c .nils)), none, []⟩] false) (.seq (.seq (.reg [⟨(some 37), (.mv (.t 9)), none, []⟩, ⟨(some 38), (.len (.t 37)), none, [0]⟩, ⟨(some 39), (.mv (.c (.int .i64 0))), none, []⟩] false) (.block 0 (.loop (.seq (.reg [⟨(some 40), (.bin .lss (.t 39) (.t 38)), none, []⟩] false) (.seq (.cond (.t 40) .skip (.exit 0)) (.seq (.block 1 (.seq (.reg [⟨(some 41), (.mv (.t 39)), none, []⟩, ⟨(some 13), (.mv (.t 41)), none, [0, 0]⟩] false) (.seq (.reg [⟨(some 42), (.mv (.t 9)), none, []⟩, ⟨(some 43), (.mv (.t 13)), none, []⟩, ⟨(some 44), (.ixsl 1 (.t 42) (.t 43)), none, [0, 1]⟩, ⟨(some 45), (.ld false 1 (.t 44)), none, [2]⟩, ⟨(some 14), (.mv (.t 45)), none, [3, 0, 1, 2, 3]⟩] false) (.seq (.seq (.reg [⟨(some 46), (.mv (.t 13)), none, []⟩, ⟨(some 47), (.mv (.t 1)), none, []⟩, ⟨(some 48), (.len (.t 47)), none, [1]⟩, ⟨(some 49), (.bin .lss (.t 46) (.t 48)), none, [0, 2]⟩] false) (.cond (.t 49) (.reg [⟨(some 50), (.mv (.t 14)), none, []⟩, ⟨(some 51), (.mv (.t 1)), none, []⟩, ⟨(some 52), (.mv (.t 13)), none, []⟩, ⟨(some 53), (.ixsl 1 (.t 51) (.t 52)), none, [1, 2]⟩, ⟨(some 54), (.ld false 1 (.t 53)), none, [3]⟩, ⟨(some 55), (.cvt .i64 (.t 54)), none, [4]⟩, ⟨(some 56), (.mv (.t 10)), none, []⟩, ⟨(some 57), (.mv (.t 13)), none, []⟩, ⟨(some 58), (.ixsl 1 (.t 56) (.t 57)), none, [6, 7]⟩, ⟨(some 59), (.ld false 1 (.t 58)), none, [8]⟩, ⟨(some 60), (.mv (.t 9)), none, []⟩, ⟨(some 61), (.mv (.t 13)), none, []⟩, ⟨(some 62), (.ixsl 1 (.t 60) (.t 61)), none, [10, 11]⟩, ⟨(some 63), (.ld false 1 (.t 62)), none, [12]⟩, ⟨(some 64), (.bin .sub (.t 59) (.t 63)), none, [9, 13]⟩, ⟨(some 65), (.bin .add (.t 64) (.c (.int .i64 1))), none, [14]⟩, ⟨(some 66), (.bin .rem (.t 55) (.t 65)), none, [5, 15]⟩, ⟨(some 67), (.bin .add (.t 50) (.t 66)), none, [0, 16]⟩, ⟨(some 14), (.mv (.t 67)), none, [17, 0, 1, 2, 3, 4, 5, 6, 7, 8, 9, 10, 11, 12, 13, 14, 15, 16, 17]⟩] true) .skip)) (.reg [⟨(some 68), (.mv (.t 12)), none, []⟩, ⟨(some 69), (.mv (.t 14)), none, []⟩, ⟨(some 70), (.bslice 3 1 [(.int .i64 0)] 1 [(0, (.t 69))]), none, [1]⟩, ⟨(some 71), (.app 3 1 8 [(.int .i64 0)] (.t 68) (.t 70)), none, [0, 2]⟩, ⟨(some 12), (.mv (.t 71)), none, [3, 3, 0, 1, 2, 3]⟩] false))))) (.reg [⟨(some 72), (.bin .add (.t 39) (.c (.int .i64 1))), none, []⟩, ⟨(some 39), (.mv (.t 72)), none, [0]⟩] false))))))) (.seq (.reg [⟨(some 73), (.mv (.t 11)), none, []⟩, ⟨(some 15), (.mv (.t 73)), none, [0, 0]⟩] false) (.seq (.reg [⟨(some 74), (.build [(.bool false), (.bool false), (.bool false), (.bool false), (.bool false), (.bool false), (.bool false), (.bool false)] []), none, []⟩, ⟨(some 16), (.alloc 47 8 [(.bool false), (.bool false), (.bool false), (.bool false), (.bool false), (.bool false), (.bool false), (.bool false)]), none, []⟩, ⟨none, (.st 8 (.t 16) (.t 74)), none, [1, 0, 0, 1]⟩] false) (.seq (.seq (.reg [⟨(some 75), (.mv (.c (.int .i64 0))), none, []⟩] false) (.block 2 (.loop (.seq (.reg [⟨(some 76), (.bin .lss (.t 75) (.c (.int .i64 8))), none, []⟩] false) (.seq (.cond (.t 76) .skip (.exit 2)) (.seq (.block 3 (.seq (.reg [⟨(some 77), (.mv (.t 75)), none, []⟩, ⟨(some 17), (.mv (.t 77)), none, [0, 0]⟩] false) (.seq (.reg [⟨(some 78), (.mv (.t 17)), none, []⟩, ⟨(some 79), (.mv (.t 2)), none, []⟩, ⟨(some 80), (.mv (.t 17)), none, []⟩, ⟨(some 81), (.bin .shr (.t 79) (.t 80)), none, [1, 2]⟩, ⟨(some 82), (.bin .and (.t 81) (.c (.int .u8 1))), none, [3]⟩, ⟨(some 83), (.bin .eql (.t 82) (.c (.int .u8 0))), none, [4]⟩, ⟨(some 84), (.mv (.t 83)), none, [5]⟩, ⟨(some 85), (.mv (.t 15)), (some (84, false)), [6]⟩, ⟨(some 86), (.bin .eql (.t 85) (.c (.int .i64 0))), (some (84, false)), [7, 6]⟩, ⟨(some 87), (.pick (.t 84) (.c (.bool true)) (.t 86)), none, [6, 8]⟩, ⟨(some 88), (.ixarr 8 1 (.t 16) (.t 78)), none, [0, 0, 1, 2, 3, 4, 5, 6, 7, 8, 9]⟩, ⟨none, (.st 1 (.t 88) (.t 87)), none, [10, 9, 6, 0, 1, 2, 3, 4, 5, 6, 7, 8, 9]⟩] false) (.seq (.reg [⟨(some 89), (.mv (.t 17)), none, []⟩, ⟨(some 90), (.ixarr 8 1 (.t 16) (.t 89)), none, [0]⟩, ⟨(some 91), (.ld false 1 (.t 90)), none, [1]⟩, ⟨(some 92), (.un .not (.t 91)), none, [2]⟩] false) (.cond (.t 92) (.reg [⟨(some 93), (.mv (.t 15)), none, []⟩, ⟨(some 94), (.bin .sub (.t 93) (.c (.int .i64 1))), none, [0]⟩, ⟨(some 15), (.mv (.t 94)), none, [1, 0, 1]⟩] false) .skip))))) (.reg [⟨(some 95), (.bin .add (.t 75) (.c (.int .i64 1))), none, []⟩, ⟨(some 75), (.mv (.t 95)), none, [0]⟩] false))))))) (.seq (.reg [⟨(some 96), (.build [(.bool false), (.bool false), (.bool false), (.bool false), (.bool false), (.bool false), (.bool false), (.bool false)] []), none, []⟩, ⟨(some 18), (.alloc 47 8 [(.bool false), (.bool false), (.bool false), (.bool false), (.bool false), (.bool false), (.bool false), (.bool false)]), none, []⟩, ⟨none, (.st 8 (.t 18) (.t 96)), none, [1, 0, 0, 1]⟩] false) (.seq (.seq (.reg [⟨(some 97), (.mv (.t 8)), none, []⟩, ⟨(some 98), (.len (.t 97)), none, [0]⟩, ⟨(some 99), (.mv (.c (.int .i64 0))), none, []⟩] false) (.block 4 (.loop (.seq (.reg [⟨(some 100), (.bin .lss (.t 99) (.t 98)), none, []⟩] false) (.seq (.cond (.t 100) .skip (.exit 4)) (.seq (.block 5 (.seq (.reg [⟨(some 101), (.mv (.t 99)), none, []⟩, ⟨(some 19), (.mv (.t 101)), none, [0, 0]⟩] false) (.seq (.reg [⟨(some 102), (.mv (.t 8)), none, []⟩, ⟨(some 103), (.mv (.t 19)), none, []⟩, ⟨(some 104), (.ixsl 4 (.t 102) (.t 103)), none, [0, 1]⟩, ⟨(some 20), (.mv (.t 104)), none, [2, 0, 1, 2]⟩] false) (.seq (.seq (.reg [⟨(some 105), (.mv (.t 20)), none, []⟩, ⟨(some 106), (.nilc (.t 105)), none, [0]⟩, ⟨(some 107), (.fa 0 (.t 106)), none, [1]⟩, ⟨(some 108), (.ld false 1 (.t 107)), none, [2]⟩, ⟨(some 109), (.ixarr 8 1 (.t 16) (.t 108)), none, [3]⟩, ⟨(some 110), (.ld false 1 (.t 109)), none, [4]⟩] false) (.cond (.t 110) (.reg [⟨(some 111), (.mv (.t 20)), none, []⟩, ⟨(some 112), (.mv (.t 20)), none, []⟩, ⟨(some 113), (.mv (.t 20)), none, []⟩, ⟨(some 114), (.nilc (.t 113)), none, [2]⟩, ⟨(some 115), (.fa 2 (.t 114)), none, [3]⟩, ⟨(some 116), (.ld false 1 (.t 115)), none, [4]⟩, ⟨(some 117), (.mv (.t 12)), none, []⟩, ⟨(some 118), (.mv (.t 20)), none, []⟩, ⟨(some 119), (.nilc (.t 118)), none, [7]⟩, ⟨(some 120), (.fa 1 (.t 119)), none, [8]⟩, ⟨(some 121), (.ld false 1 (.t 120)), none, [9]⟩, ⟨(some 122), (.ixsl 1 (.t 117) (.t 121)), none, [6, 10]⟩, ⟨(some 123), (.ld false 1 (.t 122)), none, [11]⟩, ⟨(some 124), (.mn (.t 116) (.t 123)), none, [5, 12]⟩, ⟨(some 125), (.mv (.t 20)), none, []⟩, ⟨(some 126), (.nilc (.t 125)), none, [14]⟩, ⟨(some 127), (.fa 3 (.t 126)), none, [15]⟩, ⟨(some 128), (.ld false 1 (.t 127)), none, [16]⟩, ⟨(some 129), (.mv (.t 12)), none, []⟩, ⟨(some 130), (.mv (.t 20)), none, []⟩, ⟨(some 131), (.nilc (.t 130)), none, [19]⟩, ⟨(some 132), (.fa 1 (.t 131)), none, [20]⟩, ⟨(some 133), (.ld false 1 (.t 132)), none, [21]⟩, ⟨(some 134), (.ixsl 1 (.t 129) (.t 133)), none, [18, 22]⟩, ⟨(some 135), (.ld false 1 (.t 134)), none, [23]⟩, ⟨(some 136), (.mx (.t 128) (.t 135)), none, [17, 24]⟩, ⟨(some 137), (.nilc (.t 111)), none, [0, 0, 2, 3, 4, 5, 6, 7, 8, 9, 10, 11, 12, 13, 17, 22, 24]⟩, ⟨(some 138), (.fa 2 (.t 137)), none, [26, 0, 2, 3, 4, 5, 6, 7, 8, 9, 10, 11, 12, 13, 17, 22, 24]⟩, ⟨none, (.st 1 (.t 138) (.t 124)), none, [27, 13, 0, 2, 3, 4, 5, 6, 7, 8, 9, 10, 11, 12, 13, 17, 22, 24]⟩, ⟨(some 139), (.nilc (.t 112)), none, [1, 0, 1, 2, 3, 4, 5, 6, 7, 8, 9, 10, 11, 12, 13, 14, 15, 16, 17, 18, 19, 20, 21, 22, 23, 24, 25, 26, 27, 28]⟩, ⟨(some 140), (.fa 3 (.t 139)), none, [29, 0, 1, 2, 3, 4, 5, 6, 7, 8, 9, 10, 11, 12, 13, 14, 15, 16, 17, 18, 19, 20, 21, 22, 23, 24, 25, 26, 27, 28]⟩, ⟨none, (.st 1 (.t 140) (.t 136)), none, [30, 25, 28, 0, 1, 2, 3, 4, 5, 6, 7, 8, 9, 10, 11, 12, 13, 14, 15, 16, 17, 18, 19, 20, 21, 22, 23, 24, 25, 26, 27, 28]⟩] true) .skip)) (.reg [⟨(some 141), (.mv (.t 20)), none, []⟩, ⟨(some 142), (.nilc (.t 141)), none, [0]⟩, ⟨(some 143), (.fa 0 (.t 142)), none, [1]⟩, ⟨(some 144), (.ld false 1 (.t 143)), none, [2]⟩, ⟨(some 145), (.mv (.t 20)), none, []⟩, ⟨(some 146), (.nilc (.t 145)), none, [4]⟩, ⟨(some 147), (.fa 0 (.t 146)), none, [5]⟩, ⟨(some 148), (.ld false 1 (.t 147)), none, [6]⟩, ⟨(some 149), (.ixarr 8 1 (.t 18) (.t 148)), none, [7]⟩, ⟨(some 150), (.ld false 1 (.t 149)), none, [8]⟩, ⟨(some 151), (.mv (.t 150)), none, [9]⟩, ⟨(some 152), (.mv (.t 12)), (some (151, false)), [10]⟩, ⟨(some 153), (.mv (.t 20)), (some (151, false)), [10]⟩, ⟨(some 154), (.nilc (.t 153)), (some (151, false)), [12, 10]⟩, ⟨(some 155), (.fa 1 (.t 154)), (some (151, false)), [13, 10]⟩, ⟨(some 156), (.ld false 1 (.t 155)), (some (151, false)), [14, 10]⟩, ⟨(some 157), (.ixsl 1 (.t 152) (.t 156)), (some (151, false)), [11, 15, 10]⟩, ⟨(some 158), (.ld false 1 (.t 157)), (some (151, false)), [16, 10]⟩, ⟨(some 159), (.mv (.t 20)), (some (151, false)), [10]⟩, ⟨(some 160), (.nilc (.t 159)), (some (151, false)), [18, 10]⟩, ⟨(some 161), (.fa 2 (.t 160)), (some (151, false)), [19, 10]⟩, ⟨(some 162), (.ld false 1 (.t 161)), (some (151, false)), [20, 10]⟩, ⟨(some 163), (.bin .lss (.t 158) (.t 162)), (some (151, false)), [17, 21, 10]⟩, ⟨(some 164), (.pick (.t 151) (.c (.bool true)) (.t 163)), none, [10, 22]⟩, ⟨(some 165), (.mv (.t 164)), none, [23, 10]⟩, ⟨(some 166), (.mv (.t 12)), (some (165, false)), [24]⟩, ⟨(some 167), (.mv (.t 20)), (some (165, false)), [24]⟩, ⟨(some 168), (.nilc (.t 167)), (some (165, false)), [26, 24]⟩, ⟨(some 169), (.fa 1 (.t 168)), (some (165, false)), [27, 24]⟩, ⟨(some 170), (.ld false 1 (.t 169)), (some (165, false)), [28, 24]⟩, ⟨(some 171), (.ixsl 1 (.t 166) (.t 170)), (some (165, false)), [25, 29, 24]⟩, ⟨(some 172), (.ld false 1 (.t 171)), (some (165, false)), [30, 24]⟩, ⟨(some 173), (.mv (.t 20)), (some (165, false)), [24]⟩, ⟨(some 174), (.nilc (.t 173)), (some (165, false)), [32, 24]⟩, ⟨(some 175), (.fa 3 (.t 174)), (some (165, false)), [33, 24]⟩, ⟨(some 176), (.ld false 1 (.t 175)), (some (165, false)), [34, 24]⟩, ⟨(some 177), (.bin .gtr (.t 172) (.t 176)), (some (165, false)), [31, 35, 24]⟩, ⟨(some 178), (.pick (.t 165) (.c (.bool true)) (.t 177)), none, [24, 36]⟩, ⟨(some 179), (.ixarr 8 1 (.t 18) (.t 144)), none, [3, 0, 1, 2, 3, 4, 5, 6, 7, 8, 9, 10, 11, 12, 13, 14, 15, 16, 17, 18, 19, 20, 21, 22, 23, 24, 25, 26, 27, 28, 29, 30, 31, 32, 33, 34, 35, 36, 37]⟩, ⟨none, (.st 1 (.t 179) (.t 178)), none, [38, 37, 24, 0, 1, 2, 3, 4, 5, 6, 7, 8, 9, 10, 11, 12, 13, 14, 15, 16, 17, 18, 19, 20, 21, 22, 23, 24, 25, 26, 27, 28, 29, 30, 31, 32, 33, 34, 35, 36, 37]⟩] true))))) (.reg [⟨(some 180), (.bin .add (.t 99) (.c (.int .i64 1))), none, []⟩, ⟨(some 99), (.mv (.t 180)), none, [0]⟩] false))))))) (.seq (.reg [⟨(some 182), (.mv (.t 8)), none, []⟩, ⟨(some 183), (.mv (.t 9)), none, []⟩, ⟨(some 184), (.mv (.t 10)), none, []⟩, ⟨(some 185), (.mv (.t 11)), none, []⟩, ⟨(some 186), (.call 21 [(.t 182), (.t 183), (.t 184), (.t 185)]), none, [0, 1, 2, 3]⟩, ⟨(some 181), (.mv (.t 186)), none, [4]⟩, ⟨(some 187), (.ext (.t 181) 0), none, [5]⟩, ⟨(some 188), (.ext (.t 181) 1), none, [5]⟩, ⟨(some 189), (.ext (.t 181) 2), none, [5]⟩, ⟨(some 21), (.mv (.t 187)), none, [6, 4, 0, 1, 2, 3, 4, 5, 6]⟩, ⟨(some 22), (.mv (.t 188)), none, [7, 9, 0, 1, 2, 3, 4, 5, 6, 7, 9]⟩, ⟨(some 23), (.mv (.t 189)), none, [8, 10, 0, 1, 2, 3, 4, 5, 6, 7, 8, 9, 10]⟩] false) (.seq (.reg [⟨(some 191), (.mv (.t 8)), none, []⟩, ⟨(some 192), (.mv (.t 9)), none, []⟩, ⟨(some 193), (.mv (.t 10)), none, []⟩, ⟨(some 194), (.mv (.t 11)), none, []⟩, ⟨(some 195), (.call 24 [(.t 191), (.t 192), (.t 193), (.t 194)]), none, [0, 1, 2, 3]⟩, ⟨(some 190), (.mv (.t 195)), none, [4]⟩, ⟨(some 196), (.ext (.t 190) 0), none, [5]⟩, ⟨(some 197), (.ext (.t 190) 1), none, [5]⟩, ⟨(some 24), (.mv (.t 196)), none, [6, 4, 0, 1, 2, 3, 4, 5, 6]⟩, ⟨(some 25), (.mv (.t 197)), none, [7, 8, 0, 1, 2, 3, 4, 5, 6, 7, 8]⟩] false) (.seq (.seq (.reg [⟨(some 198), (.mv (.t 23)), none, []⟩, ⟨(some 199), (.bin .neq (.t 198) (.c (.int .i64 0))), none, [0]⟩, ⟨(some 200), (.mv (.t 199)), none, [1]⟩, ⟨(some 201), (.mv (.t 25)), (some (200, false)), [2]⟩, ⟨(some 202), (.bin .neq (.t 201) (.c (.int .i64 0))), (some (200, false)), [3, 2]⟩, ⟨(some 203), (.pick (.t 200) (.c (.bool true)) (.t 202)), none, [2, 4]⟩, ⟨(some 204), (.mv (.t 203)), none, [5, 2]⟩, ⟨(some 205), (.mv (.t 21)), (some (204, false)), [6]⟩, ⟨(some 206), (.len (.t 205)), (some (204, false)), [7, 6]⟩, ⟨(some 207), (.mv (.t 12)), (some (204, false)), [6]⟩, ⟨(some 208), (.len (.t 207)), (some (204, false)), [9, 6]⟩, ⟨(some 209), (.bin .neq (.t 206) (.t 208)), (some (204, false)), [8, 10, 6]⟩, ⟨(some 210), (.pick (.t 204) (.c (.bool true)) (.t 209)), none, [6, 11]⟩, ⟨(some 211), (.mv (.t 210)), none, [12, 6]⟩, ⟨(some 212), (.mv (.t 22)), (some (211, false)), [13]⟩, ⟨(some 213), (.len (.t 212)), (some (211, false)), [14, 13]⟩, ⟨(some 214), (.mv (.t 12)), (some (211, false)), [13]⟩, ⟨(some 215), (.len (.t 214)), (some (211, false)), [16, 13]⟩, ⟨(some 216), (.bin .neq (.t 213) (.t 215)), (some (211, false)), [15, 17, 13]⟩, ⟨(some 217), (.pick (.t 211) (.c (.bool true)) (.t 216)), none, [13, 18]⟩, ⟨(some 218), (.mv (.t 217)), none, [19, 13]⟩, ⟨(some 219), (.mv (.t 8)), (some (218, false)), [20]⟩, ⟨(some 220), (.mv (.t 12)), (some (218, false)), [20]⟩, ⟨(some 221), (.mv (.t 11)), (some (218, false)), [20]⟩, ⟨(some 222), (.call 26 [(.t 219), (.t 220), (.t 221)]), (some (218, false)), [21, 22, 23, 20, 20]⟩, ⟨(some 223), (.un .not (.t 222)), (some (218, false)), [24, 20]⟩, ⟨(some 224), (.pick (.t 218) (.c (.bool true)) (.t 223)), none, [20, 25]⟩] false) (.cond (.t 224) (.seq (.reg [⟨(some 6), (.mv (.c (.bool false))), none, []⟩] false) .ret) .skip)) (.seq (.seq (.reg [⟨(some 225), (.mv (.t 12)), none, []⟩, ⟨(some 226), (.len (.t 225)), none, [0]⟩, ⟨(some 227), (.mv (.c (.int .i64 0))), none, []⟩] false) (.block 6 (.loop (.seq (.reg [⟨(some 228), (.bin .lss (.t 227) (.t 226)), none, []⟩] false) (.seq (.cond (.t 228) .skip (.exit 6)) (.seq (.block 7 (.seq (.reg [⟨(some 229), (.mv (.t 227)), none, []⟩, ⟨(some 26), (.mv (.t 229)), none, [0, 0]⟩] false) (.seq (.reg [⟨(some 230), (.mv (.t 21)), none, []⟩, ⟨(some 231), (.mv (.t 26)), none, []⟩, ⟨(some 232), (.ixsl 1 (.t 230) (.t 231)), none, [0, 1]⟩, ⟨(some 233), (.ld false 1 (.t 232)), none, [2]⟩, ⟨(some 234), (.mv (.t 9)), none, []⟩, ⟨(some 235), (.mv (.t 26)), none, []⟩, ⟨(some 236), (.ixsl 1 (.t 234) (.t 235)), none, [4, 5]⟩, ⟨(some 237), (.ld false 1 (.t 236)), none, [6]⟩, ⟨(some 238), (.bin .lss (.t 233) (.t 237)), none, [3, 7]⟩, ⟨(some 239), (.mv (.t 238)), none, [8]⟩, ⟨(some 240), (.mv (.t 21)), (some (239, false)), [9]⟩, ⟨(some 241), (.mv (.t 26)), (some (239, false)), [9]⟩, ⟨(some 242), (.ixsl 1 (.t 240) (.t 241)), (some (239, false)), [10, 11, 9]⟩, ⟨(some 243), (.ld false 1 (.t 242)), (some (239, false)), [12, 9]⟩, ⟨(some 244), (.mv (.t 12)), (some (239, false)), [9]⟩, ⟨(some 245), (.mv (.t 26)), (some (239, false)), [9]⟩, ⟨(some 246), (.ixsl 1 (.t 244) (.t 245)), (some (239, false)), [14, 15, 9]⟩, ⟨(some 247), (.ld false 1 (.t 246)), (some (239, false)), [16, 9]⟩, ⟨(some 248), (.bin .gtr (.t 243) (.t 247)), (some (239, false)), [13, 17, 9]⟩, ⟨(some 249), (.pick (.t 239) (.c (.bool true)) (.t 248)), none, [9, 18]⟩, ⟨(some 250), (.mv (.t 249)), none, [19, 9]⟩, ⟨(some 251), (.mv (.t 22)), (some (250, false)), [20]⟩, ⟨(some 252), (.mv (.t 26)), (some (250, false)), [20]⟩, ⟨(some 253), (.ixsl 1 (.t 251) (.t 252)), (some (250, false)), [21, 22, 20]⟩, ⟨(some 254), (.ld false 1 (.t 253)), (some (250, false)), [23, 20]⟩, ⟨(some 255), (.mv (.t 12)), (some (250, false)), [20]⟩, ⟨(some 256), (.mv (.t 26)), (some (250, false)), [20]⟩, ⟨(some 257), (.ixsl 1 (.t 255) (.t 256)), (some (250, false)), [25, 26, 20]⟩, ⟨(some 258), (.ld false 1 (.t 257)), (some (250, false)), [27, 20]⟩, ⟨(some 259), (.bin .lss (.t 254) (.t 258)), (some (250, false)), [24, 28, 20]⟩, ⟨(some 260), (.pick (.t 250) (.c (.bool true)) (.t 259)), none, [20, 29]⟩, ⟨(some 261), (.mv (.t 260)), none, [30, 20]⟩, ⟨(some 262), (.mv (.t 22)), (some (261, false)), [31]⟩, ⟨(some 263), (.mv (.t 26)), (some (261, false)), [31]⟩, ⟨(some 264), (.ixsl 1 (.t 262) (.t 263)), (some (261, false)), [32, 33, 31]⟩, ⟨(some 265), (.ld false 1 (.t 264)), (some (261, false)), [34, 31]⟩, ⟨(some 266), (.mv (.t 10)), (some (261, false)), [31]⟩, ⟨(some 267), (.mv (.t 26)), (some (261, false)), [31]⟩, ⟨(some 268), (.ixsl 1 (.t 266) (.t 267)), (some (261, false)), [36, 37, 31]⟩, ⟨(some 269), (.ld false 1 (.t 268)), (some (261, false)), [38, 31]⟩, ⟨(some 270), (.bin .gtr (.t 265) (.t 269)), (some (261, false)), [35, 39, 31]⟩, ⟨(some 271), (.pick (.t 261) (.c (.bool true)) (.t 270)), none, [31, 40]⟩] true) (.cond (.t 271) (.seq (.reg [⟨(some 6), (.mv (.c (.bool false))), none, []⟩] false) .ret) .skip)))) (.reg [⟨(some 272), (.bin .add (.t 227) (.c (.int .i64 1))), none, []⟩, ⟨(some 227), (.mv (.t 272)), none, [0]⟩] false))))))) (.seq (.seq (.reg [⟨(some 273), (.mv (.t 24)), none, []⟩, ⟨(some 274), (.len (.t 273)), none, [0]⟩, ⟨(some 275), (.mv (.c (.int .i64 0))), none, []⟩] false) (.block 8 (.loop (.seq (.reg [⟨(some 276), (.bin .lss (.t 275) (.t 274)), none, []⟩] false) (.seq (.cond (.t 276) .skip (.exit 8)) (.seq (.block 9 (.seq (.reg [⟨(some 277), (.ixsl 1 (.t 273) (.t 275)), none, []⟩, ⟨(some 278), (.ld false 1 (.t 277)), none, [0]⟩, ⟨(some 28), (.mv (.t 278)), none, [1, 0, 1]⟩] false) (.seq (.reg [⟨(some 279), (.mv (.t 28)), none, []⟩, ⟨(some 280), (.bin .lss (.t 279) (.c (.int .i64 0))), none, [0]⟩, ⟨(some 281), (.mv (.t 280)), none, [1]⟩, ⟨(some 282), (.mv (.t 28)), (some (281, false)), [2]⟩, ⟨(some 283), (.bin .geq (.t 282) (.c (.int .i64 8))), (some (281, false)), [3, 2]⟩, ⟨(some 284), (.pick (.t 281) (.c (.bool true)) (.t 283)), none, [2, 4]⟩, ⟨(some 285), (.mv (.t 284)), none, [5, 2]⟩, ⟨(some 286), (.mv (.t 28)), (some (285, false)), [6]⟩, ⟨(some 287), (.ixarr 8 1 (.t 18) (.t 286)), (some (285, false)), [7, 6]⟩, ⟨(some 288), (.ld false 1 (.t 287)), (some (285, false)), [8, 6]⟩, ⟨(some 289), (.un .not (.t 288)), (some (285, false)), [9, 6]⟩, ⟨(some 290), (.pick (.t 285) (.c (.bool true)) (.t 289)), none, [6, 10]⟩] false) (.cond (.t 290) (.seq (.reg [⟨(some 6), (.mv (.c (.bool false))), none, []⟩] false) .ret) .skip)))) (.reg [⟨(some 291), (.bin .add (.t 275) (.c (.int .i64 1))), none, []⟩, ⟨(some 275), (.mv (.t 291)), none, [0]⟩] false))))))) (.seq (.reg [⟨(some 292), (.mv (.t 7)), none, []⟩, ⟨(some 6), (.mv (.t 292)), none, [0, 0]⟩] false) .ret))))))))))))))))
theorem mcOk5 : (match Try.f5.body with | some c => compC Try.prog 293 c | none => none) = some mc5 := by kernel_rfl

theorem fc5 (ls : List (List Int)) (lims : List Int) (lies8 : Int) (truth : List Int) (lr : Int) (htruth : ∀ x ∈ truth, 0 ≤ x ∧ x < 256) (hls : ∀ L ∈ ls, L.length ≤ 4611686018427387904) (hlims : ∀ x ∈ lims, 0 ≤ x ∧ x < 256) (hlies : 0 ≤ lies8 ∧ lies8 < 256) : FC Try.prog 5 [.agg [.rs 1 (ls.map cL), .rs 1 (lims.map cu8), .int .u8 lies8], .rs 1 (truth.map cu8), .int .u8 lr] [] (.bool true) [] false := by
  obtain ⟨n, R, lo, hi, m, hm, hmade⟩ := made_o ls lims lies8 hls hlims hlies
  have hn1 := hm.n1
  have hn3 := hm.n3
  have hllo := hm.llo
  have hlhi := hm.lhi
  have hm0 := hm.m0
  have hm3 := hm.m3
  have hlR := hm.lR
  refine fc_run (nt := 293) Try.func5 rfl rfl mcOk5 (Nat.le_of_ble_eq_true rfl) ?_
  delta mc5
  refine aw_seq ?_
  refine aw_reg ?_
  refine rs_box rfl rfl rfl rfl rfl rfl ?_
  refine rs_mv rfl rfl ?_
  refine rs_nil fun _ => ?_
  refine th_n ?_
  refine aw_seq ?_
  refine aw_reg ?_
  refine rs_calln [] rfl rfl fc15 .nil rfl ?_
  refine rs_mv rfl rfl ?_
  refine rs_nil fun _ => ?_
  refine th_n ?_
  refine aw_seq ?_
  refine aw_reg ?_
  first | refine rs_ld_pa rfl rfl rfl rfl (Nat.le_of_ble_eq_true rfl) rfl ?_ | refine rs_ld_ra rfl rfl (Nat.le_of_ble_eq_true rfl) rfl ?_ | refine rs_ld_ma rfl rfl rfl (by omega) (Nat.le_of_ble_eq_true rfl) rfl ?_
  refine rs_callo [] rfl rfl hmade (.cons (hv_same rfl) .nil) .nil rfl rfl rfl ?_
  refine rs_mv rfl rfl ?_
  refine rs_ext rfl rfl rfl ?_
  refine rs_ext rfl rfl rfl ?_
  refine rs_ext rfl rfl rfl ?_
  refine rs_ext rfl rfl rfl ?_
  refine rs_mv rfl rfl ?_
  refine rs_mv rfl rfl ?_
  refine rs_mv rfl rfl ?_
  refine rs_mv rfl rfl ?_
  refine rs_nil fun _ => ?_
  refine th_n ?_
  refine aw_seq ?_
  refine aw_weak (F0 := [(1, .rs 1 (truth.map cu8)), (2, .int .u8 lr), (7, .bool true), (8, .sl 1005 0 R.length), (9, ints lo), (10, ints hi), (11, iv m)]) (H0 := [(1005, .cells 50 4 (R.map cR) true)]) (weak_to (.cons rfl (rc_same rfl (.inl rfl)) (.cons rfl (rc_same rfl (.inl rfl)) (.cons rfl (rc_same rfl (.inl rfl)) (.cons rfl (rc_same rfl (.inl rfl)) (.cons rfl (rc_frz rfl rfl hllo (fun _ => rfl)) (.cons rfl (rc_frz rfl rfl hlhi (fun _ => rfl)) (.cons rfl (rc_same rfl (.inl rfl)) (.nil)))))))) (.keep (rfl) rfl (.nil)) (fun i h => by cases h)) ?_
  refine aw_reg ?_
  refine rs_mv rfl rfl ?_
  refine rs_nil fun _ => ?_
  refine th_n ?_
  refine aw_seq ?_
  refine aw_seq ?_
  refine aw_reg ?_
  refine rs_mv rfl rfl ?_
  first | refine rs_len_m rfl rfl ?_ | refine rs_len_s rfl rfl ?_ | refine rs_len_n rfl rfl ?_ | refine rs_len_r rfl rfl rfl ?_
  refine rs_mv rfl rfl ?_
  refine rs_nil fun _ => ?_
  refine th_n ?_
  refine aw_block ?_
  refine aw_fam (α := Nat) (fun k => n - k) (fun k => [(1, .rs 1 (truth.map cu8)), (2, .int .u8 lr), (7, .bool true), (8, .sl 1005 0 R.length), (9, ints lo), (10, ints hi), (11, iv m), (12, .sl 1012 0 (k)), (37, ints lo), (38, iv (lo.length : Int)), (39, iv (((k) : Nat) : Int))]) (fun k => [(1005, .cells 50 4 (R.map cR) true), (1012, .cells 3 1 ((tvS lo hi truth (k)).map ci) true)]) (fun k => k ≤ n) 0 (by omega)
    (weak_to (.cons rfl (rc_same rfl (.inl rfl)) (.cons rfl (rc_same rfl (.inl rfl)) (.cons rfl (rc_same rfl (.inl rfl)) (.cons rfl (rc_same rfl (.inl rfl)) (.cons rfl (rc_same rfl (.inl rfl)) (.cons rfl (rc_same rfl (.inl rfl)) (.cons rfl (rc_same rfl (.inl rfl)) (.cons rfl (rc_virt rfl rfl) (.cons rfl (rc_same rfl (.inl rfl)) (.cons rfl (rc_same rfl (.inl rfl)) (.cons rfl (rc_same rfl (.inl rfl)) (.nil)))))))))))) (.keep (rfl) rfl (.virt rfl (.nil))) (fun i h => by cases h)) ?_
  intro k hk
  refine aw_seq ?_
  refine aw_reg ?_
  refine rs_lss rfl rfl rfl ?_
  refine rs_nil fun _ => ?_
  refine th_n ?_
  refine aw_seq ?_
  refine aw_cond rfl (fun h40 => ?_) (fun h40 => ?_)
  · first | replace h40 := of_decide_eq_true h40 | skip
    refine aw_skip ?_
    refine th_n ?_
    refine aw_seq ?_
    refine aw_block ?_
    refine aw_seq ?_
    refine aw_reg ?_
    have hkl : k < n := by omega
    obtain ⟨a, hak, _⟩ := at_some (L := lo) (k := k) (by omega)
    obtain ⟨b, hbk, _⟩ := at_some (L := hi) (k := k) (by omega)
    have hab := hm.at_ hak hbk
    refine rs_mv rfl rfl ?_
    refine rs_mv rfl rfl ?_
    refine rs_nil fun _ => ?_
    refine th_n ?_
    refine aw_seq ?_
    refine aw_reg ?_
    refine rs_mv rfl rfl ?_
    refine rs_mv rfl rfl ?_
    refine rs_ix_g rfl rfl rfl (by omega) hak ?_
    refine rs_ld_r rfl rfl rfl ?_
    refine rs_mv rfl rfl ?_
    refine rs_nil fun _ => ?_
    refine th_n ?_
    refine aw_seq ?_
    refine aw_seq ?_
    refine aw_reg ?_
    refine rs_mv rfl rfl ?_
    refine rs_mv rfl rfl ?_
    first | refine rs_len_m rfl rfl ?_ | refine rs_len_s rfl rfl ?_ | refine rs_len_n rfl rfl ?_ | refine rs_len_r rfl rfl rfl ?_
    refine rs_lss rfl rfl rfl ?_
    refine rs_nil fun _ => ?_
    refine th_n ?_
    refine aw_cond rfl (fun h49 => ?_) (fun h49 => ?_)
    · first | replace h49 := of_decide_eq_true h49 | skip
      refine aw_draw hmix ?_
      obtain ⟨c, hck, hcm⟩ := at_some (L := truth) (k := k) (by omega)
      have hcr := htruth c hcm
      refine rs_mv rfl rfl ?_
      refine rs_mv rfl rfl ?_
      refine rs_mv rfl rfl ?_
      refine rs_ix_g rfl rfl rfl (by omega) hck ?_
      refine rs_ld_r rfl rfl rfl ?_
      refine rs_cvt (m := c) rfl rfl (wrap64_eq (by omega)) ?_
      refine rs_mv rfl rfl ?_
      refine rs_mv rfl rfl ?_
      refine rs_ix_g rfl rfl rfl (by omega) hbk ?_
      refine rs_ld_r rfl rfl rfl ?_
      refine rs_mv rfl rfl ?_
      refine rs_mv rfl rfl ?_
      refine rs_ix_g rfl rfl rfl (by omega) hak ?_
      refine rs_ld_r rfl rfl rfl ?_
      first | refine rs_sub rfl rfl rfl (by omega) ?_ | refine rs_subw rfl rfl rfl rfl ?_
      first | refine rs_add rfl rfl rfl (by omega) ?_ | refine rs_addw rfl rfl rfl rfl ?_
      refine rs_rem rfl rfl rfl (by omega) rfl ?_
      have htm := tmodr c (b - a + 1) (by omega) (by omega)
      refine rs_add rfl rfl rfl (by omega) ?_
      refine rs_mv rfl rfl ?_
      refine rs_nil ⟨by kernel_rfl, fun _ => ?_⟩
      refine th_n ?_
      refine aw_reg ?_
      refine rs_mv rfl rfl ?_
      refine rs_mv rfl rfl ?_
      refine rs_bslice rfl rfl rfl rfl rfl rfl ?_
      first | refine rs_app_m (y := a + c.tmod (b - a + 1)) rfl rfl rfl rfl (length_tv _ _ _ _) rfl rfl rfl (by decide) rfl (by omega) (by omega) rfl ?_ | refine rs_app_m (y := a) rfl rfl rfl rfl (length_tv _ _ _ _) rfl rfl rfl (by decide) rfl (by omega) (by omega) rfl ?_
      refine rs_mv rfl rfl ?_
      refine rs_nil fun _ => ?_
      refine in_n ?_
      refine th_n ?_
      refine aw_reg ?_
      first | refine rs_add rfl rfl rfl (by omega) ?_ | refine rs_addw rfl rfl rfl rfl ?_
      refine rs_mv rfl rfl ?_
      refine rs_nil fun _ => ?_
      refine th_n ?_
      refine ⟨k + 1, by omega, by omega, ?_⟩
      first
        | exact weak_to_ren (i := 71) (i' := 1012) (F1 := [(1, .rs 1 (truth.map cu8)), (2, .int .u8 lr), (7, .bool true), (8, .sl 1005 0 R.length), (9, ints lo), (10, ints hi), (11, iv m), (12, .sl 71 0 (k + 1)), (37, ints lo), (38, iv (lo.length : Int)), (39, iv (((k + 1) : Nat) : Int))]) (H1 := [(1005, .cells 50 4 (R.map cR) true), (71, .cells 3 1 ((tvS lo hi truth (k + 1)).map ci) true)]) (.cons rfl (rc_same rfl (.inl rfl)) (.cons rfl (rc_same rfl (.inl rfl)) (.cons rfl (rc_same rfl (.inl rfl)) (.cons rfl (rc_same rfl (.inl rfl)) (.cons rfl (rc_same rfl (.inl rfl)) (.cons rfl (rc_same rfl (.inl rfl)) (.cons rfl (rc_same rfl (.inl rfl)) (.cons rfl (rc_same rfl (.inl rfl)) (.cons rfl (rc_same rfl (.inl rfl)) (.cons rfl (rc_same rfl (.inl rfl)) (.cons rfl (rc_same rfl (.inl rfl)) (.nil)))))))))))) (.keep (rfl) rfl (.keep ((by (rw [tv_t hak hbk hck]) <;> rfl)) rfl (.nil))) (fun i h => by cases h) rfl rfl (.cons rfl (.same _) (.cons rfl (.same _) (.cons rfl (.same _) (.cons rfl (.same _) (.cons rfl (.same _) (.cons rfl (.same _) (.cons rfl (.same _) (.cons rfl (.sl _ _) (.cons rfl (.same _) (.cons rfl (.same _) (.cons rfl (.same _) (.nil)))))))))))) (.cons rfl (rc_same rfl (.inl rfl)) (.cons rfl (rc_same rfl (.inl rfl)) (.cons rfl (rc_same rfl (.inl rfl)) (.cons rfl (rc_same rfl (.inl rfl)) (.cons rfl (rc_same rfl (.inl rfl)) (.cons rfl (rc_same rfl (.inl rfl)) (.cons rfl (rc_same rfl (.inl rfl)) (.cons rfl (rc_same rfl (.inl rfl)) (.cons rfl (rc_same rfl (.inl rfl)) (.cons rfl (rc_same rfl (.inl rfl)) (.cons rfl (rc_same rfl (.inl rfl)) (.nil)))))))))))) (.keep (rfl) rfl (.keep (rfl) rfl (.nil))) (fun i h => by cases h)
        | exact weak_to_ren (i := 71) (i' := 1012) (F1 := [(1, .rs 1 (truth.map cu8)), (2, .int .u8 lr), (7, .bool true), (8, .sl 1005 0 R.length), (9, ints lo), (10, ints hi), (11, iv m), (12, .sl 71 0 (k + 1)), (37, ints lo), (38, iv (lo.length : Int)), (39, iv (((k + 1) : Nat) : Int))]) (H1 := [(1005, .cells 50 4 (R.map cR) true), (71, .cells 3 1 ((tvS lo hi truth (k + 1)).map ci) true)]) (.cons rfl (rc_same rfl (.inl rfl)) (.cons rfl (rc_same rfl (.inl rfl)) (.cons rfl (rc_same rfl (.inl rfl)) (.cons rfl (rc_same rfl (.inl rfl)) (.cons rfl (rc_same rfl (.inl rfl)) (.cons rfl (rc_same rfl (.inl rfl)) (.cons rfl (rc_same rfl (.inl rfl)) (.cons rfl (rc_same rfl (.inl rfl)) (.cons rfl (rc_same rfl (.inl rfl)) (.cons rfl (rc_same rfl (.inl rfl)) (.cons rfl (rc_same rfl (.inl rfl)) (.nil)))))))))))) (.keep (rfl) rfl (.keep ((by (rw [tv_f hak (by omega)]) <;> rfl)) rfl (.nil))) (fun i h => by cases h) rfl rfl (.cons rfl (.same _) (.cons rfl (.same _) (.cons rfl (.same _) (.cons rfl (.same _) (.cons rfl (.same _) (.cons rfl (.same _) (.cons rfl (.same _) (.cons rfl (.sl _ _) (.cons rfl (.same _) (.cons rfl (.same _) (.cons rfl (.same _) (.nil)))))))))))) (.cons rfl (rc_same rfl (.inl rfl)) (.cons rfl (rc_same rfl (.inl rfl)) (.cons rfl (rc_same rfl (.inl rfl)) (.cons rfl (rc_same rfl (.inl rfl)) (.cons rfl (rc_same rfl (.inl rfl)) (.cons rfl (rc_same rfl (.inl rfl)) (.cons rfl (rc_same rfl (.inl rfl)) (.cons rfl (rc_same rfl (.inl rfl)) (.cons rfl (rc_same rfl (.inl rfl)) (.cons rfl (rc_same rfl (.inl rfl)) (.cons rfl (rc_same rfl (.inl rfl)) (.nil)))))))))))) (.keep (rfl) rfl (.keep (rfl) rfl (.nil))) (fun i h => by cases h)
    · first | replace h49 := of_decide_eq_false h49 | skip
      refine aw_skip ?_
      refine th_n ?_
      refine aw_reg ?_
      refine rs_mv rfl rfl ?_
      refine rs_mv rfl rfl ?_
      refine rs_bslice rfl rfl rfl rfl rfl rfl ?_
      first | refine rs_app_m (y := a + c.tmod (b - a + 1)) rfl rfl rfl rfl (length_tv _ _ _ _) rfl rfl rfl (by decide) rfl (by omega) (by omega) rfl ?_ | refine rs_app_m (y := a) rfl rfl rfl rfl (length_tv _ _ _ _) rfl rfl rfl (by decide) rfl (by omega) (by omega) rfl ?_
      refine rs_mv rfl rfl ?_
      refine rs_nil fun _ => ?_
      refine in_n ?_
      refine th_n ?_
      refine aw_reg ?_
      first | refine rs_add rfl rfl rfl (by omega) ?_ | refine rs_addw rfl rfl rfl rfl ?_
      refine rs_mv rfl rfl ?_
      refine rs_nil fun _ => ?_
      refine th_n ?_
      refine ⟨k + 1, by omega, by omega, ?_⟩
      first
        | exact weak_to_ren (i := 71) (i' := 1012) (F1 := [(1, .rs 1 (truth.map cu8)), (2, .int .u8 lr), (7, .bool true), (8, .sl 1005 0 R.length), (9, ints lo), (10, ints hi), (11, iv m), (12, .sl 71 0 (k + 1)), (37, ints lo), (38, iv (lo.length : Int)), (39, iv (((k + 1) : Nat) : Int))]) (H1 := [(1005, .cells 50 4 (R.map cR) true), (71, .cells 3 1 ((tvS lo hi truth (k + 1)).map ci) true)]) (.cons rfl (rc_same rfl (.inl rfl)) (.cons rfl (rc_same rfl (.inl rfl)) (.cons rfl (rc_same rfl (.inl rfl)) (.cons rfl (rc_same rfl (.inl rfl)) (.cons rfl (rc_same rfl (.inl rfl)) (.cons rfl (rc_same rfl (.inl rfl)) (.cons rfl (rc_same rfl (.inl rfl)) (.cons rfl (rc_same rfl (.inl rfl)) (.cons rfl (rc_same rfl (.inl rfl)) (.cons rfl (rc_same rfl (.inl rfl)) (.cons rfl (rc_same rfl (.inl rfl)) (.nil)))))))))))) (.keep (rfl) rfl (.keep ((by (rw [tv_t hak hbk hck]) <;> rfl)) rfl (.nil))) (fun i h => by cases h) rfl rfl (.cons rfl (.same _) (.cons rfl (.same _) (.cons rfl (.same _) (.cons rfl (.same _) (.cons rfl (.same _) (.cons rfl (.same _) (.cons rfl (.same _) (.cons rfl (.sl _ _) (.cons rfl (.same _) (.cons rfl (.same _) (.cons rfl (.same _) (.nil)))))))))))) (.cons rfl (rc_same rfl (.inl rfl)) (.cons rfl (rc_same rfl (.inl rfl)) (.cons rfl (rc_same rfl (.inl rfl)) (.cons rfl (rc_same rfl (.inl rfl)) (.cons rfl (rc_same rfl (.inl rfl)) (.cons rfl (rc_same rfl (.inl rfl)) (.cons rfl (rc_same rfl (.inl rfl)) (.cons rfl (rc_same rfl (.inl rfl)) (.cons rfl (rc_same rfl (.inl rfl)) (.cons rfl (rc_same rfl (.inl rfl)) (.cons rfl (rc_same rfl (.inl rfl)) (.nil)))))))))))) (.keep (rfl) rfl (.keep (rfl) rfl (.nil))) (fun i h => by cases h)
        | exact weak_to_ren (i := 71) (i' := 1012) (F1 := [(1, .rs 1 (truth.map cu8)), (2, .int .u8 lr), (7, .bool true), (8, .sl 1005 0 R.length), (9, ints lo), (10, ints hi), (11, iv m), (12, .sl 71 0 (k + 1)), (37, ints lo), (38, iv (lo.length : Int)), (39, iv (((k + 1) : Nat) : Int))]) (H1 := [(1005, .cells 50 4 (R.map cR) true), (71, .cells 3 1 ((tvS lo hi truth (k + 1)).map ci) true)]) (.cons rfl (rc_same rfl (.inl rfl)) (.cons rfl (rc_same rfl (.inl rfl)) (.cons rfl (rc_same rfl (.inl rfl)) (.cons rfl (rc_same rfl (.inl rfl)) (.cons rfl (rc_same rfl (.inl rfl)) (.cons rfl (rc_same rfl (.inl rfl)) (.cons rfl (rc_same rfl (.inl rfl)) (.cons rfl (rc_same rfl (.inl rfl)) (.cons rfl (rc_same rfl (.inl rfl)) (.cons rfl (rc_same rfl (.inl rfl)) (.cons rfl (rc_same rfl (.inl rfl)) (.nil)))))))))))) (.keep (rfl) rfl (.keep ((by (rw [tv_f hak (by omega)]) <;> rfl)) rfl (.nil))) (fun i h => by cases h) rfl rfl (.cons rfl (.same _) (.cons rfl (.same _) (.cons rfl (.same _) (.cons rfl (.same _) (.cons rfl (.same _) (.cons rfl (.same _) (.cons rfl (.same _) (.cons rfl (.sl _ _) (.cons rfl (.same _) (.cons rfl (.same _) (.cons rfl (.same _) (.nil)))))))))))) (.cons rfl (rc_same rfl (.inl rfl)) (.cons rfl (rc_same rfl (.inl rfl)) (.cons rfl (rc_same rfl (.inl rfl)) (.cons rfl (rc_same rfl (.inl rfl)) (.cons rfl (rc_same rfl (.inl rfl)) (.cons rfl (rc_same rfl (.inl rfl)) (.cons rfl (rc_same rfl (.inl rfl)) (.cons rfl (rc_same rfl (.inl rfl)) (.cons rfl (rc_same rfl (.inl rfl)) (.cons rfl (rc_same rfl (.inl rfl)) (.cons rfl (rc_same rfl (.inl rfl)) (.nil)))))))))))) (.keep (rfl) rfl (.keep (rfl) rfl (.nil))) (fun i h => by cases h)
  · first | replace h40 := of_decide_eq_false h40 | skip
    refine aw_exit ?_
    refine th_e ?_
    refine th_e ?_
    refine in_hit ?_
    refine th_n ?_
    refine aw_seq ?_
    obtain rfl : n = k := by omega
    obtain ⟨hV, hVi⟩ := tv_in hm htruth
    generalize tvS lo hi truth n = V at hV hVi ⊢
    refine aw_weak (F0 := [(2, .int .u8 lr), (7, .bool true), (8, .sl 1005 0 R.length), (9, ints lo), (10, ints hi), (11, iv m), (12, ints V)]) (H0 := [(1005, .cells 50 4 (R.map cR) true)]) (weak_to (.cons rfl (rc_same rfl (.inl rfl)) (.cons rfl (rc_same rfl (.inl rfl)) (.cons rfl (rc_same rfl (.inl rfl)) (.cons rfl (rc_same rfl (.inl rfl)) (.cons rfl (rc_same rfl (.inl rfl)) (.cons rfl (rc_same rfl (.inl rfl)) (.cons rfl (rc_frz rfl rfl hV (fun _ => rfl)) (.nil)))))))) (.keep (rfl) rfl (.nil)) (fun i h => by cases h)) ?_
    refine aw_reg ?_
    refine rs_mv rfl rfl ?_
    refine rs_mv rfl rfl ?_
    refine rs_nil fun _ => ?_
    refine th_n ?_
    refine aw_seq ?_
    refine aw_reg ?_
    refine rs_build rfl rfl ?_
    refine rs_alloc rfl rfl rfl ?_
    refine rs_st (els' := [[.bool false, .bool false, .bool false, .bool false, .bool false, .bool false, .bool false, .bool false]]) (fl' := true) rfl rfl rfl rfl rfl rfl rfl (Nat.le_of_ble_eq_true rfl) rfl rfl ?_
    refine rs_nil fun _ => ?_
    refine th_n ?_
    refine aw_seq ?_
    refine aw_seq ?_
    refine aw_reg ?_
    refine rs_mv rfl rfl ?_
    refine rs_nil fun _ => ?_
    refine th_n ?_
    refine aw_block ?_
    refine aw_fam (α := Nat × List Bool × Int) (fun a => 8 - a.1) (fun a => [(2, .int .u8 lr), (7, .bool true), (8, .sl 1005 0 R.length), (9, ints lo), (10, ints hi), (11, iv m), (12, ints V), (15, iv a.2.2), (16, .ptr 16 0 0), (75, iv (((a.1) : Nat) : Int))]) (fun a => [(1005, .cells 50 4 (R.map cR) true), (16, .cells 47 8 [(a.2.1).map AV.bool] true)]) (fun a => a.1 ≤ 8 ∧ a.2.1.length = 8 ∧ 0 ≤ a.2.2 ∧ (cntF a.2.1 a.1 : Int) + a.2.2 = m) (0, List.replicate 8 false, m) (⟨by simp, by simp, hm0, by simp [cntF]⟩)
      (weak_to (.cons rfl (rc_same rfl (.inl rfl)) (.cons rfl (rc_same rfl (.inl rfl)) (.cons rfl (rc_same rfl (.inl rfl)) (.cons rfl (rc_same rfl (.inl rfl)) (.cons rfl (rc_same rfl (.inl rfl)) (.cons rfl (rc_same rfl (.inl rfl)) (.cons rfl (rc_same rfl (.inl rfl)) (.cons rfl (rc_same rfl (.inl rfl)) (.cons rfl (rc_same rfl (.inl rfl)) (.cons rfl (rc_same rfl (.inl rfl)) (.nil))))))))))) (.keep (rfl) rfl (.keep (rfl) rfl (.nil))) (fun i h => by cases h)) ?_
    rintro ⟨k, bs, f⟩ ⟨hk, hbs, hf, hc⟩
    dsimp only at hk hbs hf hc ⊢
    refine aw_seq ?_
    refine aw_reg ?_
    refine rs_lss rfl rfl rfl ?_
    refine rs_nil fun _ => ?_
    refine th_n ?_
    refine aw_seq ?_
    refine aw_cond rfl (fun h76 => ?_) (fun h76 => ?_)
    · first | replace h76 := of_decide_eq_true h76 | skip
      refine aw_skip ?_
      refine th_n ?_
      refine aw_seq ?_
      refine aw_block ?_
      refine aw_seq ?_
      refine aw_reg ?_
      refine rs_mv rfl rfl ?_
      refine rs_mv rfl rfl ?_
      refine rs_nil fun _ => ?_
      refine th_n ?_
      refine aw_seq ?_
      refine aw_reg ?_
      refine rs_mv rfl rfl ?_
      refine rs_mv rfl rfl ?_
      refine rs_mv rfl rfl ?_
      refine rs_shr rfl rfl rfl (by omega) rfl ?_
      refine rs_and rfl rfl rfl rfl ?_
      refine rs_cmp rfl rfl rfl rfl (fun h83 => ?_) (fun h83 => ?_)
      · skip
        refine rs_mv rfl rfl ?_
        refine rs_skip rfl ?_
        refine rs_skip rfl ?_
        refine rs_pick rfl rfl rfl ?_
        refine rs_ixarr_p rfl rfl rfl (by omega) (by omega) ?_
        refine rs_st_f (k := k) (y := true) rfl rfl rfl rfl rfl rfl rfl (by simp) (by omega) ?_
        refine rs_nil fun _ => ?_
        refine th_n ?_
        refine aw_seq ?_
        refine aw_reg ?_
        refine rs_mv rfl rfl ?_
        refine rs_ixarr_p rfl rfl rfl (by omega) (by omega) ?_
        refine rs_ld_f (k := k) (y := true) rfl rfl rfl (by simp) (List.getElem?_set_self (by omega)) ?_
        refine rs_not rfl rfl ?_
        refine rs_nil fun _ => ?_
        refine th_n ?_
        refine aw_cond rfl (fun h => by cases h) (fun _ => ?_)
        refine aw_skip ?_
        refine in_n ?_
        refine th_n ?_
        refine aw_reg ?_
        first | refine rs_add rfl rfl rfl (by omega) ?_ | refine rs_addw rfl rfl rfl rfl ?_
        refine rs_mv rfl rfl ?_
        refine rs_nil fun _ => ?_
        refine th_n ?_
        first
          | exact ⟨(k + 1, bs.set k true, f), ⟨by simp; omega, by simpa using hbs, hf, by simp only [cnt_set (b := true) (show k < bs.length by omega), if_true]; omega⟩, by simp; omega, weak_to (.cons rfl (rc_same rfl (.inl rfl)) (.cons rfl (rc_same rfl (.inl rfl)) (.cons rfl (rc_same rfl (.inl rfl)) (.cons rfl (rc_same rfl (.inl rfl)) (.cons rfl (rc_same rfl (.inl rfl)) (.cons rfl (rc_same rfl (.inl rfl)) (.cons rfl (rc_same rfl (.inl rfl)) (.cons rfl (rc_same rfl (.inl rfl)) (.cons rfl (rc_same rfl (.inl rfl)) (.cons rfl (rc_same rfl (.inl rfl)) (.nil))))))))))) (.keep (rfl) rfl (.keep (rfl) rfl (.nil))) (fun i h => by cases h)⟩
          | exact ⟨(k + 1, bs.set k false, f - 1), ⟨by simp; omega, by simpa using hbs, by simp; omega, by simp [cnt_set (b := false) (show k < bs.length by omega)]; omega⟩, by simp; omega, weak_to (.cons rfl (rc_same rfl (.inl rfl)) (.cons rfl (rc_same rfl (.inl rfl)) (.cons rfl (rc_same rfl (.inl rfl)) (.cons rfl (rc_same rfl (.inl rfl)) (.cons rfl (rc_same rfl (.inl rfl)) (.cons rfl (rc_same rfl (.inl rfl)) (.cons rfl (rc_same rfl (.inl rfl)) (.cons rfl (rc_same rfl (.inl rfl)) (.cons rfl (rc_same rfl (.inl rfl)) (.cons rfl (rc_same rfl (.inl rfl)) (.nil))))))))))) (.keep (rfl) rfl (.keep (rfl) rfl (.nil))) (fun i h => by cases h)⟩
      · skip
        refine rs_mv rfl rfl ?_
        refine rs_mv rfl rfl ?_
        refine rs_cmp rfl rfl rfl rfl (fun h86 => ?_) (fun h86 => ?_)
        · skip
          refine rs_pick rfl rfl rfl ?_
          refine rs_ixarr_p rfl rfl rfl (by omega) (by omega) ?_
          refine rs_st_f (k := k) (y := true) rfl rfl rfl rfl rfl rfl rfl (by simp) (by omega) ?_
          refine rs_nil fun _ => ?_
          refine th_n ?_
          refine aw_seq ?_
          refine aw_reg ?_
          refine rs_mv rfl rfl ?_
          refine rs_ixarr_p rfl rfl rfl (by omega) (by omega) ?_
          refine rs_ld_f (k := k) (y := true) rfl rfl rfl (by simp) (List.getElem?_set_self (by omega)) ?_
          refine rs_not rfl rfl ?_
          refine rs_nil fun _ => ?_
          refine th_n ?_
          refine aw_cond rfl (fun h => by cases h) (fun _ => ?_)
          refine aw_skip ?_
          refine in_n ?_
          refine th_n ?_
          refine aw_reg ?_
          first | refine rs_add rfl rfl rfl (by omega) ?_ | refine rs_addw rfl rfl rfl rfl ?_
          refine rs_mv rfl rfl ?_
          refine rs_nil fun _ => ?_
          refine th_n ?_
          first
            | exact ⟨(k + 1, bs.set k true, f), ⟨by simp; omega, by simpa using hbs, hf, by simp only [cnt_set (b := true) (show k < bs.length by omega), if_true]; omega⟩, by simp; omega, weak_to (.cons rfl (rc_same rfl (.inl rfl)) (.cons rfl (rc_same rfl (.inl rfl)) (.cons rfl (rc_same rfl (.inl rfl)) (.cons rfl (rc_same rfl (.inl rfl)) (.cons rfl (rc_same rfl (.inl rfl)) (.cons rfl (rc_same rfl (.inl rfl)) (.cons rfl (rc_same rfl (.inl rfl)) (.cons rfl (rc_same rfl (.inl rfl)) (.cons rfl (rc_same rfl (.inl rfl)) (.cons rfl (rc_same rfl (.inl rfl)) (.nil))))))))))) (.keep (rfl) rfl (.keep (rfl) rfl (.nil))) (fun i h => by cases h)⟩
            | exact ⟨(k + 1, bs.set k false, f - 1), ⟨by simp; omega, by simpa using hbs, by simp; omega, by simp [cnt_set (b := false) (show k < bs.length by omega)]; omega⟩, by simp; omega, weak_to (.cons rfl (rc_same rfl (.inl rfl)) (.cons rfl (rc_same rfl (.inl rfl)) (.cons rfl (rc_same rfl (.inl rfl)) (.cons rfl (rc_same rfl (.inl rfl)) (.cons rfl (rc_same rfl (.inl rfl)) (.cons rfl (rc_same rfl (.inl rfl)) (.cons rfl (rc_same rfl (.inl rfl)) (.cons rfl (rc_same rfl (.inl rfl)) (.cons rfl (rc_same rfl (.inl rfl)) (.cons rfl (rc_same rfl (.inl rfl)) (.nil))))))))))) (.keep (rfl) rfl (.keep (rfl) rfl (.nil))) (fun i h => by cases h)⟩
        · skip
          refine rs_pick rfl rfl rfl ?_
          refine rs_ixarr_p rfl rfl rfl (by omega) (by omega) ?_
          refine rs_st_f (k := k) (y := false) rfl rfl rfl rfl rfl rfl rfl (by simp) (by omega) ?_
          refine rs_nil fun _ => ?_
          refine th_n ?_
          refine aw_seq ?_
          refine aw_reg ?_
          refine rs_mv rfl rfl ?_
          refine rs_ixarr_p rfl rfl rfl (by omega) (by omega) ?_
          refine rs_ld_f (k := k) (y := false) rfl rfl rfl (by simp) (List.getElem?_set_self (by omega)) ?_
          refine rs_not rfl rfl ?_
          refine rs_nil fun _ => ?_
          refine th_n ?_
          refine aw_cond rfl (fun _ => ?_) (fun h => by cases h)
          refine aw_reg ?_
          refine rs_mv rfl rfl ?_
          first | refine rs_sub rfl rfl rfl (by omega) ?_ | refine rs_subw rfl rfl rfl rfl ?_
          refine rs_mv rfl rfl ?_
          refine rs_nil fun _ => ?_
          refine in_n ?_
          refine th_n ?_
          refine aw_reg ?_
          first | refine rs_add rfl rfl rfl (by omega) ?_ | refine rs_addw rfl rfl rfl rfl ?_
          refine rs_mv rfl rfl ?_
          refine rs_nil fun _ => ?_
          refine th_n ?_
          first
            | exact ⟨(k + 1, bs.set k true, f), ⟨by simp; omega, by simpa using hbs, hf, by simp only [cnt_set (b := true) (show k < bs.length by omega), if_true]; omega⟩, by simp; omega, weak_to (.cons rfl (rc_same rfl (.inl rfl)) (.cons rfl (rc_same rfl (.inl rfl)) (.cons rfl (rc_same rfl (.inl rfl)) (.cons rfl (rc_same rfl (.inl rfl)) (.cons rfl (rc_same rfl (.inl rfl)) (.cons rfl (rc_same rfl (.inl rfl)) (.cons rfl (rc_same rfl (.inl rfl)) (.cons rfl (rc_same rfl (.inl rfl)) (.cons rfl (rc_same rfl (.inl rfl)) (.cons rfl (rc_same rfl (.inl rfl)) (.nil))))))))))) (.keep (rfl) rfl (.keep (rfl) rfl (.nil))) (fun i h => by cases h)⟩
            | exact ⟨(k + 1, bs.set k false, f - 1), ⟨by simp; omega, by simpa using hbs, by simp; omega, by simp [cnt_set (b := false) (show k < bs.length by omega)]; omega⟩, by simp; omega, weak_to (.cons rfl (rc_same rfl (.inl rfl)) (.cons rfl (rc_same rfl (.inl rfl)) (.cons rfl (rc_same rfl (.inl rfl)) (.cons rfl (rc_same rfl (.inl rfl)) (.cons rfl (rc_same rfl (.inl rfl)) (.cons rfl (rc_same rfl (.inl rfl)) (.cons rfl (rc_same rfl (.inl rfl)) (.cons rfl (rc_same rfl (.inl rfl)) (.cons rfl (rc_same rfl (.inl rfl)) (.cons rfl (rc_same rfl (.inl rfl)) (.nil))))))))))) (.keep (rfl) rfl (.keep (rfl) rfl (.nil))) (fun i h => by cases h)⟩
    · first | replace h76 := of_decide_eq_false h76 | skip
      refine aw_exit ?_
      refine th_e ?_
      refine th_e ?_
      refine in_hit ?_
      refine th_n ?_
      refine aw_seq ?_
      obtain rfl : k = 8 := by omega
      refine aw_reg ?_
      refine rs_build rfl rfl ?_
      refine rs_alloc rfl rfl rfl ?_
      refine rs_st (els' := [[.bool false, .bool false, .bool false, .bool false, .bool false, .bool false, .bool false, .bool false]]) (fl' := true) rfl rfl rfl rfl rfl rfl rfl (Nat.le_of_ble_eq_true rfl) rfl rfl ?_
      refine rs_nil fun _ => ?_
      refine th_n ?_
      refine aw_seq ?_
      refine aw_seq ?_
      refine aw_reg ?_
      refine rs_mv rfl rfl ?_
      first | refine rs_len_m rfl rfl ?_ | refine rs_len_s rfl rfl ?_ | refine rs_len_n rfl rfl ?_ | refine rs_len_r rfl rfl rfl ?_
      refine rs_mv rfl rfl ?_
      refine rs_nil fun _ => ?_
      refine th_n ?_
      refine aw_block ?_
      refine aw_fam (α := Nat × List Rd × List Bool) (fun a => R.length - a.1) (fun a => [(7, .bool true), (8, .sl 1005 0 R.length), (9, ints lo), (10, ints hi), (11, iv m), (12, ints V), (16, .ptr 16 0 0), (18, .ptr 18 0 0), (97, .sl 1005 0 R.length), (98, iv (R.length : Int)), (99, iv (((a.1) : Nat) : Int))]) (fun a => [(1005, .cells 50 4 ((a.2.1).map cR) true), (16, .cells 47 8 [(bs).map AV.bool] true), (18, .cells 47 8 [(a.2.2).map AV.bool] true)]) (fun a => FixOk n R.length V bs a.1 a.2.1 a.2.2) (0, R, List.replicate 8 false) (⟨by simp, rfl, by simp, made_lok hm, fun j r hj => by simp at hj⟩)
        (weak_to (.cons rfl (rc_same rfl (.inl rfl)) (.cons rfl (rc_same rfl (.inl rfl)) (.cons rfl (rc_same rfl (.inl rfl)) (.cons rfl (rc_same rfl (.inl rfl)) (.cons rfl (rc_same rfl (.inl rfl)) (.cons rfl (rc_same rfl (.inl rfl)) (.cons rfl (rc_same rfl (.inl rfl)) (.cons rfl (rc_same rfl (.inl rfl)) (.cons rfl (rc_same rfl (.inl rfl)) (.cons rfl (rc_same rfl (.inl rfl)) (.cons rfl (rc_same rfl (.inl rfl)) (.nil)))))))))))) (.keep (rfl) rfl (.keep (rfl) rfl (.keep (rfl) rfl (.nil)))) (fun i h => by cases h)) ?_
      rintro ⟨k, L, W⟩ hx
      dsimp only at hx ⊢
      have hkN := hx.le
      refine aw_seq ?_
      refine aw_reg ?_
      refine rs_lss rfl rfl rfl ?_
      refine rs_nil fun _ => ?_
      refine th_n ?_
      refine aw_seq ?_
      refine aw_cond rfl (fun h100 => ?_) (fun h100 => ?_)
      · first | replace h100 := of_decide_eq_true h100 | skip
        refine aw_skip ?_
        refine th_n ?_
        refine aw_seq ?_
        refine aw_block ?_
        refine aw_seq ?_
        refine aw_reg ?_
        obtain ⟨r, hr, hrm⟩ := at_some (L := L) (k := k) (by have := hx.len; omega)
        have hrk := hx.lok r hrm
        have hLl := hx.len
        obtain ⟨b, hbk, _⟩ := at_some (L := bs) (k := r.probe.toNat) (by omega)
        obtain ⟨v, hvk, _⟩ := at_some (L := V) (k := r.of_.toNat) (by omega)
        refine rs_mv rfl rfl ?_
        refine rs_mv rfl rfl ?_
        refine rs_nil fun _ => ?_
        refine th_n ?_
        refine aw_seq ?_
        refine aw_reg ?_
        refine rs_mv rfl rfl ?_
        refine rs_mv rfl rfl ?_
        refine rs_ix_sm (t := k) rfl rfl rfl rfl (by omega) ?_
        refine rs_mv rfl rfl ?_
        refine rs_nil fun _ => ?_
        refine th_n ?_
        refine aw_seq ?_
        refine aw_seq ?_
        refine aw_reg ?_
        refine rs_mv rfl rfl ?_
        first | refine rs_nilc_p rfl rfl ?_ | refine rs_nilc_r rfl rfl ?_
        first | refine rs_fa_p rfl rfl ?_ | refine rs_fa_r rfl rfl rfl ?_
        refine rs_ld_g rfl rfl rfl hr rfl ?_
        refine rs_ixarr_p rfl rfl rfl (by omega) (by omega) ?_
        refine rs_ld_f (k := r.probe.toNat) rfl rfl rfl (by simp) hbk ?_
        refine rs_nil fun _ => ?_
        refine th_n ?_
        refine aw_cond rfl (fun h110 => ?_) (fun h110 => ?_)
        · first | replace h110 := of_decide_eq_true h110 | skip
          refine aw_draw hmix ?_
          refine rs_mv rfl rfl ?_
          refine rs_mv rfl rfl ?_
          refine rs_mv rfl rfl ?_
          first | refine rs_nilc_p rfl rfl ?_ | refine rs_nilc_r rfl rfl ?_
          first | refine rs_fa_p rfl rfl ?_ | refine rs_fa_r rfl rfl rfl ?_
          refine rs_ld_g rfl rfl rfl hr rfl ?_
          refine rs_mv rfl rfl ?_
          refine rs_mv rfl rfl ?_
          first | refine rs_nilc_p rfl rfl ?_ | refine rs_nilc_r rfl rfl ?_
          first | refine rs_fa_p rfl rfl ?_ | refine rs_fa_r rfl rfl rfl ?_
          refine rs_ld_g rfl rfl rfl hr rfl ?_
          refine rs_ix_g rfl rfl rfl (by omega) hvk ?_
          refine rs_ld_r rfl rfl rfl ?_
          refine rs_mn rfl rfl rfl rfl ?_
          refine rs_mv rfl rfl ?_
          first | refine rs_nilc_p rfl rfl ?_ | refine rs_nilc_r rfl rfl ?_
          first | refine rs_fa_p rfl rfl ?_ | refine rs_fa_r rfl rfl rfl ?_
          refine rs_ld_g rfl rfl rfl hr rfl ?_
          refine rs_mv rfl rfl ?_
          refine rs_mv rfl rfl ?_
          first | refine rs_nilc_p rfl rfl ?_ | refine rs_nilc_r rfl rfl ?_
          first | refine rs_fa_p rfl rfl ?_ | refine rs_fa_r rfl rfl rfl ?_
          refine rs_ld_g rfl rfl rfl hr rfl ?_
          refine rs_ix_g rfl rfl rfl (by omega) hvk ?_
          refine rs_ld_r rfl rfl rfl ?_
          refine rs_mx rfl rfl rfl rfl ?_
          first | refine rs_nilc_p rfl rfl ?_ | refine rs_nilc_r rfl rfl ?_
          first | refine rs_fa_p rfl rfl ?_ | refine rs_fa_r rfl rfl rfl ?_
          refine rs_st_m (v := ⟨r.probe, r.of_, min r.lo v, r.hi⟩) (fl' := true) rfl rfl rfl rfl (by omega) rfl rfl (Nat.le_of_ble_eq_true rfl) (by rw [(List.getElem?_eq_some_iff.1 hr).2]; rfl) rfl ?_
          first | refine rs_nilc_p rfl rfl ?_ | refine rs_nilc_r rfl rfl ?_
          first | refine rs_fa_p rfl rfl ?_ | refine rs_fa_r rfl rfl rfl ?_
          refine rs_st_m (v := ⟨r.probe, r.of_, min r.lo v, max r.hi v⟩) (fl' := true) rfl rfl rfl rfl (by simp; omega) rfl rfl (Nat.le_of_ble_eq_true rfl) (by rw [List.getElem_set_self]; rfl) rfl ?_
          refine rs_nil ⟨by kernel_rfl, fun _ => ?_⟩
          refine th_n ?_
          obtain ⟨L2, hL2, hfx⟩ : ∃ L2, (L.set k ⟨r.probe, r.of_, min r.lo v, r.hi⟩).set k ⟨r.probe, r.of_, min r.lo v, max r.hi v⟩ = L2 ∧ Fx n V bs L k L2 := ⟨_, rfl, fix_t hx.lok hr hvk⟩
          obtain ⟨q, hr2, _⟩ := at_some (L := L2) (k := k) (by have := hfx.len; omega)
          have hqk := hfx.lok q (mem_of_at hr2)
          have hW8 := hx.lenW
          obtain ⟨w, hwk, _⟩ := at_some (L := W) (k := q.probe.toNat) (by omega)
          obtain ⟨v2, hv2, _⟩ := at_some (L := V) (k := q.of_.toNat) (by omega)
          refine aw_weak (F0 := [(7, .bool true), (8, .sl 1005 0 R.length), (9, ints lo), (10, ints hi), (11, iv m), (12, ints V), (16, .ptr 16 0 0), (18, .ptr 18 0 0), (97, .sl 1005 0 R.length), (98, iv (R.length : Int)), (99, iv (((k) : Nat) : Int)), (20, .ptr 1005 k 0)]) (H0 := [(1005, .cells 50 4 ((L2).map cR) true), (16, .cells 47 8 [(bs).map AV.bool] true), (18, .cells 47 8 [(W).map AV.bool] true)]) (weak_to (.cons rfl (rc_same rfl (.inl rfl)) (.cons rfl (rc_same rfl (.inl rfl)) (.cons rfl (rc_same rfl (.inl rfl)) (.cons rfl (rc_same rfl (.inl rfl)) (.cons rfl (rc_same rfl (.inl rfl)) (.cons rfl (rc_same rfl (.inl rfl)) (.cons rfl (rc_same rfl (.inl rfl)) (.cons rfl (rc_same rfl (.inl rfl)) (.cons rfl (rc_same rfl (.inl rfl)) (.cons rfl (rc_same rfl (.inl rfl)) (.cons rfl (rc_same rfl (.inl rfl)) (.cons rfl (rc_same rfl (.inl rfl)) (.nil))))))))))))) (.keep ((by rw [← hL2]; rfl)) rfl (.keep (rfl) rfl (.keep (rfl) rfl (.nil)))) (fun i h => by cases h)) ?_
          
          refine aw_draw hmix ?_
          refine rs_mv rfl rfl ?_
          first | refine rs_nilc_p rfl rfl ?_ | refine rs_nilc_r rfl rfl ?_
          first | refine rs_fa_p rfl rfl ?_ | refine rs_fa_r rfl rfl rfl ?_
          refine rs_ld_g rfl rfl rfl hr2 rfl ?_
          refine rs_mv rfl rfl ?_
          first | refine rs_nilc_p rfl rfl ?_ | refine rs_nilc_r rfl rfl ?_
          first | refine rs_fa_p rfl rfl ?_ | refine rs_fa_r rfl rfl rfl ?_
          refine rs_ld_g rfl rfl rfl hr2 rfl ?_
          refine rs_ixarr_p rfl rfl rfl (by omega) (by omega) ?_
          refine rs_ld_f (k := q.probe.toNat) rfl rfl rfl (by simp) hwk ?_
          refine rs_mv rfl rfl ?_
          cases h151 : w
          · skip
            refine rs_mv rfl rfl ?_
            refine rs_mv rfl rfl ?_
            first | refine rs_nilc_p rfl rfl ?_ | refine rs_nilc_r rfl rfl ?_
            first | refine rs_fa_p rfl rfl ?_ | refine rs_fa_r rfl rfl rfl ?_
            refine rs_ld_g rfl rfl rfl hr2 rfl ?_
            refine rs_ix_g rfl rfl rfl (by omega) hv2 ?_
            refine rs_ld_r rfl rfl rfl ?_
            refine rs_mv rfl rfl ?_
            first | refine rs_nilc_p rfl rfl ?_ | refine rs_nilc_r rfl rfl ?_
            first | refine rs_fa_p rfl rfl ?_ | refine rs_fa_r rfl rfl rfl ?_
            refine rs_ld_g rfl rfl rfl hr2 rfl ?_
            refine rs_cmp rfl rfl rfl rfl (fun h163 => ?_) (fun h163 => ?_)
            · skip
              refine rs_pick rfl rfl rfl ?_
              refine rs_mv rfl rfl ?_
              refine rs_skip rfl ?_
              refine rs_skip rfl ?_
              refine rs_skip rfl ?_
              refine rs_skip rfl ?_
              refine rs_skip rfl ?_
              refine rs_skip rfl ?_
              refine rs_skip rfl ?_
              refine rs_skip rfl ?_
              refine rs_skip rfl ?_
              refine rs_skip rfl ?_
              refine rs_skip rfl ?_
              refine rs_skip rfl ?_
              refine rs_pick rfl rfl rfl ?_
              refine rs_ixarr_p rfl rfl rfl (by omega) (by omega) ?_
              refine rs_st_f (k := q.probe.toNat) (y := true) rfl rfl rfl rfl rfl rfl rfl (by simp) (by omega) ?_
              refine rs_nil ⟨by kernel_rfl, fun _ => ?_⟩
              refine in_n ?_
              refine th_n ?_
              refine aw_reg ?_
              first | refine rs_add rfl rfl rfl (by omega) ?_ | refine rs_addw rfl rfl rfl rfl ?_
              refine rs_mv rfl rfl ?_
              refine rs_nil fun _ => ?_
              refine th_n ?_
              first
                | exact ⟨(k + 1, L2, W.set q.probe.toNat true), fix_end hx (by omega) hfx hr2 hwk (.inl rfl), by simp; omega, weak_to (.cons rfl (rc_same rfl (.inl rfl)) (.cons rfl (rc_same rfl (.inl rfl)) (.cons rfl (rc_same rfl (.inl rfl)) (.cons rfl (rc_same rfl (.inl rfl)) (.cons rfl (rc_same rfl (.inl rfl)) (.cons rfl (rc_same rfl (.inl rfl)) (.cons rfl (rc_same rfl (.inl rfl)) (.cons rfl (rc_same rfl (.inl rfl)) (.cons rfl (rc_same rfl (.inl rfl)) (.cons rfl (rc_same rfl (.inl rfl)) (.cons rfl (rc_same rfl (.inl rfl)) (.nil)))))))))))) (.keep (rfl) rfl (.keep (rfl) rfl (.keep (rfl) rfl (.nil)))) (fun i h => by cases h)⟩
                | exact ⟨(k + 1, L2, W.set q.probe.toNat false), fix_end hx (by omega) hfx hr2 hwk (.inr ⟨h151, _, hv2, by omega, by omega⟩), by simp; omega, weak_to (.cons rfl (rc_same rfl (.inl rfl)) (.cons rfl (rc_same rfl (.inl rfl)) (.cons rfl (rc_same rfl (.inl rfl)) (.cons rfl (rc_same rfl (.inl rfl)) (.cons rfl (rc_same rfl (.inl rfl)) (.cons rfl (rc_same rfl (.inl rfl)) (.cons rfl (rc_same rfl (.inl rfl)) (.cons rfl (rc_same rfl (.inl rfl)) (.cons rfl (rc_same rfl (.inl rfl)) (.cons rfl (rc_same rfl (.inl rfl)) (.cons rfl (rc_same rfl (.inl rfl)) (.nil)))))))))))) (.keep (rfl) rfl (.keep (rfl) rfl (.keep (rfl) rfl (.nil)))) (fun i h => by cases h)⟩
            · skip
              refine rs_pick rfl rfl rfl ?_
              refine rs_mv rfl rfl ?_
              refine rs_mv rfl rfl ?_
              refine rs_mv rfl rfl ?_
              first | refine rs_nilc_p rfl rfl ?_ | refine rs_nilc_r rfl rfl ?_
              first | refine rs_fa_p rfl rfl ?_ | refine rs_fa_r rfl rfl rfl ?_
              refine rs_ld_g rfl rfl rfl hr2 rfl ?_
              refine rs_ix_g rfl rfl rfl (by omega) hv2 ?_
              refine rs_ld_r rfl rfl rfl ?_
              refine rs_mv rfl rfl ?_
              first | refine rs_nilc_p rfl rfl ?_ | refine rs_nilc_r rfl rfl ?_
              first | refine rs_fa_p rfl rfl ?_ | refine rs_fa_r rfl rfl rfl ?_
              refine rs_ld_g rfl rfl rfl hr2 rfl ?_
              refine rs_cmp rfl rfl rfl rfl (fun h177 => ?_) (fun h177 => ?_)
              · skip
                refine rs_pick rfl rfl rfl ?_
                refine rs_ixarr_p rfl rfl rfl (by omega) (by omega) ?_
                refine rs_st_f (k := q.probe.toNat) (y := true) rfl rfl rfl rfl rfl rfl rfl (by simp) (by omega) ?_
                refine rs_nil ⟨by kernel_rfl, fun _ => ?_⟩
                refine in_n ?_
                refine th_n ?_
                refine aw_reg ?_
                first | refine rs_add rfl rfl rfl (by omega) ?_ | refine rs_addw rfl rfl rfl rfl ?_
                refine rs_mv rfl rfl ?_
                refine rs_nil fun _ => ?_
                refine th_n ?_
                first
                  | exact ⟨(k + 1, L2, W.set q.probe.toNat true), fix_end hx (by omega) hfx hr2 hwk (.inl rfl), by simp; omega, weak_to (.cons rfl (rc_same rfl (.inl rfl)) (.cons rfl (rc_same rfl (.inl rfl)) (.cons rfl (rc_same rfl (.inl rfl)) (.cons rfl (rc_same rfl (.inl rfl)) (.cons rfl (rc_same rfl (.inl rfl)) (.cons rfl (rc_same rfl (.inl rfl)) (.cons rfl (rc_same rfl (.inl rfl)) (.cons rfl (rc_same rfl (.inl rfl)) (.cons rfl (rc_same rfl (.inl rfl)) (.cons rfl (rc_same rfl (.inl rfl)) (.cons rfl (rc_same rfl (.inl rfl)) (.nil)))))))))))) (.keep (rfl) rfl (.keep (rfl) rfl (.keep (rfl) rfl (.nil)))) (fun i h => by cases h)⟩
                  | exact ⟨(k + 1, L2, W.set q.probe.toNat false), fix_end hx (by omega) hfx hr2 hwk (.inr ⟨h151, _, hv2, by omega, by omega⟩), by simp; omega, weak_to (.cons rfl (rc_same rfl (.inl rfl)) (.cons rfl (rc_same rfl (.inl rfl)) (.cons rfl (rc_same rfl (.inl rfl)) (.cons rfl (rc_same rfl (.inl rfl)) (.cons rfl (rc_same rfl (.inl rfl)) (.cons rfl (rc_same rfl (.inl rfl)) (.cons rfl (rc_same rfl (.inl rfl)) (.cons rfl (rc_same rfl (.inl rfl)) (.cons rfl (rc_same rfl (.inl rfl)) (.cons rfl (rc_same rfl (.inl rfl)) (.cons rfl (rc_same rfl (.inl rfl)) (.nil)))))))))))) (.keep (rfl) rfl (.keep (rfl) rfl (.keep (rfl) rfl (.nil)))) (fun i h => by cases h)⟩
              · skip
                refine rs_pick rfl rfl rfl ?_
                refine rs_ixarr_p rfl rfl rfl (by omega) (by omega) ?_
                refine rs_st_f (k := q.probe.toNat) (y := false) rfl rfl rfl rfl rfl rfl rfl (by simp) (by omega) ?_
                refine rs_nil ⟨by kernel_rfl, fun _ => ?_⟩
                refine in_n ?_
                refine th_n ?_
                refine aw_reg ?_
                first | refine rs_add rfl rfl rfl (by omega) ?_ | refine rs_addw rfl rfl rfl rfl ?_
                refine rs_mv rfl rfl ?_
                refine rs_nil fun _ => ?_
                refine th_n ?_
                first
                  | exact ⟨(k + 1, L2, W.set q.probe.toNat true), fix_end hx (by omega) hfx hr2 hwk (.inl rfl), by simp; omega, weak_to (.cons rfl (rc_same rfl (.inl rfl)) (.cons rfl (rc_same rfl (.inl rfl)) (.cons rfl (rc_same rfl (.inl rfl)) (.cons rfl (rc_same rfl (.inl rfl)) (.cons rfl (rc_same rfl (.inl rfl)) (.cons rfl (rc_same rfl (.inl rfl)) (.cons rfl (rc_same rfl (.inl rfl)) (.cons rfl (rc_same rfl (.inl rfl)) (.cons rfl (rc_same rfl (.inl rfl)) (.cons rfl (rc_same rfl (.inl rfl)) (.cons rfl (rc_same rfl (.inl rfl)) (.nil)))))))))))) (.keep (rfl) rfl (.keep (rfl) rfl (.keep (rfl) rfl (.nil)))) (fun i h => by cases h)⟩
                  | exact ⟨(k + 1, L2, W.set q.probe.toNat false), fix_end hx (by omega) hfx hr2 hwk (.inr ⟨h151, _, hv2, by omega, by omega⟩), by simp; omega, weak_to (.cons rfl (rc_same rfl (.inl rfl)) (.cons rfl (rc_same rfl (.inl rfl)) (.cons rfl (rc_same rfl (.inl rfl)) (.cons rfl (rc_same rfl (.inl rfl)) (.cons rfl (rc_same rfl (.inl rfl)) (.cons rfl (rc_same rfl (.inl rfl)) (.cons rfl (rc_same rfl (.inl rfl)) (.cons rfl (rc_same rfl (.inl rfl)) (.cons rfl (rc_same rfl (.inl rfl)) (.cons rfl (rc_same rfl (.inl rfl)) (.cons rfl (rc_same rfl (.inl rfl)) (.nil)))))))))))) (.keep (rfl) rfl (.keep (rfl) rfl (.keep (rfl) rfl (.nil)))) (fun i h => by cases h)⟩
          · skip
            refine rs_skip rfl ?_
            refine rs_skip rfl ?_
            refine rs_skip rfl ?_
            refine rs_skip rfl ?_
            refine rs_skip rfl ?_
            refine rs_skip rfl ?_
            refine rs_skip rfl ?_
            refine rs_skip rfl ?_
            refine rs_skip rfl ?_
            refine rs_skip rfl ?_
            refine rs_skip rfl ?_
            refine rs_skip rfl ?_
            refine rs_pick rfl rfl rfl ?_
            refine rs_mv rfl rfl ?_
            refine rs_skip rfl ?_
            refine rs_skip rfl ?_
            refine rs_skip rfl ?_
            refine rs_skip rfl ?_
            refine rs_skip rfl ?_
            refine rs_skip rfl ?_
            refine rs_skip rfl ?_
            refine rs_skip rfl ?_
            refine rs_skip rfl ?_
            refine rs_skip rfl ?_
            refine rs_skip rfl ?_
            refine rs_skip rfl ?_
            refine rs_pick rfl rfl rfl ?_
            refine rs_ixarr_p rfl rfl rfl (by omega) (by omega) ?_
            refine rs_st_f (k := q.probe.toNat) (y := true) rfl rfl rfl rfl rfl rfl rfl (by simp) (by omega) ?_
            refine rs_nil ⟨by kernel_rfl, fun _ => ?_⟩
            refine in_n ?_
            refine th_n ?_
            refine aw_reg ?_
            first | refine rs_add rfl rfl rfl (by omega) ?_ | refine rs_addw rfl rfl rfl rfl ?_
            refine rs_mv rfl rfl ?_
            refine rs_nil fun _ => ?_
            refine th_n ?_
            first
              | exact ⟨(k + 1, L2, W.set q.probe.toNat true), fix_end hx (by omega) hfx hr2 hwk (.inl rfl), by simp; omega, weak_to (.cons rfl (rc_same rfl (.inl rfl)) (.cons rfl (rc_same rfl (.inl rfl)) (.cons rfl (rc_same rfl (.inl rfl)) (.cons rfl (rc_same rfl (.inl rfl)) (.cons rfl (rc_same rfl (.inl rfl)) (.cons rfl (rc_same rfl (.inl rfl)) (.cons rfl (rc_same rfl (.inl rfl)) (.cons rfl (rc_same rfl (.inl rfl)) (.cons rfl (rc_same rfl (.inl rfl)) (.cons rfl (rc_same rfl (.inl rfl)) (.cons rfl (rc_same rfl (.inl rfl)) (.nil)))))))))))) (.keep (rfl) rfl (.keep (rfl) rfl (.keep (rfl) rfl (.nil)))) (fun i h => by cases h)⟩
              | exact ⟨(k + 1, L2, W.set q.probe.toNat false), fix_end hx (by omega) hfx hr2 hwk (.inr ⟨h151, _, hv2, by omega, by omega⟩), by simp; omega, weak_to (.cons rfl (rc_same rfl (.inl rfl)) (.cons rfl (rc_same rfl (.inl rfl)) (.cons rfl (rc_same rfl (.inl rfl)) (.cons rfl (rc_same rfl (.inl rfl)) (.cons rfl (rc_same rfl (.inl rfl)) (.cons rfl (rc_same rfl (.inl rfl)) (.cons rfl (rc_same rfl (.inl rfl)) (.cons rfl (rc_same rfl (.inl rfl)) (.cons rfl (rc_same rfl (.inl rfl)) (.cons rfl (rc_same rfl (.inl rfl)) (.cons rfl (rc_same rfl (.inl rfl)) (.nil)))))))))))) (.keep (rfl) rfl (.keep (rfl) rfl (.keep (rfl) rfl (.nil)))) (fun i h => by cases h)⟩
        · first | replace h110 := of_decide_eq_false h110 | skip
          refine aw_skip ?_
          refine th_n ?_
          obtain ⟨L2, hL2, hfx⟩ : ∃ L2, L = L2 ∧ Fx n V bs L k L2 := ⟨_, rfl, fix_f hx.lok hr (by rw [hbk, h110])⟩
          obtain ⟨q, hr2, _⟩ := at_some (L := L2) (k := k) (by have := hfx.len; omega)
          have hqk := hfx.lok q (mem_of_at hr2)
          have hW8 := hx.lenW
          obtain ⟨w, hwk, _⟩ := at_some (L := W) (k := q.probe.toNat) (by omega)
          obtain ⟨v2, hv2, _⟩ := at_some (L := V) (k := q.of_.toNat) (by omega)
          refine aw_weak (F0 := [(7, .bool true), (8, .sl 1005 0 R.length), (9, ints lo), (10, ints hi), (11, iv m), (12, ints V), (16, .ptr 16 0 0), (18, .ptr 18 0 0), (97, .sl 1005 0 R.length), (98, iv (R.length : Int)), (99, iv (((k) : Nat) : Int)), (20, .ptr 1005 k 0)]) (H0 := [(1005, .cells 50 4 ((L2).map cR) true), (16, .cells 47 8 [(bs).map AV.bool] true), (18, .cells 47 8 [(W).map AV.bool] true)]) (weak_to (.cons rfl (rc_same rfl (.inl rfl)) (.cons rfl (rc_same rfl (.inl rfl)) (.cons rfl (rc_same rfl (.inl rfl)) (.cons rfl (rc_same rfl (.inl rfl)) (.cons rfl (rc_same rfl (.inl rfl)) (.cons rfl (rc_same rfl (.inl rfl)) (.cons rfl (rc_same rfl (.inl rfl)) (.cons rfl (rc_same rfl (.inl rfl)) (.cons rfl (rc_same rfl (.inl rfl)) (.cons rfl (rc_same rfl (.inl rfl)) (.cons rfl (rc_same rfl (.inl rfl)) (.cons rfl (rc_same rfl (.inl rfl)) (.nil))))))))))))) (.keep ((by rw [← hL2]; rfl)) rfl (.keep (rfl) rfl (.keep (rfl) rfl (.nil)))) (fun i h => by cases h)) ?_
          
          refine aw_draw hmix ?_
          refine rs_mv rfl rfl ?_
          first | refine rs_nilc_p rfl rfl ?_ | refine rs_nilc_r rfl rfl ?_
          first | refine rs_fa_p rfl rfl ?_ | refine rs_fa_r rfl rfl rfl ?_
          refine rs_ld_g rfl rfl rfl hr2 rfl ?_
          refine rs_mv rfl rfl ?_
          first | refine rs_nilc_p rfl rfl ?_ | refine rs_nilc_r rfl rfl ?_
          first | refine rs_fa_p rfl rfl ?_ | refine rs_fa_r rfl rfl rfl ?_
          refine rs_ld_g rfl rfl rfl hr2 rfl ?_
          refine rs_ixarr_p rfl rfl rfl (by omega) (by omega) ?_
          refine rs_ld_f (k := q.probe.toNat) rfl rfl rfl (by simp) hwk ?_
          refine rs_mv rfl rfl ?_
          cases h151 : w
          · skip
            refine rs_mv rfl rfl ?_
            refine rs_mv rfl rfl ?_
            first | refine rs_nilc_p rfl rfl ?_ | refine rs_nilc_r rfl rfl ?_
            first | refine rs_fa_p rfl rfl ?_ | refine rs_fa_r rfl rfl rfl ?_
            refine rs_ld_g rfl rfl rfl hr2 rfl ?_
            refine rs_ix_g rfl rfl rfl (by omega) hv2 ?_
            refine rs_ld_r rfl rfl rfl ?_
            refine rs_mv rfl rfl ?_
            first | refine rs_nilc_p rfl rfl ?_ | refine rs_nilc_r rfl rfl ?_
            first | refine rs_fa_p rfl rfl ?_ | refine rs_fa_r rfl rfl rfl ?_
            refine rs_ld_g rfl rfl rfl hr2 rfl ?_
            refine rs_cmp rfl rfl rfl rfl (fun h163 => ?_) (fun h163 => ?_)
            · skip
              refine rs_pick rfl rfl rfl ?_
              refine rs_mv rfl rfl ?_
              refine rs_skip rfl ?_
              refine rs_skip rfl ?_
              refine rs_skip rfl ?_
              refine rs_skip rfl ?_
              refine rs_skip rfl ?_
              refine rs_skip rfl ?_
              refine rs_skip rfl ?_
              refine rs_skip rfl ?_
              refine rs_skip rfl ?_
              refine rs_skip rfl ?_
              refine rs_skip rfl ?_
              refine rs_skip rfl ?_
              refine rs_pick rfl rfl rfl ?_
              refine rs_ixarr_p rfl rfl rfl (by omega) (by omega) ?_
              refine rs_st_f (k := q.probe.toNat) (y := true) rfl rfl rfl rfl rfl rfl rfl (by simp) (by omega) ?_
              refine rs_nil ⟨by kernel_rfl, fun _ => ?_⟩
              refine in_n ?_
              refine th_n ?_
              refine aw_reg ?_
              first | refine rs_add rfl rfl rfl (by omega) ?_ | refine rs_addw rfl rfl rfl rfl ?_
              refine rs_mv rfl rfl ?_
              refine rs_nil fun _ => ?_
              refine th_n ?_
              first
                | exact ⟨(k + 1, L2, W.set q.probe.toNat true), fix_end hx (by omega) hfx hr2 hwk (.inl rfl), by simp; omega, weak_to (.cons rfl (rc_same rfl (.inl rfl)) (.cons rfl (rc_same rfl (.inl rfl)) (.cons rfl (rc_same rfl (.inl rfl)) (.cons rfl (rc_same rfl (.inl rfl)) (.cons rfl (rc_same rfl (.inl rfl)) (.cons rfl (rc_same rfl (.inl rfl)) (.cons rfl (rc_same rfl (.inl rfl)) (.cons rfl (rc_same rfl (.inl rfl)) (.cons rfl (rc_same rfl (.inl rfl)) (.cons rfl (rc_same rfl (.inl rfl)) (.cons rfl (rc_same rfl (.inl rfl)) (.nil)))))))))))) (.keep (rfl) rfl (.keep (rfl) rfl (.keep (rfl) rfl (.nil)))) (fun i h => by cases h)⟩
                | exact ⟨(k + 1, L2, W.set q.probe.toNat false), fix_end hx (by omega) hfx hr2 hwk (.inr ⟨h151, _, hv2, by omega, by omega⟩), by simp; omega, weak_to (.cons rfl (rc_same rfl (.inl rfl)) (.cons rfl (rc_same rfl (.inl rfl)) (.cons rfl (rc_same rfl (.inl rfl)) (.cons rfl (rc_same rfl (.inl rfl)) (.cons rfl (rc_same rfl (.inl rfl)) (.cons rfl (rc_same rfl (.inl rfl)) (.cons rfl (rc_same rfl (.inl rfl)) (.cons rfl (rc_same rfl (.inl rfl)) (.cons rfl (rc_same rfl (.inl rfl)) (.cons rfl (rc_same rfl (.inl rfl)) (.cons rfl (rc_same rfl (.inl rfl)) (.nil)))))))))))) (.keep (rfl) rfl (.keep (rfl) rfl (.keep (rfl) rfl (.nil)))) (fun i h => by cases h)⟩
            · skip
              refine rs_pick rfl rfl rfl ?_
              refine rs_mv rfl rfl ?_
              refine rs_mv rfl rfl ?_
              refine rs_mv rfl rfl ?_
              first | refine rs_nilc_p rfl rfl ?_ | refine rs_nilc_r rfl rfl ?_
              first | refine rs_fa_p rfl rfl ?_ | refine rs_fa_r rfl rfl rfl ?_
              refine rs_ld_g rfl rfl rfl hr2 rfl ?_
              refine rs_ix_g rfl rfl rfl (by omega) hv2 ?_
              refine rs_ld_r rfl rfl rfl ?_
              refine rs_mv rfl rfl ?_
              first | refine rs_nilc_p rfl rfl ?_ | refine rs_nilc_r rfl rfl ?_
              first | refine rs_fa_p rfl rfl ?_ | refine rs_fa_r rfl rfl rfl ?_
              refine rs_ld_g rfl rfl rfl hr2 rfl ?_
              refine rs_cmp rfl rfl rfl rfl (fun h177 => ?_) (fun h177 => ?_)
              · skip
                refine rs_pick rfl rfl rfl ?_
                refine rs_ixarr_p rfl rfl rfl (by omega) (by omega) ?_
                refine rs_st_f (k := q.probe.toNat) (y := true) rfl rfl rfl rfl rfl rfl rfl (by simp) (by omega) ?_
                refine rs_nil ⟨by kernel_rfl, fun _ => ?_⟩
                refine in_n ?_
                refine th_n ?_
                refine aw_reg ?_
                first | refine rs_add rfl rfl rfl (by omega) ?_ | refine rs_addw rfl rfl rfl rfl ?_
                refine rs_mv rfl rfl ?_
                refine rs_nil fun _ => ?_
                refine th_n ?_
                first
                  | exact ⟨(k + 1, L2, W.set q.probe.toNat true), fix_end hx (by omega) hfx hr2 hwk (.inl rfl), by simp; omega, weak_to (.cons rfl (rc_same rfl (.inl rfl)) (.cons rfl (rc_same rfl (.inl rfl)) (.cons rfl (rc_same rfl (.inl rfl)) (.cons rfl (rc_same rfl (.inl rfl)) (.cons rfl (rc_same rfl (.inl rfl)) (.cons rfl (rc_same rfl (.inl rfl)) (.cons rfl (rc_same rfl (.inl rfl)) (.cons rfl (rc_same rfl (.inl rfl)) (.cons rfl (rc_same rfl (.inl rfl)) (.cons rfl (rc_same rfl (.inl rfl)) (.cons rfl (rc_same rfl (.inl rfl)) (.nil)))))))))))) (.keep (rfl) rfl (.keep (rfl) rfl (.keep (rfl) rfl (.nil)))) (fun i h => by cases h)⟩
                  | exact ⟨(k + 1, L2, W.set q.probe.toNat false), fix_end hx (by omega) hfx hr2 hwk (.inr ⟨h151, _, hv2, by omega, by omega⟩), by simp; omega, weak_to (.cons rfl (rc_same rfl (.inl rfl)) (.cons rfl (rc_same rfl (.inl rfl)) (.cons rfl (rc_same rfl (.inl rfl)) (.cons rfl (rc_same rfl (.inl rfl)) (.cons rfl (rc_same rfl (.inl rfl)) (.cons rfl (rc_same rfl (.inl rfl)) (.cons rfl (rc_same rfl (.inl rfl)) (.cons rfl (rc_same rfl (.inl rfl)) (.cons rfl (rc_same rfl (.inl rfl)) (.cons rfl (rc_same rfl (.inl rfl)) (.cons rfl (rc_same rfl (.inl rfl)) (.nil)))))))))))) (.keep (rfl) rfl (.keep (rfl) rfl (.keep (rfl) rfl (.nil)))) (fun i h => by cases h)⟩
              · skip
                refine rs_pick rfl rfl rfl ?_
                refine rs_ixarr_p rfl rfl rfl (by omega) (by omega) ?_
                refine rs_st_f (k := q.probe.toNat) (y := false) rfl rfl rfl rfl rfl rfl rfl (by simp) (by omega) ?_
                refine rs_nil ⟨by kernel_rfl, fun _ => ?_⟩
                refine in_n ?_
                refine th_n ?_
                refine aw_reg ?_
                first | refine rs_add rfl rfl rfl (by omega) ?_ | refine rs_addw rfl rfl rfl rfl ?_
                refine rs_mv rfl rfl ?_
                refine rs_nil fun _ => ?_
                refine th_n ?_
                first
                  | exact ⟨(k + 1, L2, W.set q.probe.toNat true), fix_end hx (by omega) hfx hr2 hwk (.inl rfl), by simp; omega, weak_to (.cons rfl (rc_same rfl (.inl rfl)) (.cons rfl (rc_same rfl (.inl rfl)) (.cons rfl (rc_same rfl (.inl rfl)) (.cons rfl (rc_same rfl (.inl rfl)) (.cons rfl (rc_same rfl (.inl rfl)) (.cons rfl (rc_same rfl (.inl rfl)) (.cons rfl (rc_same rfl (.inl rfl)) (.cons rfl (rc_same rfl (.inl rfl)) (.cons rfl (rc_same rfl (.inl rfl)) (.cons rfl (rc_same rfl (.inl rfl)) (.cons rfl (rc_same rfl (.inl rfl)) (.nil)))))))))))) (.keep (rfl) rfl (.keep (rfl) rfl (.keep (rfl) rfl (.nil)))) (fun i h => by cases h)⟩
                  | exact ⟨(k + 1, L2, W.set q.probe.toNat false), fix_end hx (by omega) hfx hr2 hwk (.inr ⟨h151, _, hv2, by omega, by omega⟩), by simp; omega, weak_to (.cons rfl (rc_same rfl (.inl rfl)) (.cons rfl (rc_same rfl (.inl rfl)) (.cons rfl (rc_same rfl (.inl rfl)) (.cons rfl (rc_same rfl (.inl rfl)) (.cons rfl (rc_same rfl (.inl rfl)) (.cons rfl (rc_same rfl (.inl rfl)) (.cons rfl (rc_same rfl (.inl rfl)) (.cons rfl (rc_same rfl (.inl rfl)) (.cons rfl (rc_same rfl (.inl rfl)) (.cons rfl (rc_same rfl (.inl rfl)) (.cons rfl (rc_same rfl (.inl rfl)) (.nil)))))))))))) (.keep (rfl) rfl (.keep (rfl) rfl (.keep (rfl) rfl (.nil)))) (fun i h => by cases h)⟩
          · skip
            refine rs_skip rfl ?_
            refine rs_skip rfl ?_
            refine rs_skip rfl ?_
            refine rs_skip rfl ?_
            refine rs_skip rfl ?_
            refine rs_skip rfl ?_
            refine rs_skip rfl ?_
            refine rs_skip rfl ?_
            refine rs_skip rfl ?_
            refine rs_skip rfl ?_
            refine rs_skip rfl ?_
            refine rs_skip rfl ?_
            refine rs_pick rfl rfl rfl ?_
            refine rs_mv rfl rfl ?_
            refine rs_skip rfl ?_
            refine rs_skip rfl ?_
            refine rs_skip rfl ?_
            refine rs_skip rfl ?_
            refine rs_skip rfl ?_
            refine rs_skip rfl ?_
            refine rs_skip rfl ?_
            refine rs_skip rfl ?_
            refine rs_skip rfl ?_
            refine rs_skip rfl ?_
            refine rs_skip rfl ?_
            refine rs_skip rfl ?_
            refine rs_pick rfl rfl rfl ?_
            refine rs_ixarr_p rfl rfl rfl (by omega) (by omega) ?_
            refine rs_st_f (k := q.probe.toNat) (y := true) rfl rfl rfl rfl rfl rfl rfl (by simp) (by omega) ?_
            refine rs_nil ⟨by kernel_rfl, fun _ => ?_⟩
            refine in_n ?_
            refine th_n ?_
            refine aw_reg ?_
            first | refine rs_add rfl rfl rfl (by omega) ?_ | refine rs_addw rfl rfl rfl rfl ?_
            refine rs_mv rfl rfl ?_
            refine rs_nil fun _ => ?_
            refine th_n ?_
            first
              | exact ⟨(k + 1, L2, W.set q.probe.toNat true), fix_end hx (by omega) hfx hr2 hwk (.inl rfl), by simp; omega, weak_to (.cons rfl (rc_same rfl (.inl rfl)) (.cons rfl (rc_same rfl (.inl rfl)) (.cons rfl (rc_same rfl (.inl rfl)) (.cons rfl (rc_same rfl (.inl rfl)) (.cons rfl (rc_same rfl (.inl rfl)) (.cons rfl (rc_same rfl (.inl rfl)) (.cons rfl (rc_same rfl (.inl rfl)) (.cons rfl (rc_same rfl (.inl rfl)) (.cons rfl (rc_same rfl (.inl rfl)) (.cons rfl (rc_same rfl (.inl rfl)) (.cons rfl (rc_same rfl (.inl rfl)) (.nil)))))))))))) (.keep (rfl) rfl (.keep (rfl) rfl (.keep (rfl) rfl (.nil)))) (fun i h => by cases h)⟩
              | exact ⟨(k + 1, L2, W.set q.probe.toNat false), fix_end hx (by omega) hfx hr2 hwk (.inr ⟨h151, _, hv2, by omega, by omega⟩), by simp; omega, weak_to (.cons rfl (rc_same rfl (.inl rfl)) (.cons rfl (rc_same rfl (.inl rfl)) (.cons rfl (rc_same rfl (.inl rfl)) (.cons rfl (rc_same rfl (.inl rfl)) (.cons rfl (rc_same rfl (.inl rfl)) (.cons rfl (rc_same rfl (.inl rfl)) (.cons rfl (rc_same rfl (.inl rfl)) (.cons rfl (rc_same rfl (.inl rfl)) (.cons rfl (rc_same rfl (.inl rfl)) (.cons rfl (rc_same rfl (.inl rfl)) (.cons rfl (rc_same rfl (.inl rfl)) (.nil)))))))))))) (.keep (rfl) rfl (.keep (rfl) rfl (.keep (rfl) rfl (.nil)))) (fun i h => by cases h)⟩
      · first | replace h100 := of_decide_eq_false h100 | skip
        refine aw_exit ?_
        refine th_e ?_
        refine th_e ?_
        refine in_hit ?_
        refine th_n ?_
        refine aw_seq ?_
        obtain rfl : k = R.length := by omega
        obtain ⟨A, B, Ls, c21, c24, c26, hlA, hlB, hlL, hAB, hLs⟩ := truth_calls hm hV hVi hbs hf hc hx
        refine aw_weak (F0 := [(7, .bool true), (9, ints lo), (10, ints hi), (11, iv m), (12, ints V), (18, .ptr 18 0 0), (8, .rs 4 (L.map cR))]) (H0 := [(18, .cells 47 8 [W.map AV.bool] true)]) (weak_to (.cons rfl (rc_same rfl (.inl rfl)) (.cons rfl (rc_same rfl (.inl rfl)) (.cons rfl (rc_same rfl (.inl rfl)) (.cons rfl (rc_same rfl (.inl rfl)) (.cons rfl (rc_same rfl (.inl rfl)) (.cons rfl (rc_same rfl (.inl rfl)) (.cons rfl (rc_frz rfl rfl hx.len (fun _ => rfl)) (.nil)))))))) (.keep (rfl) rfl (.nil)) (fun i h => by cases h)) ?_
        refine aw_reg ?_
        refine rs_mv rfl rfl ?_
        refine rs_mv rfl rfl ?_
        refine rs_mv rfl rfl ?_
        refine rs_mv rfl rfl ?_
        refine rs_calln [] rfl rfl (c21) (.cons (hv_same rfl) (.cons (hv_same rfl) (.cons (hv_same rfl) (.cons (hv_same rfl) (.nil))))) rfl ?_
        refine rs_mv rfl rfl ?_
        refine rs_ext rfl rfl rfl ?_
        refine rs_ext rfl rfl rfl ?_
        refine rs_ext rfl rfl rfl ?_
        refine rs_mv rfl rfl ?_
        refine rs_mv rfl rfl ?_
        refine rs_mv rfl rfl ?_
        refine rs_nil fun _ => ?_
        refine th_n ?_
        refine aw_seq ?_
        refine aw_reg ?_
        refine rs_mv rfl rfl ?_
        refine rs_mv rfl rfl ?_
        refine rs_mv rfl rfl ?_
        refine rs_mv rfl rfl ?_
        refine rs_calln [] rfl rfl (c24) (.cons (hv_same rfl) (.cons (hv_same rfl) (.cons (hv_same rfl) (.cons (hv_same rfl) (.nil))))) rfl ?_
        refine rs_mv rfl rfl ?_
        refine rs_ext rfl rfl rfl ?_
        refine rs_ext rfl rfl rfl ?_
        refine rs_mv rfl rfl ?_
        refine rs_mv rfl rfl ?_
        refine rs_nil fun _ => ?_
        refine th_n ?_
        refine aw_seq ?_
        refine aw_seq ?_
        refine aw_reg ?_
        refine rs_mv rfl rfl ?_
        refine rs_cmp_f rfl rfl rfl rfl (fun h => h rfl) ?_
        refine rs_mv rfl rfl ?_
        refine rs_mv rfl rfl ?_
        refine rs_cmp_f rfl rfl rfl rfl (fun h => h rfl) ?_
        refine rs_pick rfl rfl rfl ?_
        refine rs_mv rfl rfl ?_
        refine rs_mv rfl rfl ?_
        first | refine rs_len_m rfl rfl ?_ | refine rs_len_s rfl rfl ?_ | refine rs_len_n rfl rfl ?_ | refine rs_len_r rfl rfl rfl ?_
        refine rs_mv rfl rfl ?_
        first | refine rs_len_m rfl rfl ?_ | refine rs_len_s rfl rfl ?_ | refine rs_len_n rfl rfl ?_ | refine rs_len_r rfl rfl rfl ?_
        refine rs_cmp_f rfl rfl rfl rfl (by omega) ?_
        refine rs_pick rfl rfl rfl ?_
        refine rs_mv rfl rfl ?_
        refine rs_mv rfl rfl ?_
        first | refine rs_len_m rfl rfl ?_ | refine rs_len_s rfl rfl ?_ | refine rs_len_n rfl rfl ?_ | refine rs_len_r rfl rfl rfl ?_
        refine rs_mv rfl rfl ?_
        first | refine rs_len_m rfl rfl ?_ | refine rs_len_s rfl rfl ?_ | refine rs_len_n rfl rfl ?_ | refine rs_len_r rfl rfl rfl ?_
        refine rs_cmp_f rfl rfl rfl rfl (by omega) ?_
        refine rs_pick rfl rfl rfl ?_
        refine rs_mv rfl rfl ?_
        refine rs_mv rfl rfl ?_
        refine rs_mv rfl rfl ?_
        refine rs_mv rfl rfl ?_
        refine rs_calln [] rfl rfl (c26) (.cons (hv_same rfl) (.cons (hv_same rfl) (.cons (hv_same rfl) (.nil)))) rfl ?_
        refine rs_not rfl rfl ?_
        refine rs_pick rfl rfl rfl ?_
        refine rs_nil fun _ => ?_
        refine th_n ?_
        refine aw_cond rfl (fun h => by cases h) (fun _ => ?_)
        refine aw_skip ?_
        refine th_n ?_
        refine aw_seq ?_
        refine aw_seq ?_
        refine aw_reg ?_
        refine rs_mv rfl rfl ?_
        first | refine rs_len_m rfl rfl ?_ | refine rs_len_s rfl rfl ?_ | refine rs_len_n rfl rfl ?_ | refine rs_len_r rfl rfl rfl ?_
        refine rs_mv rfl rfl ?_
        refine rs_nil fun _ => ?_
        refine th_n ?_
        refine aw_block ?_
        refine aw_fam (α := Nat) (fun k => n - k) (fun k => [(7, .bool true), (9, ints lo), (10, ints hi), (12, ints V), (18, .ptr 18 0 0), (21, ints A), (22, ints B), (24, ints Ls), (225, ints V), (226, iv (V.length : Int)), (227, iv (((k) : Nat) : Int))]) (fun k => [(18, .cells 47 8 [W.map AV.bool] true)]) (fun k => k ≤ n) 0 (by omega)
          (weak_to (.cons rfl (rc_same rfl (.inl rfl)) (.cons rfl (rc_same rfl (.inl rfl)) (.cons rfl (rc_same rfl (.inl rfl)) (.cons rfl (rc_same rfl (.inl rfl)) (.cons rfl (rc_same rfl (.inl rfl)) (.cons rfl (rc_same rfl (.inl rfl)) (.cons rfl (rc_same rfl (.inl rfl)) (.cons rfl (rc_same rfl (.inl rfl)) (.cons rfl (rc_same rfl (.inl rfl)) (.cons rfl (rc_same rfl (.inl rfl)) (.cons rfl (rc_same rfl (.inl rfl)) (.nil)))))))))))) (.keep (rfl) rfl (.nil)) (fun i h => by cases h)) ?_
        intro k hk
        refine aw_seq ?_
        refine aw_reg ?_
        refine rs_lss rfl rfl rfl ?_
        refine rs_nil fun _ => ?_
        refine th_n ?_
        refine aw_seq ?_
        refine aw_cond rfl (fun h228 => ?_) (fun h228 => ?_)
        · first | replace h228 := of_decide_eq_true h228 | skip
          refine aw_skip ?_
          refine th_n ?_
          refine aw_seq ?_
          refine aw_block ?_
          refine aw_seq ?_
          refine aw_reg ?_
          obtain ⟨a1, ha1, _⟩ := at_some (L := A) (k := k) (by omega)
          obtain ⟨b1, hb1, _⟩ := at_some (L := B) (k := k) (by omega)
          obtain ⟨v1, hv1, _⟩ := at_some (L := V) (k := k) (by omega)
          obtain ⟨l1, hl1, _⟩ := at_some (L := lo) (k := k) (by omega)
          obtain ⟨h1, hh1, _⟩ := at_some (L := hi) (k := k) (by omega)
          have hb5 := hAB k a1 b1 v1 l1 h1 ha1 hb1 hv1 hl1 hh1
          refine rs_mv rfl rfl ?_
          refine rs_mv rfl rfl ?_
          refine rs_nil fun _ => ?_
          refine th_n ?_
          refine aw_seq ?_
          refine aw_draw hmix ?_
          refine rs_mv rfl rfl ?_
          refine rs_mv rfl rfl ?_
          refine rs_ix_g rfl rfl rfl (by omega) ha1 ?_
          refine rs_ld_r rfl rfl rfl ?_
          refine rs_mv rfl rfl ?_
          refine rs_mv rfl rfl ?_
          refine rs_ix_g rfl rfl rfl (by omega) hl1 ?_
          refine rs_ld_r rfl rfl rfl ?_
          refine rs_cmp_f rfl rfl rfl rfl (by omega) ?_
          refine rs_mv rfl rfl ?_
          refine rs_mv rfl rfl ?_
          refine rs_mv rfl rfl ?_
          refine rs_ix_g rfl rfl rfl (by omega) ha1 ?_
          refine rs_ld_r rfl rfl rfl ?_
          refine rs_mv rfl rfl ?_
          refine rs_mv rfl rfl ?_
          refine rs_ix_g rfl rfl rfl (by omega) hv1 ?_
          refine rs_ld_r rfl rfl rfl ?_
          refine rs_cmp_f rfl rfl rfl rfl (by omega) ?_
          refine rs_pick rfl rfl rfl ?_
          refine rs_mv rfl rfl ?_
          refine rs_mv rfl rfl ?_
          refine rs_mv rfl rfl ?_
          refine rs_ix_g rfl rfl rfl (by omega) hb1 ?_
          refine rs_ld_r rfl rfl rfl ?_
          refine rs_mv rfl rfl ?_
          refine rs_mv rfl rfl ?_
          refine rs_ix_g rfl rfl rfl (by omega) hv1 ?_
          refine rs_ld_r rfl rfl rfl ?_
          refine rs_cmp_f rfl rfl rfl rfl (by omega) ?_
          refine rs_pick rfl rfl rfl ?_
          refine rs_mv rfl rfl ?_
          refine rs_mv rfl rfl ?_
          refine rs_mv rfl rfl ?_
          refine rs_ix_g rfl rfl rfl (by omega) hb1 ?_
          refine rs_ld_r rfl rfl rfl ?_
          refine rs_mv rfl rfl ?_
          refine rs_mv rfl rfl ?_
          refine rs_ix_g rfl rfl rfl (by omega) hh1 ?_
          refine rs_ld_r rfl rfl rfl ?_
          refine rs_cmp_f rfl rfl rfl rfl (by omega) ?_
          refine rs_pick rfl rfl rfl ?_
          refine rs_nil ⟨by kernel_rfl, fun _ => ?_⟩
          refine th_n ?_
          refine aw_cond rfl (fun h => by cases h) (fun _ => ?_)
          refine aw_skip ?_
          refine in_n ?_
          refine th_n ?_
          refine aw_reg ?_
          first | refine rs_add rfl rfl rfl (by omega) ?_ | refine rs_addw rfl rfl rfl rfl ?_
          refine rs_mv rfl rfl ?_
          refine rs_nil fun _ => ?_
          refine th_n ?_
          exact ⟨k + 1, by omega, by omega, weak_to (.cons rfl (rc_same rfl (.inl rfl)) (.cons rfl (rc_same rfl (.inl rfl)) (.cons rfl (rc_same rfl (.inl rfl)) (.cons rfl (rc_same rfl (.inl rfl)) (.cons rfl (rc_same rfl (.inl rfl)) (.cons rfl (rc_same rfl (.inl rfl)) (.cons rfl (rc_same rfl (.inl rfl)) (.cons rfl (rc_same rfl (.inl rfl)) (.cons rfl (rc_same rfl (.inl rfl)) (.cons rfl (rc_same rfl (.inl rfl)) (.cons rfl (rc_same rfl (.inl rfl)) (.nil)))))))))))) (.keep (rfl) rfl (.nil)) (fun i h => by cases h)⟩
        · first | replace h228 := of_decide_eq_false h228 | skip
          refine aw_exit ?_
          refine th_e ?_
          refine th_e ?_
          refine in_hit ?_
          refine th_n ?_
          refine aw_seq ?_
          refine aw_seq ?_
          refine aw_reg ?_
          refine rs_mv rfl rfl ?_
          first | refine rs_len_m rfl rfl ?_ | refine rs_len_s rfl rfl ?_ | refine rs_len_n rfl rfl ?_ | refine rs_len_r rfl rfl rfl ?_
          refine rs_mv rfl rfl ?_
          refine rs_nil fun _ => ?_
          refine th_n ?_
          refine aw_block ?_
          refine aw_fam (α := Nat) (fun k => Ls.length - k) (fun k => [(7, .bool true), (18, .ptr 18 0 0), (273, ints Ls), (274, iv (Ls.length : Int)), (275, iv (((k) : Nat) : Int))]) (fun k => [(18, .cells 47 8 [W.map AV.bool] true)]) (fun k => k ≤ Ls.length) 0 (by omega)
            (weak_to (.cons rfl (rc_same rfl (.inl rfl)) (.cons rfl (rc_same rfl (.inl rfl)) (.cons rfl (rc_same rfl (.inl rfl)) (.cons rfl (rc_same rfl (.inl rfl)) (.cons rfl (rc_same rfl (.inl rfl)) (.nil)))))) (.keep (rfl) rfl (.nil)) (fun i h => by cases h)) ?_
          intro k hk
          refine aw_seq ?_
          refine aw_reg ?_
          refine rs_lss rfl rfl rfl ?_
          refine rs_nil fun _ => ?_
          refine th_n ?_
          refine aw_seq ?_
          refine aw_cond rfl (fun h276 => ?_) (fun h276 => ?_)
          · first | replace h276 := of_decide_eq_true h276 | skip
            refine aw_skip ?_
            refine th_n ?_
            refine aw_seq ?_
            refine aw_block ?_
            refine aw_seq ?_
            refine aw_reg ?_
            obtain ⟨p, hp, _⟩ := at_some (L := Ls) (k := k) (by omega)
            obtain ⟨hp0, hp8, hpw⟩ := hLs k p hp
            refine rs_ix_g rfl rfl rfl (by omega) hp ?_
            refine rs_ld_r rfl rfl rfl ?_
            refine rs_mv rfl rfl ?_
            refine rs_nil fun _ => ?_
            refine th_n ?_
            refine aw_seq ?_
            refine aw_reg ?_
            refine rs_mv rfl rfl ?_
            refine rs_cmp_f rfl rfl rfl rfl (by omega) ?_
            refine rs_mv rfl rfl ?_
            refine rs_mv rfl rfl ?_
            refine rs_cmp_f rfl rfl rfl rfl (by omega) ?_
            refine rs_pick rfl rfl rfl ?_
            refine rs_mv rfl rfl ?_
            refine rs_mv rfl rfl ?_
            refine rs_ixarr_p rfl rfl rfl (by omega) (by omega) ?_
            refine rs_ld_f (k := p.toNat) rfl rfl rfl (by simp) hpw ?_
            refine rs_not rfl rfl ?_
            refine rs_pick rfl rfl rfl ?_
            refine rs_nil fun _ => ?_
            refine th_n ?_
            refine aw_cond rfl (fun h => by cases h) (fun _ => ?_)
            refine aw_skip ?_
            refine in_n ?_
            refine th_n ?_
            refine aw_reg ?_
            first | refine rs_add rfl rfl rfl (by omega) ?_ | refine rs_addw rfl rfl rfl rfl ?_
            refine rs_mv rfl rfl ?_
            refine rs_nil fun _ => ?_
            refine th_n ?_
            exact ⟨k + 1, by omega, by omega, weak_to (.cons rfl (rc_same rfl (.inl rfl)) (.cons rfl (rc_same rfl (.inl rfl)) (.cons rfl (rc_same rfl (.inl rfl)) (.cons rfl (rc_same rfl (.inl rfl)) (.cons rfl (rc_same rfl (.inl rfl)) (.nil)))))) (.keep (rfl) rfl (.nil)) (fun i h => by cases h)⟩
          · first | replace h276 := of_decide_eq_false h276 | skip
            refine aw_exit ?_
            refine th_e ?_
            refine th_e ?_
            refine in_hit ?_
            refine th_n ?_
            refine aw_seq ?_
            refine aw_reg ?_
            refine rs_mv rfl rfl ?_
            refine rs_mv rfl rfl ?_
            refine rs_nil fun _ => ?_
            refine th_n ?_
            refine aw_ret ?_
            exact ret_pure rfl rfl rfl (.inr rfl)

end Go.Proofs.Ytadjdnhnbkcakaa

/-! The plain law of ProbeTight: assignments one by one, in the order of an odometer, and what they have in common. No program in sight. -/
namespace Go.Proofs.Ytadjdnhnbkcakaa
open Go.RowKit

def dig (n : Nat) (lo : List Int) (u : Nat → Int) (i : Nat) : Int := if i < n then u i - lo.getD i 0 else 0
/-- The place of an assignment in the order. -/
def key (n : Nat) (lo : List Int) (u : Nat → Int) : Int := dig n lo u 0 * 256 + dig n lo u 1 * 16 + dig n lo u 2

/-- The odometer while it turns: from V on, at the place t. -/
structure Odo (n : Nat) (lo hi V : List Int) (t : Nat) (V' : List Int) : Prop where
  len : V'.length = n
  lt : t < n
  low : ∀ i, i < t → lo.getD i 0 ≤ V'.getD i 0 ∧ V'.getD i 0 ≤ hi.getD i 0
  mid : lo.getD t 0 ≤ V'.getD t 0 ∧ V'.getD t 0 ≤ hi.getD t 0 + 1
  high : ∀ i, t < i → i < n → V'.getD i 0 = lo.getD i 0
  key_lt : key n lo (vOf V) < key n lo (vOf V')
  between : ∀ u, InB lo hi u → (key n lo u < key n lo (vOf V') ↔ key n lo u ≤ key n lo (vOf V))

section
variable {n : Nat} {R : List Rd} {lo hi V V' : List Int} {m : Int}

theorem lims_at (hm : MadeOk n R lo hi m) : ∀ i, i < n → 0 ≤ lo.getD i 0 ∧ lo.getD i 0 ≤ hi.getD i 0 ∧ hi.getD i 0 ≤ lo.getD i 0 + 11 := fun i h => by
  have := hm.lims i h
  omega

theorem odo_start (hm : MadeOk n R lo hi m) (hV : V.length = n) (hb : ∀ i, i < n → lo.getD i 0 ≤ V.getD i 0 ∧ V.getD i 0 ≤ hi.getD i 0) : Odo n lo hi V (n - 1) (V.set (n - 1) (V.getD (n - 1) 0 + 1)) := by
  have hL := lims_at hm
  have hn1 := hm.n1
  have hn3 := hm.n3
  have hllo := hm.llo
  have e1 : (V.set (n - 1) (V.getD (n - 1) 0 + 1)).getD (n - 1) 0 = V.getD (n - 1) 0 + 1 := getD_set_eq (by omega)
  have e2 : ∀ i, i ≠ n - 1 → (V.set (n - 1) (V.getD (n - 1) 0 + 1)).getD i 0 = V.getD i 0 := fun i h => getD_set_ne (Ne.symm h)
  generalize hX : V.set (n - 1) (V.getD (n - 1) 0 + 1) = X at e1 e2 ⊢
  have hXl : X.length = n := by rw [← hX]; simpa using hV
  refine ⟨hXl, by omega, fun i hi' => by rw [e2 i (by omega)]; exact hb i (by omega), by rw [e1]; have := hb (n - 1) (by omega); omega, fun i h1 h2 => by omega, ?_, fun u hu => ?_⟩
  · obtain rfl | rfl | rfl : n = 1 ∨ n = 2 ∨ n = 3 := by omega
    all_goals
      simp [key, dig, vOf] at e1 ⊢
      have a0 := e2 0
      have a1 := e2 1
      simp at a0 a1
      omega
  · obtain rfl | rfl | rfl : n = 1 ∨ n = 2 ∨ n = 3 := by omega
    all_goals
      have u0 := fun h => hu 0 h
      have u1 := fun h => hu 1 h
      have u2 := fun h => hu 2 h
      have l0 := hL 0
      have l1 := hL 1
      have l2 := hL 2
      have b0 := hb 0
      have b1 := hb 1
      have b2 := hb 2
      have a0 := e2 0
      have a1 := e2 1
      rw [hllo] at u0 u1 u2
      simp [key, dig, vOf] at e1 a0 a1 u0 u1 u2 l0 l1 l2 b0 b1 b2 ⊢
      omega

theorem odo_step (hm : MadeOk n R lo hi m) {t : Nat} (h : Odo n lo hi V t V') (h0 : 0 < t) (h1 : hi.getD t 0 < V'.getD t 0) : Odo n lo hi V (t - 1) ((V'.set t (lo.getD t 0)).set (t - 1) (V'.getD (t - 1) 0 + 1)) := by
  have hL := lims_at hm
  have hn1 := hm.n1
  have hn3 := hm.n3
  have hllo := hm.llo
  have ht := h.lt
  have hl := h.len
  have e1 : ((V'.set t (lo.getD t 0)).set (t - 1) (V'.getD (t - 1) 0 + 1)).getD (t - 1) 0 = V'.getD (t - 1) 0 + 1 := getD_set_eq (by simp; omega)
  have e2 : ((V'.set t (lo.getD t 0)).set (t - 1) (V'.getD (t - 1) 0 + 1)).getD t 0 = lo.getD t 0 := by rw [getD_set_ne (by omega), getD_set_eq (by omega)]
  have e3 : ∀ i, i ≠ t - 1 → i ≠ t → ((V'.set t (lo.getD t 0)).set (t - 1) (V'.getD (t - 1) 0 + 1)).getD i 0 = V'.getD i 0 := fun i h1 h2 => by rw [getD_set_ne (Ne.symm h1), getD_set_ne (Ne.symm h2)]
  generalize hX : (V'.set t (lo.getD t 0)).set (t - 1) (V'.getD (t - 1) 0 + 1) = X at e1 e2 e3 ⊢
  have hXl : X.length = n := by rw [← hX]; simpa using hl
  refine ⟨hXl, by omega, fun i hi' => by rw [e3 i (by omega) (by omega)]; exact h.low i (by omega), by rw [e1]; have := h.low (t - 1) (by omega); omega, fun i h1 h2 => ?_, ?_, fun u hu => ?_⟩
  · by_cases e : i = t
    · rw [e, e2]
    · rw [e3 i (by omega) e]; exact h.high i (by omega) h2
  · have hk := h.key_lt
    have hmid := h.mid
    obtain ⟨rfl, rfl⟩ | ⟨rfl, rfl⟩ | ⟨rfl, rfl⟩ : (n = 2 ∧ t = 1) ∨ (n = 3 ∧ t = 1) ∨ (n = 3 ∧ t = 2) := by omega
    all_goals
      have a0 := e3 0
      have a2 := e3 2
      have l1 := hL 1
      have l2 := hL 2
      have q2 := h.high 2
      simp [key, dig, vOf] at e1 e2 a0 a2 l1 l2 q2 hk hmid h1 ⊢
      omega
  · have hk := h.key_lt
    have hmid := h.mid
    rw [← h.between u hu]
    obtain ⟨rfl, rfl⟩ | ⟨rfl, rfl⟩ | ⟨rfl, rfl⟩ : (n = 2 ∧ t = 1) ∨ (n = 3 ∧ t = 1) ∨ (n = 3 ∧ t = 2) := by omega
    all_goals
      have u0 := fun h => hu 0 h
      have u1 := fun h => hu 1 h
      have u2 := fun h => hu 2 h
      have a0 := e3 0
      have a2 := e3 2
      have l0 := hL 0
      have l1 := hL 1
      have l2 := hL 2
      have q2 := h.high 2
      have w0 := h.low 0
      have w1 := h.low 1
      rw [hllo] at u0 u1 u2
      simp [key, dig, vOf] at e1 e2 a0 a2 l0 l1 l2 q2 w0 w1 hmid h1 u0 u1 u2 ⊢
      omega

theorem key_inj (hm : MadeOk n R lo hi m) {u w : Nat → Int} (hu : InB lo hi u) (hw : InB lo hi w) (h : key n lo u = key n lo w) : ∀ i, i < n → u i = w i := by
  have hL := lims_at hm
  have hn1 := hm.n1
  have hn3 := hm.n3
  have hllo := hm.llo
  intro i hi'
  have u0 := fun h => hu 0 h
  have u1 := fun h => hu 1 h
  have u2 := fun h => hu 2 h
  have w0 := fun h => hw 0 h
  have w1 := fun h => hw 1 h
  have w2 := fun h => hw 2 h
  have l0 := hL 0
  have l1 := hL 1
  have l2 := hL 2
  rw [hllo] at u0 u1 u2 w0 w1 w2
  obtain rfl | rfl | rfl : n = 1 ∨ n = 2 ∨ n = 3 := by omega
  · obtain rfl : i = 0 := by omega
    simp [key, dig] at *
    omega
  · obtain rfl | rfl : i = 0 ∨ i = 1 := by omega
    all_goals
      simp [key, dig] at *
      omega
  · obtain rfl | rfl | rfl : i = 0 ∨ i = 1 ∨ i = 2 := by omega
    all_goals
      simp [key, dig] at *
      omega
theorem key_range (hm : MadeOk n R lo hi m) (hV0 : lo.getD 0 0 ≤ V.getD 0 0 ∧ V.getD 0 0 ≤ hi.getD 0 0 + 1) (hV : ∀ i, 1 ≤ i → i < n → lo.getD i 0 ≤ V.getD i 0 ∧ V.getD i 0 ≤ hi.getD i 0) : 0 ≤ key n lo (vOf V) ∧ key n lo (vOf V) < 4096 := by
  have hL := lims_at hm
  have hn1 := hm.n1
  have hn3 := hm.n3
  have l0 := hL 0
  have l1 := hL 1
  have l2 := hL 2
  have v1 := hV 1
  have v2 := hV 2
  obtain rfl | rfl | rfl : n = 1 ∨ n = 2 ∨ n = 3 := by omega
  all_goals
    simp [key, dig, vOf] at *
    omega
/-- All assignments come before one whose first value is beyond the limit. -/
theorem key_all (hm : MadeOk n R lo hi m) (hV0 : hi.getD 0 0 < V.getD 0 0) (hV : ∀ i, 1 ≤ i → i < n → lo.getD i 0 ≤ V.getD i 0 ∧ V.getD i 0 ≤ hi.getD i 0) {u : Nat → Int} (hu : InB lo hi u) : key n lo u < key n lo (vOf V) := by
  have hL := lims_at hm
  have hn1 := hm.n1
  have hn3 := hm.n3
  have hllo := hm.llo
  have u0 := fun h => hu 0 h
  have u1 := fun h => hu 1 h
  have u2 := fun h => hu 2 h
  have l0 := hL 0
  have l1 := hL 1
  have l2 := hL 2
  have v1 := hV 1
  have v2 := hV 2
  rw [hllo] at u0 u1 u2
  obtain rfl | rfl | rfl : n = 1 ∨ n = 2 ∨ n = 3 := by omega
  all_goals
    simp [key, dig, vOf] at *
    omega
theorem key_none (hm : MadeOk n R lo hi m) {u : Nat → Int} (hu : InB lo hi u) : ¬ key n lo u < key n lo (vOf lo) := by
  have hL := lims_at hm
  have hn1 := hm.n1
  have hn3 := hm.n3
  have hllo := hm.llo
  have u0 := fun h => hu 0 h
  have u1 := fun h => hu 1 h
  have u2 := fun h => hu 2 h
  rw [hllo] at u0 u1 u2
  obtain rfl | rfl | rfl : n = 1 ∨ n = 2 ∨ n = 3 := by omega
  all_goals
    simp [key, dig, vOf] at *
    omega

theorem mask_congr {u w : Nat → Int} (h : ∀ i, i < n → u i = w i) : ∀ (l : List Rd) (k : Nat), Rok n l → maskS l u k = maskS l w k
  | [], k, _ => rfl
  | r :: l, k, hr => by
    have h0 := hr r (by simp)
    have e : badV u r = badV w r := by unfold badV; rw [h r.of_.toNat (by omega)]
    show maskS l u (if badV u r = true then k ||| 2 ^ r.probe.toNat else k) = maskS l w (if badV w r = true then k ||| 2 ^ r.probe.toNat else k)
    rw [e]
    exact mask_congr h l _ fun r hr' => hr r (by simp [hr'])

/-- What assignments have in common. -/
structure SumP (n : Nat) (lo hi : List Int) (R : List Rd) (D : (Nat → Int) → Prop) (so : Bool) (al : List Bool) (le gr : List Int) : Prop where
  some_ : so = true ↔ ∃ u, D u
  lal : al.length = 8
  al_ : ∀ p, p < 8 → (al.getD p false = true ↔ ∀ u, D u → hasS (maskS R u 0) p = true)
  lle : le.length = n
  lgr : gr.length = n
  le_ : ∀ i, i < n → (∀ u, D u → le.getD i 0 ≤ u i) ∧ (le.getD i 0 = hi.getD i 0 ∨ ∃ u, D u ∧ u i = le.getD i 0)
  gr_ : ∀ i, i < n → (∀ u, D u → u i ≤ gr.getD i 0) ∧ (gr.getD i 0 = lo.getD i 0 ∨ ∃ u, D u ∧ u i = gr.getD i 0)
theorem SumP.congr {D D' : (Nat → Int) → Prop} {so : Bool} {al : List Bool} {le gr : List Int} (h : SumP n lo hi R D so al le gr) (e : ∀ u, D u ↔ D' u) : SumP n lo hi R D' so al le gr := by
  have : D = D' := funext fun u => propext (e u)
  rw [← this]; exact h
def Eqn (n : Nat) (V : List Int) (u : Nat → Int) : Prop := ∀ i, i < n → u i = vOf V i
theorem sum_add (hr : Rok n R) {D : (Nat → Int) → Prop} {so : Bool} {al al' : List Bool} {le gr le' gr' : List Int} (h : SumP n lo hi R D so al le gr) (h1 : al'.length = 8) (h2 : ∀ p, p < 8 → al'.getD p false = (al.getD p false && hasS (maskS R (vOf V) 0) p))
    (h3 : le'.length = n) (h4 : gr'.length = n) (h5 : ∀ i, i < n → le'.getD i 0 = min (le.getD i 0) (V.getD i 0)) (h6 : ∀ i, i < n → gr'.getD i 0 = max (gr.getD i 0) (V.getD i 0)) : SumP n lo hi R (fun u => D u ∨ Eqn n V u) true al' le' gr' := by
  refine ⟨⟨fun _ => ⟨vOf V, .inr fun i _ => rfl⟩, fun _ => rfl⟩, h1, fun p hp => ?_, h3, h4, fun i hi' => ?_, fun i hi' => ?_⟩
  · rw [h2 p hp, Bool.and_eq_true, h.al_ p hp]
    constructor
    · rintro ⟨a, b⟩ u (hu | hu)
      · exact a u hu
      · rw [mask_congr hu R 0 hr]; exact b
    · intro a
      exact ⟨fun u hu => a u (.inl hu), a _ (.inr fun i _ => rfl)⟩
  · obtain ⟨a, b⟩ := h.le_ i hi'
    rw [h5 i hi']
    refine ⟨fun u hu => ?_, ?_⟩
    · rcases hu with hu | hu
      · have := a u hu; omega
      · have := hu i hi'
        simp only [vOf] at this
        omega
    · by_cases e : le.getD i 0 ≤ V.getD i 0
      · rw [Int.min_eq_left e]; exact b.imp_right fun ⟨u, hu, r⟩ => ⟨u, .inl hu, r⟩
      · exact .inr ⟨vOf V, .inr fun i _ => rfl, by simp only [vOf]; omega⟩
  · obtain ⟨a, b⟩ := h.gr_ i hi'
    rw [h6 i hi']
    refine ⟨fun u hu => ?_, ?_⟩
    · rcases hu with hu | hu
      · have := a u hu; omega
      · have := hu i hi'
        simp only [vOf] at this
        omega
    · by_cases e : V.getD i 0 ≤ gr.getD i 0
      · rw [Int.max_eq_left e]; exact b.imp_right fun ⟨u, hu, r⟩ => ⟨u, .inl hu, r⟩
      · exact .inr ⟨vOf V, .inr fun i _ => rfl, by simp only [vOf]; omega⟩

/-- The assignments that agree and come before one. -/
def Done (n : Nat) (R : List Rd) (lo hi : List Int) (m : Int) (V : List Int) (u : Nat → Int) : Prop := InB lo hi u ∧ (sizeS (maskS R u 0) 8 : Int) ≤ m ∧ key n lo u < key n lo (vOf V)

theorem made_rok (hm : MadeOk n R lo hi m) : Rok n R := fun r hr => by
  have := hm.rd r hr
  omega
theorem done_step (hm : MadeOk n R lo hi m) (hVb : InB lo hi (vOf V)) {t : Nat} (ho : Odo n lo hi V t V') (u : Nat → Int) :
    Done n R lo hi m V' u ↔ Done n R lo hi m V u ∨ ((sizeS (maskS R (vOf V) 0) 8 : Int) ≤ m ∧ InB lo hi u ∧ Eqn n V u) := by
  unfold Done
  constructor
  · rintro ⟨a, b, c⟩
    rw [ho.between u a] at c
    by_cases e : key n lo u = key n lo (vOf V)
    · have hq := key_inj hm a hVb e
      exact .inr ⟨by rw [← mask_congr hq R 0 (made_rok hm)]; exact b, a, hq⟩
    · exact .inl ⟨a, b, by omega⟩
  · rintro (⟨a, b, c⟩ | ⟨b, a, q⟩)
    · exact ⟨a, b, (ho.between u a).2 (by omega)⟩
    · refine ⟨a, by rw [mask_congr q R 0 (made_rok hm)]; exact b, (ho.between u a).2 ?_⟩
      have : key n lo u = key n lo (vOf V) := by
        have hn3 := hm.n3
        unfold key dig
        have q0 := q 0
        have q1 := q 1
        have q2 := q 2
        split <;> split <;> split <;> simp_all
      omega

/-- The state of the law's main loop. -/
structure Ok6 (n : Nat) (R : List Rd) (lo hi : List Int) (m : Int) (V : List Int) (so : Bool) (al : List Bool) (le gr : List Int) : Prop where
  len : V.length = n
  v0 : lo.getD 0 0 ≤ V.getD 0 0 ∧ V.getD 0 0 ≤ hi.getD 0 0 + 1
  v1 : ∀ i, 1 ≤ i → i < n → lo.getD i 0 ≤ V.getD i 0 ∧ V.getD i 0 ≤ hi.getD i 0
  sum : SumP n lo hi R (Done n R lo hi m V) so al le gr
theorem ok6_start (hm : MadeOk n R lo hi m) : Ok6 n R lo hi m lo false (List.replicate 8 true) hi lo := by
  have hL := lims_at hm
  have hn1 := hm.n1
  refine ⟨hm.llo, ?_, fun i _ h => ?_, ?_⟩
  · have := hL 0 (by omega); omega
  · have := hL i h; omega
  · have hno : ∀ u, ¬ Done n R lo hi m lo u := fun u hu => key_none hm hu.1 hu.2.2
    have hrep : ∀ p, p < 8 → (List.replicate 8 true).getD p false = true := by decide
    refine ⟨⟨fun h => (by cases h), fun ⟨u, hu⟩ => absurd hu (hno u)⟩, by simp, fun p hp => ⟨fun _ u hu => absurd hu (hno u), fun _ => hrep p hp⟩, hm.lhi, hm.llo, fun i h => ⟨fun u hu => absurd hu (hno u), .inl rfl⟩, fun i h => ⟨fun u hu => absurd hu (hno u), .inl rfl⟩⟩
theorem ok6_inb (hm : MadeOk n R lo hi m) {so : Bool} {al : List Bool} {le gr : List Int} (h : Ok6 n R lo hi m V so al le gr) (h0 : V.getD 0 0 ≤ hi.getD 0 0) : ∀ i, i < n → lo.getD i 0 ≤ V.getD i 0 ∧ V.getD i 0 ≤ hi.getD i 0 := fun i hi' => by
  by_cases e : i = 0
  · subst e; exact ⟨h.v0.1, h0⟩
  · exact h.v1 i (by omega) hi'
/-- The assignments that are taken into account after this one. -/
def Next (n : Nat) (R : List Rd) (lo hi : List Int) (m : Int) (V : List Int) (u : Nat → Int) : Prop := Done n R lo hi m V u ∨ ((sizeS (maskS R (vOf V) 0) 8 : Int) ≤ m ∧ InB lo hi u ∧ Eqn n V u)
theorem eqn_inb (hm : MadeOk n R lo hi m) (hb : ∀ i, i < n → lo.getD i 0 ≤ V.getD i 0 ∧ V.getD i 0 ≤ hi.getD i 0) {u : Nat → Int} (h : Eqn n V u) : InB lo hi u := fun i hi' => by
  rw [hm.llo] at hi'
  rw [h i hi']; exact hb i hi'
theorem next_t (hm : MadeOk n R lo hi m) (hb : ∀ i, i < n → lo.getD i 0 ≤ V.getD i 0 ∧ V.getD i 0 ≤ hi.getD i 0) (ha : (sizeS (maskS R (vOf V) 0) 8 : Int) ≤ m) (u : Nat → Int) : (Done n R lo hi m V u ∨ Eqn n V u) ↔ Next n R lo hi m V u :=
  ⟨fun h => h.imp_right fun h => ⟨ha, eqn_inb hm hb h, h⟩, fun h => h.imp_right fun h => h.2.2⟩
theorem next_f (ha : ¬ (sizeS (maskS R (vOf V) 0) 8 : Int) ≤ m) (u : Nat → Int) : Done n R lo hi m V u ↔ Next n R lo hi m V u := ⟨.inl, fun h => h.elim id fun h => absurd h.1 ha⟩
theorem ok6_next (hm : MadeOk n R lo hi m) (hb : ∀ i, i < n → lo.getD i 0 ≤ V.getD i 0 ∧ V.getD i 0 ≤ hi.getD i 0) {t : Nat} (ho : Odo n lo hi V t V') (hx : t = 0 ∨ V'.getD t 0 ≤ hi.getD t 0) {so : Bool} {al : List Bool} {le gr : List Int}
    (hs : SumP n lo hi R (Next n R lo hi m V) so al le gr) : Ok6 n R lo hi m V' so al le gr := by
  have hL := lims_at hm
  have hn1 := hm.n1
  have ht := ho.lt
  have hmid := ho.mid
  refine ⟨ho.len, ?_, fun i h1 h2 => ?_, hs.congr fun u => (done_step hm (fun i h => hb i (by have := hm.llo; omega)) ho u).symm⟩
  · by_cases e : t = 0
    · subst e; exact hmid
    · have := ho.low 0 (by omega); omega
  · rcases Nat.lt_trichotomy i t with h | h | h
    · exact ho.low i h
    · subst h
      rcases hx with h' | h'
      · omega
      · exact ⟨hmid.1, h'⟩
    · rw [ho.high i h h2]
      have := hL i h2
      omega

def wantS (al : List Bool) (k : Nat) : List Int := ((List.range k).filter fun i => al.getD i false).map Int.ofNat
theorem wantS_t {al : List Bool} {k : Nat} (h : al[k]? = some true) : wantS al (k + 1) = wantS al k ++ [(k : Int)] := by
  have : al.getD k false = true := getDb_of h
  simp only [wantS, List.range_succ, List.filter_append, List.map_append]
  rw [List.filter_cons_of_pos (by simpa using this)]
  rfl
theorem wantS_f {al : List Bool} {k : Nat} (h : al[k]? = some false) : wantS al (k + 1) = wantS al k := by
  have : al.getD k false = false := getDb_of h
  simp only [wantS, List.range_succ, List.filter_append, List.map_append]
  rw [List.filter_cons_of_neg (by simpa using this)]
  simp
theorem wantS_le (al : List Bool) (k : Nat) : (wantS al k).length ≤ k := by
  have := List.length_filter_le (fun i => al.getD i false) (List.range k)
  simpa [wantS] using this

/-- What the calls say in the end. -/
theorem tight_calls (hm : MadeOk n R lo hi m) {so : Bool} {al : List Bool} {le gr : List Int} (h : Ok6 n R lo hi m V so al le gr) (h0 : hi.getD 0 0 < V.getD 0 0) :
    (so = false ∧ FC Try.prog 21 [.rs 4 (R.map cR), ints lo, ints hi, .int .i64 m] [] (.tup [ints [], ints [], iv 21]) [] false ∧ FC Try.prog 24 [.rs 4 (R.map cR), ints lo, ints hi, .int .i64 m] [] (.tup [ints [], iv 21]) [] false) ∨
    (so = true ∧ FC Try.prog 21 [.rs 4 (R.map cR), ints lo, ints hi, .int .i64 m] [] (.tup [ints le, ints gr, iv 0]) [] false ∧ FC Try.prog 24 [.rs 4 (R.map cR), ints lo, ints hi, .int .i64 m] [] (.tup [ints (wantS al 8), iv 0]) [] false) := by
  have hchk : checkS R lo hi m = 0 := made_check hm (by have := hm.lR; omega) (made_lok hm) hm.m0 hm.m3
  have hD : ∀ u, Done n R lo hi m V u ↔ ∃ s, AgS R lo hi m s u := fun u => by
    rw [ag_iff (made_rok hm)]
    exact ⟨fun h => ⟨h.1, h.2.1⟩, fun h' => ⟨h'.1, h'.2, key_all hm h0 h.v1 h'.1⟩⟩
  have f1 := fz21 R lo hi m
  have f2 := fz24 R lo hi m
  rcases narrow_sem hchk with ⟨⟨s, v, hv⟩, a1, a2, all, a3, a4⟩ | ⟨hx, a1, a2, a3, a4, a5⟩
  · right
    have hso : so = true := h.sum.some_.2 ⟨v, (hD v).2 ⟨s, hv⟩⟩
    have hA : narrowA R lo hi m = le := by
      refine list_ext_getD (by rw [a4.lenA, h.sum.lle, hm.llo]) fun i hi' => ?_
      rw [a4.lenA] at hi'
      obtain ⟨b1, b2⟩ := h.sum.le_ i (by have := hm.llo; omega)
      obtain ⟨s', v', q1, q2⟩ := a4.least i hi'
      have c1 := b1 v' ((hD v').2 ⟨s', q1⟩)
      rcases b2 with e | ⟨u, hu, e⟩
      · have c2 := q1.inb i hi'
        omega
      · obtain ⟨s'', hs⟩ := (hD u).1 hu
        have c3 := (a4.le s'' u hs i hi').1
        omega
    have hB : narrowB R lo hi m = gr := by
      refine list_ext_getD (by rw [a4.lenB, h.sum.lgr, hm.llo]) fun i hi' => ?_
      rw [a4.lenB] at hi'
      obtain ⟨b1, b2⟩ := h.sum.gr_ i (by have := hm.llo; omega)
      obtain ⟨s', v', q1, q2⟩ := a4.most i hi'
      have c1 := b1 v' ((hD v').2 ⟨s', q1⟩)
      rcases b2 with e | ⟨u, hu, e⟩
      · have c2 := q1.inb i hi'
        omega
      · obtain ⟨s'', hs⟩ := (hD u).1 hu
        have c3 := (a4.le s'' u hs i hi').2
        omega
    have hl : liarsL R lo hi m = wantS al 8 := by
      rw [a3]
      unfold outK wantS
      rw [List.filter_congr fun p hp => ?_]
      have hp := List.mem_range.1 hp
      have : hasS all p = true ↔ al.getD p false = true := by
        rw [a4.liars p hp, h.sum.al_ p hp]
        constructor
        · intro a u hu
          obtain ⟨s', hs⟩ := (hD u).1 hu
          exact a _ u (ag_mask (made_rok hm) hs)
        · intro a s' u hu
          exact expl_mask hu.expl p hp (a u ((hD u).2 ⟨s', hu⟩))
      cases e1 : hasS all p <;> cases e2 : al.getD p false <;> simp_all
    rw [a1, hA, hB] at f1
    rw [a2, hl] at f2
    exact ⟨hso, f1, f2⟩
  · left
    have hso : so = false := by
      cases e : so
      · rfl
      · obtain ⟨u, hu⟩ := h.sum.some_.1 e
        obtain ⟨s, hs⟩ := (hD u).1 hu
        exact absurd ⟨s, u, hs⟩ hx
    rw [a1, a3, a4] at f1
    rw [a2, a5] at f2
    exact ⟨hso, f1, f2⟩
end
end Go.Proofs.Ytadjdnhnbkcakaa
