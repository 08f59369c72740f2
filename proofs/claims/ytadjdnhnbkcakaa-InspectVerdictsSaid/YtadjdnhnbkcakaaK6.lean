/-
  Proved: colletlaw42.InspectVerdicts returns true for every input, and its arguments read as before. No condition.
-/
import Derived.Test.YtadjdnhnbkcakaaK5
import Derived.Test.YtadjdnhnbkcakaaRows
set_option linter.unusedVariables false

/-! Walks: A31. -/
namespace Go.Proofs.Ytadjdnhnbkcakaa
open Go.RowKit

abbrev cSs (r : List Sg) : List AV := [.rs 3 (r.map cS)]
abbrev cPI (p : Int × Int) : List AV := [iv p.1, iv p.2]
abbrev cPV (want : List Int) : List AV := [.str ⟨⟨[]⟩⟩, .nils, ints want]
theorem madeI_ok {n m : Int} {R : List Sg} (h : MadeI n m R) : SgOk R n m := by
  have := h.n1
  have := h.n5
  have := h.lR
  refine ⟨by omega, by omega, by omega, h.m0, h.m3, fun r hr => ?_⟩
  have := h.sg r hr
  omega

def mc9 : MC := (.seq (.reg [⟨(some 4), (.box 60 3 (.t 0)), none, []⟩, ⟨(some 5), (.box 26 3 (.t 1)), none, []⟩, ⟨(some 7), (.box 62 2 (.t 3)), none, []⟩, ⟨(some 8), (.mv (.c (.bool false))), none, []⟩] false) (.seq (.reg [⟨(some 25), (.call 31 []), none, []⟩, ⟨(some 9), (.mv (.t 25)), none, [0, 0, 0]⟩] false) (.seq (.reg [⟨(some 27), (.ld true 3 (.t 4)), none, []⟩, ⟨(some 28), (.call 32 [(.t 27)]), none, [0]⟩, ⟨(some 26), (.mv (.t 28)), none, [1]⟩, ⟨(some 29), (.ext (.t 26) 0), none, [2]⟩, ⟨(some 30), (.ext (.t 26) 1), none, [2]⟩, ⟨(some 31), (.ext (.t 26) 2), none, [2]⟩, ⟨(some 10), (.mv (.t 29)), none, [3, 1, 0, 1, 2, 3]⟩, ⟨(some 11), (.mv (.t 30)), none, [4, 6, 0, 1, 2, 3, 4, 6]⟩, ⟨(some 12), (.mv (.t 31)), none, [5, 7, 0, 1, 2, 3, 4, 5, 6, 7]⟩] false) (.seq (.seq (.reg [⟨(some 32), (.mv (.t 10)), none, []⟩, ⟨(some 33), (.mv (.t 10)), none, []⟩, ⟨(some 34), (.ld true 3 (.t 5)), none, []⟩, ⟨(some 35), (.call 33 [(.t 33), (.t 34)]), none, [1, 2]⟩, ⟨(some 36), (.mv (.t 2)), none, []⟩, ⟨(some 37), (.mv (.t 2)), none, []⟩, ⟨(some 38), (.len (.t 37)), none, [5]⟩, ⟨(some 39), (.mn (.t 38) (.c (.int .i64 12))), none, [6]⟩, ⟨(some 40), (.slc 3 (.t 36) none (some (.t 39))), none, [4, 7]⟩, ⟨(some 41), (.bslice 61 1 [.nils] 3 [(0, (.t 32)), (1, (.t 35)), (2, (.t 40))]), none, [0, 3, 8]⟩, ⟨(some 42), (.len (.t 41)), none, [9]⟩, ⟨(some 43), (.mv (.c (.int .i64 0))), none, []⟩] true) (.block 0 (.loop (.seq (.reg [⟨(some 44), (.bin .lss (.t 43) (.t 42)), none, []⟩] false) (.seq (.cond (.t 44) .skip (.exit 0)) (.seq (.block 1 (.seq (.reg [⟨(some 45), (.ixsl 1 (.t 41) (.t 43)), none, []⟩, ⟨(some 46), (.ld false 1 (.t 45)), none, [0]⟩, ⟨(some 14), (.mv (.t 46)), none, [1, 0, 1]⟩] false) (.seq (.reg [⟨(some 47), (.mv (.t 11)), none, []⟩, ⟨(some 48), (.mv (.t 12)), none, []⟩, ⟨(some 49), (.build [(.int .i64 0), (.int .i64 0)] [(0, (1, (.t 47))), (1, (1, (.t 48)))]), none, [0, 1]⟩, ⟨(some 50), (.ixarr 2 1 (.t 7) (.c (.int .i64 0))), none, []⟩, ⟨(some 51), (.ld false 1 (.t 50)), none, [3]⟩, ⟨(some 52), (.mv (.t 12)), none, []⟩, ⟨(some 53), (.build [(.int .i64 0), (.int .i64 0)] [(0, (1, (.t 51))), (1, (1, (.t 52)))]), none, [4, 5]⟩, ⟨(some 54), (.mv (.t 11)), none, []⟩, ⟨(some 55), (.ixarr 2 1 (.t 7) (.c (.int .i64 1))), none, []⟩, ⟨(some 56), (.ld false 1 (.t 55)), none, [8]⟩, ⟨(some 57), (.build [(.int .i64 0), (.int .i64 0)] [(0, (1, (.t 54))), (1, (1, (.t 56)))]), none, [7, 9]⟩, ⟨(some 58), (.mv (.t 12)), none, []⟩, ⟨(some 59), (.build [(.int .i64 0), (.int .i64 0)] [(0, (1, (.c (.int .i64 16)))), (1, (1, (.t 58)))]), none, [11]⟩, ⟨(some 60), (.bslice 62 2 [(.int .i64 0), (.int .i64 0)] 4 [(0, (.t 49)), (1, (.t 53)), (2, (.t 57)), (3, (.t 59))]), none, [2, 6, 10, 12]⟩, ⟨(some 61), (.len (.t 60)), none, [13]⟩, ⟨(some 62), (.mv (.c (.int .i64 0))), none, []⟩] false) (.block 2 (.loop (.seq (.reg [⟨(some 63), (.bin .lss (.t 62) (.t 61)), none, []⟩] false) (.seq (.cond (.t 63) .skip (.exit 2)) (.seq (.block 3 (.seq (.reg [⟨(some 64), (.ixsl 2 (.t 60) (.t 62)), none, []⟩, ⟨(some 65), (.ld true 2 (.t 64)), none, [0]⟩, ⟨(some 16), (.alloc 62 2 [(.int .i64 0), (.int .i64 0)]), none, []⟩, ⟨none, (.st 2 (.t 16) (.t 65)), none, [2, 1, 0, 1, 2]⟩] false) (.seq (.seq (.reg [⟨(some 66), (.mv (.t 14)), none, []⟩, ⟨(some 67), (.ixarr 2 1 (.t 16) (.c (.int .i64 0))), none, []⟩, ⟨(some 68), (.ld false 1 (.t 67)), none, [1]⟩, ⟨(some 69), (.ixarr 2 1 (.t 16) (.c (.int .i64 1))), none, []⟩, ⟨(some 70), (.ld false 1 (.t 69)), none, [3]⟩, ⟨(some 71), (.call 34 [(.t 66), (.t 68), (.t 70)]), none, [0, 2, 4]⟩, ⟨(some 72), (.mv (.t 14)), none, []⟩, ⟨(some 73), (.ixarr 2 1 (.t 16) (.c (.int .i64 0))), none, []⟩, ⟨(some 74), (.ld false 1 (.t 73)), none, [7]⟩, ⟨(some 75), (.ixarr 2 1 (.t 16) (.c (.int .i64 1))), none, []⟩, ⟨(some 76), (.ld false 1 (.t 75)), none, [9]⟩, ⟨(some 77), (.call 35 [(.t 72), (.t 74), (.t 76)]), none, [6, 8, 10, 5]⟩, ⟨(some 78), (.bin .neq (.t 71) (.t 77)), none, [5, 11]⟩] true) (.cond (.t 78) (.seq (.reg [⟨(some 8), (.mv (.c (.bool false))), none, []⟩] false) .ret) .skip)) (.seq (.reg [⟨(some 80), (.mv (.t 14)), none, []⟩, ⟨(some 81), (.ixarr 2 1 (.t 16) (.c (.int .i64 0))), none, []⟩, ⟨(some 82), (.ld false 1 (.t 81)), none, [1]⟩, ⟨(some 83), (.ixarr 2 1 (.t 16) (.c (.int .i64 1))), none, []⟩, ⟨(some 84), (.ld false 1 (.t 83)), none, [3]⟩, ⟨(some 85), (.call 36 [(.t 80), (.t 82), (.t 84)]), none, [0, 2, 4]⟩, ⟨(some 79), (.mv (.t 85)), none, [5]⟩, ⟨(some 86), (.ext (.t 79) 0), none, [6]⟩, ⟨(some 87), (.ext (.t 79) 1), none, [6]⟩, ⟨(some 17), (.mv (.t 86)), none, [7, 5, 0, 1, 2, 3, 4, 5, 6, 7]⟩, ⟨(some 18), (.mv (.t 87)), none, [8, 9, 0, 1, 2, 3, 4, 5, 6, 7, 8, 9]⟩] false) (.seq (.reg [⟨(some 89), (.mv (.t 14)), none, []⟩, ⟨(some 90), (.ixarr 2 1 (.t 16) (.c (.int .i64 0))), none, []⟩, ⟨(some 91), (.ld false 1 (.t 90)), none, [1]⟩, ⟨(some 92), (.ixarr 2 1 (.t 16) (.c (.int .i64 1))), none, []⟩, ⟨(some 93), (.ld false 1 (.t 92)), none, [3]⟩, ⟨(some 94), (.call 37 [(.t 89), (.t 91), (.t 93)]), none, [0, 2, 4]⟩, ⟨(some 88), (.mv (.t 94)), none, [5]⟩, ⟨(some 95), (.ext (.t 88) 0), none, [6]⟩, ⟨(some 96), (.ext (.t 88) 1), none, [6]⟩, ⟨(some 19), (.mv (.t 95)), none, [7, 5, 0, 1, 2, 3, 4, 5, 6, 7]⟩, ⟨(some 20), (.mv (.t 96)), none, [8, 9, 0, 1, 2, 3, 4, 5, 6, 7, 8, 9]⟩] false) (.seq (.seq (.reg [⟨(some 97), (.mv (.t 18)), none, []⟩, ⟨(some 98), (.mv (.t 20)), none, []⟩, ⟨(some 99), (.bin .neq (.t 97) (.t 98)), none, [0, 1]⟩, ⟨(some 100), (.mv (.t 99)), none, [2]⟩, ⟨(some 101), (.mv (.t 17)), (some (100, false)), [3]⟩, ⟨(some 102), (.mv (.t 19)), (some (100, false)), [3]⟩, ⟨(some 103), (.call 38 [(.t 101), (.t 102)]), (some (100, false)), [4, 5, 3, 3]⟩, ⟨(some 104), (.un .not (.t 103)), (some (100, false)), [6, 3]⟩, ⟨(some 105), (.pick (.t 100) (.c (.bool true)) (.t 104)), none, [3, 7]⟩] false) (.cond (.t 105) (.seq (.reg [⟨(some 8), (.mv (.c (.bool false))), none, []⟩] false) .ret) .skip)) (.seq (.reg [⟨(some 107), (.mv (.t 14)), none, []⟩, ⟨(some 108), (.ixarr 2 1 (.t 16) (.c (.int .i64 0))), none, []⟩, ⟨(some 109), (.ld false 1 (.t 108)), none, [1]⟩, ⟨(some 110), (.ixarr 2 1 (.t 16) (.c (.int .i64 1))), none, []⟩, ⟨(some 111), (.ld false 1 (.t 110)), none, [3]⟩, ⟨(some 112), (.call 39 [(.t 107), (.t 109), (.t 111)]), none, [0, 2, 4]⟩, ⟨(some 106), (.mv (.t 112)), none, [5]⟩, ⟨(some 113), (.ext (.t 106) 0), none, [6]⟩, ⟨(some 114), (.ext (.t 106) 1), none, [6]⟩, ⟨(some 21), (.mv (.t 113)), none, [7, 5, 0, 1, 2, 3, 4, 5, 6, 7]⟩, ⟨(some 22), (.mv (.t 114)), none, [8, 9, 0, 1, 2, 3, 4, 5, 6, 7, 8, 9]⟩] false) (.seq (.reg [⟨(some 116), (.mv (.t 14)), none, []⟩, ⟨(some 117), (.ixarr 2 1 (.t 16) (.c (.int .i64 0))), none, []⟩, ⟨(some 118), (.ld false 1 (.t 117)), none, [1]⟩, ⟨(some 119), (.ixarr 2 1 (.t 16) (.c (.int .i64 1))), none, []⟩, ⟨(some 120), (.ld false 1 (.t 119)), none, [3]⟩, ⟨(some 121), (.call 40 [(.t 116), (.t 118), (.t 120)]), none, [0, 2, 4]⟩, ⟨(some 115), (.mv (.t 121)), none, [5]⟩, ⟨(some 122), (.ext (.t 115) 0), none, [6]⟩, ⟨(some 123), (.ext (.t 115) 1), none, [6]⟩, ⟨(some 23), (.mv (.t 122)), none, [7, 5, 0, 1, 2, 3, 4, 5, 6, 7]⟩, ⟨(some 24), (.mv (.t 123)), none, [8, 9, 0, 1, 2, 3, 4, 5, 6, 7, 8, 9]⟩] false) (.seq (.reg [⟨(some 124), (.mv (.t 22)), none, []⟩, ⟨(some 125), (.mv (.t 24)), none, []⟩, ⟨(some 126), (.bin .neq (.t 124) (.t 125)), none, [0, 1]⟩, ⟨(some 127), (.mv (.t 126)), none, [2]⟩, ⟨(some 128), (.mv (.t 21)), (some (127, false)), [3]⟩, ⟨(some 129), (.mv (.t 23)), (some (127, false)), [3]⟩, ⟨(some 130), (.call 38 [(.t 128), (.t 129)]), (some (127, false)), [4, 5, 3, 3]⟩, ⟨(some 131), (.un .not (.t 130)), (some (127, false)), [6, 3]⟩, ⟨(some 132), (.pick (.t 127) (.c (.bool true)) (.t 131)), none, [3, 7]⟩] false) (.cond (.t 132) (.seq (.reg [⟨(some 8), (.mv (.c (.bool false))), none, []⟩] false) .ret) .skip)))))))))) (.reg [⟨(some 133), (.bin .add (.t 62) (.c (.int .i64 1))), none, []⟩, ⟨(some 62), (.mv (.t 133)), none, [0]⟩] false))))))))) (.reg [⟨(some 134), (.bin .add (.t 43) (.c (.int .i64 1))), none, []⟩, ⟨(some 43), (.mv (.t 134)), none, [0]⟩] false))))))) (.seq (.reg [⟨(some 135), (.mv (.t 9)), none, []⟩, ⟨(some 8), (.mv (.t 135)), none, [0, 0]⟩] false) .ret)))))
theorem mcOk9 : (match Try.f9.body with | some c => compC Try.prog 136 c | none => none) = some mc9 := by kernel_rfl

theorem fc9 (L : List Int) (c5 l4 : Int) (q0 q1 q2 : Int) (wild : List Sg) (n0 n1 : Int) (hL : L.length ≤ 4611686018427387904) (hc : 0 ≤ c5 ∧ c5 < 256) (hl4 : 0 ≤ l4 ∧ l4 < 256) : FC Try.prog 9 [.agg [ints L, .int .u8 c5, .int .u8 l4], .agg [iv q0, iv q1, iv q2], .rs 3 (wild.map cS), .agg [iv n0, iv n1]] [] (.bool true) [] false := by
  obtain ⟨n, m, R, hm, hmade⟩ := made_i L c5 l4 hL hc hl4
  have hn1 := hm.n1
  have hn5 := hm.n5
  have hm0 := hm.m0
  have hm3 := hm.m3
  have hlR := hm.lR
  have hrl : ∀ r ∈ ([R, oddI R q0 q1 q2, wild.take 12]), r.length ≤ 100 := by
    have h1 := oddI_len R q0 q1 q2
    intro r hr
    simp only [List.mem_cons, List.not_mem_nil, or_false] at hr
    rcases hr with rfl | rfl | rfl
    · omega
    · omega
    · simp; omega
  refine fc_run (nt := 136) Try.func9 rfl rfl mcOk9 (Nat.le_of_ble_eq_true rfl) ?_
  delta mc9
  refine aw_seq ?_
  refine aw_reg ?_
  refine rs_box rfl rfl rfl rfl rfl rfl ?_
  refine rs_box rfl rfl rfl rfl rfl rfl ?_
  refine rs_box rfl rfl rfl rfl rfl rfl ?_
  refine rs_mv rfl rfl ?_
  refine rs_nil fun _ => ?_
  refine th_n ?_
  refine aw_seq ?_
  refine aw_reg ?_
  refine rs_calln [] rfl rfl fc31 .nil rfl ?_
  refine rs_mv rfl rfl ?_
  refine rs_nil fun _ => ?_
  refine th_n ?_
  refine aw_seq ?_
  refine aw_reg ?_
  first | refine rs_ld_pa rfl rfl rfl rfl (Nat.le_of_ble_eq_true rfl) rfl ?_ | refine rs_ld_ra rfl rfl (Nat.le_of_ble_eq_true rfl) rfl ?_ | refine rs_ld_ma rfl rfl rfl (by omega) (Nat.le_of_ble_eq_true rfl) rfl ?_
  refine rs_callo [] rfl rfl hmade (.cons (hv_same rfl) .nil) .nil rfl rfl rfl ?_
  refine rs_mv rfl rfl ?_
  refine rs_ext rfl rfl rfl ?_
  refine rs_ext rfl rfl rfl ?_
  refine rs_ext rfl rfl rfl ?_
  refine rs_mv rfl rfl ?_
  refine rs_mv rfl rfl ?_
  refine rs_mv rfl rfl ?_
  refine rs_nil fun _ => ?_
  refine th_n ?_
  refine aw_seq ?_
  refine aw_seq ?_
  refine aw_weak (F0 := [(2, .rs 3 (wild.map cS)), (5, .ptr 5 0 0), (7, .ptr 7 0 0), (9, .bool true), (10, .rs 3 (R.map cS)), (11, iv n), (12, iv m)]) (H0 := [(5, .cells 26 3 [[iv q0, iv q1, iv q2]] true), (7, .cells 62 2 [[iv n0, iv n1]] true)]) (weak_to (.cons rfl (rc_same rfl (.inl rfl)) (.cons rfl (rc_same rfl (.inl rfl)) (.cons rfl (rc_same rfl (.inl rfl)) (.cons rfl (rc_same rfl (.inl rfl)) (.cons rfl (rc_frz rfl rfl rfl (fun _ => rfl)) (.cons rfl (rc_same rfl (.inl rfl)) (.cons rfl (rc_same rfl (.inl rfl)) (.nil)))))))) (.keep (rfl) rfl (.keep (rfl) rfl (.nil))) (fun i h => by cases h)) ?_
  refine aw_draw hmix ?_
  refine rs_mv rfl rfl ?_
  refine rs_mv rfl rfl ?_
  first | refine rs_ld_pa rfl rfl rfl rfl (Nat.le_of_ble_eq_true rfl) rfl ?_ | refine rs_ld_ra rfl rfl (Nat.le_of_ble_eq_true rfl) rfl ?_ | refine rs_ld_ma rfl rfl rfl (by omega) (Nat.le_of_ble_eq_true rfl) rfl ?_
  refine rs_calln [] rfl rfl (fc33 R q0 q1 q2 (by omega)) (.cons (hv_same rfl) (.cons (hv_same rfl) (.nil))) rfl ?_
  refine rs_mv rfl rfl ?_
  refine rs_mv rfl rfl ?_
  first | refine rs_len_m rfl rfl ?_ | refine rs_len_s rfl rfl ?_ | refine rs_len_n rfl rfl ?_ | refine rs_len_r rfl rfl rfl ?_
  refine rs_mn rfl rfl rfl rfl ?_
  refine rs_slc_r (l := 0) (q := min (wild.length : Int) 12) (els' := (wild.take 12).map cS) rfl rfl rfl rfl rfl (by omega) (by omega) (by simp; omega) (by rw [show (min (wild.length : Int) 12).toNat = min wild.length 12 by omega]; simp [List.take_eq_take_min, Nat.min_comm]) ?_
  refine rs_bslice rfl rfl rfl rfl rfl rfl ?_
  first | refine rs_len_m rfl rfl ?_ | refine rs_len_s rfl rfl ?_ | refine rs_len_n rfl rfl ?_ | refine rs_len_r rfl rfl rfl ?_
  refine rs_mv rfl rfl ?_
  refine rs_nil ⟨by kernel_rfl, fun _ => ?_⟩
  refine th_n ?_
  refine aw_block ?_
  refine aw_fam (α := Nat) (fun k => 3 - k) (fun k => [(7, .ptr 7 0 0), (9, .bool true), (11, iv n), (12, iv m), (41, .sl 41 0 3), (42, iv 3), (43, iv (((k) : Nat) : Int))]) (fun k => [(7, .cells 62 2 [[iv n0, iv n1]] true), (41, .cells 61 1 (([R, oddI R q0 q1 q2, wild.take 12]).map cSs) true)]) (fun k => k ≤ 3) 0 (by omega)
    (weak_to (.cons rfl (rc_same rfl (.inl rfl)) (.cons rfl (rc_same rfl (.inl rfl)) (.cons rfl (rc_same rfl (.inl rfl)) (.cons rfl (rc_same rfl (.inl rfl)) (.cons rfl (rc_same rfl (.inl rfl)) (.cons rfl (rc_same rfl (.inl rfl)) (.cons rfl (rc_same rfl (.inl rfl)) (.nil)))))))) (.keep (rfl) rfl (.keep (rfl) rfl (.nil))) (fun i h => by cases h)) ?_
  intro k hk
  refine aw_seq ?_
  refine aw_reg ?_
  refine rs_lss rfl rfl rfl ?_
  refine rs_nil fun _ => ?_
  refine th_n ?_
  refine aw_seq ?_
  refine aw_cond rfl (fun h44 => ?_) (fun h44 => ?_)
  · first | replace h44 := of_decide_eq_true h44 | skip
    refine aw_skip ?_
    refine th_n ?_
    refine aw_seq ?_
    refine aw_block ?_
    refine aw_seq ?_
    refine aw_reg ?_
    obtain ⟨s, hs, hsm⟩ := at_some (L := [R, oddI R q0 q1 q2, wild.take 12]) (k := k) (by simp; omega)
    have hsl := hrl s hsm
    refine rs_ix_sm (t := k) rfl rfl rfl rfl (by omega) ?_
    refine rs_ld_g rfl rfl rfl hs rfl ?_
    refine rs_mv rfl rfl ?_
    refine rs_nil fun _ => ?_
    refine th_n ?_
    refine aw_seq ?_
    refine aw_reg ?_
    refine rs_mv rfl rfl ?_
    refine rs_mv rfl rfl ?_
    refine rs_build rfl rfl ?_
    refine rs_ixarr_p rfl rfl rfl (by decide) (by decide) ?_
    first | refine rs_ld_r rfl rfl rfl ?_ | refine rs_ld_p rfl rfl rfl rfl rfl ?_ | refine rs_ld_m rfl rfl rfl (by omega) rfl ?_
    refine rs_mv rfl rfl ?_
    refine rs_build rfl rfl ?_
    refine rs_mv rfl rfl ?_
    refine rs_ixarr_p rfl rfl rfl (by decide) (by decide) ?_
    first | refine rs_ld_r rfl rfl rfl ?_ | refine rs_ld_p rfl rfl rfl rfl rfl ?_ | refine rs_ld_m rfl rfl rfl (by omega) rfl ?_
    refine rs_build rfl rfl ?_
    refine rs_mv rfl rfl ?_
    refine rs_build rfl rfl ?_
    refine rs_bslice rfl rfl rfl rfl rfl rfl ?_
    first | refine rs_len_m rfl rfl ?_ | refine rs_len_s rfl rfl ?_ | refine rs_len_n rfl rfl ?_ | refine rs_len_r rfl rfl rfl ?_
    refine rs_mv rfl rfl ?_
    refine rs_nil fun _ => ?_
    refine th_n ?_
    refine aw_block ?_
    refine aw_fam (α := Nat) (fun q => 4 - q) (fun q => [(7, .ptr 7 0 0), (9, .bool true), (11, iv n), (12, iv m), (41, .sl 41 0 3), (42, iv 3), (43, iv (((k) : Nat) : Int)), (14, .rs 3 (s.map cS)), (60, .sl 60 0 4), (61, iv 4), (62, iv (((q) : Nat) : Int))]) (fun q => [(7, .cells 62 2 [[iv n0, iv n1]] true), (41, .cells 61 1 (([R, oddI R q0 q1 q2, wild.take 12]).map cSs) true), (60, .cells 62 2 (([(n, m), (n0, m), (n, n1), ((16 : Int), m)]).map cPI) true)]) (fun q => q ≤ 4) 0 (by omega)
      (weak_to (.cons rfl (rc_same rfl (.inl rfl)) (.cons rfl (rc_same rfl (.inl rfl)) (.cons rfl (rc_same rfl (.inl rfl)) (.cons rfl (rc_same rfl (.inl rfl)) (.cons rfl (rc_same rfl (.inl rfl)) (.cons rfl (rc_same rfl (.inl rfl)) (.cons rfl (rc_same rfl (.inl rfl)) (.cons rfl (rc_same rfl (.inl rfl)) (.cons rfl (rc_same rfl (.inl rfl)) (.cons rfl (rc_same rfl (.inl rfl)) (.cons rfl (rc_same rfl (.inl rfl)) (.nil)))))))))))) (.keep (rfl) rfl (.keep (rfl) rfl (.keep (rfl) rfl (.nil)))) (fun i h => by cases h)) ?_
    intro q hq
    refine aw_seq ?_
    refine aw_reg ?_
    refine rs_lss rfl rfl rfl ?_
    refine rs_nil fun _ => ?_
    refine th_n ?_
    refine aw_seq ?_
    refine aw_cond rfl (fun h63 => ?_) (fun h63 => ?_)
    · first | replace h63 := of_decide_eq_true h63 | skip
      refine aw_skip ?_
      refine th_n ?_
      refine aw_seq ?_
      refine aw_block ?_
      refine aw_seq ?_
      refine aw_reg ?_
      obtain ⟨p, hp, _⟩ := at_some (L := [(n, m), (n0, m), (n, n1), ((16 : Int), m)]) (k := q) (by simp; omega)
      refine rs_ix_sm (t := q) rfl rfl rfl rfl (by omega) ?_
      refine rs_ld_ga (cs := cPI p) rfl rfl rfl hp (Nat.le_of_ble_eq_true rfl) rfl ?_
      refine rs_alloc rfl rfl rfl ?_
      refine rs_st (els' := [cPI p]) rfl rfl rfl rfl rfl rfl rfl (Nat.le_of_ble_eq_true rfl) rfl rfl ?_
      refine rs_nil fun _ => ?_
      refine th_n ?_
      refine aw_seq ?_
      refine aw_seq ?_
      refine aw_draw hmix ?_
      refine rs_mv rfl rfl ?_
      refine rs_ixarr_p rfl rfl rfl (by decide) (by decide) ?_
      first | refine rs_ld_r rfl rfl rfl ?_ | refine rs_ld_p rfl rfl rfl rfl rfl ?_ | refine rs_ld_m rfl rfl rfl (by omega) rfl ?_
      refine rs_ixarr_p rfl rfl rfl (by decide) (by decide) ?_
      first | refine rs_ld_r rfl rfl rfl ?_ | refine rs_ld_p rfl rfl rfl rfl rfl ?_ | refine rs_ld_m rfl rfl rfl (by omega) rfl ?_
      refine rs_calln [] rfl rfl (fc34 s p.1 p.2 (by omega)) (.cons (hv_same rfl) (.cons (hv_same rfl) (.cons (hv_same rfl) (.nil)))) rfl ?_
      refine rs_mv rfl rfl ?_
      refine rs_ixarr_p rfl rfl rfl (by decide) (by decide) ?_
      first | refine rs_ld_r rfl rfl rfl ?_ | refine rs_ld_p rfl rfl rfl rfl rfl ?_ | refine rs_ld_m rfl rfl rfl (by omega) rfl ?_
      refine rs_ixarr_p rfl rfl rfl (by decide) (by decide) ?_
      first | refine rs_ld_r rfl rfl rfl ?_ | refine rs_ld_p rfl rfl rfl rfl rfl ?_ | refine rs_ld_m rfl rfl rfl (by omega) rfl ?_
      refine rs_calln [] rfl rfl (fc35 s p.1 p.2 (by omega)) (.cons (hv_same rfl) (.cons (hv_same rfl) (.cons (hv_same rfl) (.nil)))) rfl ?_
      refine rs_cmp_f rfl rfl rfl rfl (fun h => h rfl) ?_
      refine rs_nil ⟨by kernel_rfl, fun _ => ?_⟩
      refine th_n ?_
      refine aw_cond rfl (fun h => by cases h) (fun _ => ?_)
      refine aw_skip ?_
      refine th_n ?_
      refine aw_seq ?_
      refine aw_reg ?_
      refine rs_mv rfl rfl ?_
      refine rs_ixarr_p rfl rfl rfl (by decide) (by decide) ?_
      first | refine rs_ld_r rfl rfl rfl ?_ | refine rs_ld_p rfl rfl rfl rfl rfl ?_ | refine rs_ld_m rfl rfl rfl (by omega) rfl ?_
      refine rs_ixarr_p rfl rfl rfl (by decide) (by decide) ?_
      first | refine rs_ld_r rfl rfl rfl ?_ | refine rs_ld_p rfl rfl rfl rfl rfl ?_ | refine rs_ld_m rfl rfl rfl (by omega) rfl ?_
      refine rs_calln [] rfl rfl (fc36 s p.1 p.2 (by omega)) (.cons (hv_same rfl) (.cons (hv_same rfl) (.cons (hv_same rfl) (.nil)))) rfl ?_
      refine rs_mv rfl rfl ?_
      refine rs_ext rfl rfl rfl ?_
      refine rs_ext rfl rfl rfl ?_
      refine rs_mv rfl rfl ?_
      refine rs_mv rfl rfl ?_
      refine rs_nil fun _ => ?_
      refine th_n ?_
      refine aw_seq ?_
      refine aw_reg ?_
      refine rs_mv rfl rfl ?_
      refine rs_ixarr_p rfl rfl rfl (by decide) (by decide) ?_
      first | refine rs_ld_r rfl rfl rfl ?_ | refine rs_ld_p rfl rfl rfl rfl rfl ?_ | refine rs_ld_m rfl rfl rfl (by omega) rfl ?_
      refine rs_ixarr_p rfl rfl rfl (by decide) (by decide) ?_
      first | refine rs_ld_r rfl rfl rfl ?_ | refine rs_ld_p rfl rfl rfl rfl rfl ?_ | refine rs_ld_m rfl rfl rfl (by omega) rfl ?_
      refine rs_calln [] rfl rfl (fc37 s p.1 p.2 (by omega)) (.cons (hv_same rfl) (.cons (hv_same rfl) (.cons (hv_same rfl) (.nil)))) rfl ?_
      refine rs_mv rfl rfl ?_
      refine rs_ext rfl rfl rfl ?_
      refine rs_ext rfl rfl rfl ?_
      refine rs_mv rfl rfl ?_
      refine rs_mv rfl rfl ?_
      refine rs_nil fun _ => ?_
      refine th_n ?_
      refine aw_seq ?_
      refine aw_seq ?_
      refine aw_reg ?_
      refine rs_mv rfl rfl ?_
      refine rs_mv rfl rfl ?_
      refine rs_cmp_f rfl rfl rfl rfl (fun h => h rfl) ?_
      refine rs_mv rfl rfl ?_
      refine rs_mv rfl rfl ?_
      refine rs_mv rfl rfl ?_
      refine rs_calln [] rfl rfl (fc38_t _ (Nat.le_trans cellsL_len (by decide))) (.cons (hv_same rfl) (.cons (hv_same rfl) (.nil))) rfl ?_
      refine rs_not rfl rfl ?_
      refine rs_pick rfl rfl rfl ?_
      refine rs_nil fun _ => ?_
      refine th_n ?_
      refine aw_cond rfl (fun h => by cases h) (fun _ => ?_)
      refine aw_skip ?_
      refine th_n ?_
      refine aw_seq ?_
      refine aw_reg ?_
      refine rs_mv rfl rfl ?_
      refine rs_ixarr_p rfl rfl rfl (by decide) (by decide) ?_
      first | refine rs_ld_r rfl rfl rfl ?_ | refine rs_ld_p rfl rfl rfl rfl rfl ?_ | refine rs_ld_m rfl rfl rfl (by omega) rfl ?_
      refine rs_ixarr_p rfl rfl rfl (by decide) (by decide) ?_
      first | refine rs_ld_r rfl rfl rfl ?_ | refine rs_ld_p rfl rfl rfl rfl rfl ?_ | refine rs_ld_m rfl rfl rfl (by omega) rfl ?_
      refine rs_calln [] rfl rfl (fc39 s p.1 p.2 (by omega)) (.cons (hv_same rfl) (.cons (hv_same rfl) (.cons (hv_same rfl) (.nil)))) rfl ?_
      refine rs_mv rfl rfl ?_
      refine rs_ext rfl rfl rfl ?_
      refine rs_ext rfl rfl rfl ?_
      refine rs_mv rfl rfl ?_
      refine rs_mv rfl rfl ?_
      refine rs_nil fun _ => ?_
      refine th_n ?_
      refine aw_seq ?_
      refine aw_reg ?_
      refine rs_mv rfl rfl ?_
      refine rs_ixarr_p rfl rfl rfl (by decide) (by decide) ?_
      first | refine rs_ld_r rfl rfl rfl ?_ | refine rs_ld_p rfl rfl rfl rfl rfl ?_ | refine rs_ld_m rfl rfl rfl (by omega) rfl ?_
      refine rs_ixarr_p rfl rfl rfl (by decide) (by decide) ?_
      first | refine rs_ld_r rfl rfl rfl ?_ | refine rs_ld_p rfl rfl rfl rfl rfl ?_ | refine rs_ld_m rfl rfl rfl (by omega) rfl ?_
      refine rs_calln [] rfl rfl (fc40 s p.1 p.2 (by omega)) (.cons (hv_same rfl) (.cons (hv_same rfl) (.cons (hv_same rfl) (.nil)))) rfl ?_
      refine rs_mv rfl rfl ?_
      refine rs_ext rfl rfl rfl ?_
      refine rs_ext rfl rfl rfl ?_
      refine rs_mv rfl rfl ?_
      refine rs_mv rfl rfl ?_
      refine rs_nil fun _ => ?_
      refine th_n ?_
      refine aw_seq ?_
      refine aw_reg ?_
      refine rs_mv rfl rfl ?_
      refine rs_mv rfl rfl ?_
      refine rs_cmp_f rfl rfl rfl rfl (fun h => h rfl) ?_
      refine rs_mv rfl rfl ?_
      refine rs_mv rfl rfl ?_
      refine rs_mv rfl rfl ?_
      refine rs_calln [] rfl rfl (fc38_t _ (Nat.le_trans sureL_len (by decide))) (.cons (hv_same rfl) (.cons (hv_same rfl) (.nil))) rfl ?_
      refine rs_not rfl rfl ?_
      refine rs_pick rfl rfl rfl ?_
      refine rs_nil fun _ => ?_
      refine th_n ?_
      refine aw_cond rfl (fun h => by cases h) (fun _ => ?_)
      refine aw_skip ?_
      refine in_n ?_
      refine th_n ?_
      refine aw_reg ?_
      first | refine rs_add rfl rfl rfl (by omega) ?_ | refine rs_addw rfl rfl rfl rfl ?_
      refine rs_mv rfl rfl ?_
      refine rs_nil fun _ => ?_
      refine th_n ?_
      exact ⟨q + 1, by omega, by omega, weak_to (.cons rfl (rc_same rfl (.inl rfl)) (.cons rfl (rc_same rfl (.inl rfl)) (.cons rfl (rc_same rfl (.inl rfl)) (.cons rfl (rc_same rfl (.inl rfl)) (.cons rfl (rc_same rfl (.inl rfl)) (.cons rfl (rc_same rfl (.inl rfl)) (.cons rfl (rc_same rfl (.inl rfl)) (.cons rfl (rc_same rfl (.inl rfl)) (.cons rfl (rc_same rfl (.inl rfl)) (.cons rfl (rc_same rfl (.inl rfl)) (.cons rfl (rc_same rfl (.inl rfl)) (.nil)))))))))))) (.keep (rfl) rfl (.keep (rfl) rfl (.keep (rfl) rfl (.nil)))) (fun i h => by cases h)⟩
    · first | replace h63 := of_decide_eq_false h63 | skip
      refine aw_exit ?_
      refine th_e ?_
      refine th_e ?_
      refine in_hit ?_
      refine in_n ?_
      refine th_n ?_
      refine aw_reg ?_
      first | refine rs_add rfl rfl rfl (by omega) ?_ | refine rs_addw rfl rfl rfl rfl ?_
      refine rs_mv rfl rfl ?_
      refine rs_nil fun _ => ?_
      refine th_n ?_
      exact ⟨k + 1, by omega, by omega, weak_to (.cons rfl (rc_same rfl (.inl rfl)) (.cons rfl (rc_same rfl (.inl rfl)) (.cons rfl (rc_same rfl (.inl rfl)) (.cons rfl (rc_same rfl (.inl rfl)) (.cons rfl (rc_same rfl (.inl rfl)) (.cons rfl (rc_same rfl (.inl rfl)) (.cons rfl (rc_same rfl (.inl rfl)) (.nil)))))))) (.keep (rfl) rfl (.keep (rfl) rfl (.nil))) (fun i h => by cases h)⟩
  · first | replace h44 := of_decide_eq_false h44 | skip
    refine aw_exit ?_
    refine th_e ?_
    refine th_e ?_
    refine in_hit ?_
    refine th_n ?_
    refine aw_seq ?_
    refine aw_reg ?_
    refine rs_mv rfl rfl ?_
    refine rs_mv rfl rfl ?_
    refine rs_nil fun _ => ?_
    refine th_n ?_
    refine aw_ret ?_
    exact ret_pure rfl rfl rfl (.inr rfl)

def mc10 : MC := (.seq (.reg [⟨(some 6), (.box 60 3 (.t 0)), none, []⟩, ⟨(some 7), (.box 26 3 (.t 1)), none, []⟩, ⟨(some 12), (.mv (.c (.bool false))), none, []⟩] false) (.seq (.reg [⟨(some 23), (.call 31 []), none, []⟩, ⟨(some 13), (.mv (.t 23)), none, [0, 0, 0]⟩] false) (.seq (.reg [⟨(some 25), (.ld true 3 (.t 6)), none, []⟩, ⟨(some 26), (.call 32 [(.t 25)]), none, [0]⟩, ⟨(some 24), (.mv (.t 26)), none, [1]⟩, ⟨(some 27), (.ext (.t 24) 0), none, [2]⟩, ⟨(some 28), (.ext (.t 24) 1), none, [2]⟩, ⟨(some 29), (.ext (.t 24) 2), none, [2]⟩, ⟨(some 14), (.mv (.t 27)), none, [3, 1, 0, 1, 2, 3]⟩, ⟨(some 15), (.mv (.t 28)), none, [4, 6, 0, 1, 2, 3, 4, 6]⟩, ⟨(some 16), (.mv (.t 29)), none, [5, 7, 0, 1, 2, 3, 4, 5, 6, 7]⟩] false) (.seq (.seq (.reg [⟨(some 30), (.mv (.t 14)), none, []⟩, ⟨(some 31), (.mv (.t 14)), none, []⟩, ⟨(some 32), (.ld true 3 (.t 7)), none, []⟩, ⟨(some 33), (.call 33 [(.t 31), (.t 32)]), none, [1, 2]⟩, ⟨(some 34), (.mv (.t 2)), none, []⟩, ⟨(some 35), (.mv (.t 2)), none, []⟩, ⟨(some 36), (.len (.t 35)), none, [5]⟩, ⟨(some 37), (.mn (.t 36) (.c (.int .i64 12))), none, [6]⟩, ⟨(some 38), (.slc 3 (.t 34) none (some (.t 37))), none, [4, 7]⟩, ⟨(some 39), (.bslice 61 1 [.nils] 3 [(0, (.t 30)), (1, (.t 33)), (2, (.t 38))]), none, [0, 3, 8]⟩, ⟨(some 40), (.len (.t 39)), none, [9]⟩, ⟨(some 41), (.mv (.c (.int .i64 0))), none, []⟩] true) (.block 0 (.loop (.seq (.reg [⟨(some 42), (.bin .lss (.t 41) (.t 40)), none, []⟩] false) (.seq (.cond (.t 42) .skip (.exit 0)) (.seq (.block 1 (.seq (.reg [⟨(some 43), (.ixsl 1 (.t 39) (.t 41)), none, []⟩, ⟨(some 44), (.ld false 1 (.t 43)), none, [0]⟩, ⟨(some 18), (.mv (.t 44)), none, [1, 0, 1]⟩] false) (.seq (.reg [⟨(some 45), (.mv (.t 3)), none, []⟩, ⟨(some 46), (.mv (.t 15)), none, []⟩, ⟨(some 47), (.call 41 [(.t 45), (.t 46)]), none, [0, 1]⟩, ⟨(some 48), (.build [(.str (.mk (.mk []))), .nils, .nils] [(2, (1, (.t 47)))]), none, [2]⟩, ⟨(some 49), (.mv (.t 4)), none, []⟩, ⟨(some 50), (.mv (.t 4)), none, []⟩, ⟨(some 51), (.len (.t 50)), none, [5]⟩, ⟨(some 52), (.mn (.t 51) (.c (.int .i64 18))), none, [6]⟩, ⟨(some 53), (.slc 1 (.t 49) none (some (.t 52))), none, [4, 7]⟩, ⟨(some 54), (.build [(.str (.mk (.mk []))), .nils, .nils] [(2, (1, (.t 53)))]), none, [8]⟩, ⟨(some 55), (.mv (.t 3)), none, []⟩, ⟨(some 56), (.call 41 [(.t 55), (.c (.int .i64 17))]), none, [10, 2]⟩, ⟨(some 57), (.build [(.str (.mk (.mk []))), .nils, .nils] [(2, (1, (.t 56)))]), none, [11]⟩, ⟨(some 58), (.bslice 74 3 [(.str (.mk (.mk []))), .nils, .nils] 3 [(0, (.t 48)), (1, (.t 54)), (2, (.t 57))]), none, [3, 9, 12]⟩, ⟨(some 59), (.len (.t 58)), none, [13]⟩, ⟨(some 60), (.mv (.c (.int .i64 0))), none, []⟩] true) (.block 2 (.loop (.seq (.reg [⟨(some 61), (.bin .lss (.t 60) (.t 59)), none, []⟩] false) (.seq (.cond (.t 61) .skip (.exit 2)) (.seq (.block 3 (.seq (.reg [⟨(some 62), (.ixsl 3 (.t 58) (.t 60)), none, []⟩, ⟨(some 63), (.ld true 3 (.t 62)), none, [0]⟩, ⟨(some 20), (.alloc 74 3 [(.str (.mk (.mk []))), .nils, .nils]), none, []⟩, ⟨none, (.st 3 (.t 20) (.t 63)), none, [2, 1, 0, 1, 2]⟩] false) (.seq (.reg [⟨(some 64), (.mv (.t 16)), none, []⟩, ⟨(some 65), (.mv (.t 5)), none, []⟩, ⟨(some 66), (.bslice 3 1 [(.int .i64 0)] 2 [(0, (.t 64)), (1, (.t 65))]), none, [0, 1]⟩, ⟨(some 67), (.len (.t 66)), none, [2]⟩, ⟨(some 68), (.mv (.c (.int .i64 0))), none, []⟩] false) (.block 4 (.loop (.seq (.reg [⟨(some 69), (.bin .lss (.t 68) (.t 67)), none, []⟩] false) (.seq (.cond (.t 69) .skip (.exit 4)) (.seq (.block 5 (.seq (.reg [⟨(some 70), (.ixsl 1 (.t 66) (.t 68)), none, []⟩, ⟨(some 71), (.ld false 1 (.t 70)), none, [0]⟩, ⟨(some 22), (.mv (.t 71)), none, [1, 0, 1]⟩] false) (.seq (.reg [⟨(some 72), (.ld true 3 (.t 20)), none, []⟩, ⟨(some 73), (.mv (.t 18)), none, []⟩, ⟨(some 74), (.mv (.t 22)), none, []⟩, ⟨(some 75), (.call 42 [(.t 72), (.t 73), (.t 74)]), none, [0, 1, 2]⟩, ⟨(some 76), (.ld true 3 (.t 20)), none, []⟩, ⟨(some 77), (.mv (.t 18)), none, []⟩, ⟨(some 78), (.mv (.t 22)), none, []⟩, ⟨(some 79), (.call 43 [(.t 76), (.t 77), (.t 78)]), none, [4, 5, 6, 3]⟩, ⟨(some 80), (.bin .neq (.t 75) (.t 79)), none, [3, 7]⟩] true) (.cond (.t 80) (.seq (.reg [⟨(some 12), (.mv (.c (.bool false))), none, []⟩] false) .ret) .skip)))) (.reg [⟨(some 81), (.bin .add (.t 68) (.c (.int .i64 1))), none, []⟩, ⟨(some 68), (.mv (.t 81)), none, [0]⟩] false))))))))) (.reg [⟨(some 82), (.bin .add (.t 60) (.c (.int .i64 1))), none, []⟩, ⟨(some 60), (.mv (.t 82)), none, [0]⟩] false))))))))) (.reg [⟨(some 83), (.bin .add (.t 41) (.c (.int .i64 1))), none, []⟩, ⟨(some 41), (.mv (.t 83)), none, [0]⟩] false))))))) (.seq (.reg [⟨(some 84), (.mv (.t 13)), none, []⟩, ⟨(some 12), (.mv (.t 84)), none, [0, 0]⟩] false) .ret)))))
theorem mcOk10 : (match Try.f10.body with | some c => compC Try.prog 85 c | none => none) = some mc10 := by kernel_rfl

theorem fc10 (L : List Int) (c5 l4 : Int) (q0 q1 q2 : Int) (wild : List Sg) (ws raw : List Int) (lies : Int) (hws : ∀ x ∈ ws, 0 ≤ x ∧ x < 256) (hL : L.length ≤ 4611686018427387904) (hc : 0 ≤ c5 ∧ c5 < 256) (hl4 : 0 ≤ l4 ∧ l4 < 256) : FC Try.prog 10 [.agg [ints L, .int .u8 c5, .int .u8 l4], .agg [iv q0, iv q1, iv q2], .rs 3 (wild.map cS), .rs 1 (ws.map cu8), ints raw, iv lies] [] (.bool true) [] false := by
  obtain ⟨n, m, R, hm, hmade⟩ := made_i L c5 l4 hL hc hl4
  have hn1 := hm.n1
  have hn5 := hm.n5
  have hm0 := hm.m0
  have hm3 := hm.m3
  have hlR := hm.lR
  obtain ⟨N, rfl⟩ : ∃ N : Nat, n = (N : Int) := ⟨n.toNat, by omega⟩
  have hrl : ∀ r ∈ ([R, oddI R q0 q1 q2, wild.take 12]), r.length ≤ 100 := by
    have h1 := oddI_len R q0 q1 q2
    intro r hr
    simp only [List.mem_cons, List.not_mem_nil, or_false] at hr
    rcases hr with rfl | rfl | rfl
    · omega
    · omega
    · simp; omega
  have hpl : ∀ r ∈ ([wantsS ws N, raw.take 18, wantsS ws 17]), r.length ≤ 100 := by
    intro r hr
    simp only [List.mem_cons, List.not_mem_nil, or_false] at hr
    rcases hr with rfl | rfl | rfl
    · rw [length_wants]; omega
    · simp; omega
    · rw [length_wants]; omega
  refine fc_run (nt := 85) Try.func10 rfl rfl mcOk10 (Nat.le_of_ble_eq_true rfl) ?_
  delta mc10
  refine aw_seq ?_
  refine aw_reg ?_
  refine rs_box rfl rfl rfl rfl rfl rfl ?_
  refine rs_box rfl rfl rfl rfl rfl rfl ?_
  refine rs_mv rfl rfl ?_
  refine rs_nil fun _ => ?_
  refine th_n ?_
  refine aw_seq ?_
  refine aw_reg ?_
  refine rs_calln [] rfl rfl fc31 .nil rfl ?_
  refine rs_mv rfl rfl ?_
  refine rs_nil fun _ => ?_
  refine th_n ?_
  refine aw_seq ?_
  refine aw_reg ?_
  first | refine rs_ld_pa rfl rfl rfl rfl (Nat.le_of_ble_eq_true rfl) rfl ?_ | refine rs_ld_ra rfl rfl (Nat.le_of_ble_eq_true rfl) rfl ?_ | refine rs_ld_ma rfl rfl rfl (by omega) (Nat.le_of_ble_eq_true rfl) rfl ?_
  refine rs_callo [] rfl rfl hmade (.cons (hv_same rfl) .nil) .nil rfl rfl rfl ?_
  refine rs_mv rfl rfl ?_
  refine rs_ext rfl rfl rfl ?_
  refine rs_ext rfl rfl rfl ?_
  refine rs_ext rfl rfl rfl ?_
  refine rs_mv rfl rfl ?_
  refine rs_mv rfl rfl ?_
  refine rs_mv rfl rfl ?_
  refine rs_nil fun _ => ?_
  refine th_n ?_
  refine aw_seq ?_
  refine aw_seq ?_
  refine aw_weak (F0 := [(2, .rs 3 (wild.map cS)), (3, .rs 1 (ws.map cu8)), (4, ints raw), (5, iv lies), (7, .ptr 7 0 0), (13, .bool true), (14, .rs 3 (R.map cS)), (15, iv (N : Int)), (16, iv m)]) (H0 := [(7, .cells 26 3 [[iv q0, iv q1, iv q2]] true)]) (weak_to (.cons rfl (rc_same rfl (.inl rfl)) (.cons rfl (rc_same rfl (.inl rfl)) (.cons rfl (rc_same rfl (.inl rfl)) (.cons rfl (rc_same rfl (.inl rfl)) (.cons rfl (rc_same rfl (.inl rfl)) (.cons rfl (rc_same rfl (.inl rfl)) (.cons rfl (rc_frz rfl rfl rfl (fun _ => rfl)) (.cons rfl (rc_same rfl (.inl rfl)) (.cons rfl (rc_same rfl (.inl rfl)) (.nil)))))))))) (.keep (rfl) rfl (.nil)) (fun i h => by cases h)) ?_
  refine aw_draw hmix ?_
  refine rs_mv rfl rfl ?_
  refine rs_mv rfl rfl ?_
  first | refine rs_ld_pa rfl rfl rfl rfl (Nat.le_of_ble_eq_true rfl) rfl ?_ | refine rs_ld_ra rfl rfl (Nat.le_of_ble_eq_true rfl) rfl ?_ | refine rs_ld_ma rfl rfl rfl (by omega) (Nat.le_of_ble_eq_true rfl) rfl ?_
  refine rs_calln [] rfl rfl (fc33 R q0 q1 q2 (by omega)) (.cons (hv_same rfl) (.cons (hv_same rfl) (.nil))) rfl ?_
  refine rs_mv rfl rfl ?_
  refine rs_mv rfl rfl ?_
  first | refine rs_len_m rfl rfl ?_ | refine rs_len_s rfl rfl ?_ | refine rs_len_n rfl rfl ?_ | refine rs_len_r rfl rfl rfl ?_
  refine rs_mn rfl rfl rfl rfl ?_
  refine rs_slc_r (l := 0) (q := min (wild.length : Int) 12) (els' := (wild.take 12).map cS) rfl rfl rfl rfl rfl (by omega) (by omega) (by simp; omega) (by rw [show (min (wild.length : Int) 12).toNat = min wild.length 12 by omega]; simp [List.take_eq_take_min, Nat.min_comm]) ?_
  refine rs_bslice rfl rfl rfl rfl rfl rfl ?_
  first | refine rs_len_m rfl rfl ?_ | refine rs_len_s rfl rfl ?_ | refine rs_len_n rfl rfl ?_ | refine rs_len_r rfl rfl rfl ?_
  refine rs_mv rfl rfl ?_
  refine rs_nil ⟨by kernel_rfl, fun _ => ?_⟩
  refine th_n ?_
  refine aw_block ?_
  refine aw_fam (α := Nat) (fun k => 3 - k) (fun k => [(3, .rs 1 (ws.map cu8)), (4, ints raw), (5, iv lies), (13, .bool true), (15, iv (N : Int)), (16, iv m), (39, .sl 39 0 3), (40, iv 3), (41, iv (((k) : Nat) : Int))]) (fun k => [(39, .cells 61 1 (([R, oddI R q0 q1 q2, wild.take 12]).map cSs) true)]) (fun k => k ≤ 3) 0 (by omega)
    (weak_to (.cons rfl (rc_same rfl (.inl rfl)) (.cons rfl (rc_same rfl (.inl rfl)) (.cons rfl (rc_same rfl (.inl rfl)) (.cons rfl (rc_same rfl (.inl rfl)) (.cons rfl (rc_same rfl (.inl rfl)) (.cons rfl (rc_same rfl (.inl rfl)) (.cons rfl (rc_same rfl (.inl rfl)) (.cons rfl (rc_same rfl (.inl rfl)) (.cons rfl (rc_same rfl (.inl rfl)) (.nil)))))))))) (.keep (rfl) rfl (.nil)) (fun i h => by cases h)) ?_
  intro k hk
  refine aw_seq ?_
  refine aw_reg ?_
  refine rs_lss rfl rfl rfl ?_
  refine rs_nil fun _ => ?_
  refine th_n ?_
  refine aw_seq ?_
  refine aw_cond rfl (fun h42 => ?_) (fun h42 => ?_)
  · first | replace h42 := of_decide_eq_true h42 | skip
    refine aw_skip ?_
    refine th_n ?_
    refine aw_seq ?_
    refine aw_block ?_
    refine aw_seq ?_
    refine aw_reg ?_
    obtain ⟨s, hs, hsm⟩ := at_some (L := [R, oddI R q0 q1 q2, wild.take 12]) (k := k) (by simp; omega)
    have hsl := hrl s hsm
    refine rs_ix_sm (t := k) rfl rfl rfl rfl (by omega) ?_
    refine rs_ld_g rfl rfl rfl hs rfl ?_
    refine rs_mv rfl rfl ?_
    refine rs_nil fun _ => ?_
    refine th_n ?_
    refine aw_seq ?_
    refine aw_draw hmix ?_
    refine rs_mv rfl rfl ?_
    refine rs_mv rfl rfl ?_
    refine rs_calln [] rfl rfl (fc41 ws N (by omega) hws) (.cons (hv_same rfl) (.cons (hv_same rfl) (.nil))) rfl ?_
    refine rs_build rfl rfl ?_
    refine rs_mv rfl rfl ?_
    refine rs_mv rfl rfl ?_
    first | refine rs_len_m rfl rfl ?_ | refine rs_len_s rfl rfl ?_ | refine rs_len_n rfl rfl ?_ | refine rs_len_r rfl rfl rfl ?_
    refine rs_mn rfl rfl rfl rfl ?_
    refine rs_slc_r (l := 0) (q := min (raw.length : Int) 18) (els' := (raw.take 18).map ci) rfl rfl rfl rfl rfl (by omega) (by omega) (by simp; omega) (by rw [show (min (raw.length : Int) 18).toNat = min raw.length 18 by omega]; simp [List.take_eq_take_min, Nat.min_comm]) ?_
    refine rs_build rfl rfl ?_
    refine rs_mv rfl rfl ?_
    refine rs_calln [] rfl rfl (fc41 ws 17 (by omega) hws) (.cons (hv_same rfl) (.cons (hv_same rfl) (.nil))) rfl ?_
    refine rs_build rfl rfl ?_
    refine rs_bslice rfl rfl rfl rfl rfl rfl ?_
    first | refine rs_len_m rfl rfl ?_ | refine rs_len_s rfl rfl ?_ | refine rs_len_n rfl rfl ?_ | refine rs_len_r rfl rfl rfl ?_
    refine rs_mv rfl rfl ?_
    refine rs_nil ⟨by kernel_rfl, fun _ => ?_⟩
    refine th_n ?_
    refine aw_block ?_
    refine aw_fam (α := Nat) (fun q => 3 - q) (fun q => [(3, .rs 1 (ws.map cu8)), (4, ints raw), (5, iv lies), (13, .bool true), (15, iv (N : Int)), (16, iv m), (39, .sl 39 0 3), (40, iv 3), (41, iv (((k) : Nat) : Int)), (18, .rs 3 (s.map cS)), (58, .sl 58 0 3), (59, iv 3), (60, iv (((q) : Nat) : Int))]) (fun q => [(39, .cells 61 1 (([R, oddI R q0 q1 q2, wild.take 12]).map cSs) true), (58, .cells 74 3 (([wantsS ws N, raw.take 18, wantsS ws 17]).map cPV) true)]) (fun q => q ≤ 3) 0 (by omega)
      (weak_to (.cons rfl (rc_same rfl (.inl rfl)) (.cons rfl (rc_same rfl (.inl rfl)) (.cons rfl (rc_same rfl (.inl rfl)) (.cons rfl (rc_same rfl (.inl rfl)) (.cons rfl (rc_same rfl (.inl rfl)) (.cons rfl (rc_same rfl (.inl rfl)) (.cons rfl (rc_same rfl (.inl rfl)) (.cons rfl (rc_same rfl (.inl rfl)) (.cons rfl (rc_same rfl (.inl rfl)) (.cons rfl (rc_same rfl (.inl rfl)) (.cons rfl (rc_same rfl (.inl rfl)) (.cons rfl (rc_same rfl (.inl rfl)) (.cons rfl (rc_same rfl (.inl rfl)) (.nil)))))))))))))) (.keep (rfl) rfl (.keep (rfl) rfl (.nil))) (fun i h => by cases h)) ?_
    intro q hq
    refine aw_seq ?_
    refine aw_reg ?_
    refine rs_lss rfl rfl rfl ?_
    refine rs_nil fun _ => ?_
    refine th_n ?_
    refine aw_seq ?_
    refine aw_cond rfl (fun h61 => ?_) (fun h61 => ?_)
    · first | replace h61 := of_decide_eq_true h61 | skip
      refine aw_skip ?_
      refine th_n ?_
      refine aw_seq ?_
      refine aw_block ?_
      refine aw_seq ?_
      refine aw_reg ?_
      obtain ⟨want, hwt, hwm⟩ := at_some (L := [wantsS ws N, raw.take 18, wantsS ws 17]) (k := q) (by simp; omega)
      have hwl := hpl want hwm
      refine rs_ix_sm (t := q) rfl rfl rfl rfl (by omega) ?_
      refine rs_ld_ga (cs := cPV want) rfl rfl rfl hwt (Nat.le_of_ble_eq_true rfl) rfl ?_
      refine rs_alloc rfl rfl rfl ?_
      refine rs_st (els' := [cPV want]) rfl rfl rfl rfl rfl rfl rfl (Nat.le_of_ble_eq_true rfl) rfl rfl ?_
      refine rs_nil fun _ => ?_
      refine th_n ?_
      refine aw_seq ?_
      refine aw_reg ?_
      refine rs_mv rfl rfl ?_
      refine rs_mv rfl rfl ?_
      refine rs_bslice rfl rfl rfl rfl rfl rfl ?_
      first | refine rs_len_m rfl rfl ?_ | refine rs_len_s rfl rfl ?_ | refine rs_len_n rfl rfl ?_ | refine rs_len_r rfl rfl rfl ?_
      refine rs_mv rfl rfl ?_
      refine rs_nil fun _ => ?_
      refine th_n ?_
      refine aw_block ?_
      refine aw_fam (α := Nat) (fun r => 2 - r) (fun r => [(3, .rs 1 (ws.map cu8)), (4, ints raw), (5, iv lies), (13, .bool true), (15, iv (N : Int)), (16, iv m), (39, .sl 39 0 3), (40, iv 3), (41, iv (((k) : Nat) : Int)), (18, .rs 3 (s.map cS)), (58, .sl 58 0 3), (59, iv 3), (60, iv (((q) : Nat) : Int)), (20, .ptr 20 0 0), (66, .sl 66 0 2), (67, iv 2), (68, iv (((r) : Nat) : Int))]) (fun r => [(39, .cells 61 1 (([R, oddI R q0 q1 q2, wild.take 12]).map cSs) true), (58, .cells 74 3 (([wantsS ws N, raw.take 18, wantsS ws 17]).map cPV) true), (20, .cells 74 3 [cPV want] true), (66, .cells 3 1 (([m, lies]).map ci) true)]) (fun r => r ≤ 2) 0 (by omega)
        (weak_to (.cons rfl (rc_same rfl (.inl rfl)) (.cons rfl (rc_same rfl (.inl rfl)) (.cons rfl (rc_same rfl (.inl rfl)) (.cons rfl (rc_same rfl (.inl rfl)) (.cons rfl (rc_same rfl (.inl rfl)) (.cons rfl (rc_same rfl (.inl rfl)) (.cons rfl (rc_same rfl (.inl rfl)) (.cons rfl (rc_same rfl (.inl rfl)) (.cons rfl (rc_same rfl (.inl rfl)) (.cons rfl (rc_same rfl (.inl rfl)) (.cons rfl (rc_same rfl (.inl rfl)) (.cons rfl (rc_same rfl (.inl rfl)) (.cons rfl (rc_same rfl (.inl rfl)) (.cons rfl (rc_same rfl (.inl rfl)) (.cons rfl (rc_same rfl (.inl rfl)) (.cons rfl (rc_same rfl (.inl rfl)) (.cons rfl (rc_same rfl (.inl rfl)) (.nil)))))))))))))))))) (.keep (rfl) rfl (.keep (rfl) rfl (.keep (rfl) rfl (.keep (rfl) rfl (.nil))))) (fun i h => by cases h)) ?_
      intro r hr
      refine aw_seq ?_
      refine aw_reg ?_
      refine rs_lss rfl rfl rfl ?_
      refine rs_nil fun _ => ?_
      refine th_n ?_
      refine aw_seq ?_
      refine aw_cond rfl (fun h69 => ?_) (fun h69 => ?_)
      · first | replace h69 := of_decide_eq_true h69 | skip
        refine aw_skip ?_
        refine th_n ?_
        refine aw_seq ?_
        refine aw_block ?_
        refine aw_seq ?_
        refine aw_reg ?_
        obtain ⟨x, hx, _⟩ := at_some (L := [m, lies]) (k := r) (by simp; omega)
        refine rs_ix_sm (t := r) rfl rfl rfl rfl (by omega) ?_
        refine rs_ld_g rfl rfl rfl hx rfl ?_
        refine rs_mv rfl rfl ?_
        refine rs_nil fun _ => ?_
        refine th_n ?_
        refine aw_seq ?_
        refine aw_draw hmix ?_
        first | refine rs_ld_pa rfl rfl rfl rfl (Nat.le_of_ble_eq_true rfl) rfl ?_ | refine rs_ld_ra rfl rfl (Nat.le_of_ble_eq_true rfl) rfl ?_ | refine rs_ld_ma rfl rfl rfl (by omega) (Nat.le_of_ble_eq_true rfl) rfl ?_
        refine rs_mv rfl rfl ?_
        refine rs_mv rfl rfl ?_
        refine rs_calln [] rfl rfl (fc42 want s x (by omega) (by omega)) (.cons (hv_same rfl) (.cons (hv_same rfl) (.cons (hv_same rfl) (.nil)))) rfl ?_
        first | refine rs_ld_pa rfl rfl rfl rfl (Nat.le_of_ble_eq_true rfl) rfl ?_ | refine rs_ld_ra rfl rfl (Nat.le_of_ble_eq_true rfl) rfl ?_ | refine rs_ld_ma rfl rfl rfl (by omega) (Nat.le_of_ble_eq_true rfl) rfl ?_
        refine rs_mv rfl rfl ?_
        refine rs_mv rfl rfl ?_
        refine rs_calln [] rfl rfl (fc43 want s x (by omega) (by omega)) (.cons (hv_same rfl) (.cons (hv_same rfl) (.cons (hv_same rfl) (.nil)))) rfl ?_
        refine rs_cmp_f rfl rfl rfl rfl (fun h => h rfl) ?_
        refine rs_nil ⟨by kernel_rfl, fun _ => ?_⟩
        refine th_n ?_
        refine aw_cond rfl (fun h => by cases h) (fun _ => ?_)
        refine aw_skip ?_
        refine in_n ?_
        refine th_n ?_
        refine aw_reg ?_
        first | refine rs_add rfl rfl rfl (by omega) ?_ | refine rs_addw rfl rfl rfl rfl ?_
        refine rs_mv rfl rfl ?_
        refine rs_nil fun _ => ?_
        refine th_n ?_
        exact ⟨r + 1, by omega, by omega, weak_to (.cons rfl (rc_same rfl (.inl rfl)) (.cons rfl (rc_same rfl (.inl rfl)) (.cons rfl (rc_same rfl (.inl rfl)) (.cons rfl (rc_same rfl (.inl rfl)) (.cons rfl (rc_same rfl (.inl rfl)) (.cons rfl (rc_same rfl (.inl rfl)) (.cons rfl (rc_same rfl (.inl rfl)) (.cons rfl (rc_same rfl (.inl rfl)) (.cons rfl (rc_same rfl (.inl rfl)) (.cons rfl (rc_same rfl (.inl rfl)) (.cons rfl (rc_same rfl (.inl rfl)) (.cons rfl (rc_same rfl (.inl rfl)) (.cons rfl (rc_same rfl (.inl rfl)) (.cons rfl (rc_same rfl (.inl rfl)) (.cons rfl (rc_same rfl (.inl rfl)) (.cons rfl (rc_same rfl (.inl rfl)) (.cons rfl (rc_same rfl (.inl rfl)) (.nil)))))))))))))))))) (.keep (rfl) rfl (.keep (rfl) rfl (.keep (rfl) rfl (.keep (rfl) rfl (.nil))))) (fun i h => by cases h)⟩
      · first | replace h69 := of_decide_eq_false h69 | skip
        refine aw_exit ?_
        refine th_e ?_
        refine th_e ?_
        refine in_hit ?_
        refine in_n ?_
        refine th_n ?_
        refine aw_reg ?_
        first | refine rs_add rfl rfl rfl (by omega) ?_ | refine rs_addw rfl rfl rfl rfl ?_
        refine rs_mv rfl rfl ?_
        refine rs_nil fun _ => ?_
        refine th_n ?_
        exact ⟨q + 1, by omega, by omega, weak_to (.cons rfl (rc_same rfl (.inl rfl)) (.cons rfl (rc_same rfl (.inl rfl)) (.cons rfl (rc_same rfl (.inl rfl)) (.cons rfl (rc_same rfl (.inl rfl)) (.cons rfl (rc_same rfl (.inl rfl)) (.cons rfl (rc_same rfl (.inl rfl)) (.cons rfl (rc_same rfl (.inl rfl)) (.cons rfl (rc_same rfl (.inl rfl)) (.cons rfl (rc_same rfl (.inl rfl)) (.cons rfl (rc_same rfl (.inl rfl)) (.cons rfl (rc_same rfl (.inl rfl)) (.cons rfl (rc_same rfl (.inl rfl)) (.cons rfl (rc_same rfl (.inl rfl)) (.nil)))))))))))))) (.keep (rfl) rfl (.keep (rfl) rfl (.nil))) (fun i h => by cases h)⟩
    · first | replace h61 := of_decide_eq_false h61 | skip
      refine aw_exit ?_
      refine th_e ?_
      refine th_e ?_
      refine in_hit ?_
      refine in_n ?_
      refine th_n ?_
      refine aw_reg ?_
      first | refine rs_add rfl rfl rfl (by omega) ?_ | refine rs_addw rfl rfl rfl rfl ?_
      refine rs_mv rfl rfl ?_
      refine rs_nil fun _ => ?_
      refine th_n ?_
      exact ⟨k + 1, by omega, by omega, weak_to (.cons rfl (rc_same rfl (.inl rfl)) (.cons rfl (rc_same rfl (.inl rfl)) (.cons rfl (rc_same rfl (.inl rfl)) (.cons rfl (rc_same rfl (.inl rfl)) (.cons rfl (rc_same rfl (.inl rfl)) (.cons rfl (rc_same rfl (.inl rfl)) (.cons rfl (rc_same rfl (.inl rfl)) (.cons rfl (rc_same rfl (.inl rfl)) (.cons rfl (rc_same rfl (.inl rfl)) (.nil)))))))))) (.keep (rfl) rfl (.nil)) (fun i h => by cases h)⟩
  · first | replace h42 := of_decide_eq_false h42 | skip
    refine aw_exit ?_
    refine th_e ?_
    refine th_e ?_
    refine in_hit ?_
    refine th_n ?_
    refine aw_seq ?_
    refine aw_reg ?_
    refine rs_mv rfl rfl ?_
    refine rs_mv rfl rfl ?_
    refine rs_nil fun _ => ?_
    refine th_n ?_
    refine aw_ret ?_
    exact ret_pure rfl rfl rfl (.inr rfl)

end Go.Proofs.Ytadjdnhnbkcakaa

/-! The arguments of the laws of inspect, as they are read. -/
namespace Go.Proofs.Ytadjdnhnbkcakaa
open Go.RowKit Go.WideShapes Go.ChangeShapes Go.ChangeAt
set_option maxRecDepth 100000

theorem own_knob : ownKnob Try.prog.godebug = none := by kernel_rfl
theorem laid_out : laidOutB Try.prog = true := by kernel_rfl

theorem rd_i {H : Type} (d : DataW H) (h : Gd (.int .i64) d) : ∃ n : Int, True ∧ avD (.int .i64) d = ci n := by
  obtain ⟨n, _, e⟩ := rd_int d h
  exact ⟨n, trivial, e⟩
theorem rd_u8 {H : Type} (d : DataW H) (h : Gd (.int .u8) d) : ∃ n : Int, (0 ≤ n ∧ n < 256) ∧ avD (.int .u8) d = cu8 n := by
  obtain ⟨n, hw, e⟩ := rd_int d h
  have := bounds_u8 hw
  exact ⟨n, by omega, e⟩
theorem rd_ints {H : Type} (d : DataW H) (h : Gd (.sl 1 (.int .i64)) d) : ∃ L : List Int, L.length ≤ 140737488351232 ∧ avD (.sl 1 (.int .i64)) d = [ints L] := by
  obtain ⟨L, ⟨h1, _⟩, e⟩ := rd_sl (fun _ => True) ci rd_i d h
  exact ⟨L, h1, e⟩
theorem rd_u8s {H : Type} (d : DataW H) (h : Gd (.sl 1 (.int .u8)) d) : ∃ ls : List Int, (ls.length ≤ 140737488351232 ∧ ∀ x ∈ ls, 0 ≤ x ∧ x < 256) ∧ avD (.sl 1 (.int .u8)) d = [.rs 1 (ls.map cu8)] :=
  rd_sl _ cu8 rd_u8 d h
abbrev shCase42 : Sh := .st [.sl 1 (.int .i64), .int .u8, .int .u8]
abbrev shSg : Sh := .st [.int .i64, .int .i64, .bool]
theorem rd_sg {H : Type} (d : DataW H) (h : Gd shSg d) : ∃ r : Sg, True ∧ avD shSg d = cS r := by
  obtain ⟨ps, g, e⟩ := rd_st d h
  obtain ⟨d0, r0, g0, g, e0⟩ := rd_cons ps g
  obtain ⟨d1, r1, g1, g, e1⟩ := rd_cons r0 g
  obtain ⟨d2, r2, g2, g, e2⟩ := rd_cons r1 g
  obtain ⟨n0, _, a0⟩ := rd_i d0 g0
  obtain ⟨n1, _, a1⟩ := rd_i d1 g1
  obtain ⟨n2, a2⟩ := rd_bool d2 g2
  exact ⟨⟨n0, n1, n2⟩, trivial, by rw [e, e0, e1, e2, rd_nil r2 g, a0, a1, a2]; rfl⟩
theorem rd_case42 {H : Type} (d : DataW H) (h : Gd shCase42 d) : ∃ (L : List Int) (c5 l4 : Int), (L.length ≤ 4611686018427387904 ∧ (0 ≤ c5 ∧ c5 < 256) ∧ (0 ≤ l4 ∧ l4 < 256)) ∧
    argA shCase42 d = .agg [ints L, .int .u8 c5, .int .u8 l4] := by
  obtain ⟨ps, g, e⟩ := rd_st d h
  obtain ⟨d0, r0, g0, g, e0⟩ := rd_cons ps g
  obtain ⟨d1, r1, g1, g, e1⟩ := rd_cons r0 g
  obtain ⟨d2, r2, g2, g, e2⟩ := rd_cons r1 g
  obtain ⟨n0, k0, a0⟩ := rd_ints d0 g0
  obtain ⟨n1, k1, a1⟩ := rd_u8 d1 g1
  obtain ⟨n2, k2, a2⟩ := rd_u8 d2 g2
  exact ⟨n0, n1, n2, ⟨Nat.le_trans k0 (by decide), k1, k2⟩, by simp only [argA]; rw [e, e0, e1, e2, rd_nil r2 g, a0, a1, a2]; rfl⟩
end Go.Proofs.Ytadjdnhnbkcakaa
namespace Go.Proofs.Ytadjdnhnbkcakaa
open Go.RowKit Go.WideShapes Go.ChangeShapes Go.ChangeAt
set_option maxRecDepth 100000

abbrev shs10 : List Sh := [shCase42, .arr 3 (.int .i64), .sl 3 (shSg), .sl 1 (.int .u8), .sl 1 (.int .i64), .int .i64]

theorem lifted10 (os : Os) (started : os.Started) (H : Type) (enc : TypeId × Value → H) :
    ReturnsInHanded {} Try.checked os 10 .any (Rows.inspectVerdictsSpec.pre6 enc Try.prog Try.f10 Rows.inspectVerdictsRow.domain false) (Rows.inspectVerdictsSpec.post enc Try.prog Try.f10 false true false false) := by
  refine law_row (C := Try.checked) own_knob started (by kernel_rfl) Try.func10 laid_out rfl (tb := 4) rfl Try.underlying4 shs10 (by kernel_rfl) (fun ds h => ?_)
    (ChangeSpec.witness6 (enc := enc) (C := Try.checked) false ⟨#[], #[.agg #[.slice none 0 0, .int .u8 0, .int .u8 0], .agg #[.int .i64 0, .int .i64 0, .int .i64 0], .slice none 0 0, .slice none 0 0, .slice none 0 0, .int .i64 0], []⟩ 8 (by kernel_rfl) (by kernel_rfl) (by kernel_rfl) (by kernel_rfl)) fun ds hg => ⟨false, ?_⟩
  · match ds, h with
    | [_, _, _, _, _, _], _ => rfl
  · simp only [shs10, GdFs] at hg
    obtain ⟨d0, _, rfl, g0, d1, _, rfl, g1, d2, _, rfl, g2, d3, _, rfl, g3, d4, _, rfl, g4, d5, _, rfl, g5, rfl⟩ := hg
    obtain ⟨L, c5, l4, ⟨hL, hc5, hl4⟩, e0⟩ := rd_case42 d0 g0
    obtain ⟨q1, ⟨hq1, hr1⟩, e1⟩ := rd_arr _ ci rd_i d1 g1
    obtain ⟨wild, ⟨hl_wild, hr_wild⟩, e2⟩ := rd_sl _ cS rd_sg d2 g2
    obtain ⟨ws, ⟨hl_ws, hr_ws⟩, e3⟩ := rd_sl _ cu8 rd_u8 d3 g3
    obtain ⟨raw, ⟨hl_raw, hr_raw⟩, e4⟩ := rd_sl _ ci rd_i d4 g4
    obtain ⟨lies, _, e5⟩ := rd_i d5 g5
    match q1, hq1 with
    | [q0, q1, q2], _ =>
      have e : argAs shs10 [d0, d1, d2, d3, d4, d5] = [.agg [ints L, .int .u8 c5, .int .u8 l4], .agg [iv q0, iv q1, iv q2], .rs 3 (wild.map cS), .rs 1 (ws.map cu8), .rs 1 (raw.map ci), iv lies] := by
        simp only [argAs, shs10]
        rw [e0]
        simp only [argA]
        rw [e1, e2, e3, e4, e5]
        rfl
      rw [e]
      exact fc10 L c5 l4 q0 q1 q2 wild ws raw lies hr_ws hL hc5 hl4

theorem over10 : Rows.inspectVerdictsRow.holds Try.pinned (OpenSpec.ofChange Rows.inspectVerdictsSpec) :=
  OpenClaim.holds_of_wide 10 Try.f10 rfl rfl rfl rfl rfl rfl rfl ⟨rfl, rfl, rfl, rfl, rfl⟩ rfl rfl rfl rfl rfl (by kernel_rfl) Try.func10 (by kernel_rfl)
    (of_decide_eq_true (by kernel_rfl)) (by unfold Func.isWrapper; rw [if_neg (of_decide_eq_false (by kernel_rfl))]; exact ⟨rfl, rfl⟩)
    (fun os started H enc _ => lifted10 os started H enc)

theorem inspectVerdicts_holds : Rows.InspectVerdictsSaid := over10
#print axioms inspectVerdicts_holds
end Go.Proofs.Ytadjdnhnbkcakaa
