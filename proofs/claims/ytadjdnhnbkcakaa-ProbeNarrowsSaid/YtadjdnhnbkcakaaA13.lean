/-
  Walks: A13.
-/
import Derived.Test.YtadjdnhnbkcakaaA12
namespace Go.Proofs.Ytadjdnhnbkcakaa
open Go.RowKit

def pickN (x t : Int) : Int := if t = 0 then x else if t = 1 then -1 else if t = 2 then 8 else if t = 3 then 7 else if t = 4 then 1048576 else 6
theorem pick_at (x t : Int) (h0 : 0 ≤ t) (h1 : t < 6) : ([ci x, ci (-1), ci 8, ci 7, ci 1048576, ci 6] : List (List AV))[0 + t.toNat]? = some (ci (pickN x t)) := by
  obtain rfl | rfl | rfl | rfl | rfl | rfl : t = 0 ∨ t = 1 ∨ t = 2 ∨ t = 3 ∨ t = 4 ∨ t = 5 := by omega
  all_goals rfl
/-- Readings of which one is changed. -/
def oddS (l : List Rd) (q0 q1 q2 : Int) : List Rd :=
  if h : l.length = 0 then [⟨0, 0, 1, 0⟩]
  else
    have hi : (modS q1 l.length).toNat < l.length := by have := modS_range q1 l.length (by omega); omega
    let i := (modS q1 l.length).toNat
    let n := pickN q2 (modS q2 6)
    let t := modS q0 5
    if t = 0 then l.set i { l[i] with probe := n }
    else if t = 1 then l.set i { l[i] with of_ := n }
    else if t = 2 then l.set i { l[i] with lo := n }
    else if t = 3 then l.set i { l[i] with hi := n }
    else l ++ List.replicate (41 - l.length) l[i]

def mc17 : MC := (.seq (.reg [⟨(some 3), (.box 26 3 (.t 1)), none, []⟩, ⟨(some 4), (.mv (.c .nils)), none, []⟩] false) (.seq (.reg [⟨(some 8), (.bslice 50 4 [(.int .i64 0), (.int .i64 0), (.int .i64 0), (.int .i64 0)] 0 []), none, []⟩, ⟨(some 9), (.mv (.t 0)), none, []⟩, ⟨(some 10), (.app 50 4 32 [(.int .i64 0), (.int .i64 0), (.int .i64 0), (.int .i64 0)] (.t 8) (.t 9)), none, [0, 1]⟩, ⟨(some 5), (.mv (.t 10)), none, [2, 2, 0, 1, 2]⟩] false) (.seq (.seq (.reg [⟨(some 11), (.mv (.t 5)), none, []⟩, ⟨(some 12), (.len (.t 11)), none, [0]⟩, ⟨(some 13), (.bin .eql (.t 12) (.c (.int .i64 0))), none, [1]⟩] false) (.cond (.t 13) (.seq (.reg [⟨(some 14), (.build [(.int .i64 0), (.int .i64 0), (.int .i64 0), (.int .i64 0)] [(2, (1, (.c (.int .i64 1))))]), none, []⟩, ⟨(some 15), (.bslice 50 4 [(.int .i64 0), (.int .i64 0), (.int .i64 0), (.int .i64 0)] 1 [(0, (.t 14))]), none, [0]⟩, ⟨(some 4), (.mv (.t 15)), none, [1, 0, 1]⟩] false) .ret) .skip)) (.seq (.reg [⟨(some 16), (.mv (.t 5)), none, []⟩, ⟨(some 17), (.ixarr 3 1 (.t 3) (.c (.int .i64 1))), none, []⟩, ⟨(some 18), (.ld false 1 (.t 17)), none, [1]⟩, ⟨(some 19), (.mv (.t 5)), none, []⟩, ⟨(some 20), (.len (.t 19)), none, [3]⟩, ⟨(some 21), (.call 30 [(.t 18), (.t 20)]), none, [2, 4]⟩, ⟨(some 22), (.ixsl 4 (.t 16) (.t 21)), none, [0, 5]⟩, ⟨(some 6), (.mv (.t 22)), none, [6, 5, 0, 1, 2, 3, 4, 5, 6]⟩] false) (.seq (.reg [⟨(some 23), (.ixarr 3 1 (.t 3) (.c (.int .i64 2))), none, []⟩, ⟨(some 24), (.ld false 1 (.t 23)), none, [0]⟩, ⟨(some 25), (.bslice 3 1 [(.int .i64 0)] 6 [(0, (.t 24)), (1, (.c (.int .i64 (-1)))), (2, (.c (.int .i64 8))), (3, (.c (.int .i64 7))), (4, (.c (.int .i64 1048576))), (5, (.c (.int .i64 6)))]), none, [1]⟩, ⟨(some 26), (.ixarr 3 1 (.t 3) (.c (.int .i64 2))), none, []⟩, ⟨(some 27), (.ld false 1 (.t 26)), none, [3]⟩, ⟨(some 28), (.call 30 [(.t 27), (.c (.int .i64 6))]), none, [4]⟩, ⟨(some 29), (.ixsl 1 (.t 25) (.t 28)), none, [2, 5]⟩, ⟨(some 30), (.ld false 1 (.t 29)), none, [6]⟩, ⟨(some 7), (.mv (.t 30)), none, [7, 5, 0, 1, 2, 3, 4, 5, 6, 7]⟩] true) (.seq (.seq (.reg [⟨(some 31), (.ixarr 3 1 (.t 3) (.c (.int .i64 0))), none, []⟩, ⟨(some 32), (.ld false 1 (.t 31)), none, [0]⟩, ⟨(some 33), (.call 30 [(.t 32), (.c (.int .i64 5))]), none, [1]⟩] false) (.block 0 (.seq (.reg [⟨(some 35), (.bin .eql (.t 33) (.c (.int .i64 0))), none, []⟩, ⟨(some 34), (.mv (.t 35)), none, [0]⟩] false) (.cond (.t 34) (.reg [⟨(some 36), (.mv (.t 6)), none, []⟩, ⟨(some 37), (.mv (.t 7)), none, []⟩, ⟨(some 38), (.nilc (.t 36)), none, [0, 0, 1]⟩, ⟨(some 39), (.fa 0 (.t 38)), none, [2, 0, 1]⟩, ⟨none, (.st 1 (.t 39) (.t 37)), none, [3, 1, 0, 1]⟩] false) (.seq (.reg [⟨(some 41), (.bin .eql (.t 33) (.c (.int .i64 1))), none, []⟩, ⟨(some 40), (.mv (.t 41)), none, [0]⟩] false) (.cond (.t 40) (.reg [⟨(some 42), (.mv (.t 6)), none, []⟩, ⟨(some 43), (.mv (.t 7)), none, []⟩, ⟨(some 44), (.nilc (.t 42)), none, [0, 0, 1]⟩, ⟨(some 45), (.fa 1 (.t 44)), none, [2, 0, 1]⟩, ⟨none, (.st 1 (.t 45) (.t 43)), none, [3, 1, 0, 1]⟩] false) (.seq (.reg [⟨(some 47), (.bin .eql (.t 33) (.c (.int .i64 2))), none, []⟩, ⟨(some 46), (.mv (.t 47)), none, [0]⟩] false) (.cond (.t 46) (.reg [⟨(some 48), (.mv (.t 6)), none, []⟩, ⟨(some 49), (.mv (.t 7)), none, []⟩, ⟨(some 50), (.nilc (.t 48)), none, [0, 0, 1]⟩, ⟨(some 51), (.fa 2 (.t 50)), none, [2, 0, 1]⟩, ⟨none, (.st 1 (.t 51) (.t 49)), none, [3, 1, 0, 1]⟩] false) (.seq (.reg [⟨(some 53), (.bin .eql (.t 33) (.c (.int .i64 3))), none, []⟩, ⟨(some 52), (.mv (.t 53)), none, [0]⟩] false) (.cond (.t 52) (.reg [⟨(some 54), (.mv (.t 6)), none, []⟩, ⟨(some 55), (.mv (.t 7)), none, []⟩, ⟨(some 56), (.nilc (.t 54)), none, [0, 0, 1]⟩, ⟨(some 57), (.fa 3 (.t 56)), none, [2, 0, 1]⟩, ⟨none, (.st 1 (.t 57) (.t 55)), none, [3, 1, 0, 1]⟩] false) (.seq (.reg [⟨(some 59), (.bin .eql (.t 33) (.c (.int .i64 4))), none, []⟩, ⟨(some 58), (.mv (.t 59)), none, [0]⟩] false) (.cond (.t 58) (.block 1 (.loop (.seq (.seq (.reg [⟨(some 60), (.mv (.t 5)), none, []⟩, ⟨(some 61), (.len (.t 60)), none, [0]⟩, ⟨(some 62), (.bin .leq (.t 61) (.c (.int .i64 40))), none, [1]⟩] false) (.cond (.t 62) .skip (.exit 1))) (.block 2 (.reg [⟨(some 63), (.mv (.t 5)), none, []⟩, ⟨(some 64), (.mv (.t 5)), none, []⟩, ⟨(some 65), (.ixarr 3 1 (.t 3) (.c (.int .i64 1))), none, []⟩, ⟨(some 66), (.ld false 1 (.t 65)), none, [2]⟩, ⟨(some 67), (.mv (.t 0)), none, []⟩, ⟨(some 68), (.len (.t 67)), none, [4]⟩, ⟨(some 69), (.call 30 [(.t 66), (.t 68)]), none, [3, 5]⟩, ⟨(some 70), (.ixsl 4 (.t 64) (.t 69)), none, [1, 6]⟩, ⟨(some 71), (.ld true 4 (.t 70)), none, [7]⟩, ⟨(some 72), (.bslice 50 4 [(.int .i64 0), (.int .i64 0), (.int .i64 0), (.int .i64 0)] 1 [(0, (.t 71))]), none, [8]⟩, ⟨(some 73), (.app 50 4 32 [(.int .i64 0), (.int .i64 0), (.int .i64 0), (.int .i64 0)] (.t 63) (.t 72)), none, [0, 9, 6]⟩, ⟨(some 5), (.mv (.t 73)), none, [10, 10, 0, 1, 2, 3, 4, 5, 6, 7, 8, 9, 10]⟩] false))))) .skip)))))))))))) (.seq (.reg [⟨(some 74), (.mv (.t 5)), none, []⟩, ⟨(some 4), (.mv (.t 74)), none, [0, 0]⟩] false) .ret)))))))
theorem mcOk17 : (match Try.f17.body with | some c => compC Try.prog 75 c | none => none) = some mc17 := by kernel_rfl

theorem fc17 (l : List Rd) (q0 q1 q2 : Int) (hl : l.length ≤ 1000000) : FC Try.prog 17 [.rs 4 (l.map cR), .agg [iv q0, iv q1, iv q2]] [] (.rs 4 ((oddS l q0 q1 q2).map cR)) [] false := by
  refine fc_run (nt := 75) Try.func17 rfl rfl mcOk17 (Nat.le_of_ble_eq_true rfl) ?_
  delta mc17
  refine aw_seq ?_
  refine aw_reg ?_
  refine rs_box rfl rfl rfl rfl rfl rfl ?_
  refine rs_mv rfl rfl ?_
  refine rs_nil fun _ => ?_
  refine th_n ?_
  refine aw_seq ?_
  refine aw_reg ?_
  refine rs_bslice rfl rfl rfl rfl rfl rfl ?_
  refine rs_mv rfl rfl ?_
  refine rs_app_e (ys := l) (n := l.length) (f := cR) (rd := []) rfl rfl rfl rfl rfl rfl rfl (by simp) (fun _ => rfl) rfl (by omega) (by omega) (fun _ => rfl) ?_
  refine rs_mv rfl rfl ?_
  refine rs_nil fun _ => ?_
  refine th_n ?_
  refine aw_seq ?_
  refine aw_seq ?_
  refine aw_reg ?_
  refine rs_mv rfl rfl ?_
  first | refine rs_len_m rfl rfl ?_ | refine rs_len_s rfl rfl ?_ | refine rs_len_n rfl rfl ?_ | refine rs_len_r rfl rfl rfl ?_
  refine rs_eql rfl rfl rfl ?_
  refine rs_nil fun _ => ?_
  refine th_n ?_
  refine aw_cond rfl (fun h13 => ?_) (fun h13 => ?_)
  · first | replace h13 := of_decide_eq_true h13 | skip
    refine aw_seq ?_
    refine aw_reg ?_
    refine rs_build rfl rfl ?_
    refine rs_bslice rfl rfl rfl rfl rfl rfl ?_
    refine rs_mv rfl rfl ?_
    refine rs_nil fun _ => ?_
    refine th_n ?_
    refine aw_ret ?_
    refine th_r ?_
    first
      | (exfalso; omega)
      | (have hz : l.length = 0 := by omega
         have e : oddS l q0 q1 q2 = [⟨0, 0, 1, 0⟩] := by rw [oddS, dif_pos hz]
         rw [e]
         exact ret_new rfl (rc_frz (f := cR) (xs := [(⟨0, 0, 1, 0⟩ : Rd)]) rfl rfl rfl (fun _ => rfl)) .nil)
      | (have e : oddS l q0 q1 q2 = l ++ List.replicate k (l[(modS q1 (l.length : Int)).toNat]'hii) := by
           rw [oddS, dif_neg hne]
           simp only
           rw [if_neg (by omega), if_neg (by omega), if_neg (by omega), if_neg (by omega)]
           congr 2
           omega
         rw [e]
         exact ret_new rfl (rc_frz rfl rfl (by simp) (fun _ => rfl)) .nil)
      | (rw [oddS, dif_neg hne]
         simp only
         first | rw [if_pos (by omega)] | rw [if_neg (by omega), if_pos (by omega)] | rw [if_neg (by omega), if_neg (by omega), if_pos (by omega)] | rw [if_neg (by omega), if_neg (by omega), if_neg (by omega), if_pos (by omega)]
         simp only [Nat.zero_add]
         exact ret_new rfl (rc_frz rfl rfl (by simp) (fun _ => rfl)) .nil)
  · first | replace h13 := of_decide_eq_false h13 | skip
    refine aw_skip ?_
    refine th_n ?_
    refine aw_seq ?_
    refine aw_reg ?_
    have hne : l.length ≠ 0 := by omega
    have hq1 := modS_range q1 (l.length : Int) (by omega)
    have hq2 := modS_range q2 6 (by omega)
    have hq0 := modS_range q0 5 (by omega)
    have hii : (modS q1 (l.length : Int)).toNat < l.length := by omega
    refine rs_mv rfl rfl ?_
    refine rs_ixarr_p rfl rfl rfl (by decide) (by decide) ?_
    first | refine rs_ld_r rfl rfl rfl ?_ | refine rs_ld_p rfl rfl rfl rfl rfl ?_ | refine rs_ld_m rfl rfl rfl (by omega) rfl ?_
    refine rs_mv rfl rfl ?_
    first | refine rs_len_m rfl rfl ?_ | refine rs_len_s rfl rfl ?_ | refine rs_len_n rfl rfl ?_ | refine rs_len_r rfl rfl rfl ?_
    refine rs_calln [] rfl rfl (fc30 q1 (l.length : Int) (by omega)) (.cons (hv_same rfl) (.cons (hv_same rfl) (.nil))) rfl ?_
    refine rs_ix_s rfl rfl rfl rfl (by omega) (by omega) ?_
    refine rs_mv rfl rfl ?_
    refine rs_nil fun _ => ?_
    refine th_n ?_
    refine aw_seq ?_
    refine aw_draw hmix ?_
    refine rs_ixarr_p rfl rfl rfl (by decide) (by decide) ?_
    first | refine rs_ld_r rfl rfl rfl ?_ | refine rs_ld_p rfl rfl rfl rfl rfl ?_ | refine rs_ld_m rfl rfl rfl (by omega) rfl ?_
    refine rs_bslice rfl rfl rfl rfl rfl rfl ?_
    refine rs_ixarr_p rfl rfl rfl (by decide) (by decide) ?_
    first | refine rs_ld_r rfl rfl rfl ?_ | refine rs_ld_p rfl rfl rfl rfl rfl ?_ | refine rs_ld_m rfl rfl rfl (by omega) rfl ?_
    refine rs_calln [] rfl rfl (fc30 q2 6 (by omega)) (.cons (hv_same rfl) (.cons (hv_same rfl) (.nil))) rfl ?_
    refine rs_ix_s rfl rfl rfl rfl (by omega) (by omega) ?_
    refine rs_ld_p rfl rfl rfl (el := ci (pickN q2 (modS q2 6))) (pick_at q2 _ hq2.1 hq2.2) rfl ?_
    refine rs_mv rfl rfl ?_
    refine rs_nil ⟨by kernel_rfl, fun _ => ?_⟩
    refine th_n ?_
    refine aw_seq ?_
    refine aw_seq ?_
    refine aw_reg ?_
    refine rs_ixarr_p rfl rfl rfl (by decide) (by decide) ?_
    first | refine rs_ld_r rfl rfl rfl ?_ | refine rs_ld_p rfl rfl rfl rfl rfl ?_ | refine rs_ld_m rfl rfl rfl (by omega) rfl ?_
    refine rs_calln [] rfl rfl (fc30 q0 5 (by omega)) (.cons (hv_same rfl) (.cons (hv_same rfl) (.nil))) rfl ?_
    refine rs_nil fun _ => ?_
    refine th_n ?_
    refine aw_block ?_
    refine aw_seq ?_
    refine aw_reg ?_
    refine rs_eql rfl rfl rfl ?_
    refine rs_mv rfl rfl ?_
    refine rs_nil fun _ => ?_
    refine th_n ?_
    refine aw_cond rfl (fun h34 => ?_) (fun h34 => ?_)
    · first | replace h34 := of_decide_eq_true h34 | skip
      refine aw_reg ?_
      refine rs_mv rfl rfl ?_
      refine rs_mv rfl rfl ?_
      first | refine rs_nilc_p rfl rfl ?_ | refine rs_nilc_r rfl rfl ?_
      first | refine rs_fa_p rfl rfl ?_ | refine rs_fa_r rfl rfl rfl ?_
      refine rs_st_m (t := 0 + (modS q1 (l.length : Int)).toNat) (v := { l[0 + (modS q1 (l.length : Int)).toNat]'(by omega) with probe := pickN q2 (modS q2 6) }) (fl' := true) rfl rfl rfl rfl (by omega) rfl rfl (Nat.le_of_ble_eq_true rfl) rfl rfl ?_
      refine rs_nil fun _ => ?_
      refine in_n ?_
      refine th_n ?_
      refine aw_seq ?_
      refine aw_reg ?_
      refine rs_mv rfl rfl ?_
      refine rs_mv rfl rfl ?_
      refine rs_nil fun _ => ?_
      refine th_n ?_
      refine aw_ret ?_
      first
        | (exfalso; omega)
        | (have hz : l.length = 0 := by omega
           have e : oddS l q0 q1 q2 = [⟨0, 0, 1, 0⟩] := by rw [oddS, dif_pos hz]
           rw [e]
           exact ret_new rfl (rc_frz (f := cR) (xs := [(⟨0, 0, 1, 0⟩ : Rd)]) rfl rfl rfl (fun _ => rfl)) .nil)
        | (have e : oddS l q0 q1 q2 = l ++ List.replicate k (l[(modS q1 (l.length : Int)).toNat]'hii) := by
             rw [oddS, dif_neg hne]
             simp only
             rw [if_neg (by omega), if_neg (by omega), if_neg (by omega), if_neg (by omega)]
             congr 2
             omega
           rw [e]
           exact ret_new rfl (rc_frz rfl rfl (by simp) (fun _ => rfl)) .nil)
        | (rw [oddS, dif_neg hne]
           simp only
           first | rw [if_pos (by omega)] | rw [if_neg (by omega), if_pos (by omega)] | rw [if_neg (by omega), if_neg (by omega), if_pos (by omega)] | rw [if_neg (by omega), if_neg (by omega), if_neg (by omega), if_pos (by omega)]
           simp only [Nat.zero_add]
           exact ret_new rfl (rc_frz rfl rfl (by simp) (fun _ => rfl)) .nil)
    · first | replace h34 := of_decide_eq_false h34 | skip
      refine aw_seq ?_
      refine aw_reg ?_
      refine rs_eql rfl rfl rfl ?_
      refine rs_mv rfl rfl ?_
      refine rs_nil fun _ => ?_
      refine th_n ?_
      refine aw_cond rfl (fun h40 => ?_) (fun h40 => ?_)
      · first | replace h40 := of_decide_eq_true h40 | skip
        refine aw_reg ?_
        refine rs_mv rfl rfl ?_
        refine rs_mv rfl rfl ?_
        first | refine rs_nilc_p rfl rfl ?_ | refine rs_nilc_r rfl rfl ?_
        first | refine rs_fa_p rfl rfl ?_ | refine rs_fa_r rfl rfl rfl ?_
        refine rs_st_m (t := 0 + (modS q1 (l.length : Int)).toNat) (v := { l[0 + (modS q1 (l.length : Int)).toNat]'(by omega) with of_ := pickN q2 (modS q2 6) }) (fl' := true) rfl rfl rfl rfl (by omega) rfl rfl (Nat.le_of_ble_eq_true rfl) rfl rfl ?_
        refine rs_nil fun _ => ?_
        refine in_n ?_
        refine th_n ?_
        refine aw_seq ?_
        refine aw_reg ?_
        refine rs_mv rfl rfl ?_
        refine rs_mv rfl rfl ?_
        refine rs_nil fun _ => ?_
        refine th_n ?_
        refine aw_ret ?_
        first
          | (exfalso; omega)
          | (have hz : l.length = 0 := by omega
             have e : oddS l q0 q1 q2 = [⟨0, 0, 1, 0⟩] := by rw [oddS, dif_pos hz]
             rw [e]
             exact ret_new rfl (rc_frz (f := cR) (xs := [(⟨0, 0, 1, 0⟩ : Rd)]) rfl rfl rfl (fun _ => rfl)) .nil)
          | (have e : oddS l q0 q1 q2 = l ++ List.replicate k (l[(modS q1 (l.length : Int)).toNat]'hii) := by
               rw [oddS, dif_neg hne]
               simp only
               rw [if_neg (by omega), if_neg (by omega), if_neg (by omega), if_neg (by omega)]
               congr 2
               omega
             rw [e]
             exact ret_new rfl (rc_frz rfl rfl (by simp) (fun _ => rfl)) .nil)
          | (rw [oddS, dif_neg hne]
             simp only
             first | rw [if_pos (by omega)] | rw [if_neg (by omega), if_pos (by omega)] | rw [if_neg (by omega), if_neg (by omega), if_pos (by omega)] | rw [if_neg (by omega), if_neg (by omega), if_neg (by omega), if_pos (by omega)]
             simp only [Nat.zero_add]
             exact ret_new rfl (rc_frz rfl rfl (by simp) (fun _ => rfl)) .nil)
      · first | replace h40 := of_decide_eq_false h40 | skip
        refine aw_seq ?_
        refine aw_reg ?_
        refine rs_eql rfl rfl rfl ?_
        refine rs_mv rfl rfl ?_
        refine rs_nil fun _ => ?_
        refine th_n ?_
        refine aw_cond rfl (fun h46 => ?_) (fun h46 => ?_)
        · first | replace h46 := of_decide_eq_true h46 | skip
          refine aw_reg ?_
          refine rs_mv rfl rfl ?_
          refine rs_mv rfl rfl ?_
          first | refine rs_nilc_p rfl rfl ?_ | refine rs_nilc_r rfl rfl ?_
          first | refine rs_fa_p rfl rfl ?_ | refine rs_fa_r rfl rfl rfl ?_
          refine rs_st_m (t := 0 + (modS q1 (l.length : Int)).toNat) (v := { l[0 + (modS q1 (l.length : Int)).toNat]'(by omega) with lo := pickN q2 (modS q2 6) }) (fl' := true) rfl rfl rfl rfl (by omega) rfl rfl (Nat.le_of_ble_eq_true rfl) rfl rfl ?_
          refine rs_nil fun _ => ?_
          refine in_n ?_
          refine th_n ?_
          refine aw_seq ?_
          refine aw_reg ?_
          refine rs_mv rfl rfl ?_
          refine rs_mv rfl rfl ?_
          refine rs_nil fun _ => ?_
          refine th_n ?_
          refine aw_ret ?_
          first
            | (exfalso; omega)
            | (have hz : l.length = 0 := by omega
               have e : oddS l q0 q1 q2 = [⟨0, 0, 1, 0⟩] := by rw [oddS, dif_pos hz]
               rw [e]
               exact ret_new rfl (rc_frz (f := cR) (xs := [(⟨0, 0, 1, 0⟩ : Rd)]) rfl rfl rfl (fun _ => rfl)) .nil)
            | (have e : oddS l q0 q1 q2 = l ++ List.replicate k (l[(modS q1 (l.length : Int)).toNat]'hii) := by
                 rw [oddS, dif_neg hne]
                 simp only
                 rw [if_neg (by omega), if_neg (by omega), if_neg (by omega), if_neg (by omega)]
                 congr 2
                 omega
               rw [e]
               exact ret_new rfl (rc_frz rfl rfl (by simp) (fun _ => rfl)) .nil)
            | (rw [oddS, dif_neg hne]
               simp only
               first | rw [if_pos (by omega)] | rw [if_neg (by omega), if_pos (by omega)] | rw [if_neg (by omega), if_neg (by omega), if_pos (by omega)] | rw [if_neg (by omega), if_neg (by omega), if_neg (by omega), if_pos (by omega)]
               simp only [Nat.zero_add]
               exact ret_new rfl (rc_frz rfl rfl (by simp) (fun _ => rfl)) .nil)
        · first | replace h46 := of_decide_eq_false h46 | skip
          refine aw_seq ?_
          refine aw_reg ?_
          refine rs_eql rfl rfl rfl ?_
          refine rs_mv rfl rfl ?_
          refine rs_nil fun _ => ?_
          refine th_n ?_
          refine aw_cond rfl (fun h52 => ?_) (fun h52 => ?_)
          · first | replace h52 := of_decide_eq_true h52 | skip
            refine aw_reg ?_
            refine rs_mv rfl rfl ?_
            refine rs_mv rfl rfl ?_
            first | refine rs_nilc_p rfl rfl ?_ | refine rs_nilc_r rfl rfl ?_
            first | refine rs_fa_p rfl rfl ?_ | refine rs_fa_r rfl rfl rfl ?_
            refine rs_st_m (t := 0 + (modS q1 (l.length : Int)).toNat) (v := { l[0 + (modS q1 (l.length : Int)).toNat]'(by omega) with hi := pickN q2 (modS q2 6) }) (fl' := true) rfl rfl rfl rfl (by omega) rfl rfl (Nat.le_of_ble_eq_true rfl) rfl rfl ?_
            refine rs_nil fun _ => ?_
            refine in_n ?_
            refine th_n ?_
            refine aw_seq ?_
            refine aw_reg ?_
            refine rs_mv rfl rfl ?_
            refine rs_mv rfl rfl ?_
            refine rs_nil fun _ => ?_
            refine th_n ?_
            refine aw_ret ?_
            first
              | (exfalso; omega)
              | (have hz : l.length = 0 := by omega
                 have e : oddS l q0 q1 q2 = [⟨0, 0, 1, 0⟩] := by rw [oddS, dif_pos hz]
                 rw [e]
                 exact ret_new rfl (rc_frz (f := cR) (xs := [(⟨0, 0, 1, 0⟩ : Rd)]) rfl rfl rfl (fun _ => rfl)) .nil)
              | (have e : oddS l q0 q1 q2 = l ++ List.replicate k (l[(modS q1 (l.length : Int)).toNat]'hii) := by
                   rw [oddS, dif_neg hne]
                   simp only
                   rw [if_neg (by omega), if_neg (by omega), if_neg (by omega), if_neg (by omega)]
                   congr 2
                   omega
                 rw [e]
                 exact ret_new rfl (rc_frz rfl rfl (by simp) (fun _ => rfl)) .nil)
              | (rw [oddS, dif_neg hne]
                 simp only
                 first | rw [if_pos (by omega)] | rw [if_neg (by omega), if_pos (by omega)] | rw [if_neg (by omega), if_neg (by omega), if_pos (by omega)] | rw [if_neg (by omega), if_neg (by omega), if_neg (by omega), if_pos (by omega)]
                 simp only [Nat.zero_add]
                 exact ret_new rfl (rc_frz rfl rfl (by simp) (fun _ => rfl)) .nil)
          · first | replace h52 := of_decide_eq_false h52 | skip
            refine aw_seq ?_
            refine aw_reg ?_
            refine rs_eql rfl rfl rfl ?_
            refine rs_mv rfl rfl ?_
            refine rs_nil fun _ => ?_
            refine th_n ?_
            refine aw_cond rfl (fun h58 => ?_) (fun h58 => ?_)
            · first | replace h58 := of_decide_eq_true h58 | skip
              refine aw_block ?_
              refine aw_fam (α := Nat) (fun k => 41 - k) (fun k => [(0, .rs 4 (l.map cR)), (3, .ptr 3 0 0), (5, .sl 1073 0 (l.length + (k)))]) (fun k => [(3, .cells 26 3 [[iv q0, iv q1, iv q2]] true), (1073, .cells 50 4 ((l ++ List.replicate (k) (l[(modS q1 (l.length : Int)).toNat]'hii)).map cR) true)]) (fun k => k = 0 ∨ l.length + k ≤ 41) 0 (.inl rfl)
                (weak_to_ren (i := 10) (i' := 1073) (F1 := [(0, .rs 4 (l.map cR)), (3, .ptr 3 0 0), (5, .sl 10 0 (l.length + (0)))]) (H1 := [(3, .cells 26 3 [[iv q0, iv q1, iv q2]] true), (10, .cells 50 4 ((l ++ List.replicate (0) (l[(modS q1 (l.length : Int)).toNat]'hii)).map cR) true)]) (.cons rfl (rc_same rfl (.inl rfl)) (.cons rfl (rc_same rfl (.inl rfl)) (.cons rfl (rc_same rfl (.inl rfl)) (.nil)))) (.keep (rfl) rfl (.keep ((by (rw [show l ++ List.replicate 0 _ = l from List.append_nil l]) <;> rfl)) rfl (.nil))) (fun i h => by cases h) rfl rfl (.cons rfl (.same _) (.cons rfl (.same _) (.cons rfl (.sl _ _) (.nil)))) (.cons rfl (rc_same rfl (.inl rfl)) (.cons rfl (rc_same rfl (.inl rfl)) (.cons rfl (rc_same rfl (.inl rfl)) (.nil)))) (.keep (rfl) rfl (.keep (rfl) rfl (.nil))) (fun i h => by cases h)) ?_
              intro k hk
              refine aw_seq ?_
              refine aw_seq ?_
              refine aw_reg ?_
              refine rs_mv rfl rfl ?_
              first | refine rs_len_m rfl rfl ?_ | refine rs_len_s rfl rfl ?_ | refine rs_len_n rfl rfl ?_ | refine rs_len_r rfl rfl rfl ?_
              refine rs_leq rfl rfl rfl ?_
              refine rs_nil fun _ => ?_
              refine th_n ?_
              refine aw_cond rfl (fun h62 => ?_) (fun h62 => ?_)
              · first | replace h62 := of_decide_eq_true h62 | skip
                refine aw_skip ?_
                refine th_n ?_
                refine aw_block ?_
                refine aw_reg ?_
                refine rs_mv rfl rfl ?_
                refine rs_mv rfl rfl ?_
                refine rs_ixarr_p rfl rfl rfl (by decide) (by decide) ?_
                first | refine rs_ld_r rfl rfl rfl ?_ | refine rs_ld_p rfl rfl rfl rfl rfl ?_ | refine rs_ld_m rfl rfl rfl (by omega) rfl ?_
                refine rs_mv rfl rfl ?_
                first | refine rs_len_m rfl rfl ?_ | refine rs_len_s rfl rfl ?_ | refine rs_len_n rfl rfl ?_ | refine rs_len_r rfl rfl rfl ?_
                refine rs_calln [] rfl rfl (fc30 q1 (l.length : Int) (by omega)) (.cons (hv_same rfl) (.cons (hv_same rfl) (.nil))) rfl ?_
                refine rs_ix_s rfl rfl rfl rfl (by omega) (by omega) ?_
                have hy : (l ++ List.replicate k (l[(modS q1 (l.length : Int)).toNat]'hii))[0 + (modS q1 (l.length : Int)).toNat]'(by simp; omega) = l[(modS q1 (l.length : Int)).toNat]'hii := by rw [List.getElem_append_left (by omega)]; simp
                refine rs_ld_ma (t := 0 + (modS q1 (l.length : Int)).toNat) (cs := cR (l[(modS q1 (l.length : Int)).toNat]'hii)) rfl rfl rfl (by simp; omega) (Nat.le_of_ble_eq_true rfl) (by rw [hy]; rfl) ?_
                refine rs_bslice rfl rfl rfl rfl rfl rfl ?_
                refine rs_app_m (y := l[(modS q1 (l.length : Int)).toNat]'hii) rfl rfl rfl rfl (by simp) rfl rfl rfl (by decide) rfl (by omega) (by omega) rfl ?_
                refine rs_mv rfl rfl ?_
                refine rs_nil fun _ => ?_
                refine in_n ?_
                refine th_n ?_
                refine ⟨k + 1, by omega, by omega, ?_⟩
                exact weak_to_ren (i := 73) (i' := 1073) (F1 := [(0, .rs 4 (l.map cR)), (3, .ptr 3 0 0), (5, .sl 73 0 (l.length + (k + 1)))]) (H1 := [(3, .cells 26 3 [[iv q0, iv q1, iv q2]] true), (73, .cells 50 4 ((l ++ List.replicate (k + 1) (l[(modS q1 (l.length : Int)).toNat]'hii)).map cR) true)]) (.cons rfl (rc_same rfl (.inl rfl)) (.cons rfl (rc_same rfl (.inl rfl)) (.cons rfl (rc_same rfl (.inl rfl)) (.nil)))) (.keep (rfl) rfl (.keep ((by (rw [List.replicate_succ', ← List.append_assoc]) <;> rfl)) rfl (.nil))) (fun i h => by cases h) rfl rfl (.cons rfl (.same _) (.cons rfl (.same _) (.cons rfl (.sl _ _) (.nil)))) (.cons rfl (rc_same rfl (.inl rfl)) (.cons rfl (rc_same rfl (.inl rfl)) (.cons rfl (rc_same rfl (.inl rfl)) (.nil)))) (.keep (rfl) rfl (.keep (rfl) rfl (.nil))) (fun i h => by cases h)
              · first | replace h62 := of_decide_eq_false h62 | skip
                refine aw_exit ?_
                refine th_e ?_
                refine th_e ?_
                refine in_hit ?_
                refine in_n ?_
                refine th_n ?_
                refine aw_seq ?_
                refine aw_reg ?_
                refine rs_mv rfl rfl ?_
                refine rs_mv rfl rfl ?_
                refine rs_nil fun _ => ?_
                refine th_n ?_
                refine aw_ret ?_
                first
                  | (exfalso; omega)
                  | (have hz : l.length = 0 := by omega
                     have e : oddS l q0 q1 q2 = [⟨0, 0, 1, 0⟩] := by rw [oddS, dif_pos hz]
                     rw [e]
                     exact ret_new rfl (rc_frz (f := cR) (xs := [(⟨0, 0, 1, 0⟩ : Rd)]) rfl rfl rfl (fun _ => rfl)) .nil)
                  | (have e : oddS l q0 q1 q2 = l ++ List.replicate k (l[(modS q1 (l.length : Int)).toNat]'hii) := by
                       rw [oddS, dif_neg hne]
                       simp only
                       rw [if_neg (by omega), if_neg (by omega), if_neg (by omega), if_neg (by omega)]
                       congr 2
                       omega
                     rw [e]
                     exact ret_new rfl (rc_frz rfl rfl (by simp) (fun _ => rfl)) .nil)
                  | (rw [oddS, dif_neg hne]
                     simp only
                     first | rw [if_pos (by omega)] | rw [if_neg (by omega), if_pos (by omega)] | rw [if_neg (by omega), if_neg (by omega), if_pos (by omega)] | rw [if_neg (by omega), if_neg (by omega), if_neg (by omega), if_pos (by omega)]
                     simp only [Nat.zero_add]
                     exact ret_new rfl (rc_frz rfl rfl (by simp) (fun _ => rfl)) .nil)
            · first | replace h58 := of_decide_eq_false h58 | skip
              refine aw_skip ?_
              refine in_n ?_
              refine th_n ?_
              refine aw_seq ?_
              refine aw_reg ?_
              refine rs_mv rfl rfl ?_
              refine rs_mv rfl rfl ?_
              refine rs_nil fun _ => ?_
              refine th_n ?_
              refine aw_ret ?_
              first
                | (exfalso; omega)
                | (have hz : l.length = 0 := by omega
                   have e : oddS l q0 q1 q2 = [⟨0, 0, 1, 0⟩] := by rw [oddS, dif_pos hz]
                   rw [e]
                   exact ret_new rfl (rc_frz (f := cR) (xs := [(⟨0, 0, 1, 0⟩ : Rd)]) rfl rfl rfl (fun _ => rfl)) .nil)
                | (have e : oddS l q0 q1 q2 = l ++ List.replicate k (l[(modS q1 (l.length : Int)).toNat]'hii) := by
                     rw [oddS, dif_neg hne]
                     simp only
                     rw [if_neg (by omega), if_neg (by omega), if_neg (by omega), if_neg (by omega)]
                     congr 2
                     omega
                   rw [e]
                   exact ret_new rfl (rc_frz rfl rfl (by simp) (fun _ => rfl)) .nil)
                | (rw [oddS, dif_neg hne]
                   simp only
                   first | rw [if_pos (by omega)] | rw [if_neg (by omega), if_pos (by omega)] | rw [if_neg (by omega), if_neg (by omega), if_pos (by omega)] | rw [if_neg (by omega), if_neg (by omega), if_neg (by omega), if_pos (by omega)]
                   simp only [Nat.zero_add]
                   exact ret_new rfl (rc_frz rfl rfl (by simp) (fun _ => rfl)) .nil)

end Go.Proofs.Ytadjdnhnbkcakaa
