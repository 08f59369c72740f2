/-
  Walks: A2.
-/
import Derived.Test.YtadjdnhnbkcakaaA1
namespace Go.Proofs.Ytadjdnhnbkcakaa
open Go.RowKit

def badL (a b : Int) : Prop := a < -1048576 ∨ b > 1048576 ∨ a > b
instance (a b : Int) : Decidable (badL a b) := by unfold badL; infer_instance
def badR (n : Nat) (r : Rd) : Prop := r.probe < 0 ∨ r.probe ≥ 8 ∨ r.of_ < 0 ∨ r.of_ ≥ (n : Int) ∨ r.lo > r.hi
instance (n : Nat) (r : Rd) : Decidable (badR n r) := by unfold badR; infer_instance
/-- What Check says. -/
def checkS (l : List Rd) (lo hi : List Int) (lies : Int) : Int :=
  if 40 < l.length ∨ 6 < lo.length ∨ 6 < hi.length then 2
  else if lo.length ≠ hi.length then 4
  else if lies < 0 ∨ 3 < lies then 3
  else if (lo.zip hi).any (fun p => decide (badL p.1 p.2)) = true then 3
  else if l.any (fun r => decide (badR lo.length r)) = true then 3
  else 0
section
variable {l : List Rd} {lo hi : List Int} {lies : Int}
theorem check_1 (h : 40 < l.length ∨ 6 < lo.length ∨ 6 < hi.length) : checkS l lo hi lies = 2 := if_pos h
theorem check_2 (h1 : l.length ≤ 40 ∧ lo.length ≤ 6 ∧ hi.length ≤ 6) (h2 : lo.length ≠ hi.length) : checkS l lo hi lies = 4 := by
  unfold checkS; rw [if_neg (by omega), if_pos h2]
theorem check_3 (h1 : l.length ≤ 40 ∧ lo.length ≤ 6 ∧ hi.length ≤ 6) (h2 : lo.length = hi.length) (h3 : lies < 0 ∨ 3 < lies) : checkS l lo hi lies = 3 := by
  unfold checkS; rw [if_neg (by omega), if_neg (by omega), if_pos h3]
theorem check_4 (h1 : l.length ≤ 40 ∧ lo.length ≤ 6 ∧ hi.length ≤ 6) (h2 : lo.length = hi.length) (h3 : 0 ≤ lies ∧ lies ≤ 3) (k : Nat) (hk : k < lo.length) (hk2 : k < hi.length) (h4 : lo[k] < -1048576 ∨ hi[k] > 1048576 ∨ lo[k] > hi[k]) : checkS l lo hi lies = 3 := by
  unfold checkS
  rw [if_neg (by omega), if_neg (by omega), if_neg (by omega), if_pos]
  refine List.any_eq_true.2 ⟨(lo[k], hi[k]), ?_, decide_eq_true h4⟩
  rw [← List.getElem_zip (h := by simp; omega)]
  exact List.getElem_mem _
theorem any_lim (h2 : lo.length = hi.length) (h : ∀ j, j < lo.length → ∀ (h1 : j < lo.length) (h2 : j < hi.length), ¬ badL lo[j] hi[j]) : ¬ (lo.zip hi).any (fun p => decide (badL p.1 p.2)) = true := fun hx => by
  obtain ⟨p, hp, hb⟩ := List.any_eq_true.1 hx
  obtain ⟨j, hj, rfl⟩ := List.getElem_of_mem hp
  rw [List.getElem_zip] at hb
  simp at hj
  exact h j (by omega) (by omega) (by omega) (of_decide_eq_true hb)
theorem check_5 (h1 : l.length ≤ 40 ∧ lo.length ≤ 6 ∧ hi.length ≤ 6) (h2 : lo.length = hi.length) (h3 : 0 ≤ lies ∧ lies ≤ 3) (h4 : ∀ j, j < lo.length → ∀ (h1 : j < lo.length) (h2 : j < hi.length), ¬ badL lo[j] hi[j])
    (k : Nat) (hk : k < l.length) (h5 : l[k].probe < 0 ∨ l[k].probe ≥ 8 ∨ l[k].of_ < 0 ∨ l[k].of_ ≥ (lo.length : Int) ∨ l[k].lo > l[k].hi) : checkS l lo hi lies = 3 := by
  unfold checkS
  rw [if_neg (by omega), if_neg (by omega), if_neg (by omega), if_neg (any_lim h2 h4), if_pos]
  exact List.any_eq_true.2 ⟨l[k], List.getElem_mem _, decide_eq_true h5⟩
theorem check_6 (h1 : l.length ≤ 40 ∧ lo.length ≤ 6 ∧ hi.length ≤ 6) (h2 : lo.length = hi.length) (h3 : 0 ≤ lies ∧ lies ≤ 3) (h4 : ∀ j, j < lo.length → ∀ (h1 : j < lo.length) (h2 : j < hi.length), ¬ badL lo[j] hi[j])
    (h5 : ∀ j, j < l.length → ∀ (h1 : j < l.length), ¬ badR lo.length l[j]) : checkS l lo hi lies = 0 := by
  unfold checkS
  rw [if_neg (by omega), if_neg (by omega), if_neg (by omega), if_neg (any_lim h2 h4), if_neg]
  intro hx
  obtain ⟨r, hr, hb⟩ := List.any_eq_true.1 hx
  obtain ⟨j, hj, rfl⟩ := List.getElem_of_mem hr
  exact h5 j hj hj (of_decide_eq_true hb)
end

def mc19 : MC := (.seq (.reg [⟨(some 8), (.mv (.c (.int .i64 0))), none, []⟩] false) (.seq (.block 0 (.seq (.reg [⟨(some 13), (.mv (.t 0)), none, []⟩, ⟨(some 14), (.len (.t 13)), none, [0]⟩, ⟨(some 15), (.bin .gtr (.t 14) (.c (.int .i64 40))), none, [1]⟩, ⟨(some 16), (.mv (.t 15)), none, [2]⟩, ⟨(some 17), (.mv (.t 1)), (some (16, false)), [3]⟩, ⟨(some 18), (.len (.t 17)), (some (16, false)), [4, 3]⟩, ⟨(some 19), (.mv (.t 2)), (some (16, false)), [3]⟩, ⟨(some 20), (.len (.t 19)), (some (16, false)), [6, 3]⟩, ⟨(some 21), (.mx (.t 18) (.t 20)), (some (16, false)), [5, 7, 3]⟩, ⟨(some 22), (.bin .gtr (.t 21) (.c (.int .i64 6))), (some (16, false)), [8, 3]⟩, ⟨(some 23), (.pick (.t 16) (.c (.bool true)) (.t 22)), none, [3, 9]⟩, ⟨(some 12), (.mv (.t 23)), none, [10, 3]⟩] false) (.cond (.t 12) (.seq (.reg [⟨(some 8), (.mv (.c (.int .i64 2))), none, []⟩] false) .ret) (.seq (.reg [⟨(some 25), (.mv (.t 1)), none, []⟩, ⟨(some 26), (.len (.t 25)), none, [0]⟩, ⟨(some 27), (.mv (.t 2)), none, []⟩, ⟨(some 28), (.len (.t 27)), none, [2]⟩, ⟨(some 29), (.bin .neq (.t 26) (.t 28)), none, [1, 3]⟩, ⟨(some 24), (.mv (.t 29)), none, [4]⟩] false) (.cond (.t 24) (.seq (.reg [⟨(some 8), (.mv (.c (.int .i64 4))), none, []⟩] false) .ret) (.seq (.reg [⟨(some 31), (.mv (.t 3)), none, []⟩, ⟨(some 32), (.bin .lss (.t 31) (.c (.int .i64 0))), none, [0]⟩, ⟨(some 33), (.mv (.t 32)), none, [1]⟩, ⟨(some 34), (.mv (.t 3)), (some (33, false)), [2]⟩, ⟨(some 35), (.bin .gtr (.t 34) (.c (.int .i64 3))), (some (33, false)), [3, 2]⟩, ⟨(some 36), (.pick (.t 33) (.c (.bool true)) (.t 35)), none, [2, 4]⟩, ⟨(some 30), (.mv (.t 36)), none, [5, 2]⟩] false) (.cond (.t 30) (.seq (.reg [⟨(some 8), (.mv (.c (.int .i64 3))), none, []⟩] false) .ret) .skip))))))) (.seq (.seq (.reg [⟨(some 37), (.mv (.t 1)), none, []⟩, ⟨(some 38), (.len (.t 37)), none, [0]⟩, ⟨(some 39), (.mv (.c (.int .i64 0))), none, []⟩] false) (.block 1 (.loop (.seq (.reg [⟨(some 40), (.bin .lss (.t 39) (.t 38)), none, []⟩] false) (.seq (.cond (.t 40) .skip (.exit 1)) (.seq (.block 2 (.seq (.reg [⟨(some 41), (.mv (.t 39)), none, []⟩, ⟨(some 9), (.mv (.t 41)), none, [0, 0]⟩] false) (.seq (.reg [⟨(some 42), (.mv (.t 1)), none, []⟩, ⟨(some 43), (.mv (.t 9)), none, []⟩, ⟨(some 44), (.ixsl 1 (.t 42) (.t 43)), none, [0, 1]⟩, ⟨(some 45), (.ld false 1 (.t 44)), none, [2]⟩, ⟨(some 46), (.bin .lss (.t 45) (.c (.int .i64 (-1048576)))), none, [3]⟩, ⟨(some 47), (.mv (.t 46)), none, [4]⟩, ⟨(some 48), (.mv (.t 2)), (some (47, false)), [5]⟩, ⟨(some 49), (.mv (.t 9)), (some (47, false)), [5]⟩, ⟨(some 50), (.ixsl 1 (.t 48) (.t 49)), (some (47, false)), [6, 7, 5]⟩, ⟨(some 51), (.ld false 1 (.t 50)), (some (47, false)), [8, 5]⟩, ⟨(some 52), (.bin .gtr (.t 51) (.c (.int .i64 1048576))), (some (47, false)), [9, 5]⟩, ⟨(some 53), (.pick (.t 47) (.c (.bool true)) (.t 52)), none, [5, 10]⟩, ⟨(some 54), (.mv (.t 53)), none, [11, 5]⟩, ⟨(some 55), (.mv (.t 1)), (some (54, false)), [12]⟩, ⟨(some 56), (.mv (.t 9)), (some (54, false)), [12]⟩, ⟨(some 57), (.ixsl 1 (.t 55) (.t 56)), (some (54, false)), [13, 14, 12]⟩, ⟨(some 58), (.ld false 1 (.t 57)), (some (54, false)), [15, 12]⟩, ⟨(some 59), (.mv (.t 2)), (some (54, false)), [12]⟩, ⟨(some 60), (.mv (.t 9)), (some (54, false)), [12]⟩, ⟨(some 61), (.ixsl 1 (.t 59) (.t 60)), (some (54, false)), [17, 18, 12]⟩, ⟨(some 62), (.ld false 1 (.t 61)), (some (54, false)), [19, 12]⟩, ⟨(some 63), (.bin .gtr (.t 58) (.t 62)), (some (54, false)), [16, 20, 12]⟩, ⟨(some 64), (.pick (.t 54) (.c (.bool true)) (.t 63)), none, [12, 21]⟩] true) (.cond (.t 64) (.seq (.reg [⟨(some 8), (.mv (.c (.int .i64 3))), none, []⟩] false) .ret) .skip)))) (.reg [⟨(some 65), (.bin .add (.t 39) (.c (.int .i64 1))), none, []⟩, ⟨(some 39), (.mv (.t 65)), none, [0]⟩] false))))))) (.seq (.seq (.reg [⟨(some 66), (.mv (.t 0)), none, []⟩, ⟨(some 67), (.len (.t 66)), none, [0]⟩, ⟨(some 68), (.mv (.c (.int .i64 0))), none, []⟩] false) (.block 3 (.loop (.seq (.reg [⟨(some 69), (.bin .lss (.t 68) (.t 67)), none, []⟩] false) (.seq (.cond (.t 69) .skip (.exit 3)) (.seq (.block 4 (.seq (.reg [⟨(some 70), (.ixsl 4 (.t 66) (.t 68)), none, []⟩, ⟨(some 71), (.ld true 4 (.t 70)), none, [0]⟩, ⟨(some 11), (.alloc 50 4 [(.int .i64 0), (.int .i64 0), (.int .i64 0), (.int .i64 0)]), none, []⟩, ⟨none, (.st 4 (.t 11) (.t 71)), none, [2, 1, 0, 1, 2]⟩] false) (.seq (.reg [⟨(some 72), (.fa 0 (.t 11)), none, []⟩, ⟨(some 73), (.ld false 1 (.t 72)), none, [0]⟩, ⟨(some 74), (.bin .lss (.t 73) (.c (.int .i64 0))), none, [1]⟩, ⟨(some 75), (.mv (.t 74)), none, [2]⟩, ⟨(some 76), (.fa 0 (.t 11)), (some (75, false)), [3]⟩, ⟨(some 77), (.ld false 1 (.t 76)), (some (75, false)), [4, 3]⟩, ⟨(some 78), (.bin .geq (.t 77) (.c (.int .i64 8))), (some (75, false)), [5, 3]⟩, ⟨(some 79), (.pick (.t 75) (.c (.bool true)) (.t 78)), none, [3, 6]⟩, ⟨(some 80), (.mv (.t 79)), none, [7, 3]⟩, ⟨(some 81), (.fa 1 (.t 11)), (some (80, false)), [8]⟩, ⟨(some 82), (.ld false 1 (.t 81)), (some (80, false)), [9, 8]⟩, ⟨(some 83), (.bin .lss (.t 82) (.c (.int .i64 0))), (some (80, false)), [10, 8]⟩, ⟨(some 84), (.pick (.t 80) (.c (.bool true)) (.t 83)), none, [8, 11]⟩, ⟨(some 85), (.mv (.t 84)), none, [12, 8]⟩, ⟨(some 86), (.fa 1 (.t 11)), (some (85, false)), [13]⟩, ⟨(some 87), (.ld false 1 (.t 86)), (some (85, false)), [14, 13]⟩, ⟨(some 88), (.mv (.t 1)), (some (85, false)), [13]⟩, ⟨(some 89), (.len (.t 88)), (some (85, false)), [16, 13]⟩, ⟨(some 90), (.bin .geq (.t 87) (.t 89)), (some (85, false)), [15, 17, 13]⟩, ⟨(some 91), (.pick (.t 85) (.c (.bool true)) (.t 90)), none, [13, 18]⟩, ⟨(some 92), (.mv (.t 91)), none, [19, 13]⟩, ⟨(some 93), (.fa 2 (.t 11)), (some (92, false)), [20]⟩, ⟨(some 94), (.ld false 1 (.t 93)), (some (92, false)), [21, 20]⟩, ⟨(some 95), (.fa 3 (.t 11)), (some (92, false)), [20]⟩, ⟨(some 96), (.ld false 1 (.t 95)), (some (92, false)), [23, 20]⟩, ⟨(some 97), (.bin .gtr (.t 94) (.t 96)), (some (92, false)), [22, 24, 20]⟩, ⟨(some 98), (.pick (.t 92) (.c (.bool true)) (.t 97)), none, [20, 25]⟩] false) (.cond (.t 98) (.seq (.reg [⟨(some 8), (.mv (.c (.int .i64 3))), none, []⟩] false) .ret) .skip)))) (.reg [⟨(some 99), (.bin .add (.t 68) (.c (.int .i64 1))), none, []⟩, ⟨(some 68), (.mv (.t 99)), none, [0]⟩] false))))))) (.seq (.reg [⟨(some 8), (.mv (.c (.int .i64 0))), none, []⟩] false) .ret)))))
theorem mcOk19 : (match Try.f19.body with | some c => compC Try.prog 100 c | none => none) = some mc19 := by kernel_rfl

theorem fc19 (l : List Rd) (lo hi : List Int) (lies : Int) : FC Try.prog 19 [.rs 4 (l.map cR), ints lo, ints hi, .int .i64 lies] [] (.int .i64 (checkS l lo hi lies)) [] false := by
  refine fc_run (nt := 100) Try.func19 rfl rfl mcOk19 (Nat.le_of_ble_eq_true rfl) ?_
  delta mc19
  refine aw_seq ?_
  refine aw_reg ?_
  refine rs_mv rfl rfl ?_
  refine rs_nil fun _ => ?_
  refine th_n ?_
  refine aw_seq ?_
  refine aw_block ?_
  refine aw_seq ?_
  refine aw_reg ?_
  refine rs_mv rfl rfl ?_
  first | refine rs_len_m rfl rfl ?_ | refine rs_len_s rfl rfl ?_ | refine rs_len_n rfl rfl ?_ | refine rs_len_r rfl rfl rfl ?_
  refine rs_cmp rfl rfl rfl rfl (fun h15 => ?_) (fun h15 => ?_)
  · skip
    refine rs_mv rfl rfl ?_
    refine rs_skip rfl ?_
    refine rs_skip rfl ?_
    refine rs_skip rfl ?_
    refine rs_skip rfl ?_
    refine rs_skip rfl ?_
    refine rs_skip rfl ?_
    refine rs_pick rfl rfl rfl ?_
    refine rs_mv rfl rfl ?_
    refine rs_nil fun _ => ?_
    refine th_n ?_
    refine aw_cond rfl (fun _ => ?_) (fun h => by cases h)
    refine aw_seq ?_
    refine aw_reg ?_
    refine rs_mv rfl rfl ?_
    refine rs_nil fun _ => ?_
    refine th_n ?_
    refine aw_ret ?_
    refine in_r ?_
    refine th_r ?_
    first
      | exact ret_pure rfl (congrArg _ (check_1 (by omega)).symm) rfl (.inr rfl)
      | exact ret_pure rfl (congrArg _ (check_2 (by omega) (by omega)).symm) rfl (.inr rfl)
      | exact ret_pure rfl (congrArg _ (check_3 (by omega) (by omega) (by omega)).symm) rfl (.inr rfl)
      | exact ret_pure rfl (congrArg _ (check_4 (by omega) (by omega) (by omega) k (by omega) (by omega) (by omega)).symm) rfl (.inr rfl)
      | exact ret_pure rfl (congrArg _ (check_5 (by omega) (by omega) (by omega) (fun j hj => hb j (by omega)) q (by omega) (by omega)).symm) rfl (.inr rfl)
      | exact ret_pure rfl (congrArg _ (check_6 (by omega) (by omega) (by omega) (fun j hj => hb j (by omega)) (fun j hj => hc j (by omega))).symm) rfl (.inr rfl)
  · skip
    refine rs_mv rfl rfl ?_
    refine rs_mv rfl rfl ?_
    first | refine rs_len_m rfl rfl ?_ | refine rs_len_s rfl rfl ?_ | refine rs_len_n rfl rfl ?_ | refine rs_len_r rfl rfl rfl ?_
    refine rs_mv rfl rfl ?_
    first | refine rs_len_m rfl rfl ?_ | refine rs_len_s rfl rfl ?_ | refine rs_len_n rfl rfl ?_ | refine rs_len_r rfl rfl rfl ?_
    refine rs_mx rfl rfl rfl rfl ?_
    refine rs_cmp rfl rfl rfl rfl (fun h22 => ?_) (fun h22 => ?_)
    · skip
      refine rs_pick rfl rfl rfl ?_
      refine rs_mv rfl rfl ?_
      refine rs_nil fun _ => ?_
      refine th_n ?_
      refine aw_cond rfl (fun _ => ?_) (fun h => by cases h)
      refine aw_seq ?_
      refine aw_reg ?_
      refine rs_mv rfl rfl ?_
      refine rs_nil fun _ => ?_
      refine th_n ?_
      refine aw_ret ?_
      refine in_r ?_
      refine th_r ?_
      first
        | exact ret_pure rfl (congrArg _ (check_1 (by omega)).symm) rfl (.inr rfl)
        | exact ret_pure rfl (congrArg _ (check_2 (by omega) (by omega)).symm) rfl (.inr rfl)
        | exact ret_pure rfl (congrArg _ (check_3 (by omega) (by omega) (by omega)).symm) rfl (.inr rfl)
        | exact ret_pure rfl (congrArg _ (check_4 (by omega) (by omega) (by omega) k (by omega) (by omega) (by omega)).symm) rfl (.inr rfl)
        | exact ret_pure rfl (congrArg _ (check_5 (by omega) (by omega) (by omega) (fun j hj => hb j (by omega)) q (by omega) (by omega)).symm) rfl (.inr rfl)
        | exact ret_pure rfl (congrArg _ (check_6 (by omega) (by omega) (by omega) (fun j hj => hb j (by omega)) (fun j hj => hc j (by omega))).symm) rfl (.inr rfl)
    · skip
      refine rs_pick rfl rfl rfl ?_
      refine rs_mv rfl rfl ?_
      refine rs_nil fun _ => ?_
      refine th_n ?_
      refine aw_cond rfl (fun h => by cases h) (fun _ => ?_)
      refine aw_seq ?_
      refine aw_reg ?_
      refine rs_mv rfl rfl ?_
      first | refine rs_len_m rfl rfl ?_ | refine rs_len_s rfl rfl ?_ | refine rs_len_n rfl rfl ?_ | refine rs_len_r rfl rfl rfl ?_
      refine rs_mv rfl rfl ?_
      first | refine rs_len_m rfl rfl ?_ | refine rs_len_s rfl rfl ?_ | refine rs_len_n rfl rfl ?_ | refine rs_len_r rfl rfl rfl ?_
      refine rs_neq rfl rfl rfl ?_
      refine rs_mv rfl rfl ?_
      refine rs_nil fun _ => ?_
      refine th_n ?_
      refine aw_cond rfl (fun h24 => ?_) (fun h24 => ?_)
      · first | replace h24 := of_decide_eq_true h24 | skip
        refine aw_seq ?_
        refine aw_reg ?_
        refine rs_mv rfl rfl ?_
        refine rs_nil fun _ => ?_
        refine th_n ?_
        refine aw_ret ?_
        refine in_r ?_
        refine th_r ?_
        first
          | exact ret_pure rfl (congrArg _ (check_1 (by omega)).symm) rfl (.inr rfl)
          | exact ret_pure rfl (congrArg _ (check_2 (by omega) (by omega)).symm) rfl (.inr rfl)
          | exact ret_pure rfl (congrArg _ (check_3 (by omega) (by omega) (by omega)).symm) rfl (.inr rfl)
          | exact ret_pure rfl (congrArg _ (check_4 (by omega) (by omega) (by omega) k (by omega) (by omega) (by omega)).symm) rfl (.inr rfl)
          | exact ret_pure rfl (congrArg _ (check_5 (by omega) (by omega) (by omega) (fun j hj => hb j (by omega)) q (by omega) (by omega)).symm) rfl (.inr rfl)
          | exact ret_pure rfl (congrArg _ (check_6 (by omega) (by omega) (by omega) (fun j hj => hb j (by omega)) (fun j hj => hc j (by omega))).symm) rfl (.inr rfl)
      · first | replace h24 := of_decide_eq_false h24 | skip
        refine aw_seq ?_
        refine aw_reg ?_
        refine rs_mv rfl rfl ?_
        refine rs_cmp rfl rfl rfl rfl (fun h32 => ?_) (fun h32 => ?_)
        · skip
          refine rs_mv rfl rfl ?_
          refine rs_skip rfl ?_
          refine rs_skip rfl ?_
          refine rs_pick rfl rfl rfl ?_
          refine rs_mv rfl rfl ?_
          refine rs_nil fun _ => ?_
          refine th_n ?_
          refine aw_cond rfl (fun _ => ?_) (fun h => by cases h)
          refine aw_seq ?_
          refine aw_reg ?_
          refine rs_mv rfl rfl ?_
          refine rs_nil fun _ => ?_
          refine th_n ?_
          refine aw_ret ?_
          refine in_r ?_
          refine th_r ?_
          first
            | exact ret_pure rfl (congrArg _ (check_1 (by omega)).symm) rfl (.inr rfl)
            | exact ret_pure rfl (congrArg _ (check_2 (by omega) (by omega)).symm) rfl (.inr rfl)
            | exact ret_pure rfl (congrArg _ (check_3 (by omega) (by omega) (by omega)).symm) rfl (.inr rfl)
            | exact ret_pure rfl (congrArg _ (check_4 (by omega) (by omega) (by omega) k (by omega) (by omega) (by omega)).symm) rfl (.inr rfl)
            | exact ret_pure rfl (congrArg _ (check_5 (by omega) (by omega) (by omega) (fun j hj => hb j (by omega)) q (by omega) (by omega)).symm) rfl (.inr rfl)
            | exact ret_pure rfl (congrArg _ (check_6 (by omega) (by omega) (by omega) (fun j hj => hb j (by omega)) (fun j hj => hc j (by omega))).symm) rfl (.inr rfl)
        · skip
          refine rs_mv rfl rfl ?_
          refine rs_mv rfl rfl ?_
          refine rs_cmp rfl rfl rfl rfl (fun h35 => ?_) (fun h35 => ?_)
          · skip
            refine rs_pick rfl rfl rfl ?_
            refine rs_mv rfl rfl ?_
            refine rs_nil fun _ => ?_
            refine th_n ?_
            refine aw_cond rfl (fun _ => ?_) (fun h => by cases h)
            refine aw_seq ?_
            refine aw_reg ?_
            refine rs_mv rfl rfl ?_
            refine rs_nil fun _ => ?_
            refine th_n ?_
            refine aw_ret ?_
            refine in_r ?_
            refine th_r ?_
            first
              | exact ret_pure rfl (congrArg _ (check_1 (by omega)).symm) rfl (.inr rfl)
              | exact ret_pure rfl (congrArg _ (check_2 (by omega) (by omega)).symm) rfl (.inr rfl)
              | exact ret_pure rfl (congrArg _ (check_3 (by omega) (by omega) (by omega)).symm) rfl (.inr rfl)
              | exact ret_pure rfl (congrArg _ (check_4 (by omega) (by omega) (by omega) k (by omega) (by omega) (by omega)).symm) rfl (.inr rfl)
              | exact ret_pure rfl (congrArg _ (check_5 (by omega) (by omega) (by omega) (fun j hj => hb j (by omega)) q (by omega) (by omega)).symm) rfl (.inr rfl)
              | exact ret_pure rfl (congrArg _ (check_6 (by omega) (by omega) (by omega) (fun j hj => hb j (by omega)) (fun j hj => hc j (by omega))).symm) rfl (.inr rfl)
          · skip
            refine rs_pick rfl rfl rfl ?_
            refine rs_mv rfl rfl ?_
            refine rs_nil fun _ => ?_
            refine th_n ?_
            refine aw_cond rfl (fun h => by cases h) (fun _ => ?_)
            refine aw_skip ?_
            refine in_n ?_
            refine th_n ?_
            refine aw_seq ?_
            refine aw_seq ?_
            refine aw_reg ?_
            refine rs_mv rfl rfl ?_
            first | refine rs_len_m rfl rfl ?_ | refine rs_len_s rfl rfl ?_ | refine rs_len_n rfl rfl ?_ | refine rs_len_r rfl rfl rfl ?_
            refine rs_mv rfl rfl ?_
            refine rs_nil fun _ => ?_
            refine th_n ?_
            refine aw_block ?_
            refine aw_fam (α := Nat) (fun k => lo.length - k) (fun k => [(0, .rs 4 (l.map cR)), (1, ints lo), (2, ints hi), (3, .int .i64 lies), (39, .int .i64 (((k) : Nat) : Int)), (38, .int .i64 (lo.length : Int))]) (fun k => []) (fun k => k ≤ lo.length ∧ ∀ j, j < k → ∀ (h1 : j < lo.length) (h2 : j < hi.length), ¬ badL lo[j] hi[j]) 0 (⟨by omega, fun j h => by omega⟩)
              (weak_to (.cons rfl (rc_same rfl (.inl rfl)) (.cons rfl (rc_same rfl (.inl rfl)) (.cons rfl (rc_same rfl (.inl rfl)) (.cons rfl (rc_same rfl (.inl rfl)) (.cons rfl (rc_same rfl (.inl rfl)) (.cons rfl (rc_same rfl (.inl rfl)) (.nil))))))) (.nil) (fun i h => by cases h)) ?_
            rintro k ⟨hk, hb⟩
            refine aw_seq ?_
            refine aw_reg ?_
            refine rs_lss rfl rfl rfl ?_
            refine rs_nil fun _ => ?_
            refine th_n ?_
            refine aw_seq ?_
            refine aw_cond rfl (fun h40 => ?_) (fun h40 => ?_)
            · first | replace h40 := of_decide_eq_true h40 | skip
              refine aw_skip ?_
              refine th_n ?_
              refine aw_seq ?_
              refine aw_block ?_
              refine aw_seq ?_
              refine aw_reg ?_
              refine rs_mv rfl rfl ?_
              refine rs_mv rfl rfl ?_
              refine rs_nil fun _ => ?_
              refine th_n ?_
              refine aw_seq ?_
              refine aw_draw hmix ?_
              refine rs_mv rfl rfl ?_
              refine rs_mv rfl rfl ?_
              first | refine rs_ix_m rfl rfl rfl (by omega) ?_ | refine rs_ix_sm rfl rfl rfl rfl (by omega) ?_
              first | refine rs_ld_r rfl rfl rfl ?_ | refine rs_ld_p rfl rfl rfl rfl rfl ?_ | refine rs_ld_m rfl rfl rfl (by omega) rfl ?_
              refine rs_cmp rfl rfl rfl rfl (fun h46 => ?_) (fun h46 => ?_)
              · skip
                refine rs_mv rfl rfl ?_
                refine rs_skip rfl ?_
                refine rs_skip rfl ?_
                refine rs_skip rfl ?_
                refine rs_skip rfl ?_
                refine rs_skip rfl ?_
                refine rs_pick rfl rfl rfl ?_
                refine rs_mv rfl rfl ?_
                refine rs_skip rfl ?_
                refine rs_skip rfl ?_
                refine rs_skip rfl ?_
                refine rs_skip rfl ?_
                refine rs_skip rfl ?_
                refine rs_skip rfl ?_
                refine rs_skip rfl ?_
                refine rs_skip rfl ?_
                refine rs_skip rfl ?_
                refine rs_pick rfl rfl rfl ?_
                refine rs_nil ⟨by kernel_rfl, fun _ => ?_⟩
                refine th_n ?_
                refine aw_cond rfl (fun _ => ?_) (fun h => by cases h)
                refine aw_seq ?_
                refine aw_reg ?_
                refine rs_mv rfl rfl ?_
                refine rs_nil fun _ => ?_
                refine th_n ?_
                refine aw_ret ?_
                refine in_r ?_
                refine th_r ?_
                refine th_r ?_
                refine in_r ?_
                refine th_r ?_
                first
                  | exact ret_pure rfl (congrArg _ (check_1 (by omega)).symm) rfl (.inr rfl)
                  | exact ret_pure rfl (congrArg _ (check_2 (by omega) (by omega)).symm) rfl (.inr rfl)
                  | exact ret_pure rfl (congrArg _ (check_3 (by omega) (by omega) (by omega)).symm) rfl (.inr rfl)
                  | exact ret_pure rfl (congrArg _ (check_4 (by omega) (by omega) (by omega) k (by omega) (by omega) (by omega)).symm) rfl (.inr rfl)
                  | exact ret_pure rfl (congrArg _ (check_5 (by omega) (by omega) (by omega) (fun j hj => hb j (by omega)) q (by omega) (by omega)).symm) rfl (.inr rfl)
                  | exact ret_pure rfl (congrArg _ (check_6 (by omega) (by omega) (by omega) (fun j hj => hb j (by omega)) (fun j hj => hc j (by omega))).symm) rfl (.inr rfl)
              · skip
                refine rs_mv rfl rfl ?_
                refine rs_mv rfl rfl ?_
                refine rs_mv rfl rfl ?_
                first | refine rs_ix_m rfl rfl rfl (by omega) ?_ | refine rs_ix_sm rfl rfl rfl rfl (by omega) ?_
                first | refine rs_ld_r rfl rfl rfl ?_ | refine rs_ld_p rfl rfl rfl rfl rfl ?_ | refine rs_ld_m rfl rfl rfl (by omega) rfl ?_
                refine rs_cmp rfl rfl rfl rfl (fun h52 => ?_) (fun h52 => ?_)
                · skip
                  refine rs_pick rfl rfl rfl ?_
                  refine rs_mv rfl rfl ?_
                  refine rs_skip rfl ?_
                  refine rs_skip rfl ?_
                  refine rs_skip rfl ?_
                  refine rs_skip rfl ?_
                  refine rs_skip rfl ?_
                  refine rs_skip rfl ?_
                  refine rs_skip rfl ?_
                  refine rs_skip rfl ?_
                  refine rs_skip rfl ?_
                  refine rs_pick rfl rfl rfl ?_
                  refine rs_nil ⟨by kernel_rfl, fun _ => ?_⟩
                  refine th_n ?_
                  refine aw_cond rfl (fun _ => ?_) (fun h => by cases h)
                  refine aw_seq ?_
                  refine aw_reg ?_
                  refine rs_mv rfl rfl ?_
                  refine rs_nil fun _ => ?_
                  refine th_n ?_
                  refine aw_ret ?_
                  refine in_r ?_
                  refine th_r ?_
                  refine th_r ?_
                  refine in_r ?_
                  refine th_r ?_
                  first
                    | exact ret_pure rfl (congrArg _ (check_1 (by omega)).symm) rfl (.inr rfl)
                    | exact ret_pure rfl (congrArg _ (check_2 (by omega) (by omega)).symm) rfl (.inr rfl)
                    | exact ret_pure rfl (congrArg _ (check_3 (by omega) (by omega) (by omega)).symm) rfl (.inr rfl)
                    | exact ret_pure rfl (congrArg _ (check_4 (by omega) (by omega) (by omega) k (by omega) (by omega) (by omega)).symm) rfl (.inr rfl)
                    | exact ret_pure rfl (congrArg _ (check_5 (by omega) (by omega) (by omega) (fun j hj => hb j (by omega)) q (by omega) (by omega)).symm) rfl (.inr rfl)
                    | exact ret_pure rfl (congrArg _ (check_6 (by omega) (by omega) (by omega) (fun j hj => hb j (by omega)) (fun j hj => hc j (by omega))).symm) rfl (.inr rfl)
                · skip
                  refine rs_pick rfl rfl rfl ?_
                  refine rs_mv rfl rfl ?_
                  refine rs_mv rfl rfl ?_
                  refine rs_mv rfl rfl ?_
                  first | refine rs_ix_m rfl rfl rfl (by omega) ?_ | refine rs_ix_sm rfl rfl rfl rfl (by omega) ?_
                  first | refine rs_ld_r rfl rfl rfl ?_ | refine rs_ld_p rfl rfl rfl rfl rfl ?_ | refine rs_ld_m rfl rfl rfl (by omega) rfl ?_
                  refine rs_mv rfl rfl ?_
                  refine rs_mv rfl rfl ?_
                  first | refine rs_ix_m rfl rfl rfl (by omega) ?_ | refine rs_ix_sm rfl rfl rfl rfl (by omega) ?_
                  first | refine rs_ld_r rfl rfl rfl ?_ | refine rs_ld_p rfl rfl rfl rfl rfl ?_ | refine rs_ld_m rfl rfl rfl (by omega) rfl ?_
                  refine rs_cmp rfl rfl rfl rfl (fun h63 => ?_) (fun h63 => ?_)
                  · skip
                    refine rs_pick rfl rfl rfl ?_
                    refine rs_nil ⟨by kernel_rfl, fun _ => ?_⟩
                    refine th_n ?_
                    refine aw_cond rfl (fun _ => ?_) (fun h => by cases h)
                    refine aw_seq ?_
                    refine aw_reg ?_
                    refine rs_mv rfl rfl ?_
                    refine rs_nil fun _ => ?_
                    refine th_n ?_
                    refine aw_ret ?_
                    refine in_r ?_
                    refine th_r ?_
                    refine th_r ?_
                    refine in_r ?_
                    refine th_r ?_
                    first
                      | exact ret_pure rfl (congrArg _ (check_1 (by omega)).symm) rfl (.inr rfl)
                      | exact ret_pure rfl (congrArg _ (check_2 (by omega) (by omega)).symm) rfl (.inr rfl)
                      | exact ret_pure rfl (congrArg _ (check_3 (by omega) (by omega) (by omega)).symm) rfl (.inr rfl)
                      | exact ret_pure rfl (congrArg _ (check_4 (by omega) (by omega) (by omega) k (by omega) (by omega) (by omega)).symm) rfl (.inr rfl)
                      | exact ret_pure rfl (congrArg _ (check_5 (by omega) (by omega) (by omega) (fun j hj => hb j (by omega)) q (by omega) (by omega)).symm) rfl (.inr rfl)
                      | exact ret_pure rfl (congrArg _ (check_6 (by omega) (by omega) (by omega) (fun j hj => hb j (by omega)) (fun j hj => hc j (by omega))).symm) rfl (.inr rfl)
                  · skip
                    refine rs_pick rfl rfl rfl ?_
                    refine rs_nil ⟨by kernel_rfl, fun _ => ?_⟩
                    refine th_n ?_
                    refine aw_cond rfl (fun h => by cases h) (fun _ => ?_)
                    refine aw_skip ?_
                    refine in_n ?_
                    refine th_n ?_
                    refine aw_reg ?_
                    refine rs_add rfl rfl rfl (by omega) ?_
                    refine rs_mv rfl rfl ?_
                    refine rs_nil fun _ => ?_
                    refine th_n ?_
                    refine ⟨k + 1, ⟨by omega, fun j hj h1 h2 => ?_⟩, by omega, weak_to (.cons rfl (rc_same rfl (.inl rfl)) (.cons rfl (rc_same rfl (.inl rfl)) (.cons rfl (rc_same rfl (.inl rfl)) (.cons rfl (rc_same rfl (.inl rfl)) (.cons rfl (rc_same rfl (.inl rfl)) (.cons rfl (rc_same rfl (.inl rfl)) (.nil))))))) (.nil) (fun i h => by cases h)⟩
                    by_cases e : j = k
                    · subst e; unfold badL; omega
                    · exact hb j (by omega) h1 h2
            · first | replace h40 := of_decide_eq_false h40 | skip
              refine aw_exit ?_
              refine th_e ?_
              refine th_e ?_
              refine in_hit ?_
              refine th_n ?_
              refine aw_seq ?_
              refine aw_seq ?_
              refine aw_reg ?_
              refine rs_mv rfl rfl ?_
              first | refine rs_len_m rfl rfl ?_ | refine rs_len_s rfl rfl ?_ | refine rs_len_n rfl rfl ?_ | refine rs_len_r rfl rfl rfl ?_
              refine rs_mv rfl rfl ?_
              refine rs_nil fun _ => ?_
              refine th_n ?_
              refine aw_block ?_
              refine aw_fam (α := Nat) (fun q => l.length - q) (fun q => [(0, .rs 4 (l.map cR)), (1, ints lo), (2, ints hi), (3, .int .i64 lies), (68, .int .i64 (((q) : Nat) : Int)), (66, .rs 4 (l.map cR)), (67, .int .i64 (l.length : Int))]) (fun q => []) (fun q => q ≤ l.length ∧ ∀ j, j < q → ∀ (h1 : j < l.length), ¬ badR lo.length l[j]) 0 (⟨by omega, fun j h => by omega⟩)
                (weak_to (.cons rfl (rc_same rfl (.inl rfl)) (.cons rfl (rc_same rfl (.inl rfl)) (.cons rfl (rc_same rfl (.inl rfl)) (.cons rfl (rc_same rfl (.inl rfl)) (.cons rfl (rc_same rfl (.inl rfl)) (.cons rfl (rc_same rfl (.inl rfl)) (.cons rfl (rc_same rfl (.inl rfl)) (.nil)))))))) (.nil) (fun i h => by cases h)) ?_
              rintro q ⟨hq, hc⟩
              refine aw_seq ?_
              refine aw_reg ?_
              refine rs_lss rfl rfl rfl ?_
              refine rs_nil fun _ => ?_
              refine th_n ?_
              refine aw_seq ?_
              refine aw_cond rfl (fun h69 => ?_) (fun h69 => ?_)
              · first | replace h69 := of_decide_eq_true h69 | skip
                refine aw_skip ?_
                refine th_n ?_
                refine aw_seq ?_
                refine aw_block ?_
                refine aw_seq ?_
                refine aw_reg ?_
                first | refine rs_ix_m rfl rfl rfl (by omega) ?_ | refine rs_ix_sm rfl rfl rfl rfl (by omega) ?_
                first | refine rs_ld_pa rfl rfl rfl rfl (Nat.le_of_ble_eq_true rfl) rfl ?_ | refine rs_ld_ra rfl rfl (Nat.le_of_ble_eq_true rfl) rfl ?_ | refine rs_ld_ma rfl rfl rfl (by omega) (Nat.le_of_ble_eq_true rfl) rfl ?_
                refine rs_alloc rfl rfl rfl ?_
                refine rs_st rfl rfl rfl rfl rfl rfl rfl (Nat.le_of_ble_eq_true rfl) rfl rfl ?_
                refine rs_nil fun _ => ?_
                refine th_n ?_
                refine aw_seq ?_
                refine aw_reg ?_
                first | refine rs_fa_p rfl rfl ?_ | refine rs_fa_r rfl rfl rfl ?_
                first | refine rs_ld_r rfl rfl rfl ?_ | refine rs_ld_p rfl rfl rfl rfl rfl ?_ | refine rs_ld_m rfl rfl rfl (by omega) rfl ?_
                refine rs_cmp rfl rfl rfl rfl (fun h74 => ?_) (fun h74 => ?_)
                · skip
                  refine rs_mv rfl rfl ?_
                  refine rs_skip rfl ?_
                  refine rs_skip rfl ?_
                  refine rs_skip rfl ?_
                  refine rs_pick rfl rfl rfl ?_
                  refine rs_mv rfl rfl ?_
                  refine rs_skip rfl ?_
                  refine rs_skip rfl ?_
                  refine rs_skip rfl ?_
                  refine rs_pick rfl rfl rfl ?_
                  refine rs_mv rfl rfl ?_
                  refine rs_skip rfl ?_
                  refine rs_skip rfl ?_
                  refine rs_skip rfl ?_
                  refine rs_skip rfl ?_
                  refine rs_skip rfl ?_
                  refine rs_pick rfl rfl rfl ?_
                  refine rs_mv rfl rfl ?_
                  refine rs_skip rfl ?_
                  refine rs_skip rfl ?_
                  refine rs_skip rfl ?_
                  refine rs_skip rfl ?_
                  refine rs_skip rfl ?_
                  refine rs_pick rfl rfl rfl ?_
                  refine rs_nil fun _ => ?_
                  refine th_n ?_
                  refine aw_cond rfl (fun _ => ?_) (fun h => by cases h)
                  refine aw_seq ?_
                  refine aw_reg ?_
                  refine rs_mv rfl rfl ?_
                  refine rs_nil fun _ => ?_
                  refine th_n ?_
                  refine aw_ret ?_
                  refine in_r ?_
                  refine th_r ?_
                  refine th_r ?_
                  refine in_r ?_
                  refine th_r ?_
                  first
                    | exact ret_pure rfl (congrArg _ (check_1 (by omega)).symm) rfl (.inr rfl)
                    | exact ret_pure rfl (congrArg _ (check_2 (by omega) (by omega)).symm) rfl (.inr rfl)
                    | exact ret_pure rfl (congrArg _ (check_3 (by omega) (by omega) (by omega)).symm) rfl (.inr rfl)
                    | exact ret_pure rfl (congrArg _ (check_4 (by omega) (by omega) (by omega) k (by omega) (by omega) (by omega)).symm) rfl (.inr rfl)
                    | exact ret_pure rfl (congrArg _ (check_5 (by omega) (by omega) (by omega) (fun j hj => hb j (by omega)) q (by omega) (by omega)).symm) rfl (.inr rfl)
                    | exact ret_pure rfl (congrArg _ (check_6 (by omega) (by omega) (by omega) (fun j hj => hb j (by omega)) (fun j hj => hc j (by omega))).symm) rfl (.inr rfl)
                · skip
                  refine rs_mv rfl rfl ?_
                  first | refine rs_fa_p rfl rfl ?_ | refine rs_fa_r rfl rfl rfl ?_
                  first | refine rs_ld_r rfl rfl rfl ?_ | refine rs_ld_p rfl rfl rfl rfl rfl ?_ | refine rs_ld_m rfl rfl rfl (by omega) rfl ?_
                  refine rs_cmp rfl rfl rfl rfl (fun h78 => ?_) (fun h78 => ?_)
                  · skip
                    refine rs_pick rfl rfl rfl ?_
                    refine rs_mv rfl rfl ?_
                    refine rs_skip rfl ?_
                    refine rs_skip rfl ?_
                    refine rs_skip rfl ?_
                    refine rs_pick rfl rfl rfl ?_
                    refine rs_mv rfl rfl ?_
                    refine rs_skip rfl ?_
                    refine rs_skip rfl ?_
                    refine rs_skip rfl ?_
                    refine rs_skip rfl ?_
                    refine rs_skip rfl ?_
                    refine rs_pick rfl rfl rfl ?_
                    refine rs_mv rfl rfl ?_
                    refine rs_skip rfl ?_
                    refine rs_skip rfl ?_
                    refine rs_skip rfl ?_
                    refine rs_skip rfl ?_
                    refine rs_skip rfl ?_
                    refine rs_pick rfl rfl rfl ?_
                    refine rs_nil fun _ => ?_
                    refine th_n ?_
                    refine aw_cond rfl (fun _ => ?_) (fun h => by cases h)
                    refine aw_seq ?_
                    refine aw_reg ?_
                    refine rs_mv rfl rfl ?_
                    refine rs_nil fun _ => ?_
                    refine th_n ?_
                    refine aw_ret ?_
                    refine in_r ?_
                    refine th_r ?_
                    refine th_r ?_
                    refine in_r ?_
                    refine th_r ?_
                    first
                      | exact ret_pure rfl (congrArg _ (check_1 (by omega)).symm) rfl (.inr rfl)
                      | exact ret_pure rfl (congrArg _ (check_2 (by omega) (by omega)).symm) rfl (.inr rfl)
                      | exact ret_pure rfl (congrArg _ (check_3 (by omega) (by omega) (by omega)).symm) rfl (.inr rfl)
                      | exact ret_pure rfl (congrArg _ (check_4 (by omega) (by omega) (by omega) k (by omega) (by omega) (by omega)).symm) rfl (.inr rfl)
                      | exact ret_pure rfl (congrArg _ (check_5 (by omega) (by omega) (by omega) (fun j hj => hb j (by omega)) q (by omega) (by omega)).symm) rfl (.inr rfl)
                      | exact ret_pure rfl (congrArg _ (check_6 (by omega) (by omega) (by omega) (fun j hj => hb j (by omega)) (fun j hj => hc j (by omega))).symm) rfl (.inr rfl)
                  · skip
                    refine rs_pick rfl rfl rfl ?_
                    refine rs_mv rfl rfl ?_
                    first | refine rs_fa_p rfl rfl ?_ | refine rs_fa_r rfl rfl rfl ?_
                    first | refine rs_ld_r rfl rfl rfl ?_ | refine rs_ld_p rfl rfl rfl rfl rfl ?_ | refine rs_ld_m rfl rfl rfl (by omega) rfl ?_
                    refine rs_cmp rfl rfl rfl rfl (fun h83 => ?_) (fun h83 => ?_)
                    · skip
                      refine rs_pick rfl rfl rfl ?_
                      refine rs_mv rfl rfl ?_
                      refine rs_skip rfl ?_
                      refine rs_skip rfl ?_
                      refine rs_skip rfl ?_
                      refine rs_skip rfl ?_
                      refine rs_skip rfl ?_
                      refine rs_pick rfl rfl rfl ?_
                      refine rs_mv rfl rfl ?_
                      refine rs_skip rfl ?_
                      refine rs_skip rfl ?_
                      refine rs_skip rfl ?_
                      refine rs_skip rfl ?_
                      refine rs_skip rfl ?_
                      refine rs_pick rfl rfl rfl ?_
                      refine rs_nil fun _ => ?_
                      refine th_n ?_
                      refine aw_cond rfl (fun _ => ?_) (fun h => by cases h)
                      refine aw_seq ?_
                      refine aw_reg ?_
                      refine rs_mv rfl rfl ?_
                      refine rs_nil fun _ => ?_
                      refine th_n ?_
                      refine aw_ret ?_
                      refine in_r ?_
                      refine th_r ?_
                      refine th_r ?_
                      refine in_r ?_
                      refine th_r ?_
                      first
                        | exact ret_pure rfl (congrArg _ (check_1 (by omega)).symm) rfl (.inr rfl)
                        | exact ret_pure rfl (congrArg _ (check_2 (by omega) (by omega)).symm) rfl (.inr rfl)
                        | exact ret_pure rfl (congrArg _ (check_3 (by omega) (by omega) (by omega)).symm) rfl (.inr rfl)
                        | exact ret_pure rfl (congrArg _ (check_4 (by omega) (by omega) (by omega) k (by omega) (by omega) (by omega)).symm) rfl (.inr rfl)
                        | exact ret_pure rfl (congrArg _ (check_5 (by omega) (by omega) (by omega) (fun j hj => hb j (by omega)) q (by omega) (by omega)).symm) rfl (.inr rfl)
                        | exact ret_pure rfl (congrArg _ (check_6 (by omega) (by omega) (by omega) (fun j hj => hb j (by omega)) (fun j hj => hc j (by omega))).symm) rfl (.inr rfl)
                    · skip
                      refine rs_pick rfl rfl rfl ?_
                      refine rs_mv rfl rfl ?_
                      first | refine rs_fa_p rfl rfl ?_ | refine rs_fa_r rfl rfl rfl ?_
                      first | refine rs_ld_r rfl rfl rfl ?_ | refine rs_ld_p rfl rfl rfl rfl rfl ?_ | refine rs_ld_m rfl rfl rfl (by omega) rfl ?_
                      refine rs_mv rfl rfl ?_
                      first | refine rs_len_m rfl rfl ?_ | refine rs_len_s rfl rfl ?_ | refine rs_len_n rfl rfl ?_ | refine rs_len_r rfl rfl rfl ?_
                      refine rs_cmp rfl rfl rfl rfl (fun h90 => ?_) (fun h90 => ?_)
                      · skip
                        refine rs_pick rfl rfl rfl ?_
                        refine rs_mv rfl rfl ?_
                        refine rs_skip rfl ?_
                        refine rs_skip rfl ?_
                        refine rs_skip rfl ?_
                        refine rs_skip rfl ?_
                        refine rs_skip rfl ?_
                        refine rs_pick rfl rfl rfl ?_
                        refine rs_nil fun _ => ?_
                        refine th_n ?_
                        refine aw_cond rfl (fun _ => ?_) (fun h => by cases h)
                        refine aw_seq ?_
                        refine aw_reg ?_
                        refine rs_mv rfl rfl ?_
                        refine rs_nil fun _ => ?_
                        refine th_n ?_
                        refine aw_ret ?_
                        refine in_r ?_
                        refine th_r ?_
                        refine th_r ?_
                        refine in_r ?_
                        refine th_r ?_
                        first
                          | exact ret_pure rfl (congrArg _ (check_1 (by omega)).symm) rfl (.inr rfl)
                          | exact ret_pure rfl (congrArg _ (check_2 (by omega) (by omega)).symm) rfl (.inr rfl)
                          | exact ret_pure rfl (congrArg _ (check_3 (by omega) (by omega) (by omega)).symm) rfl (.inr rfl)
                          | exact ret_pure rfl (congrArg _ (check_4 (by omega) (by omega) (by omega) k (by omega) (by omega) (by omega)).symm) rfl (.inr rfl)
                          | exact ret_pure rfl (congrArg _ (check_5 (by omega) (by omega) (by omega) (fun j hj => hb j (by omega)) q (by omega) (by omega)).symm) rfl (.inr rfl)
                          | exact ret_pure rfl (congrArg _ (check_6 (by omega) (by omega) (by omega) (fun j hj => hb j (by omega)) (fun j hj => hc j (by omega))).symm) rfl (.inr rfl)
                      · skip
                        refine rs_pick rfl rfl rfl ?_
                        refine rs_mv rfl rfl ?_
                        first | refine rs_fa_p rfl rfl ?_ | refine rs_fa_r rfl rfl rfl ?_
                        first | refine rs_ld_r rfl rfl rfl ?_ | refine rs_ld_p rfl rfl rfl rfl rfl ?_ | refine rs_ld_m rfl rfl rfl (by omega) rfl ?_
                        first | refine rs_fa_p rfl rfl ?_ | refine rs_fa_r rfl rfl rfl ?_
                        first | refine rs_ld_r rfl rfl rfl ?_ | refine rs_ld_p rfl rfl rfl rfl rfl ?_ | refine rs_ld_m rfl rfl rfl (by omega) rfl ?_
                        refine rs_cmp rfl rfl rfl rfl (fun h97 => ?_) (fun h97 => ?_)
                        · skip
                          refine rs_pick rfl rfl rfl ?_
                          refine rs_nil fun _ => ?_
                          refine th_n ?_
                          refine aw_cond rfl (fun _ => ?_) (fun h => by cases h)
                          refine aw_seq ?_
                          refine aw_reg ?_
                          refine rs_mv rfl rfl ?_
                          refine rs_nil fun _ => ?_
                          refine th_n ?_
                          refine aw_ret ?_
                          refine in_r ?_
                          refine th_r ?_
                          refine th_r ?_
                          refine in_r ?_
                          refine th_r ?_
                          first
                            | exact ret_pure rfl (congrArg _ (check_1 (by omega)).symm) rfl (.inr rfl)
                            | exact ret_pure rfl (congrArg _ (check_2 (by omega) (by omega)).symm) rfl (.inr rfl)
                            | exact ret_pure rfl (congrArg _ (check_3 (by omega) (by omega) (by omega)).symm) rfl (.inr rfl)
                            | exact ret_pure rfl (congrArg _ (check_4 (by omega) (by omega) (by omega) k (by omega) (by omega) (by omega)).symm) rfl (.inr rfl)
                            | exact ret_pure rfl (congrArg _ (check_5 (by omega) (by omega) (by omega) (fun j hj => hb j (by omega)) q (by omega) (by omega)).symm) rfl (.inr rfl)
                            | exact ret_pure rfl (congrArg _ (check_6 (by omega) (by omega) (by omega) (fun j hj => hb j (by omega)) (fun j hj => hc j (by omega))).symm) rfl (.inr rfl)
                        · skip
                          refine rs_pick rfl rfl rfl ?_
                          refine rs_nil fun _ => ?_
                          refine th_n ?_
                          refine aw_cond rfl (fun h => by cases h) (fun _ => ?_)
                          refine aw_skip ?_
                          refine in_n ?_
                          refine th_n ?_
                          refine aw_reg ?_
                          refine rs_add rfl rfl rfl (by omega) ?_
                          refine rs_mv rfl rfl ?_
                          refine rs_nil fun _ => ?_
                          refine th_n ?_
                          refine ⟨q + 1, ⟨by omega, fun j hj h1 => ?_⟩, by omega, weak_to (.cons rfl (rc_same rfl (.inl rfl)) (.cons rfl (rc_same rfl (.inl rfl)) (.cons rfl (rc_same rfl (.inl rfl)) (.cons rfl (rc_same rfl (.inl rfl)) (.cons rfl (rc_same rfl (.inl rfl)) (.cons rfl (rc_same rfl (.inl rfl)) (.cons rfl (rc_same rfl (.inl rfl)) (.nil)))))))) (.nil) (fun i h => by cases h)⟩
                          by_cases e : j = q
                          · subst e; unfold badR; omega
                          · exact hc j (by omega) h1
              · first | replace h69 := of_decide_eq_false h69 | skip
                refine aw_exit ?_
                refine th_e ?_
                refine th_e ?_
                refine in_hit ?_
                refine th_n ?_
                refine aw_seq ?_
                refine aw_reg ?_
                refine rs_mv rfl rfl ?_
                refine rs_nil fun _ => ?_
                refine th_n ?_
                refine aw_ret ?_
                first
                  | exact ret_pure rfl (congrArg _ (check_1 (by omega)).symm) rfl (.inr rfl)
                  | exact ret_pure rfl (congrArg _ (check_2 (by omega) (by omega)).symm) rfl (.inr rfl)
                  | exact ret_pure rfl (congrArg _ (check_3 (by omega) (by omega) (by omega)).symm) rfl (.inr rfl)
                  | exact ret_pure rfl (congrArg _ (check_4 (by omega) (by omega) (by omega) k (by omega) (by omega) (by omega)).symm) rfl (.inr rfl)
                  | exact ret_pure rfl (congrArg _ (check_5 (by omega) (by omega) (by omega) (fun j hj => hb j (by omega)) q (by omega) (by omega)).symm) rfl (.inr rfl)
                  | exact ret_pure rfl (congrArg _ (check_6 (by omega) (by omega) (by omega) (fun j hj => hb j (by omega)) (fun j hj => hc j (by omega))).symm) rfl (.inr rfl)

def mc20 : MC := (.seq (.reg [⟨(some 8), (.mv (.c (.int .i64 0))), none, []⟩] false) (.seq (.seq (.reg [⟨(some 11), (.mv (.t 0)), none, []⟩, ⟨(some 12), (.len (.t 11)), none, [0]⟩, ⟨(some 13), (.bin .gtr (.t 12) (.c (.int .i64 40))), none, [1]⟩, ⟨(some 14), (.mv (.t 13)), none, [2]⟩, ⟨(some 15), (.mv (.t 1)), (some (14, false)), [3]⟩, ⟨(some 16), (.len (.t 15)), (some (14, false)), [4, 3]⟩, ⟨(some 17), (.bin .gtr (.t 16) (.c (.int .i64 6))), (some (14, false)), [5, 3]⟩, ⟨(some 18), (.pick (.t 14) (.c (.bool true)) (.t 17)), none, [3, 6]⟩, ⟨(some 19), (.mv (.t 18)), none, [7, 3]⟩, ⟨(some 20), (.mv (.t 2)), (some (19, false)), [8]⟩, ⟨(some 21), (.len (.t 20)), (some (19, false)), [9, 8]⟩, ⟨(some 22), (.bin .gtr (.t 21) (.c (.int .i64 6))), (some (19, false)), [10, 8]⟩, ⟨(some 23), (.pick (.t 19) (.c (.bool true)) (.t 22)), none, [8, 11]⟩] false) (.cond (.t 23) (.seq (.reg [⟨(some 8), (.mv (.c (.int .i64 2))), none, []⟩] false) .ret) .skip)) (.seq (.seq (.reg [⟨(some 24), (.mv (.t 1)), none, []⟩, ⟨(some 25), (.len (.t 24)), none, [0]⟩, ⟨(some 26), (.mv (.t 2)), none, []⟩, ⟨(some 27), (.len (.t 26)), none, [2]⟩, ⟨(some 28), (.bin .neq (.t 25) (.t 27)), none, [1, 3]⟩] false) (.cond (.t 28) (.seq (.reg [⟨(some 8), (.mv (.c (.int .i64 4))), none, []⟩] false) .ret) .skip)) (.seq (.seq (.reg [⟨(some 29), (.mv (.t 3)), none, []⟩, ⟨(some 30), (.bin .lss (.t 29) (.c (.int .i64 0))), none, [0]⟩, ⟨(some 31), (.mv (.t 30)), none, [1]⟩, ⟨(some 32), (.mv (.t 3)), (some (31, false)), [2]⟩, ⟨(some 33), (.bin .gtr (.t 32) (.c (.int .i64 3))), (some (31, false)), [3, 2]⟩, ⟨(some 34), (.pick (.t 31) (.c (.bool true)) (.t 33)), none, [2, 4]⟩] false) (.cond (.t 34) (.seq (.reg [⟨(some 8), (.mv (.c (.int .i64 3))), none, []⟩] false) .ret) .skip)) (.seq (.seq (.reg [⟨(some 9), (.mv (.c (.int .i64 0))), none, []⟩] false) (.block 0 (.loop (.seq (.seq (.reg [⟨(some 35), (.mv (.t 9)), none, []⟩, ⟨(some 36), (.mv (.t 1)), none, []⟩, ⟨(some 37), (.len (.t 36)), none, [1]⟩, ⟨(some 38), (.bin .lss (.t 35) (.t 37)), none, [0, 2]⟩] false) (.cond (.t 38) .skip (.exit 0))) (.seq (.block 1 (.seq (.reg [⟨(some 41), (.mv (.t 1)), none, []⟩, ⟨(some 42), (.mv (.t 9)), none, []⟩, ⟨(some 43), (.ixsl 1 (.t 41) (.t 42)), none, [0, 1]⟩, ⟨(some 44), (.ld false 1 (.t 43)), none, [2]⟩, ⟨(some 45), (.bin .lss (.t 44) (.c (.int .i64 (-1048576)))), none, [3]⟩, ⟨(some 46), (.mv (.t 45)), none, [4]⟩, ⟨(some 47), (.mv (.t 2)), (some (46, false)), [5]⟩, ⟨(some 48), (.mv (.t 9)), (some (46, false)), [5]⟩, ⟨(some 49), (.ixsl 1 (.t 47) (.t 48)), (some (46, false)), [6, 7, 5]⟩, ⟨(some 50), (.ld false 1 (.t 49)), (some (46, false)), [8, 5]⟩, ⟨(some 51), (.bin .gtr (.t 50) (.c (.int .i64 1048576))), (some (46, false)), [9, 5]⟩, ⟨(some 52), (.pick (.t 46) (.c (.bool true)) (.t 51)), none, [5, 10]⟩, ⟨(some 53), (.mv (.t 52)), none, [11, 5]⟩, ⟨(some 54), (.mv (.t 1)), (some (53, false)), [12]⟩, ⟨(some 55), (.mv (.t 9)), (some (53, false)), [12]⟩, ⟨(some 56), (.ixsl 1 (.t 54) (.t 55)), (some (53, false)), [13, 14, 12]⟩, ⟨(some 57), (.ld false 1 (.t 56)), (some (53, false)), [15, 12]⟩, ⟨(some 58), (.mv (.t 2)), (some (53, false)), [12]⟩, ⟨(some 59), (.mv (.t 9)), (some (53, false)), [12]⟩, ⟨(some 60), (.ixsl 1 (.t 58) (.t 59)), (some (53, false)), [17, 18, 12]⟩, ⟨(some 61), (.ld false 1 (.t 60)), (some (53, false)), [19, 12]⟩, ⟨(some 62), (.bin .gtr (.t 57) (.t 61)), (some (53, false)), [16, 20, 12]⟩, ⟨(some 63), (.pick (.t 53) (.c (.bool true)) (.t 62)), none, [12, 21]⟩] true) (.cond (.t 63) (.seq (.reg [⟨(some 8), (.mv (.c (.int .i64 3))), none, []⟩] false) .ret) .skip))) (.reg [⟨(some 39), (.mv (.t 9)), none, []⟩, ⟨(some 40), (.bin .add (.t 39) (.c (.int .i64 1))), none, [0]⟩, ⟨(some 9), (.mv (.t 40)), none, [1, 0, 1]⟩] false)))))) (.seq (.seq (.reg [⟨(some 10), (.mv (.c (.int .i64 0))), none, []⟩] false) (.block 2 (.loop (.seq (.seq (.reg [⟨(some 64), (.mv (.t 10)), none, []⟩, ⟨(some 65), (.mv (.t 0)), none, []⟩, ⟨(some 66), (.len (.t 65)), none, [1]⟩, ⟨(some 67), (.bin .lss (.t 64) (.t 66)), none, [0, 2]⟩] false) (.cond (.t 67) .skip (.exit 2))) (.seq (.block 3 (.seq (.reg [⟨(some 70), (.mv (.t 0)), none, []⟩, ⟨(some 71), (.mv (.t 10)), none, []⟩, ⟨(some 72), (.ixsl 4 (.t 70) (.t 71)), none, [0, 1]⟩, ⟨(some 73), (.fa 0 (.t 72)), none, [2]⟩, ⟨(some 74), (.ld false 1 (.t 73)), none, [3]⟩, ⟨(some 75), (.bin .lss (.t 74) (.c (.int .i64 0))), none, [4]⟩, ⟨(some 76), (.mv (.t 75)), none, [5]⟩, ⟨(some 77), (.mv (.t 0)), (some (76, false)), [6]⟩, ⟨(some 78), (.mv (.t 10)), (some (76, false)), [6]⟩, ⟨(some 79), (.ixsl 4 (.t 77) (.t 78)), (some (76, false)), [7, 8, 6]⟩, ⟨(some 80), (.fa 0 (.t 79)), (some (76, false)), [9, 6]⟩, ⟨(some 81), (.ld false 1 (.t 80)), (some (76, false)), [10, 6]⟩, ⟨(some 82), (.bin .geq (.t 81) (.c (.int .i64 8))), (some (76, false)), [11, 6]⟩, ⟨(some 83), (.pick (.t 76) (.c (.bool true)) (.t 82)), none, [6, 12]⟩, ⟨(some 84), (.mv (.t 83)), none, [13, 6]⟩, ⟨(some 85), (.mv (.t 0)), (some (84, false)), [14]⟩, ⟨(some 86), (.mv (.t 10)), (some (84, false)), [14]⟩, ⟨(some 87), (.ixsl 4 (.t 85) (.t 86)), (some (84, false)), [15, 16, 14]⟩, ⟨(some 88), (.fa 1 (.t 87)), (some (84, false)), [17, 14]⟩, ⟨(some 89), (.ld false 1 (.t 88)), (some (84, false)), [18, 14]⟩, ⟨(some 90), (.bin .lss (.t 89) (.c (.int .i64 0))), (some (84, false)), [19, 14]⟩, ⟨(some 91), (.pick (.t 84) (.c (.bool true)) (.t 90)), none, [14, 20]⟩, ⟨(some 92), (.mv (.t 91)), none, [21, 14]⟩, ⟨(some 93), (.mv (.t 0)), (some (92, false)), [22]⟩, ⟨(some 94), (.mv (.t 10)), (some (92, false)), [22]⟩, ⟨(some 95), (.ixsl 4 (.t 93) (.t 94)), (some (92, false)), [23, 24, 22]⟩, ⟨(some 96), (.fa 1 (.t 95)), (some (92, false)), [25, 22]⟩, ⟨(some 97), (.ld false 1 (.t 96)), (some (92, false)), [26, 22]⟩, ⟨(some 98), (.mv (.t 1)), (some (92, false)), [22]⟩, ⟨(some 99), (.len (.t 98)), (some (92, false)), [28, 22]⟩, ⟨(some 100), (.bin .geq (.t 97) (.t 99)), (some (92, false)), [27, 29, 22]⟩, ⟨(some 101), (.pick (.t 92) (.c (.bool true)) (.t 100)), none, [22, 30]⟩, ⟨(some 102), (.mv (.t 101)), none, [31, 22]⟩, ⟨(some 103), (.mv (.t 0)), (some (102, false)), [32]⟩, ⟨(some 104), (.mv (.t 10)), (some (102, false)), [32]⟩, ⟨(some 105), (.ixsl 4 (.t 103) (.t 104)), (some (102, false)), [33, 34, 32]⟩, ⟨(some 106), (.fa 2 (.t 105)), (some (102, false)), [35, 32]⟩, ⟨(some 107), (.ld false 1 (.t 106)), (some (102, false)), [36, 32]⟩, ⟨(some 108), (.mv (.t 0)), (some (102, false)), [32]⟩, ⟨(some 109), (.mv (.t 10)), (some (102, false)), [32]⟩, ⟨(some 110), (.ixsl 4 (.t 108) (.t 109)), (some (102, false)), [38, 39, 32]⟩, ⟨(some 111), (.fa 3 (.t 110)), (some (102, false)), [40, 32]⟩, ⟨(some 112), (.ld false 1 (.t 111)), (some (102, false)), [41, 32]⟩, ⟨(some 113), (.bin .gtr (.t 107) (.t 112)), (some (102, false)), [37, 42, 32]⟩, ⟨(some 114), (.pick (.t 102) (.c (.bool true)) (.t 113)), none, [32, 43]⟩] true) (.cond (.t 114) (.seq (.reg [⟨(some 8), (.mv (.c (.int .i64 3))), none, []⟩] false) .ret) .skip))) (.reg [⟨(some 68), (.mv (.t 10)), none, []⟩, ⟨(some 69), (.bin .add (.t 68) (.c (.int .i64 1))), none, [0]⟩, ⟨(some 10), (.mv (.t 69)), none, [1, 0, 1]⟩] false)))))) (.seq (.reg [⟨(some 8), (.mv (.c (.int .i64 0))), none, []⟩] false) .ret)))))))
theorem mcOk20 : (match Try.f20.body with | some c => compC Try.prog 115 c | none => none) = some mc20 := by kernel_rfl

theorem fc20 (l : List Rd) (lo hi : List Int) (lies : Int) : FC Try.prog 20 [.rs 4 (l.map cR), ints lo, ints hi, .int .i64 lies] [] (.int .i64 (checkS l lo hi lies)) [] false := by
  refine fc_run (nt := 115) Try.func20 rfl rfl mcOk20 (Nat.le_of_ble_eq_true rfl) ?_
  delta mc20
  refine aw_seq ?_
  refine aw_reg ?_
  refine rs_mv rfl rfl ?_
  refine rs_nil fun _ => ?_
  refine th_n ?_
  refine aw_seq ?_
  refine aw_seq ?_
  refine aw_reg ?_
  refine rs_mv rfl rfl ?_
  first | refine rs_len_m rfl rfl ?_ | refine rs_len_s rfl rfl ?_ | refine rs_len_n rfl rfl ?_ | refine rs_len_r rfl rfl rfl ?_
  refine rs_cmp rfl rfl rfl rfl (fun h13 => ?_) (fun h13 => ?_)
  · skip
    refine rs_mv rfl rfl ?_
    refine rs_skip rfl ?_
    refine rs_skip rfl ?_
    refine rs_skip rfl ?_
    refine rs_pick rfl rfl rfl ?_
    refine rs_mv rfl rfl ?_
    refine rs_skip rfl ?_
    refine rs_skip rfl ?_
    refine rs_skip rfl ?_
    refine rs_pick rfl rfl rfl ?_
    refine rs_nil fun _ => ?_
    refine th_n ?_
    refine aw_cond rfl (fun _ => ?_) (fun h => by cases h)
    refine aw_seq ?_
    refine aw_reg ?_
    refine rs_mv rfl rfl ?_
    refine rs_nil fun _ => ?_
    refine th_n ?_
    refine aw_ret ?_
    refine th_r ?_
    first
      | exact ret_pure rfl (congrArg _ (check_1 (by omega)).symm) rfl (.inr rfl)
      | exact ret_pure rfl (congrArg _ (check_2 (by omega) (by omega)).symm) rfl (.inr rfl)
      | exact ret_pure rfl (congrArg _ (check_3 (by omega) (by omega) (by omega)).symm) rfl (.inr rfl)
      | exact ret_pure rfl (congrArg _ (check_4 (by omega) (by omega) (by omega) k (by omega) (by omega) (by omega)).symm) rfl (.inr rfl)
      | exact ret_pure rfl (congrArg _ (check_5 (by omega) (by omega) (by omega) (fun j hj => hb j (by omega)) q (by omega) (by omega)).symm) rfl (.inr rfl)
      | exact ret_pure rfl (congrArg _ (check_6 (by omega) (by omega) (by omega) (fun j hj => hb j (by omega)) (fun j hj => hc j (by omega))).symm) rfl (.inr rfl)
  · skip
    refine rs_mv rfl rfl ?_
    refine rs_mv rfl rfl ?_
    first | refine rs_len_m rfl rfl ?_ | refine rs_len_s rfl rfl ?_ | refine rs_len_n rfl rfl ?_ | refine rs_len_r rfl rfl rfl ?_
    refine rs_cmp rfl rfl rfl rfl (fun h17 => ?_) (fun h17 => ?_)
    · skip
      refine rs_pick rfl rfl rfl ?_
      refine rs_mv rfl rfl ?_
      refine rs_skip rfl ?_
      refine rs_skip rfl ?_
      refine rs_skip rfl ?_
      refine rs_pick rfl rfl rfl ?_
      refine rs_nil fun _ => ?_
      refine th_n ?_
      refine aw_cond rfl (fun _ => ?_) (fun h => by cases h)
      refine aw_seq ?_
      refine aw_reg ?_
      refine rs_mv rfl rfl ?_
      refine rs_nil fun _ => ?_
      refine th_n ?_
      refine aw_ret ?_
      refine th_r ?_
      first
        | exact ret_pure rfl (congrArg _ (check_1 (by omega)).symm) rfl (.inr rfl)
        | exact ret_pure rfl (congrArg _ (check_2 (by omega) (by omega)).symm) rfl (.inr rfl)
        | exact ret_pure rfl (congrArg _ (check_3 (by omega) (by omega) (by omega)).symm) rfl (.inr rfl)
        | exact ret_pure rfl (congrArg _ (check_4 (by omega) (by omega) (by omega) k (by omega) (by omega) (by omega)).symm) rfl (.inr rfl)
        | exact ret_pure rfl (congrArg _ (check_5 (by omega) (by omega) (by omega) (fun j hj => hb j (by omega)) q (by omega) (by omega)).symm) rfl (.inr rfl)
        | exact ret_pure rfl (congrArg _ (check_6 (by omega) (by omega) (by omega) (fun j hj => hb j (by omega)) (fun j hj => hc j (by omega))).symm) rfl (.inr rfl)
    · skip
      refine rs_pick rfl rfl rfl ?_
      refine rs_mv rfl rfl ?_
      refine rs_mv rfl rfl ?_
      first | refine rs_len_m rfl rfl ?_ | refine rs_len_s rfl rfl ?_ | refine rs_len_n rfl rfl ?_ | refine rs_len_r rfl rfl rfl ?_
      refine rs_cmp rfl rfl rfl rfl (fun h22 => ?_) (fun h22 => ?_)
      · skip
        refine rs_pick rfl rfl rfl ?_
        refine rs_nil fun _ => ?_
        refine th_n ?_
        refine aw_cond rfl (fun _ => ?_) (fun h => by cases h)
        refine aw_seq ?_
        refine aw_reg ?_
        refine rs_mv rfl rfl ?_
        refine rs_nil fun _ => ?_
        refine th_n ?_
        refine aw_ret ?_
        refine th_r ?_
        first
          | exact ret_pure rfl (congrArg _ (check_1 (by omega)).symm) rfl (.inr rfl)
          | exact ret_pure rfl (congrArg _ (check_2 (by omega) (by omega)).symm) rfl (.inr rfl)
          | exact ret_pure rfl (congrArg _ (check_3 (by omega) (by omega) (by omega)).symm) rfl (.inr rfl)
          | exact ret_pure rfl (congrArg _ (check_4 (by omega) (by omega) (by omega) k (by omega) (by omega) (by omega)).symm) rfl (.inr rfl)
          | exact ret_pure rfl (congrArg _ (check_5 (by omega) (by omega) (by omega) (fun j hj => hb j (by omega)) q (by omega) (by omega)).symm) rfl (.inr rfl)
          | exact ret_pure rfl (congrArg _ (check_6 (by omega) (by omega) (by omega) (fun j hj => hb j (by omega)) (fun j hj => hc j (by omega))).symm) rfl (.inr rfl)
      · skip
        refine rs_pick rfl rfl rfl ?_
        refine rs_nil fun _ => ?_
        refine th_n ?_
        refine aw_cond rfl (fun h => by cases h) (fun _ => ?_)
        refine aw_skip ?_
        refine th_n ?_
        refine aw_seq ?_
        refine aw_seq ?_
        refine aw_reg ?_
        refine rs_mv rfl rfl ?_
        first | refine rs_len_m rfl rfl ?_ | refine rs_len_s rfl rfl ?_ | refine rs_len_n rfl rfl ?_ | refine rs_len_r rfl rfl rfl ?_
        refine rs_mv rfl rfl ?_
        first | refine rs_len_m rfl rfl ?_ | refine rs_len_s rfl rfl ?_ | refine rs_len_n rfl rfl ?_ | refine rs_len_r rfl rfl rfl ?_
        refine rs_neq rfl rfl rfl ?_
        refine rs_nil fun _ => ?_
        refine th_n ?_
        refine aw_cond rfl (fun h28 => ?_) (fun h28 => ?_)
        · first | replace h28 := of_decide_eq_true h28 | skip
          refine aw_seq ?_
          refine aw_reg ?_
          refine rs_mv rfl rfl ?_
          refine rs_nil fun _ => ?_
          refine th_n ?_
          refine aw_ret ?_
          refine th_r ?_
          first
            | exact ret_pure rfl (congrArg _ (check_1 (by omega)).symm) rfl (.inr rfl)
            | exact ret_pure rfl (congrArg _ (check_2 (by omega) (by omega)).symm) rfl (.inr rfl)
            | exact ret_pure rfl (congrArg _ (check_3 (by omega) (by omega) (by omega)).symm) rfl (.inr rfl)
            | exact ret_pure rfl (congrArg _ (check_4 (by omega) (by omega) (by omega) k (by omega) (by omega) (by omega)).symm) rfl (.inr rfl)
            | exact ret_pure rfl (congrArg _ (check_5 (by omega) (by omega) (by omega) (fun j hj => hb j (by omega)) q (by omega) (by omega)).symm) rfl (.inr rfl)
            | exact ret_pure rfl (congrArg _ (check_6 (by omega) (by omega) (by omega) (fun j hj => hb j (by omega)) (fun j hj => hc j (by omega))).symm) rfl (.inr rfl)
        · first | replace h28 := of_decide_eq_false h28 | skip
          refine aw_skip ?_
          refine th_n ?_
          refine aw_seq ?_
          refine aw_seq ?_
          refine aw_reg ?_
          refine rs_mv rfl rfl ?_
          refine rs_cmp rfl rfl rfl rfl (fun h30 => ?_) (fun h30 => ?_)
          · skip
            refine rs_mv rfl rfl ?_
            refine rs_skip rfl ?_
            refine rs_skip rfl ?_
            refine rs_pick rfl rfl rfl ?_
            refine rs_nil fun _ => ?_
            refine th_n ?_
            refine aw_cond rfl (fun _ => ?_) (fun h => by cases h)
            refine aw_seq ?_
            refine aw_reg ?_
            refine rs_mv rfl rfl ?_
            refine rs_nil fun _ => ?_
            refine th_n ?_
            refine aw_ret ?_
            refine th_r ?_
            first
              | exact ret_pure rfl (congrArg _ (check_1 (by omega)).symm) rfl (.inr rfl)
              | exact ret_pure rfl (congrArg _ (check_2 (by omega) (by omega)).symm) rfl (.inr rfl)
              | exact ret_pure rfl (congrArg _ (check_3 (by omega) (by omega) (by omega)).symm) rfl (.inr rfl)
              | exact ret_pure rfl (congrArg _ (check_4 (by omega) (by omega) (by omega) k (by omega) (by omega) (by omega)).symm) rfl (.inr rfl)
              | exact ret_pure rfl (congrArg _ (check_5 (by omega) (by omega) (by omega) (fun j hj => hb j (by omega)) q (by omega) (by omega)).symm) rfl (.inr rfl)
              | exact ret_pure rfl (congrArg _ (check_6 (by omega) (by omega) (by omega) (fun j hj => hb j (by omega)) (fun j hj => hc j (by omega))).symm) rfl (.inr rfl)
          · skip
            refine rs_mv rfl rfl ?_
            refine rs_mv rfl rfl ?_
            refine rs_cmp rfl rfl rfl rfl (fun h33 => ?_) (fun h33 => ?_)
            · skip
              refine rs_pick rfl rfl rfl ?_
              refine rs_nil fun _ => ?_
              refine th_n ?_
              refine aw_cond rfl (fun _ => ?_) (fun h => by cases h)
              refine aw_seq ?_
              refine aw_reg ?_
              refine rs_mv rfl rfl ?_
              refine rs_nil fun _ => ?_
              refine th_n ?_
              refine aw_ret ?_
              refine th_r ?_
              first
                | exact ret_pure rfl (congrArg _ (check_1 (by omega)).symm) rfl (.inr rfl)
                | exact ret_pure rfl (congrArg _ (check_2 (by omega) (by omega)).symm) rfl (.inr rfl)
                | exact ret_pure rfl (congrArg _ (check_3 (by omega) (by omega) (by omega)).symm) rfl (.inr rfl)
                | exact ret_pure rfl (congrArg _ (check_4 (by omega) (by omega) (by omega) k (by omega) (by omega) (by omega)).symm) rfl (.inr rfl)
                | exact ret_pure rfl (congrArg _ (check_5 (by omega) (by omega) (by omega) (fun j hj => hb j (by omega)) q (by omega) (by omega)).symm) rfl (.inr rfl)
                | exact ret_pure rfl (congrArg _ (check_6 (by omega) (by omega) (by omega) (fun j hj => hb j (by omega)) (fun j hj => hc j (by omega))).symm) rfl (.inr rfl)
            · skip
              refine rs_pick rfl rfl rfl ?_
              refine rs_nil fun _ => ?_
              refine th_n ?_
              refine aw_cond rfl (fun h => by cases h) (fun _ => ?_)
              refine aw_skip ?_
              refine th_n ?_
              refine aw_seq ?_
              refine aw_seq ?_
              refine aw_reg ?_
              refine rs_mv rfl rfl ?_
              refine rs_nil fun _ => ?_
              refine th_n ?_
              refine aw_block ?_
              refine aw_fam (α := Nat) (fun k => lo.length - k) (fun k => [(0, .rs 4 (l.map cR)), (1, ints lo), (2, ints hi), (3, .int .i64 lies), (9, .int .i64 (((k) : Nat) : Int))]) (fun k => []) (fun k => k ≤ lo.length ∧ ∀ j, j < k → ∀ (h1 : j < lo.length) (h2 : j < hi.length), ¬ badL lo[j] hi[j]) 0 (⟨by omega, fun j h => by omega⟩)
                (weak_to (.cons rfl (rc_same rfl (.inl rfl)) (.cons rfl (rc_same rfl (.inl rfl)) (.cons rfl (rc_same rfl (.inl rfl)) (.cons rfl (rc_same rfl (.inl rfl)) (.cons rfl (rc_same rfl (.inl rfl)) (.nil)))))) (.nil) (fun i h => by cases h)) ?_
              rintro k ⟨hk, hb⟩
              refine aw_seq ?_
              refine aw_seq ?_
              refine aw_reg ?_
              refine rs_mv rfl rfl ?_
              refine rs_mv rfl rfl ?_
              first | refine rs_len_m rfl rfl ?_ | refine rs_len_s rfl rfl ?_ | refine rs_len_n rfl rfl ?_ | refine rs_len_r rfl rfl rfl ?_
              refine rs_lss rfl rfl rfl ?_
              refine rs_nil fun _ => ?_
              refine th_n ?_
              refine aw_cond rfl (fun h38 => ?_) (fun h38 => ?_)
              · first | replace h38 := of_decide_eq_true h38 | skip
                refine aw_skip ?_
                refine th_n ?_
                refine aw_seq ?_
                refine aw_block ?_
                refine aw_seq ?_
                refine aw_draw hmix ?_
                refine rs_mv rfl rfl ?_
                refine rs_mv rfl rfl ?_
                first | refine rs_ix_m rfl rfl rfl (by omega) ?_ | refine rs_ix_sm rfl rfl rfl rfl (by omega) ?_
                first | refine rs_ld_r rfl rfl rfl ?_ | refine rs_ld_p rfl rfl rfl rfl rfl ?_ | refine rs_ld_m rfl rfl rfl (by omega) rfl ?_
                refine rs_cmp rfl rfl rfl rfl (fun h45 => ?_) (fun h45 => ?_)
                · skip
                  refine rs_mv rfl rfl ?_
                  refine rs_skip rfl ?_
                  refine rs_skip rfl ?_
                  refine rs_skip rfl ?_
                  refine rs_skip rfl ?_
                  refine rs_skip rfl ?_
                  refine rs_pick rfl rfl rfl ?_
                  refine rs_mv rfl rfl ?_
                  refine rs_skip rfl ?_
                  refine rs_skip rfl ?_
                  refine rs_skip rfl ?_
                  refine rs_skip rfl ?_
                  refine rs_skip rfl ?_
                  refine rs_skip rfl ?_
                  refine rs_skip rfl ?_
                  refine rs_skip rfl ?_
                  refine rs_skip rfl ?_
                  refine rs_pick rfl rfl rfl ?_
                  refine rs_nil ⟨by kernel_rfl, fun _ => ?_⟩
                  refine th_n ?_
                  refine aw_cond rfl (fun _ => ?_) (fun h => by cases h)
                  refine aw_seq ?_
                  refine aw_reg ?_
                  refine rs_mv rfl rfl ?_
                  refine rs_nil fun _ => ?_
                  refine th_n ?_
                  refine aw_ret ?_
                  refine in_r ?_
                  refine th_r ?_
                  refine th_r ?_
                  refine in_r ?_
                  refine th_r ?_
                  first
                    | exact ret_pure rfl (congrArg _ (check_1 (by omega)).symm) rfl (.inr rfl)
                    | exact ret_pure rfl (congrArg _ (check_2 (by omega) (by omega)).symm) rfl (.inr rfl)
                    | exact ret_pure rfl (congrArg _ (check_3 (by omega) (by omega) (by omega)).symm) rfl (.inr rfl)
                    | exact ret_pure rfl (congrArg _ (check_4 (by omega) (by omega) (by omega) k (by omega) (by omega) (by omega)).symm) rfl (.inr rfl)
                    | exact ret_pure rfl (congrArg _ (check_5 (by omega) (by omega) (by omega) (fun j hj => hb j (by omega)) q (by omega) (by omega)).symm) rfl (.inr rfl)
                    | exact ret_pure rfl (congrArg _ (check_6 (by omega) (by omega) (by omega) (fun j hj => hb j (by omega)) (fun j hj => hc j (by omega))).symm) rfl (.inr rfl)
                · skip
                  refine rs_mv rfl rfl ?_
                  refine rs_mv rfl rfl ?_
                  refine rs_mv rfl rfl ?_
                  first | refine rs_ix_m rfl rfl rfl (by omega) ?_ | refine rs_ix_sm rfl rfl rfl rfl (by omega) ?_
                  first | refine rs_ld_r rfl rfl rfl ?_ | refine rs_ld_p rfl rfl rfl rfl rfl ?_ | refine rs_ld_m rfl rfl rfl (by omega) rfl ?_
                  refine rs_cmp rfl rfl rfl rfl (fun h51 => ?_) (fun h51 => ?_)
                  · skip
                    refine rs_pick rfl rfl rfl ?_
                    refine rs_mv rfl rfl ?_
                    refine rs_skip rfl ?_
                    refine rs_skip rfl ?_
                    refine rs_skip rfl ?_
                    refine rs_skip rfl ?_
                    refine rs_skip rfl ?_
                    refine rs_skip rfl ?_
                    refine rs_skip rfl ?_
                    refine rs_skip rfl ?_
                    refine rs_skip rfl ?_
                    refine rs_pick rfl rfl rfl ?_
                    refine rs_nil ⟨by kernel_rfl, fun _ => ?_⟩
                    refine th_n ?_
                    refine aw_cond rfl (fun _ => ?_) (fun h => by cases h)
                    refine aw_seq ?_
                    refine aw_reg ?_
                    refine rs_mv rfl rfl ?_
                    refine rs_nil fun _ => ?_
                    refine th_n ?_
                    refine aw_ret ?_
                    refine in_r ?_
                    refine th_r ?_
                    refine th_r ?_
                    refine in_r ?_
                    refine th_r ?_
                    first
                      | exact ret_pure rfl (congrArg _ (check_1 (by omega)).symm) rfl (.inr rfl)
                      | exact ret_pure rfl (congrArg _ (check_2 (by omega) (by omega)).symm) rfl (.inr rfl)
                      | exact ret_pure rfl (congrArg _ (check_3 (by omega) (by omega) (by omega)).symm) rfl (.inr rfl)
                      | exact ret_pure rfl (congrArg _ (check_4 (by omega) (by omega) (by omega) k (by omega) (by omega) (by omega)).symm) rfl (.inr rfl)
                      | exact ret_pure rfl (congrArg _ (check_5 (by omega) (by omega) (by omega) (fun j hj => hb j (by omega)) q (by omega) (by omega)).symm) rfl (.inr rfl)
                      | exact ret_pure rfl (congrArg _ (check_6 (by omega) (by omega) (by omega) (fun j hj => hb j (by omega)) (fun j hj => hc j (by omega))).symm) rfl (.inr rfl)
                  · skip
                    refine rs_pick rfl rfl rfl ?_
                    refine rs_mv rfl rfl ?_
                    refine rs_mv rfl rfl ?_
                    refine rs_mv rfl rfl ?_
                    first | refine rs_ix_m rfl rfl rfl (by omega) ?_ | refine rs_ix_sm rfl rfl rfl rfl (by omega) ?_
                    first | refine rs_ld_r rfl rfl rfl ?_ | refine rs_ld_p rfl rfl rfl rfl rfl ?_ | refine rs_ld_m rfl rfl rfl (by omega) rfl ?_
                    refine rs_mv rfl rfl ?_
                    refine rs_mv rfl rfl ?_
                    first | refine rs_ix_m rfl rfl rfl (by omega) ?_ | refine rs_ix_sm rfl rfl rfl rfl (by omega) ?_
                    first | refine rs_ld_r rfl rfl rfl ?_ | refine rs_ld_p rfl rfl rfl rfl rfl ?_ | refine rs_ld_m rfl rfl rfl (by omega) rfl ?_
                    refine rs_cmp rfl rfl rfl rfl (fun h62 => ?_) (fun h62 => ?_)
                    · skip
                      refine rs_pick rfl rfl rfl ?_
                      refine rs_nil ⟨by kernel_rfl, fun _ => ?_⟩
                      refine th_n ?_
                      refine aw_cond rfl (fun _ => ?_) (fun h => by cases h)
                      refine aw_seq ?_
                      refine aw_reg ?_
                      refine rs_mv rfl rfl ?_
                      refine rs_nil fun _ => ?_
                      refine th_n ?_
                      refine aw_ret ?_
                      refine in_r ?_
                      refine th_r ?_
                      refine th_r ?_
                      refine in_r ?_
                      refine th_r ?_
                      first
                        | exact ret_pure rfl (congrArg _ (check_1 (by omega)).symm) rfl (.inr rfl)
                        | exact ret_pure rfl (congrArg _ (check_2 (by omega) (by omega)).symm) rfl (.inr rfl)
                        | exact ret_pure rfl (congrArg _ (check_3 (by omega) (by omega) (by omega)).symm) rfl (.inr rfl)
                        | exact ret_pure rfl (congrArg _ (check_4 (by omega) (by omega) (by omega) k (by omega) (by omega) (by omega)).symm) rfl (.inr rfl)
                        | exact ret_pure rfl (congrArg _ (check_5 (by omega) (by omega) (by omega) (fun j hj => hb j (by omega)) q (by omega) (by omega)).symm) rfl (.inr rfl)
                        | exact ret_pure rfl (congrArg _ (check_6 (by omega) (by omega) (by omega) (fun j hj => hb j (by omega)) (fun j hj => hc j (by omega))).symm) rfl (.inr rfl)
                    · skip
                      refine rs_pick rfl rfl rfl ?_
                      refine rs_nil ⟨by kernel_rfl, fun _ => ?_⟩
                      refine th_n ?_
                      refine aw_cond rfl (fun h => by cases h) (fun _ => ?_)
                      refine aw_skip ?_
                      refine in_n ?_
                      refine th_n ?_
                      refine aw_reg ?_
                      refine rs_mv rfl rfl ?_
                      refine rs_add rfl rfl rfl (by omega) ?_
                      refine rs_mv rfl rfl ?_
                      refine rs_nil fun _ => ?_
                      refine th_n ?_
                      refine ⟨k + 1, ⟨by omega, fun j hj h1 h2 => ?_⟩, by omega, weak_to (.cons rfl (rc_same rfl (.inl rfl)) (.cons rfl (rc_same rfl (.inl rfl)) (.cons rfl (rc_same rfl (.inl rfl)) (.cons rfl (rc_same rfl (.inl rfl)) (.cons rfl (rc_same rfl (.inl rfl)) (.nil)))))) (.nil) (fun i h => by cases h)⟩
                      by_cases e : j = k
                      · subst e; unfold badL; omega
                      · exact hb j (by omega) h1 h2
              · first | replace h38 := of_decide_eq_false h38 | skip
                refine aw_exit ?_
                refine th_e ?_
                refine th_e ?_
                refine in_hit ?_
                refine th_n ?_
                refine aw_seq ?_
                refine aw_seq ?_
                refine aw_reg ?_
                refine rs_mv rfl rfl ?_
                refine rs_nil fun _ => ?_
                refine th_n ?_
                refine aw_block ?_
                refine aw_fam (α := Nat) (fun q => l.length - q) (fun q => [(0, .rs 4 (l.map cR)), (1, ints lo), (2, ints hi), (3, .int .i64 lies), (10, .int .i64 (((q) : Nat) : Int))]) (fun q => []) (fun q => q ≤ l.length ∧ ∀ j, j < q → ∀ (h1 : j < l.length), ¬ badR lo.length l[j]) 0 (⟨by omega, fun j h => by omega⟩)
                  (weak_to (.cons rfl (rc_same rfl (.inl rfl)) (.cons rfl (rc_same rfl (.inl rfl)) (.cons rfl (rc_same rfl (.inl rfl)) (.cons rfl (rc_same rfl (.inl rfl)) (.cons rfl (rc_same rfl (.inl rfl)) (.nil)))))) (.nil) (fun i h => by cases h)) ?_
                rintro q ⟨hq, hc⟩
                refine aw_seq ?_
                refine aw_seq ?_
                refine aw_reg ?_
                refine rs_mv rfl rfl ?_
                refine rs_mv rfl rfl ?_
                first | refine rs_len_m rfl rfl ?_ | refine rs_len_s rfl rfl ?_ | refine rs_len_n rfl rfl ?_ | refine rs_len_r rfl rfl rfl ?_
                refine rs_lss rfl rfl rfl ?_
                refine rs_nil fun _ => ?_
                refine th_n ?_
                refine aw_cond rfl (fun h67 => ?_) (fun h67 => ?_)
                · first | replace h67 := of_decide_eq_true h67 | skip
                  refine aw_skip ?_
                  refine th_n ?_
                  refine aw_seq ?_
                  refine aw_block ?_
                  refine aw_seq ?_
                  refine aw_draw hmix ?_
                  refine rs_mv rfl rfl ?_
                  refine rs_mv rfl rfl ?_
                  first | refine rs_ix_m rfl rfl rfl (by omega) ?_ | refine rs_ix_sm rfl rfl rfl rfl (by omega) ?_
                  first | refine rs_fa_p rfl rfl ?_ | refine rs_fa_r rfl rfl rfl ?_
                  first | refine rs_ld_r rfl rfl rfl ?_ | refine rs_ld_p rfl rfl rfl rfl rfl ?_ | refine rs_ld_m rfl rfl rfl (by omega) rfl ?_
                  refine rs_cmp rfl rfl rfl rfl (fun h75 => ?_) (fun h75 => ?_)
                  · skip
                    refine rs_mv rfl rfl ?_
                    refine rs_skip rfl ?_
                    refine rs_skip rfl ?_
                    refine rs_skip rfl ?_
                    refine rs_skip rfl ?_
                    refine rs_skip rfl ?_
                    refine rs_skip rfl ?_
                    refine rs_pick rfl rfl rfl ?_
                    refine rs_mv rfl rfl ?_
                    refine rs_skip rfl ?_
                    refine rs_skip rfl ?_
                    refine rs_skip rfl ?_
                    refine rs_skip rfl ?_
                    refine rs_skip rfl ?_
                    refine rs_skip rfl ?_
                    refine rs_pick rfl rfl rfl ?_
                    refine rs_mv rfl rfl ?_
                    refine rs_skip rfl ?_
                    refine rs_skip rfl ?_
                    refine rs_skip rfl ?_
                    refine rs_skip rfl ?_
                    refine rs_skip rfl ?_
                    refine rs_skip rfl ?_
                    refine rs_skip rfl ?_
                    refine rs_skip rfl ?_
                    refine rs_pick rfl rfl rfl ?_
                    refine rs_mv rfl rfl ?_
                    refine rs_skip rfl ?_
                    refine rs_skip rfl ?_
                    refine rs_skip rfl ?_
                    refine rs_skip rfl ?_
                    refine rs_skip rfl ?_
                    refine rs_skip rfl ?_
                    refine rs_skip rfl ?_
                    refine rs_skip rfl ?_
                    refine rs_skip rfl ?_
                    refine rs_skip rfl ?_
                    refine rs_skip rfl ?_
                    refine rs_pick rfl rfl rfl ?_
                    refine rs_nil ⟨by kernel_rfl, fun _ => ?_⟩
                    refine th_n ?_
                    refine aw_cond rfl (fun _ => ?_) (fun h => by cases h)
                    refine aw_seq ?_
                    refine aw_reg ?_
                    refine rs_mv rfl rfl ?_
                    refine rs_nil fun _ => ?_
                    refine th_n ?_
                    refine aw_ret ?_
                    refine in_r ?_
                    refine th_r ?_
                    refine th_r ?_
                    refine in_r ?_
                    refine th_r ?_
                    first
                      | exact ret_pure rfl (congrArg _ (check_1 (by omega)).symm) rfl (.inr rfl)
                      | exact ret_pure rfl (congrArg _ (check_2 (by omega) (by omega)).symm) rfl (.inr rfl)
                      | exact ret_pure rfl (congrArg _ (check_3 (by omega) (by omega) (by omega)).symm) rfl (.inr rfl)
                      | exact ret_pure rfl (congrArg _ (check_4 (by omega) (by omega) (by omega) k (by omega) (by omega) (by omega)).symm) rfl (.inr rfl)
                      | exact ret_pure rfl (congrArg _ (check_5 (by omega) (by omega) (by omega) (fun j hj => hb j (by omega)) q (by omega) (by omega)).symm) rfl (.inr rfl)
                      | exact ret_pure rfl (congrArg _ (check_6 (by omega) (by omega) (by omega) (fun j hj => hb j (by omega)) (fun j hj => hc j (by omega))).symm) rfl (.inr rfl)
                  · skip
                    refine rs_mv rfl rfl ?_
                    refine rs_mv rfl rfl ?_
                    refine rs_mv rfl rfl ?_
                    first | refine rs_ix_m rfl rfl rfl (by omega) ?_ | refine rs_ix_sm rfl rfl rfl rfl (by omega) ?_
                    first | refine rs_fa_p rfl rfl ?_ | refine rs_fa_r rfl rfl rfl ?_
                    first | refine rs_ld_r rfl rfl rfl ?_ | refine rs_ld_p rfl rfl rfl rfl rfl ?_ | refine rs_ld_m rfl rfl rfl (by omega) rfl ?_
                    refine rs_cmp rfl rfl rfl rfl (fun h82 => ?_) (fun h82 => ?_)
                    · skip
                      refine rs_pick rfl rfl rfl ?_
                      refine rs_mv rfl rfl ?_
                      refine rs_skip rfl ?_
                      refine rs_skip rfl ?_
                      refine rs_skip rfl ?_
                      refine rs_skip rfl ?_
                      refine rs_skip rfl ?_
                      refine rs_skip rfl ?_
                      refine rs_pick rfl rfl rfl ?_
                      refine rs_mv rfl rfl ?_
                      refine rs_skip rfl ?_
                      refine rs_skip rfl ?_
                      refine rs_skip rfl ?_
                      refine rs_skip rfl ?_
                      refine rs_skip rfl ?_
                      refine rs_skip rfl ?_
                      refine rs_skip rfl ?_
                      refine rs_skip rfl ?_
                      refine rs_pick rfl rfl rfl ?_
                      refine rs_mv rfl rfl ?_
                      refine rs_skip rfl ?_
                      refine rs_skip rfl ?_
                      refine rs_skip rfl ?_
                      refine rs_skip rfl ?_
                      refine rs_skip rfl ?_
                      refine rs_skip rfl ?_
                      refine rs_skip rfl ?_
                      refine rs_skip rfl ?_
                      refine rs_skip rfl ?_
                      refine rs_skip rfl ?_
                      refine rs_skip rfl ?_
                      refine rs_pick rfl rfl rfl ?_
                      refine rs_nil ⟨by kernel_rfl, fun _ => ?_⟩
                      refine th_n ?_
                      refine aw_cond rfl (fun _ => ?_) (fun h => by cases h)
                      refine aw_seq ?_
                      refine aw_reg ?_
                      refine rs_mv rfl rfl ?_
                      refine rs_nil fun _ => ?_
                      refine th_n ?_
                      refine aw_ret ?_
                      refine in_r ?_
                      refine th_r ?_
                      refine th_r ?_
                      refine in_r ?_
                      refine th_r ?_
                      first
                        | exact ret_pure rfl (congrArg _ (check_1 (by omega)).symm) rfl (.inr rfl)
                        | exact ret_pure rfl (congrArg _ (check_2 (by omega) (by omega)).symm) rfl (.inr rfl)
                        | exact ret_pure rfl (congrArg _ (check_3 (by omega) (by omega) (by omega)).symm) rfl (.inr rfl)
                        | exact ret_pure rfl (congrArg _ (check_4 (by omega) (by omega) (by omega) k (by omega) (by omega) (by omega)).symm) rfl (.inr rfl)
                        | exact ret_pure rfl (congrArg _ (check_5 (by omega) (by omega) (by omega) (fun j hj => hb j (by omega)) q (by omega) (by omega)).symm) rfl (.inr rfl)
                        | exact ret_pure rfl (congrArg _ (check_6 (by omega) (by omega) (by omega) (fun j hj => hb j (by omega)) (fun j hj => hc j (by omega))).symm) rfl (.inr rfl)
                    · skip
                      refine rs_pick rfl rfl rfl ?_
                      refine rs_mv rfl rfl ?_
                      refine rs_mv rfl rfl ?_
                      refine rs_mv rfl rfl ?_
                      first | refine rs_ix_m rfl rfl rfl (by omega) ?_ | refine rs_ix_sm rfl rfl rfl rfl (by omega) ?_
                      first | refine rs_fa_p rfl rfl ?_ | refine rs_fa_r rfl rfl rfl ?_
                      first | refine rs_ld_r rfl rfl rfl ?_ | refine rs_ld_p rfl rfl rfl rfl rfl ?_ | refine rs_ld_m rfl rfl rfl (by omega) rfl ?_
                      refine rs_cmp rfl rfl rfl rfl (fun h90 => ?_) (fun h90 => ?_)
                      · skip
                        refine rs_pick rfl rfl rfl ?_
                        refine rs_mv rfl rfl ?_
                        refine rs_skip rfl ?_
                        refine rs_skip rfl ?_
                        refine rs_skip rfl ?_
                        refine rs_skip rfl ?_
                        refine rs_skip rfl ?_
                        refine rs_skip rfl ?_
                        refine rs_skip rfl ?_
                        refine rs_skip rfl ?_
                        refine rs_pick rfl rfl rfl ?_
                        refine rs_mv rfl rfl ?_
                        refine rs_skip rfl ?_
                        refine rs_skip rfl ?_
                        refine rs_skip rfl ?_
                        refine rs_skip rfl ?_
                        refine rs_skip rfl ?_
                        refine rs_skip rfl ?_
                        refine rs_skip rfl ?_
                        refine rs_skip rfl ?_
                        refine rs_skip rfl ?_
                        refine rs_skip rfl ?_
                        refine rs_skip rfl ?_
                        refine rs_pick rfl rfl rfl ?_
                        refine rs_nil ⟨by kernel_rfl, fun _ => ?_⟩
                        refine th_n ?_
                        refine aw_cond rfl (fun _ => ?_) (fun h => by cases h)
                        refine aw_seq ?_
                        refine aw_reg ?_
                        refine rs_mv rfl rfl ?_
                        refine rs_nil fun _ => ?_
                        refine th_n ?_
                        refine aw_ret ?_
                        refine in_r ?_
                        refine th_r ?_
                        refine th_r ?_
                        refine in_r ?_
                        refine th_r ?_
                        first
                          | exact ret_pure rfl (congrArg _ (check_1 (by omega)).symm) rfl (.inr rfl)
                          | exact ret_pure rfl (congrArg _ (check_2 (by omega) (by omega)).symm) rfl (.inr rfl)
                          | exact ret_pure rfl (congrArg _ (check_3 (by omega) (by omega) (by omega)).symm) rfl (.inr rfl)
                          | exact ret_pure rfl (congrArg _ (check_4 (by omega) (by omega) (by omega) k (by omega) (by omega) (by omega)).symm) rfl (.inr rfl)
                          | exact ret_pure rfl (congrArg _ (check_5 (by omega) (by omega) (by omega) (fun j hj => hb j (by omega)) q (by omega) (by omega)).symm) rfl (.inr rfl)
                          | exact ret_pure rfl (congrArg _ (check_6 (by omega) (by omega) (by omega) (fun j hj => hb j (by omega)) (fun j hj => hc j (by omega))).symm) rfl (.inr rfl)
                      · skip
                        refine rs_pick rfl rfl rfl ?_
                        refine rs_mv rfl rfl ?_
                        refine rs_mv rfl rfl ?_
                        refine rs_mv rfl rfl ?_
                        first | refine rs_ix_m rfl rfl rfl (by omega) ?_ | refine rs_ix_sm rfl rfl rfl rfl (by omega) ?_
                        first | refine rs_fa_p rfl rfl ?_ | refine rs_fa_r rfl rfl rfl ?_
                        first | refine rs_ld_r rfl rfl rfl ?_ | refine rs_ld_p rfl rfl rfl rfl rfl ?_ | refine rs_ld_m rfl rfl rfl (by omega) rfl ?_
                        refine rs_mv rfl rfl ?_
                        first | refine rs_len_m rfl rfl ?_ | refine rs_len_s rfl rfl ?_ | refine rs_len_n rfl rfl ?_ | refine rs_len_r rfl rfl rfl ?_
                        refine rs_cmp rfl rfl rfl rfl (fun h100 => ?_) (fun h100 => ?_)
                        · skip
                          refine rs_pick rfl rfl rfl ?_
                          refine rs_mv rfl rfl ?_
                          refine rs_skip rfl ?_
                          refine rs_skip rfl ?_
                          refine rs_skip rfl ?_
                          refine rs_skip rfl ?_
                          refine rs_skip rfl ?_
                          refine rs_skip rfl ?_
                          refine rs_skip rfl ?_
                          refine rs_skip rfl ?_
                          refine rs_skip rfl ?_
                          refine rs_skip rfl ?_
                          refine rs_skip rfl ?_
                          refine rs_pick rfl rfl rfl ?_
                          refine rs_nil ⟨by kernel_rfl, fun _ => ?_⟩
                          refine th_n ?_
                          refine aw_cond rfl (fun _ => ?_) (fun h => by cases h)
                          refine aw_seq ?_
                          refine aw_reg ?_
                          refine rs_mv rfl rfl ?_
                          refine rs_nil fun _ => ?_
                          refine th_n ?_
                          refine aw_ret ?_
                          refine in_r ?_
                          refine th_r ?_
                          refine th_r ?_
                          refine in_r ?_
                          refine th_r ?_
                          first
                            | exact ret_pure rfl (congrArg _ (check_1 (by omega)).symm) rfl (.inr rfl)
                            | exact ret_pure rfl (congrArg _ (check_2 (by omega) (by omega)).symm) rfl (.inr rfl)
                            | exact ret_pure rfl (congrArg _ (check_3 (by omega) (by omega) (by omega)).symm) rfl (.inr rfl)
                            | exact ret_pure rfl (congrArg _ (check_4 (by omega) (by omega) (by omega) k (by omega) (by omega) (by omega)).symm) rfl (.inr rfl)
                            | exact ret_pure rfl (congrArg _ (check_5 (by omega) (by omega) (by omega) (fun j hj => hb j (by omega)) q (by omega) (by omega)).symm) rfl (.inr rfl)
                            | exact ret_pure rfl (congrArg _ (check_6 (by omega) (by omega) (by omega) (fun j hj => hb j (by omega)) (fun j hj => hc j (by omega))).symm) rfl (.inr rfl)
                        · skip
                          refine rs_pick rfl rfl rfl ?_
                          refine rs_mv rfl rfl ?_
                          refine rs_mv rfl rfl ?_
                          refine rs_mv rfl rfl ?_
                          first | refine rs_ix_m rfl rfl rfl (by omega) ?_ | refine rs_ix_sm rfl rfl rfl rfl (by omega) ?_
                          first | refine rs_fa_p rfl rfl ?_ | refine rs_fa_r rfl rfl rfl ?_
                          first | refine rs_ld_r rfl rfl rfl ?_ | refine rs_ld_p rfl rfl rfl rfl rfl ?_ | refine rs_ld_m rfl rfl rfl (by omega) rfl ?_
                          refine rs_mv rfl rfl ?_
                          refine rs_mv rfl rfl ?_
                          first | refine rs_ix_m rfl rfl rfl (by omega) ?_ | refine rs_ix_sm rfl rfl rfl rfl (by omega) ?_
                          first | refine rs_fa_p rfl rfl ?_ | refine rs_fa_r rfl rfl rfl ?_
                          first | refine rs_ld_r rfl rfl rfl ?_ | refine rs_ld_p rfl rfl rfl rfl rfl ?_ | refine rs_ld_m rfl rfl rfl (by omega) rfl ?_
                          refine rs_cmp rfl rfl rfl rfl (fun h113 => ?_) (fun h113 => ?_)
                          · skip
                            refine rs_pick rfl rfl rfl ?_
                            refine rs_nil ⟨by kernel_rfl, fun _ => ?_⟩
                            refine th_n ?_
                            refine aw_cond rfl (fun _ => ?_) (fun h => by cases h)
                            refine aw_seq ?_
                            refine aw_reg ?_
                            refine rs_mv rfl rfl ?_
                            refine rs_nil fun _ => ?_
                            refine th_n ?_
                            refine aw_ret ?_
                            refine in_r ?_
                            refine th_r ?_
                            refine th_r ?_
                            refine in_r ?_
                            refine th_r ?_
                            first
                              | exact ret_pure rfl (congrArg _ (check_1 (by omega)).symm) rfl (.inr rfl)
                              | exact ret_pure rfl (congrArg _ (check_2 (by omega) (by omega)).symm) rfl (.inr rfl)
                              | exact ret_pure rfl (congrArg _ (check_3 (by omega) (by omega) (by omega)).symm) rfl (.inr rfl)
                              | exact ret_pure rfl (congrArg _ (check_4 (by omega) (by omega) (by omega) k (by omega) (by omega) (by omega)).symm) rfl (.inr rfl)
                              | exact ret_pure rfl (congrArg _ (check_5 (by omega) (by omega) (by omega) (fun j hj => hb j (by omega)) q (by omega) (by omega)).symm) rfl (.inr rfl)
                              | exact ret_pure rfl (congrArg _ (check_6 (by omega) (by omega) (by omega) (fun j hj => hb j (by omega)) (fun j hj => hc j (by omega))).symm) rfl (.inr rfl)
                          · skip
                            refine rs_pick rfl rfl rfl ?_
                            refine rs_nil ⟨by kernel_rfl, fun _ => ?_⟩
                            refine th_n ?_
                            refine aw_cond rfl (fun h => by cases h) (fun _ => ?_)
                            refine aw_skip ?_
                            refine in_n ?_
                            refine th_n ?_
                            refine aw_reg ?_
                            refine rs_mv rfl rfl ?_
                            refine rs_add rfl rfl rfl (by omega) ?_
                            refine rs_mv rfl rfl ?_
                            refine rs_nil fun _ => ?_
                            refine th_n ?_
                            refine ⟨q + 1, ⟨by omega, fun j hj h1 => ?_⟩, by omega, weak_to (.cons rfl (rc_same rfl (.inl rfl)) (.cons rfl (rc_same rfl (.inl rfl)) (.cons rfl (rc_same rfl (.inl rfl)) (.cons rfl (rc_same rfl (.inl rfl)) (.cons rfl (rc_same rfl (.inl rfl)) (.nil)))))) (.nil) (fun i h => by cases h)⟩
                            by_cases e : j = q
                            · subst e; unfold badR; omega
                            · exact hc j (by omega) h1
                · first | replace h67 := of_decide_eq_false h67 | skip
                  refine aw_exit ?_
                  refine th_e ?_
                  refine th_e ?_
                  refine in_hit ?_
                  refine th_n ?_
                  refine aw_seq ?_
                  refine aw_reg ?_
                  refine rs_mv rfl rfl ?_
                  refine rs_nil fun _ => ?_
                  refine th_n ?_
                  refine aw_ret ?_
                  first
                    | exact ret_pure rfl (congrArg _ (check_1 (by omega)).symm) rfl (.inr rfl)
                    | exact ret_pure rfl (congrArg _ (check_2 (by omega) (by omega)).symm) rfl (.inr rfl)
                    | exact ret_pure rfl (congrArg _ (check_3 (by omega) (by omega) (by omega)).symm) rfl (.inr rfl)
                    | exact ret_pure rfl (congrArg _ (check_4 (by omega) (by omega) (by omega) k (by omega) (by omega) (by omega)).symm) rfl (.inr rfl)
                    | exact ret_pure rfl (congrArg _ (check_5 (by omega) (by omega) (by omega) (fun j hj => hb j (by omega)) q (by omega) (by omega)).symm) rfl (.inr rfl)
                    | exact ret_pure rfl (congrArg _ (check_6 (by omega) (by omega) (by omega) (fun j hj => hb j (by omega)) (fun j hj => hc j (by omega))).symm) rfl (.inr rfl)

end Go.Proofs.Ytadjdnhnbkcakaa
