/-
  Walks: A11.
-/
import Derived.Test.YtadjdnhnbkcakaaA10
namespace Go.Proofs.Ytadjdnhnbkcakaa
open Go.RowKit

theorem contains_succ (W : List Int) (q : Nat) (p : Int) (h : q < W.length) : (W.take (q + 1)).contains p = ((W.take q).contains p || decide (W[q] = p)) := by
  rw [List.take_succ_eq_append_getElem h]
  simp only [List.contains_eq_mem, List.mem_append, List.mem_singleton]
  by_cases h1 : p ∈ W.take q
  · simp [h1]
  · by_cases h2 : W[q] = p
    · simp [h2]
    · simp [h1, h2, Ne.symm h2]
theorem wrongK_le (v : List Int) (l : List Rd) (k : Nat) : ((l.take k).foldl (addW v) []).length ≤ k := by
  have := wrong_len v (l.take k) []
  have h2 : (l.take k).length ≤ k := by simp; omega
  simp only [List.length_nil] at this
  omega

def mc27 : MC := (.seq (.reg [⟨(some 6), (.mv (.c (.bool false))), none, []⟩] false) (.seq (.reg [⟨(some 7), (.mv (.c .nils)), none, []⟩] false) (.seq (.seq (.reg [⟨(some 8), (.mv (.c (.int .i64 0))), none, []⟩] false) (.block 0 (.loop (.seq (.seq (.reg [⟨(some 12), (.mv (.t 8)), none, []⟩, ⟨(some 13), (.mv (.t 0)), none, []⟩, ⟨(some 14), (.len (.t 13)), none, [1]⟩, ⟨(some 15), (.bin .lss (.t 12) (.t 14)), none, [0, 2]⟩] false) (.cond (.t 15) .skip (.exit 0))) (.seq (.block 1 (.seq (.reg [⟨(some 18), (.mv (.t 0)), none, []⟩, ⟨(some 19), (.mv (.t 8)), none, []⟩, ⟨(some 20), (.ixsl 4 (.t 18) (.t 19)), none, [0, 1]⟩, ⟨(some 21), (.ld true 4 (.t 20)), none, [2]⟩, ⟨(some 9), (.alloc 50 4 [(.int .i64 0), (.int .i64 0), (.int .i64 0), (.int .i64 0)]), none, []⟩, ⟨none, (.st 4 (.t 9) (.t 21)), none, [4, 3, 0, 1, 2, 3, 4]⟩] false) (.seq (.seq (.reg [⟨(some 22), (.fa 1 (.t 9)), none, []⟩, ⟨(some 23), (.ld false 1 (.t 22)), none, [0]⟩, ⟨(some 24), (.bin .lss (.t 23) (.c (.int .i64 0))), none, [1]⟩, ⟨(some 25), (.mv (.t 24)), none, [2]⟩, ⟨(some 26), (.fa 1 (.t 9)), (some (25, false)), [3]⟩, ⟨(some 27), (.ld false 1 (.t 26)), (some (25, false)), [4, 3]⟩, ⟨(some 28), (.mv (.t 1)), (some (25, false)), [3]⟩, ⟨(some 29), (.len (.t 28)), (some (25, false)), [6, 3]⟩, ⟨(some 30), (.bin .geq (.t 27) (.t 29)), (some (25, false)), [5, 7, 3]⟩, ⟨(some 31), (.pick (.t 25) (.c (.bool true)) (.t 30)), none, [3, 8]⟩, ⟨(some 32), (.mv (.t 31)), none, [9, 3]⟩, ⟨(some 33), (.mv (.t 1)), (some (32, false)), [10]⟩, ⟨(some 34), (.fa 1 (.t 9)), (some (32, false)), [10]⟩, ⟨(some 35), (.ld false 1 (.t 34)), (some (32, false)), [12, 10]⟩, ⟨(some 36), (.ixsl 1 (.t 33) (.t 35)), (some (32, false)), [11, 13, 10]⟩, ⟨(some 37), (.ld false 1 (.t 36)), (some (32, false)), [14, 10]⟩, ⟨(some 38), (.fa 2 (.t 9)), (some (32, false)), [10]⟩, ⟨(some 39), (.ld false 1 (.t 38)), (some (32, false)), [16, 10]⟩, ⟨(some 40), (.bin .geq (.t 37) (.t 39)), (some (32, false)), [15, 17, 10]⟩, ⟨(some 41), (.mv (.t 40)), (some (32, false)), [18, 10, 10]⟩, ⟨(some 42), (.mv (.t 1)), (some (41, true)), [19]⟩, ⟨(some 43), (.fa 1 (.t 9)), (some (41, true)), [19]⟩, ⟨(some 44), (.ld false 1 (.t 43)), (some (41, true)), [21, 19]⟩, ⟨(some 45), (.ixsl 1 (.t 42) (.t 44)), (some (41, true)), [20, 22, 19]⟩, ⟨(some 46), (.ld false 1 (.t 45)), (some (41, true)), [23, 19]⟩, ⟨(some 47), (.fa 3 (.t 9)), (some (41, true)), [19]⟩, ⟨(some 48), (.ld false 1 (.t 47)), (some (41, true)), [25, 19]⟩, ⟨(some 49), (.bin .leq (.t 46) (.t 48)), (some (41, true)), [24, 26, 19]⟩, ⟨(some 50), (.pick (.t 41) (.t 49) (.c (.bool false))), (some (32, false)), [19, 27, 10]⟩, ⟨(some 51), (.pick (.t 32) (.c (.bool true)) (.t 50)), none, [10, 28]⟩] true) (.cond (.t 51) (.exit 1) .skip)) (.seq (.reg [⟨(some 10), (.mv (.c (.bool false))), none, []⟩] false) (.seq (.seq (.reg [⟨(some 11), (.mv (.c (.int .i64 0))), none, []⟩] false) (.block 2 (.loop (.seq (.seq (.reg [⟨(some 52), (.mv (.t 11)), none, []⟩, ⟨(some 53), (.mv (.t 7)), none, []⟩, ⟨(some 54), (.len (.t 53)), none, [1]⟩, ⟨(some 55), (.bin .lss (.t 52) (.t 54)), none, [0, 2]⟩] false) (.cond (.t 55) .skip (.exit 2))) (.seq (.block 3 (.reg [⟨(some 58), (.mv (.t 10)), none, []⟩, ⟨(some 59), (.mv (.t 58)), none, [0]⟩, ⟨(some 60), (.mv (.t 7)), (some (59, false)), [1]⟩, ⟨(some 61), (.mv (.t 11)), (some (59, false)), [1]⟩, ⟨(some 62), (.ixsl 1 (.t 60) (.t 61)), (some (59, false)), [2, 3, 1]⟩, ⟨(some 63), (.ld false 1 (.t 62)), (some (59, false)), [4, 1]⟩, ⟨(some 64), (.fa 0 (.t 9)), (some (59, false)), [1]⟩, ⟨(some 65), (.ld false 1 (.t 64)), (some (59, false)), [6, 1]⟩, ⟨(some 66), (.bin .eql (.t 63) (.t 65)), (some (59, false)), [5, 7, 1]⟩, ⟨(some 67), (.pick (.t 59) (.c (.bool true)) (.t 66)), none, [1, 8]⟩, ⟨(some 10), (.mv (.t 67)), none, [9, 1, 0, 1, 2, 3, 4, 5, 6, 7, 8, 9]⟩] true)) (.reg [⟨(some 56), (.mv (.t 11)), none, []⟩, ⟨(some 57), (.bin .add (.t 56) (.c (.int .i64 1))), none, [0]⟩, ⟨(some 11), (.mv (.t 57)), none, [1, 0, 1]⟩] false)))))) (.seq (.reg [⟨(some 68), (.mv (.t 10)), none, []⟩, ⟨(some 69), (.un .not (.t 68)), none, [0]⟩] false) (.cond (.t 69) (.reg [⟨(some 70), (.mv (.t 7)), none, []⟩, ⟨(some 71), (.fa 0 (.t 9)), none, []⟩, ⟨(some 72), (.ld false 1 (.t 71)), none, [1]⟩, ⟨(some 73), (.bslice 3 1 [(.int .i64 0)] 1 [(0, (.t 72))]), none, [2]⟩, ⟨(some 74), (.app 3 1 8 [(.int .i64 0)] (.t 70) (.t 73)), none, [0, 3]⟩, ⟨(some 7), (.mv (.t 74)), none, [4, 4, 0, 1, 2, 3, 4]⟩] false) .skip))))))) (.reg [⟨(some 16), (.mv (.t 8)), none, []⟩, ⟨(some 17), (.bin .add (.t 16) (.c (.int .i64 1))), none, [0]⟩, ⟨(some 8), (.mv (.t 17)), none, [1, 0, 1]⟩] false)))))) (.seq (.reg [⟨(some 75), (.mv (.t 7)), none, []⟩, ⟨(some 76), (.len (.t 75)), none, [0]⟩, ⟨(some 77), (.mv (.t 2)), none, []⟩, ⟨(some 78), (.bin .leq (.t 76) (.t 77)), none, [1, 2]⟩, ⟨(some 6), (.mv (.t 78)), none, [3, 0, 1, 2, 3]⟩] false) .ret))))
theorem mcOk27 : (match Try.f27.body with | some c => compC Try.prog 79 c | none => none) = some mc27 := by kernel_rfl

theorem fc27 (l : List Rd) (v : List Int) (lies : Int) (hl : l.length ≤ 1000000) : FC Try.prog 27 [.rs 4 (l.map cR), ints v, iv lies] [] (.bool (agreeS l v lies)) [] false := by
  refine fc_run (nt := 79) Try.func27 rfl rfl mcOk27 (Nat.le_of_ble_eq_true rfl) ?_
  delta mc27
  refine aw_seq ?_
  refine aw_reg ?_
  refine rs_mv rfl rfl ?_
  refine rs_nil fun _ => ?_
  refine th_n ?_
  refine aw_seq ?_
  refine aw_reg ?_
  refine rs_mv rfl rfl ?_
  refine rs_nil fun _ => ?_
  refine th_n ?_
  refine aw_seq ?_
  refine aw_seq ?_
  refine aw_reg ?_
  refine rs_mv rfl rfl ?_
  refine rs_nil fun _ => ?_
  refine th_n ?_
  refine aw_block ?_
  refine aw_fam (α := Nat) (fun k => l.length - k) (fun k => [(0, .rs 4 (l.map cR)), (1, ints v), (2, iv lies), (7, .sl 1074 0 ((l.take (k)).foldl (addW v) []).length), (8, iv (((k) : Nat) : Int))]) (fun k => [(1074, .cells 3 1 (((l.take (k)).foldl (addW v) []).map ci) true)]) (fun k => k ≤ l.length) 0 (by omega)
    (weak_to (.cons rfl (rc_same rfl (.inl rfl)) (.cons rfl (rc_same rfl (.inl rfl)) (.cons rfl (rc_same rfl (.inl rfl)) (.cons rfl (rc_virt rfl rfl) (.cons rfl (rc_same rfl (.inl rfl)) (.nil)))))) (.virt rfl (.nil)) (fun i h => by cases h)) ?_
  intro k hk
  have hwl := wrongK_le v l k
  refine aw_seq ?_
  refine aw_seq ?_
  refine aw_reg ?_
  refine rs_mv rfl rfl ?_
  refine rs_mv rfl rfl ?_
  first | refine rs_len_m rfl rfl ?_ | refine rs_len_s rfl rfl ?_ | refine rs_len_n rfl rfl ?_ | refine rs_len_r rfl rfl rfl ?_
  refine rs_lss rfl rfl rfl ?_
  refine rs_nil fun _ => ?_
  refine th_n ?_
  refine aw_cond rfl (fun h15 => ?_) (fun h15 => ?_)
  · first | replace h15 := of_decide_eq_true h15 | skip
    refine aw_skip ?_
    refine th_n ?_
    refine aw_seq ?_
    refine aw_block ?_
    refine aw_seq ?_
    refine aw_reg ?_
    have hkl : k < l.length := by omega
    have hst := fold_take (addW v) [] l k hkl
    refine rs_mv rfl rfl ?_
    refine rs_mv rfl rfl ?_
    first | refine rs_ix_m rfl rfl rfl (by omega) ?_ | refine rs_ix_sm rfl rfl rfl rfl (by omega) ?_
    first | refine rs_ld_pa rfl rfl rfl rfl (Nat.le_of_ble_eq_true rfl) rfl ?_ | refine rs_ld_ra rfl rfl (Nat.le_of_ble_eq_true rfl) rfl ?_ | refine rs_ld_ma rfl rfl rfl (by omega) (Nat.le_of_ble_eq_true rfl) rfl ?_
    refine rs_alloc rfl rfl rfl ?_
    refine rs_st rfl rfl rfl rfl rfl rfl rfl (Nat.le_of_ble_eq_true rfl) rfl rfl ?_
    refine rs_nil fun _ => ?_
    refine th_n ?_
    refine aw_seq ?_
    refine aw_seq ?_
    refine aw_draw hmix ?_
    first | refine rs_fa_p rfl rfl ?_ | refine rs_fa_r rfl rfl rfl ?_
    first | refine rs_ld_r rfl rfl rfl ?_ | refine rs_ld_p rfl rfl rfl rfl rfl ?_ | refine rs_ld_m rfl rfl rfl (by omega) rfl ?_
    refine rs_cmp rfl rfl rfl rfl (fun h24 => ?_) (fun h24 => ?_)
    · skip
      refine rs_mv rfl rfl ?_
      refine rs_skip rfl ?_
      refine rs_skip rfl ?_
      refine rs_skip rfl ?_
      refine rs_skip rfl ?_
      refine rs_skip rfl ?_
      refine rs_pick rfl rfl rfl ?_
      refine rs_mv rfl rfl ?_
      refine rs_skip rfl ?_
      refine rs_skip rfl ?_
      refine rs_skip rfl ?_
      refine rs_skip rfl ?_
      refine rs_skip rfl ?_
      refine rs_skip rfl ?_
      refine rs_skip rfl ?_
      refine rs_skip rfl ?_
      refine rs_skip rfl ?_
      refine rs_skip rfl ?_
      refine rs_skip rfl ?_
      refine rs_skip rfl ?_
      refine rs_skip rfl ?_
      refine rs_skip rfl ?_
      refine rs_skip rfl ?_
      refine rs_skip rfl ?_
      refine rs_skip rfl ?_
      refine rs_skip rfl ?_
      refine rs_pick rfl rfl rfl ?_
      refine rs_nil ⟨by kernel_rfl, fun _ => ?_⟩
      refine th_n ?_
      refine aw_cond rfl (fun _ => ?_) (fun h => by cases h)
      refine aw_exit ?_
      refine th_e ?_
      refine in_hit ?_
      refine th_n ?_
      refine aw_reg ?_
      refine rs_mv rfl rfl ?_
      first | refine rs_add rfl rfl rfl (by omega) ?_ | refine rs_addw rfl rfl rfl rfl ?_
      refine rs_mv rfl rfl ?_
      refine rs_nil fun _ => ?_
      refine th_n ?_
      refine ⟨k + 1, by omega, by omega, ?_⟩
      first
        | (have hs : ((l.take (k + 1)).foldl (addW v) []) = ((l.take (k)).foldl (addW v) []) := (by rw [hst, addW, if_neg (show ¬ isWrong v l[k] from fun h => by obtain ⟨a1, a2, a3⟩ := h; first | omega | (rw [← wrong_at a1 a2] at a3; omega))]); exact weak_to (.cons rfl (rc_same rfl (.inl rfl)) (.cons rfl (rc_same rfl (.inl rfl)) (.cons rfl (rc_same rfl (.inl rfl)) (.cons rfl (rc_eq (by rw [hs]) rfl) (.cons rfl (rc_same rfl (.inl rfl)) (.nil)))))) (.keep ((by (rw [hs]) <;> rfl)) rfl (.nil)) (fun i h => by cases h))
        | (obtain rfl : q = ((l.take (k)).foldl (addW v) []).length := by omega
           rw [List.take_length] at h69
           have hs : ((l.take (k + 1)).foldl (addW v) []) = ((l.take (k)).foldl (addW v) []) := (by rw [hst, addW, if_pos (show isWrong v l[k] from ⟨by omega, by omega, by rw [← wrong_at (by omega) (by omega)]; omega⟩), addK, if_pos (by simpa using h69)]); exact weak_to (.cons rfl (rc_same rfl (.inl rfl)) (.cons rfl (rc_same rfl (.inl rfl)) (.cons rfl (rc_same rfl (.inl rfl)) (.cons rfl (rc_eq (by rw [hs]) rfl) (.cons rfl (rc_same rfl (.inl rfl)) (.nil)))))) (.keep ((by (rw [hs]) <;> rfl)) rfl (.nil)) (fun i h => by cases h))
        | (obtain rfl : q = ((l.take (k)).foldl (addW v) []).length := by omega
           rw [List.take_length] at h69
           have hs : ((l.take (k + 1)).foldl (addW v) []) = ((l.take (k)).foldl (addW v) []) ++ [l[k].probe] := (by rw [hst, addW, if_pos (show isWrong v l[k] from ⟨by omega, by omega, by rw [← wrong_at (by omega) (by omega)]; omega⟩), addK, if_neg (by simpa using h69)]); exact weak_to_ren (i := 74) (i' := 1074) (F1 := [(0, .rs 4 (l.map cR)), (1, ints v), (2, iv lies), (7, .sl 74 0 ((l.take (k + 1)).foldl (addW v) []).length), (8, iv (((k + 1) : Nat) : Int))]) (H1 := [(74, .cells 3 1 (((l.take (k + 1)).foldl (addW v) []).map ci) true)]) (.cons rfl (rc_same rfl (.inl rfl)) (.cons rfl (rc_same rfl (.inl rfl)) (.cons rfl (rc_same rfl (.inl rfl)) (.cons rfl (rc_eq (by rw [hs]; simp) rfl) (.cons rfl (rc_same rfl (.inl rfl)) (.nil)))))) (.keep ((by (rw [hs]) <;> rfl)) rfl (.nil)) (fun i h => by cases h) rfl rfl (.cons rfl (.same _) (.cons rfl (.same _) (.cons rfl (.same _) (.cons rfl (.sl _ _) (.cons rfl (.same _) (.nil)))))) (.cons rfl (rc_same rfl (.inl rfl)) (.cons rfl (rc_same rfl (.inl rfl)) (.cons rfl (rc_same rfl (.inl rfl)) (.cons rfl (rc_same rfl (.inl rfl)) (.cons rfl (rc_same rfl (.inl rfl)) (.nil)))))) (.keep (rfl) rfl (.nil)) (fun i h => by cases h))
    · skip
      refine rs_mv rfl rfl ?_
      first | refine rs_fa_p rfl rfl ?_ | refine rs_fa_r rfl rfl rfl ?_
      first | refine rs_ld_r rfl rfl rfl ?_ | refine rs_ld_p rfl rfl rfl rfl rfl ?_ | refine rs_ld_m rfl rfl rfl (by omega) rfl ?_
      refine rs_mv rfl rfl ?_
      first | refine rs_len_m rfl rfl ?_ | refine rs_len_s rfl rfl ?_ | refine rs_len_n rfl rfl ?_ | refine rs_len_r rfl rfl rfl ?_
      refine rs_cmp rfl rfl rfl rfl (fun h30 => ?_) (fun h30 => ?_)
      · skip
        refine rs_pick rfl rfl rfl ?_
        refine rs_mv rfl rfl ?_
        refine rs_skip rfl ?_
        refine rs_skip rfl ?_
        refine rs_skip rfl ?_
        refine rs_skip rfl ?_
        refine rs_skip rfl ?_
        refine rs_skip rfl ?_
        refine rs_skip rfl ?_
        refine rs_skip rfl ?_
        refine rs_skip rfl ?_
        refine rs_skip rfl ?_
        refine rs_skip rfl ?_
        refine rs_skip rfl ?_
        refine rs_skip rfl ?_
        refine rs_skip rfl ?_
        refine rs_skip rfl ?_
        refine rs_skip rfl ?_
        refine rs_skip rfl ?_
        refine rs_skip rfl ?_
        refine rs_pick rfl rfl rfl ?_
        refine rs_nil ⟨by kernel_rfl, fun _ => ?_⟩
        refine th_n ?_
        refine aw_cond rfl (fun _ => ?_) (fun h => by cases h)
        refine aw_exit ?_
        refine th_e ?_
        refine in_hit ?_
        refine th_n ?_
        refine aw_reg ?_
        refine rs_mv rfl rfl ?_
        first | refine rs_add rfl rfl rfl (by omega) ?_ | refine rs_addw rfl rfl rfl rfl ?_
        refine rs_mv rfl rfl ?_
        refine rs_nil fun _ => ?_
        refine th_n ?_
        refine ⟨k + 1, by omega, by omega, ?_⟩
        first
          | (have hs : ((l.take (k + 1)).foldl (addW v) []) = ((l.take (k)).foldl (addW v) []) := (by rw [hst, addW, if_neg (show ¬ isWrong v l[k] from fun h => by obtain ⟨a1, a2, a3⟩ := h; first | omega | (rw [← wrong_at a1 a2] at a3; omega))]); exact weak_to (.cons rfl (rc_same rfl (.inl rfl)) (.cons rfl (rc_same rfl (.inl rfl)) (.cons rfl (rc_same rfl (.inl rfl)) (.cons rfl (rc_eq (by rw [hs]) rfl) (.cons rfl (rc_same rfl (.inl rfl)) (.nil)))))) (.keep ((by (rw [hs]) <;> rfl)) rfl (.nil)) (fun i h => by cases h))
          | (obtain rfl : q = ((l.take (k)).foldl (addW v) []).length := by omega
             rw [List.take_length] at h69
             have hs : ((l.take (k + 1)).foldl (addW v) []) = ((l.take (k)).foldl (addW v) []) := (by rw [hst, addW, if_pos (show isWrong v l[k] from ⟨by omega, by omega, by rw [← wrong_at (by omega) (by omega)]; omega⟩), addK, if_pos (by simpa using h69)]); exact weak_to (.cons rfl (rc_same rfl (.inl rfl)) (.cons rfl (rc_same rfl (.inl rfl)) (.cons rfl (rc_same rfl (.inl rfl)) (.cons rfl (rc_eq (by rw [hs]) rfl) (.cons rfl (rc_same rfl (.inl rfl)) (.nil)))))) (.keep ((by (rw [hs]) <;> rfl)) rfl (.nil)) (fun i h => by cases h))
          | (obtain rfl : q = ((l.take (k)).foldl (addW v) []).length := by omega
             rw [List.take_length] at h69
             have hs : ((l.take (k + 1)).foldl (addW v) []) = ((l.take (k)).foldl (addW v) []) ++ [l[k].probe] := (by rw [hst, addW, if_pos (show isWrong v l[k] from ⟨by omega, by omega, by rw [← wrong_at (by omega) (by omega)]; omega⟩), addK, if_neg (by simpa using h69)]); exact weak_to_ren (i := 74) (i' := 1074) (F1 := [(0, .rs 4 (l.map cR)), (1, ints v), (2, iv lies), (7, .sl 74 0 ((l.take (k + 1)).foldl (addW v) []).length), (8, iv (((k + 1) : Nat) : Int))]) (H1 := [(74, .cells 3 1 (((l.take (k + 1)).foldl (addW v) []).map ci) true)]) (.cons rfl (rc_same rfl (.inl rfl)) (.cons rfl (rc_same rfl (.inl rfl)) (.cons rfl (rc_same rfl (.inl rfl)) (.cons rfl (rc_eq (by rw [hs]; simp) rfl) (.cons rfl (rc_same rfl (.inl rfl)) (.nil)))))) (.keep ((by (rw [hs]) <;> rfl)) rfl (.nil)) (fun i h => by cases h) rfl rfl (.cons rfl (.same _) (.cons rfl (.same _) (.cons rfl (.same _) (.cons rfl (.sl _ _) (.cons rfl (.same _) (.nil)))))) (.cons rfl (rc_same rfl (.inl rfl)) (.cons rfl (rc_same rfl (.inl rfl)) (.cons rfl (rc_same rfl (.inl rfl)) (.cons rfl (rc_same rfl (.inl rfl)) (.cons rfl (rc_same rfl (.inl rfl)) (.nil)))))) (.keep (rfl) rfl (.nil)) (fun i h => by cases h))
      · skip
        refine rs_pick rfl rfl rfl ?_
        refine rs_mv rfl rfl ?_
        refine rs_mv rfl rfl ?_
        first | refine rs_fa_p rfl rfl ?_ | refine rs_fa_r rfl rfl rfl ?_
        first | refine rs_ld_r rfl rfl rfl ?_ | refine rs_ld_p rfl rfl rfl rfl rfl ?_ | refine rs_ld_m rfl rfl rfl (by omega) rfl ?_
        refine rs_ix_mi rfl rfl rfl (by omega) (by omega) ?_
        first | refine rs_ld_r rfl rfl rfl ?_ | refine rs_ld_p rfl rfl rfl rfl rfl ?_ | refine rs_ld_m rfl rfl rfl (by omega) rfl ?_
        first | refine rs_fa_p rfl rfl ?_ | refine rs_fa_r rfl rfl rfl ?_
        first | refine rs_ld_r rfl rfl rfl ?_ | refine rs_ld_p rfl rfl rfl rfl rfl ?_ | refine rs_ld_m rfl rfl rfl (by omega) rfl ?_
        refine rs_cmp rfl rfl rfl rfl (fun h40 => ?_) (fun h40 => ?_)
        · skip
          refine rs_mv rfl rfl ?_
          refine rs_mv rfl rfl ?_
          first | refine rs_fa_p rfl rfl ?_ | refine rs_fa_r rfl rfl rfl ?_
          first | refine rs_ld_r rfl rfl rfl ?_ | refine rs_ld_p rfl rfl rfl rfl rfl ?_ | refine rs_ld_m rfl rfl rfl (by omega) rfl ?_
          refine rs_ix_mi rfl rfl rfl (by omega) (by omega) ?_
          first | refine rs_ld_r rfl rfl rfl ?_ | refine rs_ld_p rfl rfl rfl rfl rfl ?_ | refine rs_ld_m rfl rfl rfl (by omega) rfl ?_
          first | refine rs_fa_p rfl rfl ?_ | refine rs_fa_r rfl rfl rfl ?_
          first | refine rs_ld_r rfl rfl rfl ?_ | refine rs_ld_p rfl rfl rfl rfl rfl ?_ | refine rs_ld_m rfl rfl rfl (by omega) rfl ?_
          refine rs_cmp rfl rfl rfl rfl (fun h49 => ?_) (fun h49 => ?_)
          · skip
            refine rs_pick rfl rfl rfl ?_
            refine rs_pick rfl rfl rfl ?_
            refine rs_nil ⟨by kernel_rfl, fun _ => ?_⟩
            refine th_n ?_
            refine aw_cond rfl (fun _ => ?_) (fun h => by cases h)
            refine aw_exit ?_
            refine th_e ?_
            refine in_hit ?_
            refine th_n ?_
            refine aw_reg ?_
            refine rs_mv rfl rfl ?_
            first | refine rs_add rfl rfl rfl (by omega) ?_ | refine rs_addw rfl rfl rfl rfl ?_
            refine rs_mv rfl rfl ?_
            refine rs_nil fun _ => ?_
            refine th_n ?_
            refine ⟨k + 1, by omega, by omega, ?_⟩
            first
              | (have hs : ((l.take (k + 1)).foldl (addW v) []) = ((l.take (k)).foldl (addW v) []) := (by rw [hst, addW, if_neg (show ¬ isWrong v l[k] from fun h => by obtain ⟨a1, a2, a3⟩ := h; first | omega | (rw [← wrong_at a1 a2] at a3; omega))]); exact weak_to (.cons rfl (rc_same rfl (.inl rfl)) (.cons rfl (rc_same rfl (.inl rfl)) (.cons rfl (rc_same rfl (.inl rfl)) (.cons rfl (rc_eq (by rw [hs]) rfl) (.cons rfl (rc_same rfl (.inl rfl)) (.nil)))))) (.keep ((by (rw [hs]) <;> rfl)) rfl (.nil)) (fun i h => by cases h))
              | (obtain rfl : q = ((l.take (k)).foldl (addW v) []).length := by omega
                 rw [List.take_length] at h69
                 have hs : ((l.take (k + 1)).foldl (addW v) []) = ((l.take (k)).foldl (addW v) []) := (by rw [hst, addW, if_pos (show isWrong v l[k] from ⟨by omega, by omega, by rw [← wrong_at (by omega) (by omega)]; omega⟩), addK, if_pos (by simpa using h69)]); exact weak_to (.cons rfl (rc_same rfl (.inl rfl)) (.cons rfl (rc_same rfl (.inl rfl)) (.cons rfl (rc_same rfl (.inl rfl)) (.cons rfl (rc_eq (by rw [hs]) rfl) (.cons rfl (rc_same rfl (.inl rfl)) (.nil)))))) (.keep ((by (rw [hs]) <;> rfl)) rfl (.nil)) (fun i h => by cases h))
              | (obtain rfl : q = ((l.take (k)).foldl (addW v) []).length := by omega
                 rw [List.take_length] at h69
                 have hs : ((l.take (k + 1)).foldl (addW v) []) = ((l.take (k)).foldl (addW v) []) ++ [l[k].probe] := (by rw [hst, addW, if_pos (show isWrong v l[k] from ⟨by omega, by omega, by rw [← wrong_at (by omega) (by omega)]; omega⟩), addK, if_neg (by simpa using h69)]); exact weak_to_ren (i := 74) (i' := 1074) (F1 := [(0, .rs 4 (l.map cR)), (1, ints v), (2, iv lies), (7, .sl 74 0 ((l.take (k + 1)).foldl (addW v) []).length), (8, iv (((k + 1) : Nat) : Int))]) (H1 := [(74, .cells 3 1 (((l.take (k + 1)).foldl (addW v) []).map ci) true)]) (.cons rfl (rc_same rfl (.inl rfl)) (.cons rfl (rc_same rfl (.inl rfl)) (.cons rfl (rc_same rfl (.inl rfl)) (.cons rfl (rc_eq (by rw [hs]; simp) rfl) (.cons rfl (rc_same rfl (.inl rfl)) (.nil)))))) (.keep ((by (rw [hs]) <;> rfl)) rfl (.nil)) (fun i h => by cases h) rfl rfl (.cons rfl (.same _) (.cons rfl (.same _) (.cons rfl (.same _) (.cons rfl (.sl _ _) (.cons rfl (.same _) (.nil)))))) (.cons rfl (rc_same rfl (.inl rfl)) (.cons rfl (rc_same rfl (.inl rfl)) (.cons rfl (rc_same rfl (.inl rfl)) (.cons rfl (rc_same rfl (.inl rfl)) (.cons rfl (rc_same rfl (.inl rfl)) (.nil)))))) (.keep (rfl) rfl (.nil)) (fun i h => by cases h))
          · skip
            refine rs_pick rfl rfl rfl ?_
            refine rs_pick rfl rfl rfl ?_
            refine rs_nil ⟨by kernel_rfl, fun _ => ?_⟩
            refine th_n ?_
            refine aw_cond rfl (fun h => by cases h) (fun _ => ?_)
            refine aw_skip ?_
            refine th_n ?_
            refine aw_seq ?_
            refine aw_reg ?_
            refine rs_mv rfl rfl ?_
            refine rs_nil fun _ => ?_
            refine th_n ?_
            refine aw_seq ?_
            refine aw_seq ?_
            refine aw_reg ?_
            refine rs_mv rfl rfl ?_
            refine rs_nil fun _ => ?_
            refine th_n ?_
            refine aw_block ?_
            refine aw_fam (α := Nat) (fun q => ((l.take (k)).foldl (addW v) []).length - q) (fun q => [(0, .rs 4 (l.map cR)), (1, ints v), (2, iv lies), (7, .sl 1074 0 ((l.take (k)).foldl (addW v) []).length), (8, iv (k : Int)), (9, .ptr 9 0 0), (10, .bool ((((l.take (k)).foldl (addW v) []).take (q)).contains l[k].probe)), (11, iv (((q) : Nat) : Int))]) (fun q => [(1074, .cells 3 1 (((l.take (k)).foldl (addW v) []).map ci) true), (9, .cells 50 4 [cR l[k]] true)]) (fun q => q ≤ ((l.take (k)).foldl (addW v) []).length) 0 (by omega)
              (weak_to (.cons rfl (rc_same rfl (.inl rfl)) (.cons rfl (rc_same rfl (.inl rfl)) (.cons rfl (rc_same rfl (.inl rfl)) (.cons rfl (rc_same rfl (.inl rfl)) (.cons rfl (rc_same rfl (.inl rfl)) (.cons rfl (rc_same rfl (.inl rfl)) (.cons rfl (rc_eq (by simp) rfl) (.cons rfl (rc_same rfl (.inl rfl)) (.nil))))))))) (.keep (rfl) rfl (.keep (rfl) rfl (.nil))) (fun i h => by cases h)) ?_
            intro q hq
            refine aw_seq ?_
            refine aw_seq ?_
            refine aw_reg ?_
            refine rs_mv rfl rfl ?_
            refine rs_mv rfl rfl ?_
            first | refine rs_len_m rfl rfl ?_ | refine rs_len_s rfl rfl ?_ | refine rs_len_n rfl rfl ?_ | refine rs_len_r rfl rfl rfl ?_
            refine rs_lss rfl rfl rfl ?_
            refine rs_nil fun _ => ?_
            refine th_n ?_
            refine aw_cond rfl (fun h55 => ?_) (fun h55 => ?_)
            · first | replace h55 := of_decide_eq_true h55 | skip
              refine aw_skip ?_
              refine th_n ?_
              refine aw_seq ?_
              refine aw_block ?_
              refine aw_draw hmix ?_
              refine rs_mv rfl rfl ?_
              cases h58 : ((((l.take (k)).foldl (addW v) []).take (q)).contains l[k].probe)
              · skip
                refine rs_mv rfl rfl ?_
                refine rs_mv rfl rfl ?_
                refine rs_mv rfl rfl ?_
                refine rs_ix_sm (t := q) rfl rfl rfl rfl (by omega) ?_
                refine rs_ld_m rfl rfl rfl (by omega) rfl ?_
                first | refine rs_fa_p rfl rfl ?_ | refine rs_fa_r rfl rfl rfl ?_
                first | refine rs_ld_r rfl rfl rfl ?_ | refine rs_ld_p rfl rfl rfl rfl rfl ?_ | refine rs_ld_m rfl rfl rfl (by omega) rfl ?_
                refine rs_cmp rfl rfl rfl rfl (fun h66 => ?_) (fun h66 => ?_)
                · skip
                  refine rs_pick rfl rfl rfl ?_
                  refine rs_mv rfl rfl ?_
                  refine rs_nil ⟨by kernel_rfl, fun _ => ?_⟩
                  refine in_n ?_
                  refine th_n ?_
                  refine aw_reg ?_
                  refine rs_mv rfl rfl ?_
                  first | refine rs_add rfl rfl rfl (by omega) ?_ | refine rs_addw rfl rfl rfl rfl ?_
                  refine rs_mv rfl rfl ?_
                  refine rs_nil fun _ => ?_
                  refine th_n ?_
                  refine ⟨q + 1, by omega, by omega, ?_⟩
                  have hcs := contains_succ ((l.take (k)).foldl (addW v) []) q l[k].probe (by omega)
                  first
                    | exact weak_to (.cons rfl (rc_same rfl (.inl rfl)) (.cons rfl (rc_same rfl (.inl rfl)) (.cons rfl (rc_same rfl (.inl rfl)) (.cons rfl (rc_same rfl (.inl rfl)) (.cons rfl (rc_same rfl (.inl rfl)) (.cons rfl (rc_same rfl (.inl rfl)) (.cons rfl (rc_eq (by rw [hcs, h58, decide_eq_true h66]; rfl) rfl) (.cons rfl (rc_same rfl (.inl rfl)) (.nil))))))))) (.keep (rfl) rfl (.keep (rfl) rfl (.nil))) (fun i h => by cases h)
                    | exact weak_to (.cons rfl (rc_same rfl (.inl rfl)) (.cons rfl (rc_same rfl (.inl rfl)) (.cons rfl (rc_same rfl (.inl rfl)) (.cons rfl (rc_same rfl (.inl rfl)) (.cons rfl (rc_same rfl (.inl rfl)) (.cons rfl (rc_same rfl (.inl rfl)) (.cons rfl (rc_eq (by rw [hcs, h58, decide_eq_false h66]; rfl) rfl) (.cons rfl (rc_same rfl (.inl rfl)) (.nil))))))))) (.keep (rfl) rfl (.keep (rfl) rfl (.nil))) (fun i h => by cases h)
                    | exact weak_to (.cons rfl (rc_same rfl (.inl rfl)) (.cons rfl (rc_same rfl (.inl rfl)) (.cons rfl (rc_same rfl (.inl rfl)) (.cons rfl (rc_same rfl (.inl rfl)) (.cons rfl (rc_same rfl (.inl rfl)) (.cons rfl (rc_same rfl (.inl rfl)) (.cons rfl (rc_eq (by rw [hcs, h58]; rfl) rfl) (.cons rfl (rc_same rfl (.inl rfl)) (.nil))))))))) (.keep (rfl) rfl (.keep (rfl) rfl (.nil))) (fun i h => by cases h)
                · skip
                  refine rs_pick rfl rfl rfl ?_
                  refine rs_mv rfl rfl ?_
                  refine rs_nil ⟨by kernel_rfl, fun _ => ?_⟩
                  refine in_n ?_
                  refine th_n ?_
                  refine aw_reg ?_
                  refine rs_mv rfl rfl ?_
                  first | refine rs_add rfl rfl rfl (by omega) ?_ | refine rs_addw rfl rfl rfl rfl ?_
                  refine rs_mv rfl rfl ?_
                  refine rs_nil fun _ => ?_
                  refine th_n ?_
                  refine ⟨q + 1, by omega, by omega, ?_⟩
                  have hcs := contains_succ ((l.take (k)).foldl (addW v) []) q l[k].probe (by omega)
                  first
                    | exact weak_to (.cons rfl (rc_same rfl (.inl rfl)) (.cons rfl (rc_same rfl (.inl rfl)) (.cons rfl (rc_same rfl (.inl rfl)) (.cons rfl (rc_same rfl (.inl rfl)) (.cons rfl (rc_same rfl (.inl rfl)) (.cons rfl (rc_same rfl (.inl rfl)) (.cons rfl (rc_eq (by rw [hcs, h58, decide_eq_true h66]; rfl) rfl) (.cons rfl (rc_same rfl (.inl rfl)) (.nil))))))))) (.keep (rfl) rfl (.keep (rfl) rfl (.nil))) (fun i h => by cases h)
                    | exact weak_to (.cons rfl (rc_same rfl (.inl rfl)) (.cons rfl (rc_same rfl (.inl rfl)) (.cons rfl (rc_same rfl (.inl rfl)) (.cons rfl (rc_same rfl (.inl rfl)) (.cons rfl (rc_same rfl (.inl rfl)) (.cons rfl (rc_same rfl (.inl rfl)) (.cons rfl (rc_eq (by rw [hcs, h58, decide_eq_false h66]; rfl) rfl) (.cons rfl (rc_same rfl (.inl rfl)) (.nil))))))))) (.keep (rfl) rfl (.keep (rfl) rfl (.nil))) (fun i h => by cases h)
                    | exact weak_to (.cons rfl (rc_same rfl (.inl rfl)) (.cons rfl (rc_same rfl (.inl rfl)) (.cons rfl (rc_same rfl (.inl rfl)) (.cons rfl (rc_same rfl (.inl rfl)) (.cons rfl (rc_same rfl (.inl rfl)) (.cons rfl (rc_same rfl (.inl rfl)) (.cons rfl (rc_eq (by rw [hcs, h58]; rfl) rfl) (.cons rfl (rc_same rfl (.inl rfl)) (.nil))))))))) (.keep (rfl) rfl (.keep (rfl) rfl (.nil))) (fun i h => by cases h)
              · skip
                refine rs_mv rfl rfl ?_
                refine rs_skip rfl ?_
                refine rs_skip rfl ?_
                refine rs_skip rfl ?_
                refine rs_skip rfl ?_
                refine rs_skip rfl ?_
                refine rs_skip rfl ?_
                refine rs_skip rfl ?_
                refine rs_pick rfl rfl rfl ?_
                refine rs_mv rfl rfl ?_
                refine rs_nil ⟨by kernel_rfl, fun _ => ?_⟩
                refine in_n ?_
                refine th_n ?_
                refine aw_reg ?_
                refine rs_mv rfl rfl ?_
                first | refine rs_add rfl rfl rfl (by omega) ?_ | refine rs_addw rfl rfl rfl rfl ?_
                refine rs_mv rfl rfl ?_
                refine rs_nil fun _ => ?_
                refine th_n ?_
                refine ⟨q + 1, by omega, by omega, ?_⟩
                have hcs := contains_succ ((l.take (k)).foldl (addW v) []) q l[k].probe (by omega)
                first
                  | exact weak_to (.cons rfl (rc_same rfl (.inl rfl)) (.cons rfl (rc_same rfl (.inl rfl)) (.cons rfl (rc_same rfl (.inl rfl)) (.cons rfl (rc_same rfl (.inl rfl)) (.cons rfl (rc_same rfl (.inl rfl)) (.cons rfl (rc_same rfl (.inl rfl)) (.cons rfl (rc_eq (by rw [hcs, h58, decide_eq_true h66]; rfl) rfl) (.cons rfl (rc_same rfl (.inl rfl)) (.nil))))))))) (.keep (rfl) rfl (.keep (rfl) rfl (.nil))) (fun i h => by cases h)
                  | exact weak_to (.cons rfl (rc_same rfl (.inl rfl)) (.cons rfl (rc_same rfl (.inl rfl)) (.cons rfl (rc_same rfl (.inl rfl)) (.cons rfl (rc_same rfl (.inl rfl)) (.cons rfl (rc_same rfl (.inl rfl)) (.cons rfl (rc_same rfl (.inl rfl)) (.cons rfl (rc_eq (by rw [hcs, h58, decide_eq_false h66]; rfl) rfl) (.cons rfl (rc_same rfl (.inl rfl)) (.nil))))))))) (.keep (rfl) rfl (.keep (rfl) rfl (.nil))) (fun i h => by cases h)
                  | exact weak_to (.cons rfl (rc_same rfl (.inl rfl)) (.cons rfl (rc_same rfl (.inl rfl)) (.cons rfl (rc_same rfl (.inl rfl)) (.cons rfl (rc_same rfl (.inl rfl)) (.cons rfl (rc_same rfl (.inl rfl)) (.cons rfl (rc_same rfl (.inl rfl)) (.cons rfl (rc_eq (by rw [hcs, h58]; rfl) rfl) (.cons rfl (rc_same rfl (.inl rfl)) (.nil))))))))) (.keep (rfl) rfl (.keep (rfl) rfl (.nil))) (fun i h => by cases h)
            · first | replace h55 := of_decide_eq_false h55 | skip
              refine aw_exit ?_
              refine th_e ?_
              refine th_e ?_
              refine in_hit ?_
              refine th_n ?_
              refine aw_seq ?_
              refine aw_reg ?_
              refine rs_mv rfl rfl ?_
              refine rs_not rfl rfl ?_
              refine rs_nil fun _ => ?_
              refine th_n ?_
              refine aw_cond rfl (fun h69 => ?_) (fun h69 => ?_)
              · first | replace h69 := of_decide_eq_true h69 | skip
                refine aw_reg ?_
                refine rs_mv rfl rfl ?_
                first | refine rs_fa_p rfl rfl ?_ | refine rs_fa_r rfl rfl rfl ?_
                first | refine rs_ld_r rfl rfl rfl ?_ | refine rs_ld_p rfl rfl rfl rfl rfl ?_ | refine rs_ld_m rfl rfl rfl (by omega) rfl ?_
                refine rs_bslice rfl rfl rfl rfl rfl rfl ?_
                refine rs_app_m (y := l[k].probe) rfl rfl rfl rfl rfl rfl rfl rfl (by decide) rfl (by omega) (by omega) rfl ?_
                refine rs_mv rfl rfl ?_
                refine rs_nil fun _ => ?_
                refine in_n ?_
                refine th_n ?_
                refine aw_reg ?_
                refine rs_mv rfl rfl ?_
                first | refine rs_add rfl rfl rfl (by omega) ?_ | refine rs_addw rfl rfl rfl rfl ?_
                refine rs_mv rfl rfl ?_
                refine rs_nil fun _ => ?_
                refine th_n ?_
                refine ⟨k + 1, by omega, by omega, ?_⟩
                first
                  | (have hs : ((l.take (k + 1)).foldl (addW v) []) = ((l.take (k)).foldl (addW v) []) := (by rw [hst, addW, if_neg (show ¬ isWrong v l[k] from fun h => by obtain ⟨a1, a2, a3⟩ := h; first | omega | (rw [← wrong_at a1 a2] at a3; omega))]); exact weak_to (.cons rfl (rc_same rfl (.inl rfl)) (.cons rfl (rc_same rfl (.inl rfl)) (.cons rfl (rc_same rfl (.inl rfl)) (.cons rfl (rc_eq (by rw [hs]) rfl) (.cons rfl (rc_same rfl (.inl rfl)) (.nil)))))) (.keep ((by (rw [hs]) <;> rfl)) rfl (.nil)) (fun i h => by cases h))
                  | (obtain rfl : q = ((l.take (k)).foldl (addW v) []).length := by omega
                     rw [List.take_length] at h69
                     have hs : ((l.take (k + 1)).foldl (addW v) []) = ((l.take (k)).foldl (addW v) []) := (by rw [hst, addW, if_pos (show isWrong v l[k] from ⟨by omega, by omega, by rw [← wrong_at (by omega) (by omega)]; omega⟩), addK, if_pos (by simpa using h69)]); exact weak_to (.cons rfl (rc_same rfl (.inl rfl)) (.cons rfl (rc_same rfl (.inl rfl)) (.cons rfl (rc_same rfl (.inl rfl)) (.cons rfl (rc_eq (by rw [hs]) rfl) (.cons rfl (rc_same rfl (.inl rfl)) (.nil)))))) (.keep ((by (rw [hs]) <;> rfl)) rfl (.nil)) (fun i h => by cases h))
                  | (obtain rfl : q = ((l.take (k)).foldl (addW v) []).length := by omega
                     rw [List.take_length] at h69
                     have hs : ((l.take (k + 1)).foldl (addW v) []) = ((l.take (k)).foldl (addW v) []) ++ [l[k].probe] := (by rw [hst, addW, if_pos (show isWrong v l[k] from ⟨by omega, by omega, by rw [← wrong_at (by omega) (by omega)]; omega⟩), addK, if_neg (by simpa using h69)]); exact weak_to_ren (i := 74) (i' := 1074) (F1 := [(0, .rs 4 (l.map cR)), (1, ints v), (2, iv lies), (7, .sl 74 0 ((l.take (k + 1)).foldl (addW v) []).length), (8, iv (((k + 1) : Nat) : Int))]) (H1 := [(74, .cells 3 1 (((l.take (k + 1)).foldl (addW v) []).map ci) true)]) (.cons rfl (rc_same rfl (.inl rfl)) (.cons rfl (rc_same rfl (.inl rfl)) (.cons rfl (rc_same rfl (.inl rfl)) (.cons rfl (rc_eq (by rw [hs]; simp) rfl) (.cons rfl (rc_same rfl (.inl rfl)) (.nil)))))) (.keep ((by (rw [hs]) <;> rfl)) rfl (.nil)) (fun i h => by cases h) rfl rfl (.cons rfl (.same _) (.cons rfl (.same _) (.cons rfl (.same _) (.cons rfl (.sl _ _) (.cons rfl (.same _) (.nil)))))) (.cons rfl (rc_same rfl (.inl rfl)) (.cons rfl (rc_same rfl (.inl rfl)) (.cons rfl (rc_same rfl (.inl rfl)) (.cons rfl (rc_same rfl (.inl rfl)) (.cons rfl (rc_same rfl (.inl rfl)) (.nil)))))) (.keep (rfl) rfl (.nil)) (fun i h => by cases h))
              · first | replace h69 := of_decide_eq_false h69 | skip
                refine aw_skip ?_
                refine in_n ?_
                refine th_n ?_
                refine aw_reg ?_
                refine rs_mv rfl rfl ?_
                first | refine rs_add rfl rfl rfl (by omega) ?_ | refine rs_addw rfl rfl rfl rfl ?_
                refine rs_mv rfl rfl ?_
                refine rs_nil fun _ => ?_
                refine th_n ?_
                refine ⟨k + 1, by omega, by omega, ?_⟩
                first
                  | (have hs : ((l.take (k + 1)).foldl (addW v) []) = ((l.take (k)).foldl (addW v) []) := (by rw [hst, addW, if_neg (show ¬ isWrong v l[k] from fun h => by obtain ⟨a1, a2, a3⟩ := h; first | omega | (rw [← wrong_at a1 a2] at a3; omega))]); exact weak_to (.cons rfl (rc_same rfl (.inl rfl)) (.cons rfl (rc_same rfl (.inl rfl)) (.cons rfl (rc_same rfl (.inl rfl)) (.cons rfl (rc_eq (by rw [hs]) rfl) (.cons rfl (rc_same rfl (.inl rfl)) (.nil)))))) (.keep ((by (rw [hs]) <;> rfl)) rfl (.nil)) (fun i h => by cases h))
                  | (obtain rfl : q = ((l.take (k)).foldl (addW v) []).length := by omega
                     rw [List.take_length] at h69
                     have hs : ((l.take (k + 1)).foldl (addW v) []) = ((l.take (k)).foldl (addW v) []) := (by rw [hst, addW, if_pos (show isWrong v l[k] from ⟨by omega, by omega, by rw [← wrong_at (by omega) (by omega)]; omega⟩), addK, if_pos (by simpa using h69)]); exact weak_to (.cons rfl (rc_same rfl (.inl rfl)) (.cons rfl (rc_same rfl (.inl rfl)) (.cons rfl (rc_same rfl (.inl rfl)) (.cons rfl (rc_eq (by rw [hs]) rfl) (.cons rfl (rc_same rfl (.inl rfl)) (.nil)))))) (.keep ((by (rw [hs]) <;> rfl)) rfl (.nil)) (fun i h => by cases h))
                  | (obtain rfl : q = ((l.take (k)).foldl (addW v) []).length := by omega
                     rw [List.take_length] at h69
                     have hs : ((l.take (k + 1)).foldl (addW v) []) = ((l.take (k)).foldl (addW v) []) ++ [l[k].probe] := (by rw [hst, addW, if_pos (show isWrong v l[k] from ⟨by omega, by omega, by rw [← wrong_at (by omega) (by omega)]; omega⟩), addK, if_neg (by simpa using h69)]); exact weak_to_ren (i := 74) (i' := 1074) (F1 := [(0, .rs 4 (l.map cR)), (1, ints v), (2, iv lies), (7, .sl 74 0 ((l.take (k + 1)).foldl (addW v) []).length), (8, iv (((k + 1) : Nat) : Int))]) (H1 := [(74, .cells 3 1 (((l.take (k + 1)).foldl (addW v) []).map ci) true)]) (.cons rfl (rc_same rfl (.inl rfl)) (.cons rfl (rc_same rfl (.inl rfl)) (.cons rfl (rc_same rfl (.inl rfl)) (.cons rfl (rc_eq (by rw [hs]; simp) rfl) (.cons rfl (rc_same rfl (.inl rfl)) (.nil)))))) (.keep ((by (rw [hs]) <;> rfl)) rfl (.nil)) (fun i h => by cases h) rfl rfl (.cons rfl (.same _) (.cons rfl (.same _) (.cons rfl (.same _) (.cons rfl (.sl _ _) (.cons rfl (.same _) (.nil)))))) (.cons rfl (rc_same rfl (.inl rfl)) (.cons rfl (rc_same rfl (.inl rfl)) (.cons rfl (rc_same rfl (.inl rfl)) (.cons rfl (rc_same rfl (.inl rfl)) (.cons rfl (rc_same rfl (.inl rfl)) (.nil)))))) (.keep (rfl) rfl (.nil)) (fun i h => by cases h))
        · skip
          refine rs_mv rfl rfl ?_
          refine rs_skip rfl ?_
          refine rs_skip rfl ?_
          refine rs_skip rfl ?_
          refine rs_skip rfl ?_
          refine rs_skip rfl ?_
          refine rs_skip rfl ?_
          refine rs_skip rfl ?_
          refine rs_skip rfl ?_
          refine rs_pick rfl rfl rfl ?_
          refine rs_pick rfl rfl rfl ?_
          refine rs_nil ⟨by kernel_rfl, fun _ => ?_⟩
          refine th_n ?_
          refine aw_cond rfl (fun h => by cases h) (fun _ => ?_)
          refine aw_skip ?_
          refine th_n ?_
          refine aw_seq ?_
          refine aw_reg ?_
          refine rs_mv rfl rfl ?_
          refine rs_nil fun _ => ?_
          refine th_n ?_
          refine aw_seq ?_
          refine aw_seq ?_
          refine aw_reg ?_
          refine rs_mv rfl rfl ?_
          refine rs_nil fun _ => ?_
          refine th_n ?_
          refine aw_block ?_
          refine aw_fam (α := Nat) (fun q => ((l.take (k)).foldl (addW v) []).length - q) (fun q => [(0, .rs 4 (l.map cR)), (1, ints v), (2, iv lies), (7, .sl 1074 0 ((l.take (k)).foldl (addW v) []).length), (8, iv (k : Int)), (9, .ptr 9 0 0), (10, .bool ((((l.take (k)).foldl (addW v) []).take (q)).contains l[k].probe)), (11, iv (((q) : Nat) : Int))]) (fun q => [(1074, .cells 3 1 (((l.take (k)).foldl (addW v) []).map ci) true), (9, .cells 50 4 [cR l[k]] true)]) (fun q => q ≤ ((l.take (k)).foldl (addW v) []).length) 0 (by omega)
            (weak_to (.cons rfl (rc_same rfl (.inl rfl)) (.cons rfl (rc_same rfl (.inl rfl)) (.cons rfl (rc_same rfl (.inl rfl)) (.cons rfl (rc_same rfl (.inl rfl)) (.cons rfl (rc_same rfl (.inl rfl)) (.cons rfl (rc_same rfl (.inl rfl)) (.cons rfl (rc_eq (by simp) rfl) (.cons rfl (rc_same rfl (.inl rfl)) (.nil))))))))) (.keep (rfl) rfl (.keep (rfl) rfl (.nil))) (fun i h => by cases h)) ?_
          intro q hq
          refine aw_seq ?_
          refine aw_seq ?_
          refine aw_reg ?_
          refine rs_mv rfl rfl ?_
          refine rs_mv rfl rfl ?_
          first | refine rs_len_m rfl rfl ?_ | refine rs_len_s rfl rfl ?_ | refine rs_len_n rfl rfl ?_ | refine rs_len_r rfl rfl rfl ?_
          refine rs_lss rfl rfl rfl ?_
          refine rs_nil fun _ => ?_
          refine th_n ?_
          refine aw_cond rfl (fun h55 => ?_) (fun h55 => ?_)
          · first | replace h55 := of_decide_eq_true h55 | skip
            refine aw_skip ?_
            refine th_n ?_
            refine aw_seq ?_
            refine aw_block ?_
            refine aw_draw hmix ?_
            refine rs_mv rfl rfl ?_
            cases h58 : ((((l.take (k)).foldl (addW v) []).take (q)).contains l[k].probe)
            · skip
              refine rs_mv rfl rfl ?_
              refine rs_mv rfl rfl ?_
              refine rs_mv rfl rfl ?_
              refine rs_ix_sm (t := q) rfl rfl rfl rfl (by omega) ?_
              refine rs_ld_m rfl rfl rfl (by omega) rfl ?_
              first | refine rs_fa_p rfl rfl ?_ | refine rs_fa_r rfl rfl rfl ?_
              first | refine rs_ld_r rfl rfl rfl ?_ | refine rs_ld_p rfl rfl rfl rfl rfl ?_ | refine rs_ld_m rfl rfl rfl (by omega) rfl ?_
              refine rs_cmp rfl rfl rfl rfl (fun h66 => ?_) (fun h66 => ?_)
              · skip
                refine rs_pick rfl rfl rfl ?_
                refine rs_mv rfl rfl ?_
                refine rs_nil ⟨by kernel_rfl, fun _ => ?_⟩
                refine in_n ?_
                refine th_n ?_
                refine aw_reg ?_
                refine rs_mv rfl rfl ?_
                first | refine rs_add rfl rfl rfl (by omega) ?_ | refine rs_addw rfl rfl rfl rfl ?_
                refine rs_mv rfl rfl ?_
                refine rs_nil fun _ => ?_
                refine th_n ?_
                refine ⟨q + 1, by omega, by omega, ?_⟩
                have hcs := contains_succ ((l.take (k)).foldl (addW v) []) q l[k].probe (by omega)
                first
                  | exact weak_to (.cons rfl (rc_same rfl (.inl rfl)) (.cons rfl (rc_same rfl (.inl rfl)) (.cons rfl (rc_same rfl (.inl rfl)) (.cons rfl (rc_same rfl (.inl rfl)) (.cons rfl (rc_same rfl (.inl rfl)) (.cons rfl (rc_same rfl (.inl rfl)) (.cons rfl (rc_eq (by rw [hcs, h58, decide_eq_true h66]; rfl) rfl) (.cons rfl (rc_same rfl (.inl rfl)) (.nil))))))))) (.keep (rfl) rfl (.keep (rfl) rfl (.nil))) (fun i h => by cases h)
                  | exact weak_to (.cons rfl (rc_same rfl (.inl rfl)) (.cons rfl (rc_same rfl (.inl rfl)) (.cons rfl (rc_same rfl (.inl rfl)) (.cons rfl (rc_same rfl (.inl rfl)) (.cons rfl (rc_same rfl (.inl rfl)) (.cons rfl (rc_same rfl (.inl rfl)) (.cons rfl (rc_eq (by rw [hcs, h58, decide_eq_false h66]; rfl) rfl) (.cons rfl (rc_same rfl (.inl rfl)) (.nil))))))))) (.keep (rfl) rfl (.keep (rfl) rfl (.nil))) (fun i h => by cases h)
                  | exact weak_to (.cons rfl (rc_same rfl (.inl rfl)) (.cons rfl (rc_same rfl (.inl rfl)) (.cons rfl (rc_same rfl (.inl rfl)) (.cons rfl (rc_same rfl (.inl rfl)) (.cons rfl (rc_same rfl (.inl rfl)) (.cons rfl (rc_same rfl (.inl rfl)) (.cons rfl (rc_eq (by rw [hcs, h58]; rfl) rfl) (.cons rfl (rc_same rfl (.inl rfl)) (.nil))))))))) (.keep (rfl) rfl (.keep (rfl) rfl (.nil))) (fun i h => by cases h)
              · skip
                refine rs_pick rfl rfl rfl ?_
                refine rs_mv rfl rfl ?_
                refine rs_nil ⟨by kernel_rfl, fun _ => ?_⟩
                refine in_n ?_
                refine th_n ?_
                refine aw_reg ?_
                refine rs_mv rfl rfl ?_
                first | refine rs_add rfl rfl rfl (by omega) ?_ | refine rs_addw rfl rfl rfl rfl ?_
                refine rs_mv rfl rfl ?_
                refine rs_nil fun _ => ?_
                refine th_n ?_
                refine ⟨q + 1, by omega, by omega, ?_⟩
                have hcs := contains_succ ((l.take (k)).foldl (addW v) []) q l[k].probe (by omega)
                first
                  | exact weak_to (.cons rfl (rc_same rfl (.inl rfl)) (.cons rfl (rc_same rfl (.inl rfl)) (.cons rfl (rc_same rfl (.inl rfl)) (.cons rfl (rc_same rfl (.inl rfl)) (.cons rfl (rc_same rfl (.inl rfl)) (.cons rfl (rc_same rfl (.inl rfl)) (.cons rfl (rc_eq (by rw [hcs, h58, decide_eq_true h66]; rfl) rfl) (.cons rfl (rc_same rfl (.inl rfl)) (.nil))))))))) (.keep (rfl) rfl (.keep (rfl) rfl (.nil))) (fun i h => by cases h)
                  | exact weak_to (.cons rfl (rc_same rfl (.inl rfl)) (.cons rfl (rc_same rfl (.inl rfl)) (.cons rfl (rc_same rfl (.inl rfl)) (.cons rfl (rc_same rfl (.inl rfl)) (.cons rfl (rc_same rfl (.inl rfl)) (.cons rfl (rc_same rfl (.inl rfl)) (.cons rfl (rc_eq (by rw [hcs, h58, decide_eq_false h66]; rfl) rfl) (.cons rfl (rc_same rfl (.inl rfl)) (.nil))))))))) (.keep (rfl) rfl (.keep (rfl) rfl (.nil))) (fun i h => by cases h)
                  | exact weak_to (.cons rfl (rc_same rfl (.inl rfl)) (.cons rfl (rc_same rfl (.inl rfl)) (.cons rfl (rc_same rfl (.inl rfl)) (.cons rfl (rc_same rfl (.inl rfl)) (.cons rfl (rc_same rfl (.inl rfl)) (.cons rfl (rc_same rfl (.inl rfl)) (.cons rfl (rc_eq (by rw [hcs, h58]; rfl) rfl) (.cons rfl (rc_same rfl (.inl rfl)) (.nil))))))))) (.keep (rfl) rfl (.keep (rfl) rfl (.nil))) (fun i h => by cases h)
            · skip
              refine rs_mv rfl rfl ?_
              refine rs_skip rfl ?_
              refine rs_skip rfl ?_
              refine rs_skip rfl ?_
              refine rs_skip rfl ?_
              refine rs_skip rfl ?_
              refine rs_skip rfl ?_
              refine rs_skip rfl ?_
              refine rs_pick rfl rfl rfl ?_
              refine rs_mv rfl rfl ?_
              refine rs_nil ⟨by kernel_rfl, fun _ => ?_⟩
              refine in_n ?_
              refine th_n ?_
              refine aw_reg ?_
              refine rs_mv rfl rfl ?_
              first | refine rs_add rfl rfl rfl (by omega) ?_ | refine rs_addw rfl rfl rfl rfl ?_
              refine rs_mv rfl rfl ?_
              refine rs_nil fun _ => ?_
              refine th_n ?_
              refine ⟨q + 1, by omega, by omega, ?_⟩
              have hcs := contains_succ ((l.take (k)).foldl (addW v) []) q l[k].probe (by omega)
              first
                | exact weak_to (.cons rfl (rc_same rfl (.inl rfl)) (.cons rfl (rc_same rfl (.inl rfl)) (.cons rfl (rc_same rfl (.inl rfl)) (.cons rfl (rc_same rfl (.inl rfl)) (.cons rfl (rc_same rfl (.inl rfl)) (.cons rfl (rc_same rfl (.inl rfl)) (.cons rfl (rc_eq (by rw [hcs, h58, decide_eq_true h66]; rfl) rfl) (.cons rfl (rc_same rfl (.inl rfl)) (.nil))))))))) (.keep (rfl) rfl (.keep (rfl) rfl (.nil))) (fun i h => by cases h)
                | exact weak_to (.cons rfl (rc_same rfl (.inl rfl)) (.cons rfl (rc_same rfl (.inl rfl)) (.cons rfl (rc_same rfl (.inl rfl)) (.cons rfl (rc_same rfl (.inl rfl)) (.cons rfl (rc_same rfl (.inl rfl)) (.cons rfl (rc_same rfl (.inl rfl)) (.cons rfl (rc_eq (by rw [hcs, h58, decide_eq_false h66]; rfl) rfl) (.cons rfl (rc_same rfl (.inl rfl)) (.nil))))))))) (.keep (rfl) rfl (.keep (rfl) rfl (.nil))) (fun i h => by cases h)
                | exact weak_to (.cons rfl (rc_same rfl (.inl rfl)) (.cons rfl (rc_same rfl (.inl rfl)) (.cons rfl (rc_same rfl (.inl rfl)) (.cons rfl (rc_same rfl (.inl rfl)) (.cons rfl (rc_same rfl (.inl rfl)) (.cons rfl (rc_same rfl (.inl rfl)) (.cons rfl (rc_eq (by rw [hcs, h58]; rfl) rfl) (.cons rfl (rc_same rfl (.inl rfl)) (.nil))))))))) (.keep (rfl) rfl (.keep (rfl) rfl (.nil))) (fun i h => by cases h)
          · first | replace h55 := of_decide_eq_false h55 | skip
            refine aw_exit ?_
            refine th_e ?_
            refine th_e ?_
            refine in_hit ?_
            refine th_n ?_
            refine aw_seq ?_
            refine aw_reg ?_
            refine rs_mv rfl rfl ?_
            refine rs_not rfl rfl ?_
            refine rs_nil fun _ => ?_
            refine th_n ?_
            refine aw_cond rfl (fun h69 => ?_) (fun h69 => ?_)
            · first | replace h69 := of_decide_eq_true h69 | skip
              refine aw_reg ?_
              refine rs_mv rfl rfl ?_
              first | refine rs_fa_p rfl rfl ?_ | refine rs_fa_r rfl rfl rfl ?_
              first | refine rs_ld_r rfl rfl rfl ?_ | refine rs_ld_p rfl rfl rfl rfl rfl ?_ | refine rs_ld_m rfl rfl rfl (by omega) rfl ?_
              refine rs_bslice rfl rfl rfl rfl rfl rfl ?_
              refine rs_app_m (y := l[k].probe) rfl rfl rfl rfl rfl rfl rfl rfl (by decide) rfl (by omega) (by omega) rfl ?_
              refine rs_mv rfl rfl ?_
              refine rs_nil fun _ => ?_
              refine in_n ?_
              refine th_n ?_
              refine aw_reg ?_
              refine rs_mv rfl rfl ?_
              first | refine rs_add rfl rfl rfl (by omega) ?_ | refine rs_addw rfl rfl rfl rfl ?_
              refine rs_mv rfl rfl ?_
              refine rs_nil fun _ => ?_
              refine th_n ?_
              refine ⟨k + 1, by omega, by omega, ?_⟩
              first
                | (have hs : ((l.take (k + 1)).foldl (addW v) []) = ((l.take (k)).foldl (addW v) []) := (by rw [hst, addW, if_neg (show ¬ isWrong v l[k] from fun h => by obtain ⟨a1, a2, a3⟩ := h; first | omega | (rw [← wrong_at a1 a2] at a3; omega))]); exact weak_to (.cons rfl (rc_same rfl (.inl rfl)) (.cons rfl (rc_same rfl (.inl rfl)) (.cons rfl (rc_same rfl (.inl rfl)) (.cons rfl (rc_eq (by rw [hs]) rfl) (.cons rfl (rc_same rfl (.inl rfl)) (.nil)))))) (.keep ((by (rw [hs]) <;> rfl)) rfl (.nil)) (fun i h => by cases h))
                | (obtain rfl : q = ((l.take (k)).foldl (addW v) []).length := by omega
                   rw [List.take_length] at h69
                   have hs : ((l.take (k + 1)).foldl (addW v) []) = ((l.take (k)).foldl (addW v) []) := (by rw [hst, addW, if_pos (show isWrong v l[k] from ⟨by omega, by omega, by rw [← wrong_at (by omega) (by omega)]; omega⟩), addK, if_pos (by simpa using h69)]); exact weak_to (.cons rfl (rc_same rfl (.inl rfl)) (.cons rfl (rc_same rfl (.inl rfl)) (.cons rfl (rc_same rfl (.inl rfl)) (.cons rfl (rc_eq (by rw [hs]) rfl) (.cons rfl (rc_same rfl (.inl rfl)) (.nil)))))) (.keep ((by (rw [hs]) <;> rfl)) rfl (.nil)) (fun i h => by cases h))
                | (obtain rfl : q = ((l.take (k)).foldl (addW v) []).length := by omega
                   rw [List.take_length] at h69
                   have hs : ((l.take (k + 1)).foldl (addW v) []) = ((l.take (k)).foldl (addW v) []) ++ [l[k].probe] := (by rw [hst, addW, if_pos (show isWrong v l[k] from ⟨by omega, by omega, by rw [← wrong_at (by omega) (by omega)]; omega⟩), addK, if_neg (by simpa using h69)]); exact weak_to_ren (i := 74) (i' := 1074) (F1 := [(0, .rs 4 (l.map cR)), (1, ints v), (2, iv lies), (7, .sl 74 0 ((l.take (k + 1)).foldl (addW v) []).length), (8, iv (((k + 1) : Nat) : Int))]) (H1 := [(74, .cells 3 1 (((l.take (k + 1)).foldl (addW v) []).map ci) true)]) (.cons rfl (rc_same rfl (.inl rfl)) (.cons rfl (rc_same rfl (.inl rfl)) (.cons rfl (rc_same rfl (.inl rfl)) (.cons rfl (rc_eq (by rw [hs]; simp) rfl) (.cons rfl (rc_same rfl (.inl rfl)) (.nil)))))) (.keep ((by (rw [hs]) <;> rfl)) rfl (.nil)) (fun i h => by cases h) rfl rfl (.cons rfl (.same _) (.cons rfl (.same _) (.cons rfl (.same _) (.cons rfl (.sl _ _) (.cons rfl (.same _) (.nil)))))) (.cons rfl (rc_same rfl (.inl rfl)) (.cons rfl (rc_same rfl (.inl rfl)) (.cons rfl (rc_same rfl (.inl rfl)) (.cons rfl (rc_same rfl (.inl rfl)) (.cons rfl (rc_same rfl (.inl rfl)) (.nil)))))) (.keep (rfl) rfl (.nil)) (fun i h => by cases h))
            · first | replace h69 := of_decide_eq_false h69 | skip
              refine aw_skip ?_
              refine in_n ?_
              refine th_n ?_
              refine aw_reg ?_
              refine rs_mv rfl rfl ?_
              first | refine rs_add rfl rfl rfl (by omega) ?_ | refine rs_addw rfl rfl rfl rfl ?_
              refine rs_mv rfl rfl ?_
              refine rs_nil fun _ => ?_
              refine th_n ?_
              refine ⟨k + 1, by omega, by omega, ?_⟩
              first
                | (have hs : ((l.take (k + 1)).foldl (addW v) []) = ((l.take (k)).foldl (addW v) []) := (by rw [hst, addW, if_neg (show ¬ isWrong v l[k] from fun h => by obtain ⟨a1, a2, a3⟩ := h; first | omega | (rw [← wrong_at a1 a2] at a3; omega))]); exact weak_to (.cons rfl (rc_same rfl (.inl rfl)) (.cons rfl (rc_same rfl (.inl rfl)) (.cons rfl (rc_same rfl (.inl rfl)) (.cons rfl (rc_eq (by rw [hs]) rfl) (.cons rfl (rc_same rfl (.inl rfl)) (.nil)))))) (.keep ((by (rw [hs]) <;> rfl)) rfl (.nil)) (fun i h => by cases h))
                | (obtain rfl : q = ((l.take (k)).foldl (addW v) []).length := by omega
                   rw [List.take_length] at h69
                   have hs : ((l.take (k + 1)).foldl (addW v) []) = ((l.take (k)).foldl (addW v) []) := (by rw [hst, addW, if_pos (show isWrong v l[k] from ⟨by omega, by omega, by rw [← wrong_at (by omega) (by omega)]; omega⟩), addK, if_pos (by simpa using h69)]); exact weak_to (.cons rfl (rc_same rfl (.inl rfl)) (.cons rfl (rc_same rfl (.inl rfl)) (.cons rfl (rc_same rfl (.inl rfl)) (.cons rfl (rc_eq (by rw [hs]) rfl) (.cons rfl (rc_same rfl (.inl rfl)) (.nil)))))) (.keep ((by (rw [hs]) <;> rfl)) rfl (.nil)) (fun i h => by cases h))
                | (obtain rfl : q = ((l.take (k)).foldl (addW v) []).length := by omega
                   rw [List.take_length] at h69
                   have hs : ((l.take (k + 1)).foldl (addW v) []) = ((l.take (k)).foldl (addW v) []) ++ [l[k].probe] := (by rw [hst, addW, if_pos (show isWrong v l[k] from ⟨by omega, by omega, by rw [← wrong_at (by omega) (by omega)]; omega⟩), addK, if_neg (by simpa using h69)]); exact weak_to_ren (i := 74) (i' := 1074) (F1 := [(0, .rs 4 (l.map cR)), (1, ints v), (2, iv lies), (7, .sl 74 0 ((l.take (k + 1)).foldl (addW v) []).length), (8, iv (((k + 1) : Nat) : Int))]) (H1 := [(74, .cells 3 1 (((l.take (k + 1)).foldl (addW v) []).map ci) true)]) (.cons rfl (rc_same rfl (.inl rfl)) (.cons rfl (rc_same rfl (.inl rfl)) (.cons rfl (rc_same rfl (.inl rfl)) (.cons rfl (rc_eq (by rw [hs]; simp) rfl) (.cons rfl (rc_same rfl (.inl rfl)) (.nil)))))) (.keep ((by (rw [hs]) <;> rfl)) rfl (.nil)) (fun i h => by cases h) rfl rfl (.cons rfl (.same _) (.cons rfl (.same _) (.cons rfl (.same _) (.cons rfl (.sl _ _) (.cons rfl (.same _) (.nil)))))) (.cons rfl (rc_same rfl (.inl rfl)) (.cons rfl (rc_same rfl (.inl rfl)) (.cons rfl (rc_same rfl (.inl rfl)) (.cons rfl (rc_same rfl (.inl rfl)) (.cons rfl (rc_same rfl (.inl rfl)) (.nil)))))) (.keep (rfl) rfl (.nil)) (fun i h => by cases h))
  · first | replace h15 := of_decide_eq_false h15 | skip
    refine aw_exit ?_
    refine th_e ?_
    refine th_e ?_
    refine in_hit ?_
    refine th_n ?_
    refine aw_seq ?_
    refine aw_reg ?_
    refine rs_mv rfl rfl ?_
    first | refine rs_len_m rfl rfl ?_ | refine rs_len_s rfl rfl ?_ | refine rs_len_n rfl rfl ?_ | refine rs_len_r rfl rfl rfl ?_
    refine rs_mv rfl rfl ?_
    refine rs_leq rfl rfl rfl ?_
    refine rs_mv rfl rfl ?_
    refine rs_nil fun _ => ?_
    refine th_n ?_
    refine aw_ret ?_
    have hfin : wrongS l v = (l.take k).foldl (addW v) [] := by (rw [List.take_of_length_le (by omega)]) <;> rfl
    exact ret_pure rfl (by rw [agreeS, hfin]; rfl) rfl (.inr rfl)

end Go.Proofs.Ytadjdnhnbkcakaa
