/-
  Parts of the proof: A24 A25 A28 I2 I1 A29.
-/
import Derived.Test.YtadjdnhnbkcakaaK3
set_option linter.unusedVariables false

/-! Walks: A24. -/
namespace Go.Proofs.Ytadjdnhnbkcakaa
open Go.RowKit

theorem has_bits_w1 (s : Nat) (hs : s < 256) (p : Int) (h0 : 0 ≤ p) (h8 : p < 8) : decide (bits .and .u64 ((s : Int).fdiv (2 ^ min p.toNat IntKind.u64.bits)) 1 = 1) = hasS s p.toNat := by
  have := has_bits_u1 s hs p.toNat (by omega)
  rw [Int.toNat_natCast] at this
  exact this
theorem shl_u64' (x : Int) (h0 : 0 ≤ x) (hx : x < 64) : IntKind.u64.wrap (1 * 2 ^ min x.toNat IntKind.u64.bits) = ((2 ^ x.toNat : Nat) : Int) := by
  have := shl_u64 x.toNat (by omega)
  rw [Int.toNat_natCast] at this
  exact this
theorem bitN_range (a c : Nat) : 0 ≤ bitN a c ∧ bitN a c ≤ 1 := by unfold bitN; split <;> omega

def mc34 : MC := (.seq (.reg [⟨(some 6), (.mv (.c (.int .i64 0))), none, []⟩] false) (.seq (.block 0 (.seq (.reg [⟨(some 10), (.mv (.t 0)), none, []⟩, ⟨(some 11), (.len (.t 10)), none, [0]⟩, ⟨(some 12), (.bin .gtr (.t 11) (.c (.int .i64 40))), none, [1]⟩, ⟨(some 9), (.mv (.t 12)), none, [2]⟩] false) (.cond (.t 9) (.seq (.reg [⟨(some 6), (.mv (.c (.int .i64 2))), none, []⟩] false) .ret) (.seq (.reg [⟨(some 14), (.mv (.t 1)), none, []⟩, ⟨(some 15), (.bin .lss (.t 14) (.c (.int .i64 0))), none, [0]⟩, ⟨(some 16), (.mv (.t 15)), none, [1]⟩, ⟨(some 17), (.mv (.t 1)), (some (16, false)), [2]⟩, ⟨(some 18), (.bin .gtr (.t 17) (.c (.int .i64 16))), (some (16, false)), [3, 2]⟩, ⟨(some 19), (.pick (.t 16) (.c (.bool true)) (.t 18)), none, [2, 4]⟩, ⟨(some 20), (.mv (.t 19)), none, [5, 2]⟩, ⟨(some 21), (.mv (.t 2)), (some (20, false)), [6]⟩, ⟨(some 22), (.bin .lss (.t 21) (.c (.int .i64 0))), (some (20, false)), [7, 6]⟩, ⟨(some 23), (.pick (.t 20) (.c (.bool true)) (.t 22)), none, [6, 8]⟩, ⟨(some 24), (.mv (.t 23)), none, [9, 6]⟩, ⟨(some 25), (.mv (.t 2)), (some (24, false)), [10]⟩, ⟨(some 26), (.bin .gtr (.t 25) (.c (.int .i64 3))), (some (24, false)), [11, 10]⟩, ⟨(some 27), (.pick (.t 24) (.c (.bool true)) (.t 26)), none, [10, 12]⟩, ⟨(some 13), (.mv (.t 27)), none, [13, 10]⟩] false) (.cond (.t 13) (.seq (.reg [⟨(some 6), (.mv (.c (.int .i64 3))), none, []⟩] false) .ret) .skip))))) (.seq (.seq (.reg [⟨(some 28), (.mv (.t 0)), none, []⟩, ⟨(some 29), (.len (.t 28)), none, [0]⟩, ⟨(some 30), (.mv (.c (.int .i64 0))), none, []⟩] false) (.block 1 (.loop (.seq (.reg [⟨(some 31), (.bin .lss (.t 30) (.t 29)), none, []⟩] false) (.seq (.cond (.t 31) .skip (.exit 1)) (.seq (.block 2 (.seq (.reg [⟨(some 32), (.ixsl 3 (.t 28) (.t 30)), none, []⟩, ⟨(some 33), (.ld true 3 (.t 32)), none, [0]⟩, ⟨(some 8), (.alloc 80 3 [(.int .i64 0), (.int .i64 0), (.bool false)]), none, []⟩, ⟨none, (.st 3 (.t 8) (.t 33)), none, [2, 1, 0, 1, 2]⟩] false) (.seq (.reg [⟨(some 34), (.fa 0 (.t 8)), none, []⟩, ⟨(some 35), (.ld false 1 (.t 34)), none, [0]⟩, ⟨(some 36), (.bin .lss (.t 35) (.c (.int .i64 0))), none, [1]⟩, ⟨(some 37), (.mv (.t 36)), none, [2]⟩, ⟨(some 38), (.fa 0 (.t 8)), (some (37, false)), [3]⟩, ⟨(some 39), (.ld false 1 (.t 38)), (some (37, false)), [4, 3]⟩, ⟨(some 40), (.bin .geq (.t 39) (.c (.int .i64 8))), (some (37, false)), [5, 3]⟩, ⟨(some 41), (.pick (.t 37) (.c (.bool true)) (.t 40)), none, [3, 6]⟩, ⟨(some 42), (.mv (.t 41)), none, [7, 3]⟩, ⟨(some 43), (.fa 1 (.t 8)), (some (42, false)), [8]⟩, ⟨(some 44), (.ld false 1 (.t 43)), (some (42, false)), [9, 8]⟩, ⟨(some 45), (.bin .lss (.t 44) (.c (.int .i64 0))), (some (42, false)), [10, 8]⟩, ⟨(some 46), (.pick (.t 42) (.c (.bool true)) (.t 45)), none, [8, 11]⟩, ⟨(some 47), (.mv (.t 46)), none, [12, 8]⟩, ⟨(some 48), (.fa 1 (.t 8)), (some (47, false)), [13]⟩, ⟨(some 49), (.ld false 1 (.t 48)), (some (47, false)), [14, 13]⟩, ⟨(some 50), (.mv (.t 1)), (some (47, false)), [13]⟩, ⟨(some 51), (.bin .geq (.t 49) (.t 50)), (some (47, false)), [15, 16, 13]⟩, ⟨(some 52), (.pick (.t 47) (.c (.bool true)) (.t 51)), none, [13, 17]⟩] false) (.cond (.t 52) (.seq (.reg [⟨(some 6), (.mv (.c (.int .i64 3))), none, []⟩] false) .ret) .skip)))) (.reg [⟨(some 53), (.bin .add (.t 30) (.c (.int .i64 1))), none, []⟩, ⟨(some 30), (.mv (.t 53)), none, [0]⟩] false))))))) (.seq (.reg [⟨(some 6), (.mv (.c (.int .i64 0))), none, []⟩] false) .ret))))
theorem mcOk34 : (match Try.f34.body with | some c => compC Try.prog 54 c | none => none) = some mc34 := by kernel_rfl

theorem fc34 (l : List Sg) (cells lies : Int) (hl : l.length ≤ 1000000) : FC Try.prog 34 [.rs 3 (l.map cS), iv cells, iv lies] [] (iv (checkI l cells lies)) [] false := by
  refine fc_run (nt := 54) Try.func34 rfl rfl mcOk34 (Nat.le_of_ble_eq_true rfl) ?_
  delta mc34
  refine aw_seq ?_
  refine aw_reg ?_
  refine rs_mv rfl rfl ?_
  refine rs_nil fun _ => ?_
  refine th_n ?_
  refine aw_seq ?_
  refine aw_block ?_
  refine aw_seq ?_
  refine aw_reg ?_
  refine rs_mv rfl rfl ?_
  first | refine rs_len_m rfl rfl ?_ | refine rs_len_s rfl rfl ?_ | refine rs_len_n rfl rfl ?_ | refine rs_len_r rfl rfl rfl ?_
  refine rs_gtr rfl rfl rfl ?_
  refine rs_mv rfl rfl ?_
  refine rs_nil fun _ => ?_
  refine th_n ?_
  refine aw_cond rfl (fun h9 => ?_) (fun h9 => ?_)
  · first | replace h9 := of_decide_eq_true h9 | skip
    refine aw_seq ?_
    refine aw_reg ?_
    refine rs_mv rfl rfl ?_
    refine rs_nil fun _ => ?_
    refine th_n ?_
    refine aw_ret ?_
    refine in_r ?_
    refine th_r ?_
    first
      | exact ret_pure rfl (congrArg _ (checkI_1 (by omega)).symm) rfl (.inr rfl)
      | exact ret_pure rfl (congrArg _ (checkI_2 (by omega) (by omega)).symm) rfl (.inr rfl)
      | exact ret_pure rfl (congrArg _ (checkI_3 (by omega) (by omega) hrm (by unfold badS; omega)).symm) rfl (.inr rfl)
      | exact ret_pure rfl (congrArg _ (checkI_4 (by omega) (by omega) (fun r hr => (by obtain ⟨j, hj⟩ := List.getElem?_of_mem hr; exact hb j r (by have := lt_of_at hj; omega) hj))).symm) rfl (.inr rfl)
  · first | replace h9 := of_decide_eq_false h9 | skip
    refine aw_seq ?_
    refine aw_reg ?_
    refine rs_mv rfl rfl ?_
    refine rs_cmp rfl rfl rfl rfl (fun h15 => ?_) (fun h15 => ?_)
    · skip
      refine rs_mv rfl rfl ?_
      refine rs_skip rfl ?_
      refine rs_skip rfl ?_
      refine rs_pick rfl rfl rfl ?_
      refine rs_mv rfl rfl ?_
      refine rs_skip rfl ?_
      refine rs_skip rfl ?_
      refine rs_pick rfl rfl rfl ?_
      refine rs_mv rfl rfl ?_
      refine rs_skip rfl ?_
      refine rs_skip rfl ?_
      refine rs_pick rfl rfl rfl ?_
      refine rs_mv rfl rfl ?_
      refine rs_nil fun _ => ?_
      refine th_n ?_
      refine aw_cond rfl (fun _ => ?_) (fun h => by cases h)
      refine aw_seq ?_
      refine aw_reg ?_
      refine rs_mv rfl rfl ?_
      refine rs_nil fun _ => ?_
      refine th_n ?_
      refine aw_ret ?_
      refine in_r ?_
      refine th_r ?_
      first
        | exact ret_pure rfl (congrArg _ (checkI_1 (by omega)).symm) rfl (.inr rfl)
        | exact ret_pure rfl (congrArg _ (checkI_2 (by omega) (by omega)).symm) rfl (.inr rfl)
        | exact ret_pure rfl (congrArg _ (checkI_3 (by omega) (by omega) hrm (by unfold badS; omega)).symm) rfl (.inr rfl)
        | exact ret_pure rfl (congrArg _ (checkI_4 (by omega) (by omega) (fun r hr => (by obtain ⟨j, hj⟩ := List.getElem?_of_mem hr; exact hb j r (by have := lt_of_at hj; omega) hj))).symm) rfl (.inr rfl)
    · skip
      refine rs_mv rfl rfl ?_
      refine rs_mv rfl rfl ?_
      refine rs_cmp rfl rfl rfl rfl (fun h18 => ?_) (fun h18 => ?_)
      · skip
        refine rs_pick rfl rfl rfl ?_
        refine rs_mv rfl rfl ?_
        refine rs_skip rfl ?_
        refine rs_skip rfl ?_
        refine rs_pick rfl rfl rfl ?_
        refine rs_mv rfl rfl ?_
        refine rs_skip rfl ?_
        refine rs_skip rfl ?_
        refine rs_pick rfl rfl rfl ?_
        refine rs_mv rfl rfl ?_
        refine rs_nil fun _ => ?_
        refine th_n ?_
        refine aw_cond rfl (fun _ => ?_) (fun h => by cases h)
        refine aw_seq ?_
        refine aw_reg ?_
        refine rs_mv rfl rfl ?_
        refine rs_nil fun _ => ?_
        refine th_n ?_
        refine aw_ret ?_
        refine in_r ?_
        refine th_r ?_
        first
          | exact ret_pure rfl (congrArg _ (checkI_1 (by omega)).symm) rfl (.inr rfl)
          | exact ret_pure rfl (congrArg _ (checkI_2 (by omega) (by omega)).symm) rfl (.inr rfl)
          | exact ret_pure rfl (congrArg _ (checkI_3 (by omega) (by omega) hrm (by unfold badS; omega)).symm) rfl (.inr rfl)
          | exact ret_pure rfl (congrArg _ (checkI_4 (by omega) (by omega) (fun r hr => (by obtain ⟨j, hj⟩ := List.getElem?_of_mem hr; exact hb j r (by have := lt_of_at hj; omega) hj))).symm) rfl (.inr rfl)
      · skip
        refine rs_pick rfl rfl rfl ?_
        refine rs_mv rfl rfl ?_
        refine rs_mv rfl rfl ?_
        refine rs_cmp rfl rfl rfl rfl (fun h22 => ?_) (fun h22 => ?_)
        · skip
          refine rs_pick rfl rfl rfl ?_
          refine rs_mv rfl rfl ?_
          refine rs_skip rfl ?_
          refine rs_skip rfl ?_
          refine rs_pick rfl rfl rfl ?_
          refine rs_mv rfl rfl ?_
          refine rs_nil fun _ => ?_
          refine th_n ?_
          refine aw_cond rfl (fun _ => ?_) (fun h => by cases h)
          refine aw_seq ?_
          refine aw_reg ?_
          refine rs_mv rfl rfl ?_
          refine rs_nil fun _ => ?_
          refine th_n ?_
          refine aw_ret ?_
          refine in_r ?_
          refine th_r ?_
          first
            | exact ret_pure rfl (congrArg _ (checkI_1 (by omega)).symm) rfl (.inr rfl)
            | exact ret_pure rfl (congrArg _ (checkI_2 (by omega) (by omega)).symm) rfl (.inr rfl)
            | exact ret_pure rfl (congrArg _ (checkI_3 (by omega) (by omega) hrm (by unfold badS; omega)).symm) rfl (.inr rfl)
            | exact ret_pure rfl (congrArg _ (checkI_4 (by omega) (by omega) (fun r hr => (by obtain ⟨j, hj⟩ := List.getElem?_of_mem hr; exact hb j r (by have := lt_of_at hj; omega) hj))).symm) rfl (.inr rfl)
        · skip
          refine rs_pick rfl rfl rfl ?_
          refine rs_mv rfl rfl ?_
          refine rs_mv rfl rfl ?_
          refine rs_cmp rfl rfl rfl rfl (fun h26 => ?_) (fun h26 => ?_)
          · skip
            refine rs_pick rfl rfl rfl ?_
            refine rs_mv rfl rfl ?_
            refine rs_nil fun _ => ?_
            refine th_n ?_
            refine aw_cond rfl (fun _ => ?_) (fun h => by cases h)
            refine aw_seq ?_
            refine aw_reg ?_
            refine rs_mv rfl rfl ?_
            refine rs_nil fun _ => ?_
            refine th_n ?_
            refine aw_ret ?_
            refine in_r ?_
            refine th_r ?_
            first
              | exact ret_pure rfl (congrArg _ (checkI_1 (by omega)).symm) rfl (.inr rfl)
              | exact ret_pure rfl (congrArg _ (checkI_2 (by omega) (by omega)).symm) rfl (.inr rfl)
              | exact ret_pure rfl (congrArg _ (checkI_3 (by omega) (by omega) hrm (by unfold badS; omega)).symm) rfl (.inr rfl)
              | exact ret_pure rfl (congrArg _ (checkI_4 (by omega) (by omega) (fun r hr => (by obtain ⟨j, hj⟩ := List.getElem?_of_mem hr; exact hb j r (by have := lt_of_at hj; omega) hj))).symm) rfl (.inr rfl)
          · skip
            refine rs_pick rfl rfl rfl ?_
            refine rs_mv rfl rfl ?_
            refine rs_nil fun _ => ?_
            refine th_n ?_
            refine aw_cond rfl (fun h => by cases h) (fun _ => ?_)
            refine aw_skip ?_
            refine in_n ?_
            refine th_n ?_
            refine aw_seq ?_
            refine aw_seq ?_
            refine aw_reg ?_
            refine rs_mv rfl rfl ?_
            first | refine rs_len_m rfl rfl ?_ | refine rs_len_s rfl rfl ?_ | refine rs_len_n rfl rfl ?_ | refine rs_len_r rfl rfl rfl ?_
            refine rs_mv rfl rfl ?_
            refine rs_nil fun _ => ?_
            refine th_n ?_
            refine aw_block ?_
            refine aw_fam (α := Nat) (fun k => l.length - k) (fun k => [(0, .rs 3 (l.map cS)), (1, iv cells), (2, iv lies), (28, .rs 3 (l.map cS)), (29, iv (l.length : Int)), (30, iv (((k) : Nat) : Int))]) (fun k => []) (fun k => k ≤ l.length ∧ ∀ j r, j < k → l[j]? = some r → ¬ badS cells r) 0 (⟨by omega, fun j r h => by omega⟩)
              (weak_to (.cons rfl (rc_same rfl (.inl rfl)) (.cons rfl (rc_same rfl (.inl rfl)) (.cons rfl (rc_same rfl (.inl rfl)) (.cons rfl (rc_same rfl (.inl rfl)) (.cons rfl (rc_same rfl (.inl rfl)) (.cons rfl (rc_same rfl (.inl rfl)) (.nil))))))) (.nil) (fun i h => by cases h)) ?_
            rintro k ⟨hk, hb⟩
            refine aw_seq ?_
            refine aw_reg ?_
            refine rs_lss rfl rfl rfl ?_
            refine rs_nil fun _ => ?_
            refine th_n ?_
            refine aw_seq ?_
            refine aw_cond rfl (fun h31 => ?_) (fun h31 => ?_)
            · first | replace h31 := of_decide_eq_true h31 | skip
              refine aw_skip ?_
              refine th_n ?_
              refine aw_seq ?_
              refine aw_block ?_
              refine aw_seq ?_
              refine aw_reg ?_
              obtain ⟨r, hr, hrm⟩ := at_some (L := l) (k := k) (by omega)
              refine rs_ix_g rfl rfl rfl (by omega) hr ?_
              first | refine rs_ld_pa rfl rfl rfl rfl (Nat.le_of_ble_eq_true rfl) rfl ?_ | refine rs_ld_ra rfl rfl (Nat.le_of_ble_eq_true rfl) rfl ?_ | refine rs_ld_ma rfl rfl rfl (by omega) (Nat.le_of_ble_eq_true rfl) rfl ?_
              refine rs_alloc rfl rfl rfl ?_
              refine rs_st rfl rfl rfl rfl rfl rfl rfl (Nat.le_of_ble_eq_true rfl) rfl rfl ?_
              refine rs_nil fun _ => ?_
              refine th_n ?_
              refine aw_seq ?_
              refine aw_reg ?_
              first | refine rs_fa_p rfl rfl ?_ | refine rs_fa_r rfl rfl rfl ?_
              first | refine rs_ld_r rfl rfl rfl ?_ | refine rs_ld_p rfl rfl rfl rfl rfl ?_ | refine rs_ld_m rfl rfl rfl (by omega) rfl ?_
              refine rs_cmp rfl rfl rfl rfl (fun h36 => ?_) (fun h36 => ?_)
              · skip
                refine rs_mv rfl rfl ?_
                refine rs_skip rfl ?_
                refine rs_skip rfl ?_
                refine rs_skip rfl ?_
                refine rs_pick rfl rfl rfl ?_
                refine rs_mv rfl rfl ?_
                refine rs_skip rfl ?_
                refine rs_skip rfl ?_
                refine rs_skip rfl ?_
                refine rs_pick rfl rfl rfl ?_
                refine rs_mv rfl rfl ?_
                refine rs_skip rfl ?_
                refine rs_skip rfl ?_
                refine rs_skip rfl ?_
                refine rs_skip rfl ?_
                refine rs_pick rfl rfl rfl ?_
                refine rs_nil fun _ => ?_
                refine th_n ?_
                refine aw_cond rfl (fun _ => ?_) (fun h => by cases h)
                refine aw_seq ?_
                refine aw_reg ?_
                refine rs_mv rfl rfl ?_
                refine rs_nil fun _ => ?_
                refine th_n ?_
                refine aw_ret ?_
                refine in_r ?_
                refine th_r ?_
                refine th_r ?_
                refine in_r ?_
                refine th_r ?_
                first
                  | exact ret_pure rfl (congrArg _ (checkI_1 (by omega)).symm) rfl (.inr rfl)
                  | exact ret_pure rfl (congrArg _ (checkI_2 (by omega) (by omega)).symm) rfl (.inr rfl)
                  | exact ret_pure rfl (congrArg _ (checkI_3 (by omega) (by omega) hrm (by unfold badS; omega)).symm) rfl (.inr rfl)
                  | exact ret_pure rfl (congrArg _ (checkI_4 (by omega) (by omega) (fun r hr => (by obtain ⟨j, hj⟩ := List.getElem?_of_mem hr; exact hb j r (by have := lt_of_at hj; omega) hj))).symm) rfl (.inr rfl)
              · skip
                refine rs_mv rfl rfl ?_
                first | refine rs_fa_p rfl rfl ?_ | refine rs_fa_r rfl rfl rfl ?_
                first | refine rs_ld_r rfl rfl rfl ?_ | refine rs_ld_p rfl rfl rfl rfl rfl ?_ | refine rs_ld_m rfl rfl rfl (by omega) rfl ?_
                refine rs_cmp rfl rfl rfl rfl (fun h40 => ?_) (fun h40 => ?_)
                · skip
                  refine rs_pick rfl rfl rfl ?_
                  refine rs_mv rfl rfl ?_
                  refine rs_skip rfl ?_
                  refine rs_skip rfl ?_
                  refine rs_skip rfl ?_
                  refine rs_pick rfl rfl rfl ?_
                  refine rs_mv rfl rfl ?_
                  refine rs_skip rfl ?_
                  refine rs_skip rfl ?_
                  refine rs_skip rfl ?_
                  refine rs_skip rfl ?_
                  refine rs_pick rfl rfl rfl ?_
                  refine rs_nil fun _ => ?_
                  refine th_n ?_
                  refine aw_cond rfl (fun _ => ?_) (fun h => by cases h)
                  refine aw_seq ?_
                  refine aw_reg ?_
                  refine rs_mv rfl rfl ?_
                  refine rs_nil fun _ => ?_
                  refine th_n ?_
                  refine aw_ret ?_
                  refine in_r ?_
                  refine th_r ?_
                  refine th_r ?_
                  refine in_r ?_
                  refine th_r ?_
                  first
                    | exact ret_pure rfl (congrArg _ (checkI_1 (by omega)).symm) rfl (.inr rfl)
                    | exact ret_pure rfl (congrArg _ (checkI_2 (by omega) (by omega)).symm) rfl (.inr rfl)
                    | exact ret_pure rfl (congrArg _ (checkI_3 (by omega) (by omega) hrm (by unfold badS; omega)).symm) rfl (.inr rfl)
                    | exact ret_pure rfl (congrArg _ (checkI_4 (by omega) (by omega) (fun r hr => (by obtain ⟨j, hj⟩ := List.getElem?_of_mem hr; exact hb j r (by have := lt_of_at hj; omega) hj))).symm) rfl (.inr rfl)
                · skip
                  refine rs_pick rfl rfl rfl ?_
                  refine rs_mv rfl rfl ?_
                  first | refine rs_fa_p rfl rfl ?_ | refine rs_fa_r rfl rfl rfl ?_
                  first | refine rs_ld_r rfl rfl rfl ?_ | refine rs_ld_p rfl rfl rfl rfl rfl ?_ | refine rs_ld_m rfl rfl rfl (by omega) rfl ?_
                  refine rs_cmp rfl rfl rfl rfl (fun h45 => ?_) (fun h45 => ?_)
                  · skip
                    refine rs_pick rfl rfl rfl ?_
                    refine rs_mv rfl rfl ?_
                    refine rs_skip rfl ?_
                    refine rs_skip rfl ?_
                    refine rs_skip rfl ?_
                    refine rs_skip rfl ?_
                    refine rs_pick rfl rfl rfl ?_
                    refine rs_nil fun _ => ?_
                    refine th_n ?_
                    refine aw_cond rfl (fun _ => ?_) (fun h => by cases h)
                    refine aw_seq ?_
                    refine aw_reg ?_
                    refine rs_mv rfl rfl ?_
                    refine rs_nil fun _ => ?_
                    refine th_n ?_
                    refine aw_ret ?_
                    refine in_r ?_
                    refine th_r ?_
                    refine th_r ?_
                    refine in_r ?_
                    refine th_r ?_
                    first
                      | exact ret_pure rfl (congrArg _ (checkI_1 (by omega)).symm) rfl (.inr rfl)
                      | exact ret_pure rfl (congrArg _ (checkI_2 (by omega) (by omega)).symm) rfl (.inr rfl)
                      | exact ret_pure rfl (congrArg _ (checkI_3 (by omega) (by omega) hrm (by unfold badS; omega)).symm) rfl (.inr rfl)
                      | exact ret_pure rfl (congrArg _ (checkI_4 (by omega) (by omega) (fun r hr => (by obtain ⟨j, hj⟩ := List.getElem?_of_mem hr; exact hb j r (by have := lt_of_at hj; omega) hj))).symm) rfl (.inr rfl)
                  · skip
                    refine rs_pick rfl rfl rfl ?_
                    refine rs_mv rfl rfl ?_
                    first | refine rs_fa_p rfl rfl ?_ | refine rs_fa_r rfl rfl rfl ?_
                    first | refine rs_ld_r rfl rfl rfl ?_ | refine rs_ld_p rfl rfl rfl rfl rfl ?_ | refine rs_ld_m rfl rfl rfl (by omega) rfl ?_
                    refine rs_mv rfl rfl ?_
                    refine rs_cmp rfl rfl rfl rfl (fun h51 => ?_) (fun h51 => ?_)
                    · skip
                      refine rs_pick rfl rfl rfl ?_
                      refine rs_nil fun _ => ?_
                      refine th_n ?_
                      refine aw_cond rfl (fun _ => ?_) (fun h => by cases h)
                      refine aw_seq ?_
                      refine aw_reg ?_
                      refine rs_mv rfl rfl ?_
                      refine rs_nil fun _ => ?_
                      refine th_n ?_
                      refine aw_ret ?_
                      refine in_r ?_
                      refine th_r ?_
                      refine th_r ?_
                      refine in_r ?_
                      refine th_r ?_
                      first
                        | exact ret_pure rfl (congrArg _ (checkI_1 (by omega)).symm) rfl (.inr rfl)
                        | exact ret_pure rfl (congrArg _ (checkI_2 (by omega) (by omega)).symm) rfl (.inr rfl)
                        | exact ret_pure rfl (congrArg _ (checkI_3 (by omega) (by omega) hrm (by unfold badS; omega)).symm) rfl (.inr rfl)
                        | exact ret_pure rfl (congrArg _ (checkI_4 (by omega) (by omega) (fun r hr => (by obtain ⟨j, hj⟩ := List.getElem?_of_mem hr; exact hb j r (by have := lt_of_at hj; omega) hj))).symm) rfl (.inr rfl)
                    · skip
                      refine rs_pick rfl rfl rfl ?_
                      refine rs_nil fun _ => ?_
                      refine th_n ?_
                      refine aw_cond rfl (fun h => by cases h) (fun _ => ?_)
                      refine aw_skip ?_
                      refine in_n ?_
                      refine th_n ?_
                      refine aw_reg ?_
                      first | refine rs_add rfl rfl rfl (by omega) ?_ | refine rs_addw rfl rfl rfl rfl ?_
                      refine rs_mv rfl rfl ?_
                      refine rs_nil fun _ => ?_
                      refine th_n ?_
                      refine ⟨k + 1, ⟨by omega, fun j r2 hj hr2 => ?_⟩, by omega, weak_to (.cons rfl (rc_same rfl (.inl rfl)) (.cons rfl (rc_same rfl (.inl rfl)) (.cons rfl (rc_same rfl (.inl rfl)) (.cons rfl (rc_same rfl (.inl rfl)) (.cons rfl (rc_same rfl (.inl rfl)) (.cons rfl (rc_same rfl (.inl rfl)) (.nil))))))) (.nil) (fun i h => by cases h)⟩
                      by_cases e : j = k
                      · subst e; rw [hr] at hr2; injection hr2 with hr2; subst hr2; unfold badS; omega
                      · exact hb j r2 (by omega) hr2
            · first | replace h31 := of_decide_eq_false h31 | skip
              refine aw_exit ?_
              refine th_e ?_
              refine th_e ?_
              refine in_hit ?_
              refine th_n ?_
              refine aw_seq ?_
              refine aw_reg ?_
              refine rs_mv rfl rfl ?_
              refine rs_nil fun _ => ?_
              refine th_n ?_
              refine aw_ret ?_
              first
                | exact ret_pure rfl (congrArg _ (checkI_1 (by omega)).symm) rfl (.inr rfl)
                | exact ret_pure rfl (congrArg _ (checkI_2 (by omega) (by omega)).symm) rfl (.inr rfl)
                | exact ret_pure rfl (congrArg _ (checkI_3 (by omega) (by omega) hrm (by unfold badS; omega)).symm) rfl (.inr rfl)
                | exact ret_pure rfl (congrArg _ (checkI_4 (by omega) (by omega) (fun r hr => (by obtain ⟨j, hj⟩ := List.getElem?_of_mem hr; exact hb j r (by have := lt_of_at hj; omega) hj))).symm) rfl (.inr rfl)

def mc35 : MC := (.seq (.reg [⟨(some 6), (.mv (.c (.int .i64 0))), none, []⟩] false) (.seq (.seq (.reg [⟨(some 8), (.mv (.t 0)), none, []⟩, ⟨(some 9), (.len (.t 8)), none, [0]⟩, ⟨(some 10), (.bin .gtr (.t 9) (.c (.int .i64 40))), none, [1]⟩] false) (.cond (.t 10) (.seq (.reg [⟨(some 6), (.mv (.c (.int .i64 2))), none, []⟩] false) .ret) .skip)) (.seq (.seq (.reg [⟨(some 11), (.mv (.t 1)), none, []⟩, ⟨(some 12), (.bin .lss (.t 11) (.c (.int .i64 0))), none, [0]⟩, ⟨(some 13), (.mv (.t 12)), none, [1]⟩, ⟨(some 14), (.mv (.t 1)), (some (13, false)), [2]⟩, ⟨(some 15), (.bin .gtr (.t 14) (.c (.int .i64 16))), (some (13, false)), [3, 2]⟩, ⟨(some 16), (.pick (.t 13) (.c (.bool true)) (.t 15)), none, [2, 4]⟩, ⟨(some 17), (.mv (.t 16)), none, [5, 2]⟩, ⟨(some 18), (.mv (.t 2)), (some (17, false)), [6]⟩, ⟨(some 19), (.bin .lss (.t 18) (.c (.int .i64 0))), (some (17, false)), [7, 6]⟩, ⟨(some 20), (.pick (.t 17) (.c (.bool true)) (.t 19)), none, [6, 8]⟩, ⟨(some 21), (.mv (.t 20)), none, [9, 6]⟩, ⟨(some 22), (.mv (.t 2)), (some (21, false)), [10]⟩, ⟨(some 23), (.bin .gtr (.t 22) (.c (.int .i64 3))), (some (21, false)), [11, 10]⟩, ⟨(some 24), (.pick (.t 21) (.c (.bool true)) (.t 23)), none, [10, 12]⟩] false) (.cond (.t 24) (.seq (.reg [⟨(some 6), (.mv (.c (.int .i64 3))), none, []⟩] false) .ret) .skip)) (.seq (.seq (.reg [⟨(some 7), (.mv (.c (.int .i64 0))), none, []⟩] false) (.block 0 (.loop (.seq (.seq (.reg [⟨(some 25), (.mv (.t 7)), none, []⟩, ⟨(some 26), (.mv (.t 0)), none, []⟩, ⟨(some 27), (.len (.t 26)), none, [1]⟩, ⟨(some 28), (.bin .lss (.t 25) (.t 27)), none, [0, 2]⟩] false) (.cond (.t 28) .skip (.exit 0))) (.seq (.block 1 (.seq (.reg [⟨(some 31), (.mv (.t 0)), none, []⟩, ⟨(some 32), (.mv (.t 7)), none, []⟩, ⟨(some 33), (.ixsl 3 (.t 31) (.t 32)), none, [0, 1]⟩, ⟨(some 34), (.fa 0 (.t 33)), none, [2]⟩, ⟨(some 35), (.ld false 1 (.t 34)), none, [3]⟩, ⟨(some 36), (.bin .lss (.t 35) (.c (.int .i64 0))), none, [4]⟩, ⟨(some 37), (.mv (.t 36)), none, [5]⟩, ⟨(some 38), (.mv (.t 0)), (some (37, false)), [6]⟩, ⟨(some 39), (.mv (.t 7)), (some (37, false)), [6]⟩, ⟨(some 40), (.ixsl 3 (.t 38) (.t 39)), (some (37, false)), [7, 8, 6]⟩, ⟨(some 41), (.fa 0 (.t 40)), (some (37, false)), [9, 6]⟩, ⟨(some 42), (.ld false 1 (.t 41)), (some (37, false)), [10, 6]⟩, ⟨(some 43), (.bin .geq (.t 42) (.c (.int .i64 8))), (some (37, false)), [11, 6]⟩, ⟨(some 44), (.pick (.t 37) (.c (.bool true)) (.t 43)), none, [6, 12]⟩, ⟨(some 45), (.mv (.t 44)), none, [13, 6]⟩, ⟨(some 46), (.mv (.t 0)), (some (45, false)), [14]⟩, ⟨(some 47), (.mv (.t 7)), (some (45, false)), [14]⟩, ⟨(some 48), (.ixsl 3 (.t 46) (.t 47)), (some (45, false)), [15, 16, 14]⟩, ⟨(some 49), (.fa 1 (.t 48)), (some (45, false)), [17, 14]⟩, ⟨(some 50), (.ld false 1 (.t 49)), (some (45, false)), [18, 14]⟩, ⟨(some 51), (.bin .lss (.t 50) (.c (.int .i64 0))), (some (45, false)), [19, 14]⟩, ⟨(some 52), (.pick (.t 45) (.c (.bool true)) (.t 51)), none, [14, 20]⟩, ⟨(some 53), (.mv (.t 52)), none, [21, 14]⟩, ⟨(some 54), (.mv (.t 0)), (some (53, false)), [22]⟩, ⟨(some 55), (.mv (.t 7)), (some (53, false)), [22]⟩, ⟨(some 56), (.ixsl 3 (.t 54) (.t 55)), (some (53, false)), [23, 24, 22]⟩, ⟨(some 57), (.fa 1 (.t 56)), (some (53, false)), [25, 22]⟩, ⟨(some 58), (.ld false 1 (.t 57)), (some (53, false)), [26, 22]⟩, ⟨(some 59), (.mv (.t 1)), (some (53, false)), [22]⟩, ⟨(some 60), (.bin .geq (.t 58) (.t 59)), (some (53, false)), [27, 28, 22]⟩, ⟨(some 61), (.pick (.t 53) (.c (.bool true)) (.t 60)), none, [22, 29]⟩] false) (.cond (.t 61) (.seq (.reg [⟨(some 6), (.mv (.c (.int .i64 3))), none, []⟩] false) .ret) .skip))) (.reg [⟨(some 29), (.mv (.t 7)), none, []⟩, ⟨(some 30), (.bin .add (.t 29) (.c (.int .i64 1))), none, [0]⟩, ⟨(some 7), (.mv (.t 30)), none, [1, 0, 1]⟩] false)))))) (.seq (.reg [⟨(some 6), (.mv (.c (.int .i64 0))), none, []⟩] false) .ret)))))
theorem mcOk35 : (match Try.f35.body with | some c => compC Try.prog 62 c | none => none) = some mc35 := by kernel_rfl

theorem fc35 (l : List Sg) (cells lies : Int) (hl : l.length ≤ 1000000) : FC Try.prog 35 [.rs 3 (l.map cS), iv cells, iv lies] [] (iv (checkI l cells lies)) [] false := by
  refine fc_run (nt := 62) Try.func35 rfl rfl mcOk35 (Nat.le_of_ble_eq_true rfl) ?_
  delta mc35
  refine aw_seq ?_
  refine aw_reg ?_
  refine rs_mv rfl rfl ?_
  refine rs_nil fun _ => ?_
  refine th_n ?_
  refine aw_seq ?_
  refine aw_seq ?_
  refine aw_reg ?_
  refine rs_mv rfl rfl ?_
  first | refine rs_len_m rfl rfl ?_ | refine rs_len_s rfl rfl ?_ | refine rs_len_n rfl rfl ?_ | refine rs_len_r rfl rfl rfl ?_
  refine rs_gtr rfl rfl rfl ?_
  refine rs_nil fun _ => ?_
  refine th_n ?_
  refine aw_cond rfl (fun h10 => ?_) (fun h10 => ?_)
  · first | replace h10 := of_decide_eq_true h10 | skip
    refine aw_seq ?_
    refine aw_reg ?_
    refine rs_mv rfl rfl ?_
    refine rs_nil fun _ => ?_
    refine th_n ?_
    refine aw_ret ?_
    refine th_r ?_
    first
      | exact ret_pure rfl (congrArg _ (checkI_1 (by omega)).symm) rfl (.inr rfl)
      | exact ret_pure rfl (congrArg _ (checkI_2 (by omega) (by omega)).symm) rfl (.inr rfl)
      | exact ret_pure rfl (congrArg _ (checkI_3 (by omega) (by omega) hrm (by unfold badS; omega)).symm) rfl (.inr rfl)
      | exact ret_pure rfl (congrArg _ (checkI_4 (by omega) (by omega) (fun r hr => (by obtain ⟨j, hj⟩ := List.getElem?_of_mem hr; exact hb j r (by have := lt_of_at hj; omega) hj))).symm) rfl (.inr rfl)
  · first | replace h10 := of_decide_eq_false h10 | skip
    refine aw_skip ?_
    refine th_n ?_
    refine aw_seq ?_
    refine aw_seq ?_
    refine aw_reg ?_
    refine rs_mv rfl rfl ?_
    refine rs_cmp rfl rfl rfl rfl (fun h12 => ?_) (fun h12 => ?_)
    · skip
      refine rs_mv rfl rfl ?_
      refine rs_skip rfl ?_
      refine rs_skip rfl ?_
      refine rs_pick rfl rfl rfl ?_
      refine rs_mv rfl rfl ?_
      refine rs_skip rfl ?_
      refine rs_skip rfl ?_
      refine rs_pick rfl rfl rfl ?_
      refine rs_mv rfl rfl ?_
      refine rs_skip rfl ?_
      refine rs_skip rfl ?_
      refine rs_pick rfl rfl rfl ?_
      refine rs_nil fun _ => ?_
      refine th_n ?_
      refine aw_cond rfl (fun _ => ?_) (fun h => by cases h)
      refine aw_seq ?_
      refine aw_reg ?_
      refine rs_mv rfl rfl ?_
      refine rs_nil fun _ => ?_
      refine th_n ?_
      refine aw_ret ?_
      refine th_r ?_
      first
        | exact ret_pure rfl (congrArg _ (checkI_1 (by omega)).symm) rfl (.inr rfl)
        | exact ret_pure rfl (congrArg _ (checkI_2 (by omega) (by omega)).symm) rfl (.inr rfl)
        | exact ret_pure rfl (congrArg _ (checkI_3 (by omega) (by omega) hrm (by unfold badS; omega)).symm) rfl (.inr rfl)
        | exact ret_pure rfl (congrArg _ (checkI_4 (by omega) (by omega) (fun r hr => (by obtain ⟨j, hj⟩ := List.getElem?_of_mem hr; exact hb j r (by have := lt_of_at hj; omega) hj))).symm) rfl (.inr rfl)
    · skip
      refine rs_mv rfl rfl ?_
      refine rs_mv rfl rfl ?_
      refine rs_cmp rfl rfl rfl rfl (fun h15 => ?_) (fun h15 => ?_)
      · skip
        refine rs_pick rfl rfl rfl ?_
        refine rs_mv rfl rfl ?_
        refine rs_skip rfl ?_
        refine rs_skip rfl ?_
        refine rs_pick rfl rfl rfl ?_
        refine rs_mv rfl rfl ?_
        refine rs_skip rfl ?_
        refine rs_skip rfl ?_
        refine rs_pick rfl rfl rfl ?_
        refine rs_nil fun _ => ?_
        refine th_n ?_
        refine aw_cond rfl (fun _ => ?_) (fun h => by cases h)
        refine aw_seq ?_
        refine aw_reg ?_
        refine rs_mv rfl rfl ?_
        refine rs_nil fun _ => ?_
        refine th_n ?_
        refine aw_ret ?_
        refine th_r ?_
        first
          | exact ret_pure rfl (congrArg _ (checkI_1 (by omega)).symm) rfl (.inr rfl)
          | exact ret_pure rfl (congrArg _ (checkI_2 (by omega) (by omega)).symm) rfl (.inr rfl)
          | exact ret_pure rfl (congrArg _ (checkI_3 (by omega) (by omega) hrm (by unfold badS; omega)).symm) rfl (.inr rfl)
          | exact ret_pure rfl (congrArg _ (checkI_4 (by omega) (by omega) (fun r hr => (by obtain ⟨j, hj⟩ := List.getElem?_of_mem hr; exact hb j r (by have := lt_of_at hj; omega) hj))).symm) rfl (.inr rfl)
      · skip
        refine rs_pick rfl rfl rfl ?_
        refine rs_mv rfl rfl ?_
        refine rs_mv rfl rfl ?_
        refine rs_cmp rfl rfl rfl rfl (fun h19 => ?_) (fun h19 => ?_)
        · skip
          refine rs_pick rfl rfl rfl ?_
          refine rs_mv rfl rfl ?_
          refine rs_skip rfl ?_
          refine rs_skip rfl ?_
          refine rs_pick rfl rfl rfl ?_
          refine rs_nil fun _ => ?_
          refine th_n ?_
          refine aw_cond rfl (fun _ => ?_) (fun h => by cases h)
          refine aw_seq ?_
          refine aw_reg ?_
          refine rs_mv rfl rfl ?_
          refine rs_nil fun _ => ?_
          refine th_n ?_
          refine aw_ret ?_
          refine th_r ?_
          first
            | exact ret_pure rfl (congrArg _ (checkI_1 (by omega)).symm) rfl (.inr rfl)
            | exact ret_pure rfl (congrArg _ (checkI_2 (by omega) (by omega)).symm) rfl (.inr rfl)
            | exact ret_pure rfl (congrArg _ (checkI_3 (by omega) (by omega) hrm (by unfold badS; omega)).symm) rfl (.inr rfl)
            | exact ret_pure rfl (congrArg _ (checkI_4 (by omega) (by omega) (fun r hr => (by obtain ⟨j, hj⟩ := List.getElem?_of_mem hr; exact hb j r (by have := lt_of_at hj; omega) hj))).symm) rfl (.inr rfl)
        · skip
          refine rs_pick rfl rfl rfl ?_
          refine rs_mv rfl rfl ?_
          refine rs_mv rfl rfl ?_
          refine rs_cmp rfl rfl rfl rfl (fun h23 => ?_) (fun h23 => ?_)
          · skip
            refine rs_pick rfl rfl rfl ?_
            refine rs_nil fun _ => ?_
            refine th_n ?_
            refine aw_cond rfl (fun _ => ?_) (fun h => by cases h)
            refine aw_seq ?_
            refine aw_reg ?_
            refine rs_mv rfl rfl ?_
            refine rs_nil fun _ => ?_
            refine th_n ?_
            refine aw_ret ?_
            refine th_r ?_
            first
              | exact ret_pure rfl (congrArg _ (checkI_1 (by omega)).symm) rfl (.inr rfl)
              | exact ret_pure rfl (congrArg _ (checkI_2 (by omega) (by omega)).symm) rfl (.inr rfl)
              | exact ret_pure rfl (congrArg _ (checkI_3 (by omega) (by omega) hrm (by unfold badS; omega)).symm) rfl (.inr rfl)
              | exact ret_pure rfl (congrArg _ (checkI_4 (by omega) (by omega) (fun r hr => (by obtain ⟨j, hj⟩ := List.getElem?_of_mem hr; exact hb j r (by have := lt_of_at hj; omega) hj))).symm) rfl (.inr rfl)
          · skip
            refine rs_pick rfl rfl rfl ?_
            refine rs_nil fun _ => ?_
            refine th_n ?_
            refine aw_cond rfl (fun h => by cases h) (fun _ => ?_)
            refine aw_skip ?_
            refine th_n ?_
            refine aw_seq ?_
            refine aw_seq ?_
            refine aw_reg ?_
            refine rs_mv rfl rfl ?_
            refine rs_nil fun _ => ?_
            refine th_n ?_
            refine aw_block ?_
            refine aw_fam (α := Nat) (fun k => l.length - k) (fun k => [(0, .rs 3 (l.map cS)), (1, iv cells), (2, iv lies), (7, iv (((k) : Nat) : Int))]) (fun k => []) (fun k => k ≤ l.length ∧ ∀ j r, j < k → l[j]? = some r → ¬ badS cells r) 0 (⟨by omega, fun j r h => by omega⟩)
              (weak_to (.cons rfl (rc_same rfl (.inl rfl)) (.cons rfl (rc_same rfl (.inl rfl)) (.cons rfl (rc_same rfl (.inl rfl)) (.cons rfl (rc_same rfl (.inl rfl)) (.nil))))) (.nil) (fun i h => by cases h)) ?_
            rintro k ⟨hk, hb⟩
            refine aw_seq ?_
            refine aw_seq ?_
            refine aw_reg ?_
            refine rs_mv rfl rfl ?_
            refine rs_mv rfl rfl ?_
            first | refine rs_len_m rfl rfl ?_ | refine rs_len_s rfl rfl ?_ | refine rs_len_n rfl rfl ?_ | refine rs_len_r rfl rfl rfl ?_
            refine rs_lss rfl rfl rfl ?_
            refine rs_nil fun _ => ?_
            refine th_n ?_
            refine aw_cond rfl (fun h28 => ?_) (fun h28 => ?_)
            · first | replace h28 := of_decide_eq_true h28 | skip
              refine aw_skip ?_
              refine th_n ?_
              refine aw_seq ?_
              refine aw_block ?_
              refine aw_seq ?_
              refine aw_reg ?_
              obtain ⟨r, hr, hrm⟩ := at_some (L := l) (k := k) (by omega)
              refine rs_mv rfl rfl ?_
              refine rs_mv rfl rfl ?_
              refine rs_ix_g rfl rfl rfl (by omega) hr ?_
              first | refine rs_fa_p rfl rfl ?_ | refine rs_fa_r rfl rfl rfl ?_
              refine rs_ld_r rfl rfl rfl ?_
              refine rs_cmp rfl rfl rfl rfl (fun h36 => ?_) (fun h36 => ?_)
              · skip
                refine rs_mv rfl rfl ?_
                refine rs_skip rfl ?_
                refine rs_skip rfl ?_
                refine rs_skip rfl ?_
                refine rs_skip rfl ?_
                refine rs_skip rfl ?_
                refine rs_skip rfl ?_
                refine rs_pick rfl rfl rfl ?_
                refine rs_mv rfl rfl ?_
                refine rs_skip rfl ?_
                refine rs_skip rfl ?_
                refine rs_skip rfl ?_
                refine rs_skip rfl ?_
                refine rs_skip rfl ?_
                refine rs_skip rfl ?_
                refine rs_pick rfl rfl rfl ?_
                refine rs_mv rfl rfl ?_
                refine rs_skip rfl ?_
                refine rs_skip rfl ?_
                refine rs_skip rfl ?_
                refine rs_skip rfl ?_
                refine rs_skip rfl ?_
                refine rs_skip rfl ?_
                refine rs_skip rfl ?_
                refine rs_pick rfl rfl rfl ?_
                refine rs_nil fun _ => ?_
                refine th_n ?_
                refine aw_cond rfl (fun _ => ?_) (fun h => by cases h)
                refine aw_seq ?_
                refine aw_reg ?_
                refine rs_mv rfl rfl ?_
                refine rs_nil fun _ => ?_
                refine th_n ?_
                refine aw_ret ?_
                refine in_r ?_
                refine th_r ?_
                refine th_r ?_
                refine in_r ?_
                refine th_r ?_
                first
                  | exact ret_pure rfl (congrArg _ (checkI_1 (by omega)).symm) rfl (.inr rfl)
                  | exact ret_pure rfl (congrArg _ (checkI_2 (by omega) (by omega)).symm) rfl (.inr rfl)
                  | exact ret_pure rfl (congrArg _ (checkI_3 (by omega) (by omega) hrm (by unfold badS; omega)).symm) rfl (.inr rfl)
                  | exact ret_pure rfl (congrArg _ (checkI_4 (by omega) (by omega) (fun r hr => (by obtain ⟨j, hj⟩ := List.getElem?_of_mem hr; exact hb j r (by have := lt_of_at hj; omega) hj))).symm) rfl (.inr rfl)
              · skip
                refine rs_mv rfl rfl ?_
                refine rs_mv rfl rfl ?_
                refine rs_mv rfl rfl ?_
                refine rs_ix_g rfl rfl rfl (by omega) hr ?_
                first | refine rs_fa_p rfl rfl ?_ | refine rs_fa_r rfl rfl rfl ?_
                refine rs_ld_r rfl rfl rfl ?_
                refine rs_cmp rfl rfl rfl rfl (fun h43 => ?_) (fun h43 => ?_)
                · skip
                  refine rs_pick rfl rfl rfl ?_
                  refine rs_mv rfl rfl ?_
                  refine rs_skip rfl ?_
                  refine rs_skip rfl ?_
                  refine rs_skip rfl ?_
                  refine rs_skip rfl ?_
                  refine rs_skip rfl ?_
                  refine rs_skip rfl ?_
                  refine rs_pick rfl rfl rfl ?_
                  refine rs_mv rfl rfl ?_
                  refine rs_skip rfl ?_
                  refine rs_skip rfl ?_
                  refine rs_skip rfl ?_
                  refine rs_skip rfl ?_
                  refine rs_skip rfl ?_
                  refine rs_skip rfl ?_
                  refine rs_skip rfl ?_
                  refine rs_pick rfl rfl rfl ?_
                  refine rs_nil fun _ => ?_
                  refine th_n ?_
                  refine aw_cond rfl (fun _ => ?_) (fun h => by cases h)
                  refine aw_seq ?_
                  refine aw_reg ?_
                  refine rs_mv rfl rfl ?_
                  refine rs_nil fun _ => ?_
                  refine th_n ?_
                  refine aw_ret ?_
                  refine in_r ?_
                  refine th_r ?_
                  refine th_r ?_
                  refine in_r ?_
                  refine th_r ?_
                  first
                    | exact ret_pure rfl (congrArg _ (checkI_1 (by omega)).symm) rfl (.inr rfl)
                    | exact ret_pure rfl (congrArg _ (checkI_2 (by omega) (by omega)).symm) rfl (.inr rfl)
                    | exact ret_pure rfl (congrArg _ (checkI_3 (by omega) (by omega) hrm (by unfold badS; omega)).symm) rfl (.inr rfl)
                    | exact ret_pure rfl (congrArg _ (checkI_4 (by omega) (by omega) (fun r hr => (by obtain ⟨j, hj⟩ := List.getElem?_of_mem hr; exact hb j r (by have := lt_of_at hj; omega) hj))).symm) rfl (.inr rfl)
                · skip
                  refine rs_pick rfl rfl rfl ?_
                  refine rs_mv rfl rfl ?_
                  refine rs_mv rfl rfl ?_
                  refine rs_mv rfl rfl ?_
                  refine rs_ix_g rfl rfl rfl (by omega) hr ?_
                  first | refine rs_fa_p rfl rfl ?_ | refine rs_fa_r rfl rfl rfl ?_
                  refine rs_ld_r rfl rfl rfl ?_
                  refine rs_cmp rfl rfl rfl rfl (fun h51 => ?_) (fun h51 => ?_)
                  · skip
                    refine rs_pick rfl rfl rfl ?_
                    refine rs_mv rfl rfl ?_
                    refine rs_skip rfl ?_
                    refine rs_skip rfl ?_
                    refine rs_skip rfl ?_
                    refine rs_skip rfl ?_
                    refine rs_skip rfl ?_
                    refine rs_skip rfl ?_
                    refine rs_skip rfl ?_
                    refine rs_pick rfl rfl rfl ?_
                    refine rs_nil fun _ => ?_
                    refine th_n ?_
                    refine aw_cond rfl (fun _ => ?_) (fun h => by cases h)
                    refine aw_seq ?_
                    refine aw_reg ?_
                    refine rs_mv rfl rfl ?_
                    refine rs_nil fun _ => ?_
                    refine th_n ?_
                    refine aw_ret ?_
                    refine in_r ?_
                    refine th_r ?_
                    refine th_r ?_
                    refine in_r ?_
                    refine th_r ?_
                    first
                      | exact ret_pure rfl (congrArg _ (checkI_1 (by omega)).symm) rfl (.inr rfl)
                      | exact ret_pure rfl (congrArg _ (checkI_2 (by omega) (by omega)).symm) rfl (.inr rfl)
                      | exact ret_pure rfl (congrArg _ (checkI_3 (by omega) (by omega) hrm (by unfold badS; omega)).symm) rfl (.inr rfl)
                      | exact ret_pure rfl (congrArg _ (checkI_4 (by omega) (by omega) (fun r hr => (by obtain ⟨j, hj⟩ := List.getElem?_of_mem hr; exact hb j r (by have := lt_of_at hj; omega) hj))).symm) rfl (.inr rfl)
                  · skip
                    refine rs_pick rfl rfl rfl ?_
                    refine rs_mv rfl rfl ?_
                    refine rs_mv rfl rfl ?_
                    refine rs_mv rfl rfl ?_
                    refine rs_ix_g rfl rfl rfl (by omega) hr ?_
                    first | refine rs_fa_p rfl rfl ?_ | refine rs_fa_r rfl rfl rfl ?_
                    refine rs_ld_r rfl rfl rfl ?_
                    refine rs_mv rfl rfl ?_
                    refine rs_cmp rfl rfl rfl rfl (fun h60 => ?_) (fun h60 => ?_)
                    · skip
                      refine rs_pick rfl rfl rfl ?_
                      refine rs_nil fun _ => ?_
                      refine th_n ?_
                      refine aw_cond rfl (fun _ => ?_) (fun h => by cases h)
                      refine aw_seq ?_
                      refine aw_reg ?_
                      refine rs_mv rfl rfl ?_
                      refine rs_nil fun _ => ?_
                      refine th_n ?_
                      refine aw_ret ?_
                      refine in_r ?_
                      refine th_r ?_
                      refine th_r ?_
                      refine in_r ?_
                      refine th_r ?_
                      first
                        | exact ret_pure rfl (congrArg _ (checkI_1 (by omega)).symm) rfl (.inr rfl)
                        | exact ret_pure rfl (congrArg _ (checkI_2 (by omega) (by omega)).symm) rfl (.inr rfl)
                        | exact ret_pure rfl (congrArg _ (checkI_3 (by omega) (by omega) hrm (by unfold badS; omega)).symm) rfl (.inr rfl)
                        | exact ret_pure rfl (congrArg _ (checkI_4 (by omega) (by omega) (fun r hr => (by obtain ⟨j, hj⟩ := List.getElem?_of_mem hr; exact hb j r (by have := lt_of_at hj; omega) hj))).symm) rfl (.inr rfl)
                    · skip
                      refine rs_pick rfl rfl rfl ?_
                      refine rs_nil fun _ => ?_
                      refine th_n ?_
                      refine aw_cond rfl (fun h => by cases h) (fun _ => ?_)
                      refine aw_skip ?_
                      refine in_n ?_
                      refine th_n ?_
                      refine aw_reg ?_
                      refine rs_mv rfl rfl ?_
                      first | refine rs_add rfl rfl rfl (by omega) ?_ | refine rs_addw rfl rfl rfl rfl ?_
                      refine rs_mv rfl rfl ?_
                      refine rs_nil fun _ => ?_
                      refine th_n ?_
                      refine ⟨k + 1, ⟨by omega, fun j r2 hj hr2 => ?_⟩, by omega, weak_to (.cons rfl (rc_same rfl (.inl rfl)) (.cons rfl (rc_same rfl (.inl rfl)) (.cons rfl (rc_same rfl (.inl rfl)) (.cons rfl (rc_same rfl (.inl rfl)) (.nil))))) (.nil) (fun i h => by cases h)⟩
                      by_cases e : j = k
                      · subst e; rw [hr] at hr2; injection hr2 with hr2; subst hr2; unfold badS; omega
                      · exact hb j r2 (by omega) hr2
            · first | replace h28 := of_decide_eq_false h28 | skip
              refine aw_exit ?_
              refine th_e ?_
              refine th_e ?_
              refine in_hit ?_
              refine th_n ?_
              refine aw_seq ?_
              refine aw_reg ?_
              refine rs_mv rfl rfl ?_
              refine rs_nil fun _ => ?_
              refine th_n ?_
              refine aw_ret ?_
              first
                | exact ret_pure rfl (congrArg _ (checkI_1 (by omega)).symm) rfl (.inr rfl)
                | exact ret_pure rfl (congrArg _ (checkI_2 (by omega) (by omega)).symm) rfl (.inr rfl)
                | exact ret_pure rfl (congrArg _ (checkI_3 (by omega) (by omega) hrm (by unfold badS; omega)).symm) rfl (.inr rfl)
                | exact ret_pure rfl (congrArg _ (checkI_4 (by omega) (by omega) (fun r hr => (by obtain ⟨j, hj⟩ := List.getElem?_of_mem hr; exact hb j r (by have := lt_of_at hj; omega) hj))).symm) rfl (.inr rfl)

def mc64 : MC := (.seq (.reg [⟨(some 4), (.mv (.c (.bool false))), none, []⟩] false) (.seq (.reg [⟨(some 5), (.mv (.t 0)), none, []⟩, ⟨(some 6), (.mv (.t 1)), none, []⟩, ⟨(some 7), (.bin .shr (.t 5) (.t 6)), none, [0, 1]⟩, ⟨(some 8), (.bin .and (.t 7) (.c (.int .i64 1))), none, [2]⟩, ⟨(some 9), (.bin .eql (.t 8) (.c (.int .i64 1))), none, [3]⟩, ⟨(some 4), (.mv (.t 9)), none, [4, 0, 1, 2, 3, 4]⟩] false) .ret))
theorem mcOk64 : (match Try.f64.body with | some c => compC Try.prog 10 c | none => none) = some mc64 := by kernel_rfl

theorem fc64 (s p : Nat) (hs : s < 256) (hp : p < 8) : FC Try.prog 64 [.int .i64 (s : Int), .int .i64 (p : Int)] [] (.bool (hasS s p)) [] false := by
  refine fc_run (nt := 10) Try.func64 rfl rfl mcOk64 (Nat.le_of_ble_eq_true rfl) ?_
  delta mc64
  refine aw_seq ?_
  refine aw_reg ?_
  refine rs_mv rfl rfl ?_
  refine rs_nil fun _ => ?_
  refine th_n ?_
  refine aw_seq ?_
  refine aw_reg ?_
  refine rs_mv rfl rfl ?_
  refine rs_mv rfl rfl ?_
  refine rs_shr rfl rfl rfl (by omega) rfl ?_
  refine rs_and rfl rfl rfl rfl ?_
  refine rs_eql rfl rfl rfl ?_
  refine rs_mv rfl rfl ?_
  refine rs_nil fun _ => ?_
  refine th_n ?_
  refine aw_ret ?_
  exact ret_pure rfl (congrArg AV.bool (has_bits s hs p hp)) rfl (.inr rfl)

def mc63 : MC := (.seq (.reg [⟨(some 4), (.mv (.c (.bool false))), none, []⟩] false) (.seq (.reg [⟨(some 5), (.mv (.c (.int .i64 0))), none, []⟩] false) (.seq (.seq (.reg [⟨(some 6), (.mv (.c (.int .i64 0))), none, []⟩] false) (.block 0 (.loop (.seq (.seq (.reg [⟨(some 7), (.mv (.t 6)), none, []⟩, ⟨(some 8), (.bin .lss (.t 7) (.c (.int .i64 8))), none, [0]⟩] false) (.cond (.t 8) .skip (.exit 0))) (.seq (.block 1 (.seq (.reg [⟨(some 11), (.mv (.t 0)), none, []⟩, ⟨(some 12), (.mv (.t 6)), none, []⟩, ⟨(some 13), (.call 64 [(.t 11), (.t 12)]), none, [0, 1]⟩] false) (.cond (.t 13) (.reg [⟨(some 14), (.mv (.t 5)), none, []⟩, ⟨(some 15), (.bin .add (.t 14) (.c (.int .i64 1))), none, [0]⟩, ⟨(some 5), (.mv (.t 15)), none, [1, 0, 1]⟩] false) .skip))) (.reg [⟨(some 9), (.mv (.t 6)), none, []⟩, ⟨(some 10), (.bin .add (.t 9) (.c (.int .i64 1))), none, [0]⟩, ⟨(some 6), (.mv (.t 10)), none, [1, 0, 1]⟩] false)))))) (.seq (.reg [⟨(some 16), (.mv (.t 5)), none, []⟩, ⟨(some 17), (.mv (.t 1)), none, []⟩, ⟨(some 18), (.bin .leq (.t 16) (.t 17)), none, [0, 1]⟩, ⟨(some 4), (.mv (.t 18)), none, [2, 0, 1, 2]⟩] false) .ret))))
theorem mcOk63 : (match Try.f63.body with | some c => compC Try.prog 19 c | none => none) = some mc63 := by kernel_rfl

theorem fc63 (s : Nat) (lies : Int) (hs : s < 256) : FC Try.prog 63 [iv (s : Int), iv lies] [] (.bool (decide ((sizeS s 8 : Int) ≤ lies))) [] false := by
  refine fc_run (nt := 19) Try.func63 rfl rfl mcOk63 (Nat.le_of_ble_eq_true rfl) ?_
  delta mc63
  refine aw_seq ?_
  refine aw_reg ?_
  refine rs_mv rfl rfl ?_
  refine rs_nil fun _ => ?_
  refine th_n ?_
  refine aw_seq ?_
  refine aw_reg ?_
  refine rs_mv rfl rfl ?_
  refine rs_nil fun _ => ?_
  refine th_n ?_
  refine aw_seq ?_
  refine aw_seq ?_
  refine aw_reg ?_
  refine rs_mv rfl rfl ?_
  refine rs_nil fun _ => ?_
  refine th_n ?_
  refine aw_block ?_
  refine aw_fam (α := Nat) (fun k => 8 - k) (fun k => [(0, iv (s : Int)), (1, iv lies), (5, iv (sizeS s (k) : Int)), (6, iv (((k) : Nat) : Int))]) (fun k => []) (fun k => k ≤ 8) 0 (by omega)
    (weak_to (.cons rfl (rc_same rfl (.inl rfl)) (.cons rfl (rc_same rfl (.inl rfl)) (.cons rfl (rc_same rfl (.inl rfl)) (.cons rfl (rc_same rfl (.inl rfl)) (.nil))))) (.nil) (fun i h => by cases h)) ?_
  intro k hk
  have hsz := sizeS_le s k
  refine aw_seq ?_
  refine aw_seq ?_
  refine aw_reg ?_
  refine rs_mv rfl rfl ?_
  refine rs_lss rfl rfl rfl ?_
  refine rs_nil fun _ => ?_
  refine th_n ?_
  refine aw_cond rfl (fun h8 => ?_) (fun h8 => ?_)
  · first | replace h8 := of_decide_eq_true h8 | skip
    refine aw_skip ?_
    refine th_n ?_
    refine aw_seq ?_
    refine aw_block ?_
    refine aw_seq ?_
    refine aw_reg ?_
    refine rs_mv rfl rfl ?_
    refine rs_mv rfl rfl ?_
    refine rs_calln [] rfl rfl (fc64 s k hs (by omega)) (.cons (hv_same rfl) (.cons (hv_same rfl) (.nil))) rfl ?_
    refine rs_nil fun _ => ?_
    refine th_n ?_
    refine aw_cond rfl (fun h13 => ?_) (fun h13 => ?_)
    · first | replace h13 := of_decide_eq_true h13 | skip
      refine aw_reg ?_
      refine rs_mv rfl rfl ?_
      first | refine rs_add rfl rfl rfl (by omega) ?_ | refine rs_addw rfl rfl rfl rfl ?_
      refine rs_mv rfl rfl ?_
      refine rs_nil fun _ => ?_
      refine in_n ?_
      refine th_n ?_
      refine aw_reg ?_
      refine rs_mv rfl rfl ?_
      first | refine rs_add rfl rfl rfl (by omega) ?_ | refine rs_addw rfl rfl rfl rfl ?_
      refine rs_mv rfl rfl ?_
      refine rs_nil fun _ => ?_
      refine th_n ?_
      exact ⟨k + 1, by omega, by omega, weak_to (.cons rfl (rc_same rfl (.inl rfl)) (.cons rfl (rc_same rfl (.inl rfl)) (.cons rfl (rc_int (by simp [sizeS, h13])) (.cons rfl (rc_same rfl (.inl rfl)) (.nil))))) (.nil) (fun i h => by cases h)⟩
    · first | replace h13 := of_decide_eq_false h13 | skip
      refine aw_skip ?_
      refine in_n ?_
      refine th_n ?_
      refine aw_reg ?_
      refine rs_mv rfl rfl ?_
      first | refine rs_add rfl rfl rfl (by omega) ?_ | refine rs_addw rfl rfl rfl rfl ?_
      refine rs_mv rfl rfl ?_
      refine rs_nil fun _ => ?_
      refine th_n ?_
      exact ⟨k + 1, by omega, by omega, weak_to (.cons rfl (rc_same rfl (.inl rfl)) (.cons rfl (rc_same rfl (.inl rfl)) (.cons rfl (rc_int (by simp [sizeS, h13])) (.cons rfl (rc_same rfl (.inl rfl)) (.nil))))) (.nil) (fun i h => by cases h)⟩
  · first | replace h8 := of_decide_eq_false h8 | skip
    refine aw_exit ?_
    refine th_e ?_
    refine th_e ?_
    refine in_hit ?_
    refine th_n ?_
    refine aw_seq ?_
    refine aw_reg ?_
    refine rs_mv rfl rfl ?_
    refine rs_mv rfl rfl ?_
    refine rs_leq rfl rfl rfl ?_
    refine rs_mv rfl rfl ?_
    refine rs_nil fun _ => ?_
    refine th_n ?_
    refine aw_ret ?_
    obtain rfl : k = 8 := by omega
    exact ret_pure rfl rfl rfl (.inr rfl)

def mc65 : MC := (.seq (.reg [⟨(some 1), (.box 109 2 (.t 0)), none, []⟩, ⟨(some 2), (.mv (.c (.bool false))), none, []⟩] false) (.seq (.reg [⟨(some 3), (.fa 0 (.t 1)), none, []⟩, ⟨(some 4), (.ld false 1 (.t 3)), none, [0]⟩, ⟨(some 5), (.fa 1 (.t 1)), none, []⟩, ⟨(some 6), (.ld false 1 (.t 5)), none, [2]⟩, ⟨(some 7), (.bin .and (.t 4) (.t 6)), none, [1, 3]⟩, ⟨(some 8), (.bin .neq (.t 7) (.c (.int .u64 0))), none, [4]⟩, ⟨(some 2), (.mv (.t 8)), none, [5, 0, 1, 2, 3, 4, 5]⟩] false) .ret))
theorem mcOk65 : (match Try.f65.body with | some c => compC Try.prog 9 c | none => none) = some mc65 := by kernel_rfl

theorem fc65 (t g : Nat) (ht : t < 18446744073709551616) (hg : g < 18446744073709551616) : FC Try.prog 65 [.agg [.int .u64 ((t : Nat) : Int), .int .u64 ((g : Nat) : Int)]] [] (.bool (decide (t &&& g ≠ 0))) [] false := by
  refine fc_run (nt := 9) Try.func65 rfl rfl mcOk65 (Nat.le_of_ble_eq_true rfl) ?_
  delta mc65
  refine aw_seq ?_
  refine aw_reg ?_
  refine rs_box rfl rfl rfl rfl rfl rfl ?_
  refine rs_mv rfl rfl ?_
  refine rs_nil fun _ => ?_
  refine th_n ?_
  refine aw_seq ?_
  refine aw_reg ?_
  first | refine rs_fa_p rfl rfl ?_ | refine rs_fa_r rfl rfl rfl ?_
  first | refine rs_ld_r rfl rfl rfl ?_ | refine rs_ld_p rfl rfl rfl rfl rfl ?_ | refine rs_ld_m rfl rfl rfl (by omega) rfl ?_
  first | refine rs_fa_p rfl rfl ?_ | refine rs_fa_r rfl rfl rfl ?_
  first | refine rs_ld_r rfl rfl rfl ?_ | refine rs_ld_p rfl rfl rfl rfl rfl ?_ | refine rs_ld_m rfl rfl rfl (by omega) rfl ?_
  refine rs_and rfl rfl rfl (u64_and_nat t g ht hg) ?_
  refine rs_neq rfl rfl rfl ?_
  refine rs_mv rfl rfl ?_
  refine rs_nil fun _ => ?_
  refine th_n ?_
  refine aw_ret ?_
  exact ret_pure rfl (congrArg AV.bool (decide_eq_decide.2 (by rw [ne_eq, ne_eq]; constructor <;> intro h e <;> exact h (by exact_mod_cast e)))) rfl (.inr rfl)

def mc61 : MC := (.seq (.reg [⟨(some 2), (.box 109 2 (.t 0)), none, []⟩, ⟨(some 4), (.mv (.c (.int .i64 0))), none, []⟩] false) (.seq (.reg [⟨(some 5), (.fa 0 (.t 2)), none, []⟩, ⟨(some 6), (.ld false 1 (.t 5)), none, [0]⟩, ⟨(some 7), (.mv (.t 1)), none, []⟩, ⟨(some 8), (.bin .shr (.t 6) (.t 7)), none, [1, 2]⟩, ⟨(some 9), (.bin .and (.t 8) (.c (.int .u64 1))), none, [3]⟩, ⟨(some 10), (.cvt .i64 (.t 9)), none, [4]⟩, ⟨(some 11), (.fa 1 (.t 2)), none, []⟩, ⟨(some 12), (.ld false 1 (.t 11)), none, [6]⟩, ⟨(some 13), (.mv (.t 1)), none, []⟩, ⟨(some 14), (.bin .shr (.t 12) (.t 13)), none, [7, 8]⟩, ⟨(some 15), (.bin .and (.t 14) (.c (.int .u64 1))), none, [9]⟩, ⟨(some 16), (.cvt .i64 (.t 15)), none, [10]⟩, ⟨(some 17), (.bin .sub (.t 10) (.t 16)), none, [5, 11]⟩, ⟨(some 4), (.mv (.t 17)), none, [12, 0, 1, 2, 3, 4, 5, 6, 7, 8, 9, 10, 11, 12]⟩] true) .ret))
theorem mcOk61 : (match Try.f61.body with | some c => compC Try.prog 18 c | none => none) = some mc61 := by kernel_rfl

theorem fc61 (t g c : Nat) (ht : t < 18446744073709551616) (hg : g < 18446744073709551616) (hc : c < 64) : FC Try.prog 61 [.agg [.int .u64 ((t : Nat) : Int), .int .u64 ((g : Nat) : Int)], iv (c : Int)] [] (iv (bitN t c - bitN g c)) [] false := by
  have h1 := bitN_range t c
  have h2 := bitN_range g c
  refine fc_run (nt := 18) Try.func61 rfl rfl mcOk61 (Nat.le_of_ble_eq_true rfl) ?_
  delta mc61
  refine aw_seq ?_
  refine aw_reg ?_
  refine rs_box rfl rfl rfl rfl rfl rfl ?_
  refine rs_mv rfl rfl ?_
  refine rs_nil fun _ => ?_
  refine th_n ?_
  refine aw_seq ?_
  refine aw_draw hmix ?_
  first | refine rs_fa_p rfl rfl ?_ | refine rs_fa_r rfl rfl rfl ?_
  first | refine rs_ld_r rfl rfl rfl ?_ | refine rs_ld_p rfl rfl rfl rfl rfl ?_ | refine rs_ld_m rfl rfl rfl (by omega) rfl ?_
  refine rs_mv rfl rfl ?_
  refine rs_shr rfl rfl rfl (by omega) rfl ?_
  refine rs_and rfl rfl rfl (bit_u64 t c ht hc) ?_
  refine rs_cvt (m := bitN t c) rfl rfl (wrap64_eq (by omega)) ?_
  first | refine rs_fa_p rfl rfl ?_ | refine rs_fa_r rfl rfl rfl ?_
  first | refine rs_ld_r rfl rfl rfl ?_ | refine rs_ld_p rfl rfl rfl rfl rfl ?_ | refine rs_ld_m rfl rfl rfl (by omega) rfl ?_
  refine rs_mv rfl rfl ?_
  refine rs_shr rfl rfl rfl (by omega) rfl ?_
  refine rs_and rfl rfl rfl (bit_u64 g c hg hc) ?_
  refine rs_cvt (m := bitN g c) rfl rfl (wrap64_eq (by omega)) ?_
  first | refine rs_sub rfl rfl rfl (by omega) ?_ | refine rs_subw rfl rfl rfl rfl ?_
  refine rs_mv rfl rfl ?_
  refine rs_nil ⟨by kernel_rfl, fun _ => ?_⟩
  refine th_n ?_
  refine aw_ret ?_
  exact ret_pure rfl rfl rfl (.inr rfl)

def mc60 : MC := (.seq (.reg [⟨(some 2), (.alloc 111 3 [(.int .u64 0), (.int .u64 0), (.int .u64 0)]), none, []⟩] false) (.seq (.reg [⟨(some 6), (.mv (.t 0)), none, []⟩, ⟨(some 7), (.ixsl 3 (.t 6) (.c (.int .i64 0))), none, [0]⟩, ⟨(some 8), (.ld true 3 (.t 7)), none, [1]⟩, ⟨(some 3), (.alloc 111 3 [(.int .u64 0), (.int .u64 0), (.int .u64 0)]), none, []⟩, ⟨none, (.st 3 (.t 3) (.t 8)), none, [3, 2, 0, 1, 2, 3]⟩] false) (.seq (.seq (.reg [⟨(some 9), (.mv (.t 0)), none, []⟩, ⟨(some 10), (.len (.t 9)), none, [0]⟩, ⟨(some 11), (.mv (.c (.int .i64 0))), none, []⟩] false) (.block 0 (.loop (.seq (.reg [⟨(some 12), (.bin .lss (.t 11) (.t 10)), none, []⟩] false) (.seq (.cond (.t 12) .skip (.exit 0)) (.seq (.block 1 (.seq (.reg [⟨(some 13), (.ixsl 3 (.t 9) (.t 11)), none, []⟩, ⟨(some 14), (.ld true 3 (.t 13)), none, [0]⟩, ⟨(some 5), (.alloc 111 3 [(.int .u64 0), (.int .u64 0), (.int .u64 0)]), none, []⟩, ⟨none, (.st 3 (.t 5) (.t 14)), none, [2, 1, 0, 1, 2]⟩] false) (.seq (.reg [⟨(some 15), (.fa 0 (.t 3)), none, []⟩, ⟨(some 16), (.fa 0 (.t 15)), none, [0]⟩, ⟨(some 17), (.ld false 1 (.t 16)), none, [1]⟩, ⟨(some 18), (.fa 0 (.t 5)), none, []⟩, ⟨(some 19), (.fa 0 (.t 18)), none, [3]⟩, ⟨(some 20), (.ld false 1 (.t 19)), none, [4]⟩, ⟨(some 21), (.bin .and (.t 17) (.t 20)), none, [2, 5]⟩, ⟨(some 22), (.fa 0 (.t 3)), none, [0, 1, 2, 3, 4, 5, 6]⟩, ⟨(some 23), (.fa 0 (.t 22)), none, [7, 0, 1, 2, 3, 4, 5, 6]⟩, ⟨none, (.st 1 (.t 23) (.t 21)), none, [8, 6, 0, 1, 2, 3, 4, 5, 6]⟩] false) (.seq (.reg [⟨(some 24), (.fa 0 (.t 3)), none, []⟩, ⟨(some 25), (.fa 1 (.t 24)), none, [0]⟩, ⟨(some 26), (.ld false 1 (.t 25)), none, [1]⟩, ⟨(some 27), (.fa 0 (.t 5)), none, []⟩, ⟨(some 28), (.fa 1 (.t 27)), none, [3]⟩, ⟨(some 29), (.ld false 1 (.t 28)), none, [4]⟩, ⟨(some 30), (.bin .and (.t 26) (.t 29)), none, [2, 5]⟩, ⟨(some 31), (.fa 0 (.t 3)), none, [0, 1, 2, 3, 4, 5, 6]⟩, ⟨(some 32), (.fa 1 (.t 31)), none, [7, 0, 1, 2, 3, 4, 5, 6]⟩, ⟨none, (.st 1 (.t 32) (.t 30)), none, [8, 6, 0, 1, 2, 3, 4, 5, 6]⟩] false) (.reg [⟨(some 33), (.fa 2 (.t 3)), none, []⟩, ⟨(some 34), (.ld false 1 (.t 33)), none, [0]⟩, ⟨(some 35), (.fa 2 (.t 5)), none, []⟩, ⟨(some 36), (.ld false 1 (.t 35)), none, [2]⟩, ⟨(some 37), (.bin .and (.t 34) (.t 36)), none, [1, 3]⟩, ⟨(some 38), (.fa 2 (.t 3)), none, [0, 1, 2, 3, 4]⟩, ⟨none, (.st 1 (.t 38) (.t 37)), none, [5, 4, 0, 1, 2, 3, 4]⟩] false))))) (.reg [⟨(some 39), (.bin .add (.t 11) (.c (.int .i64 1))), none, []⟩, ⟨(some 11), (.mv (.t 39)), none, [0]⟩] false))))))) (.seq (.reg [⟨(some 40), (.ld true 3 (.t 3)), none, []⟩, ⟨none, (.st 3 (.t 2) (.t 40)), none, [0, 0]⟩] false) .ret))))
theorem mcOk60 : (match Try.f60.body with | some c => compC Try.prog 41 c | none => none) = some mc60 := by kernel_rfl

theorem fc60 (ts : List T3) (hne : ts ≠ []) (hl : ts.length ≤ 1000000) (hb : ∀ t ∈ ts, t.1 < 65536 ∧ t.2.1 < 65536 ∧ t.2.2 < 65536) : FC Try.prog 60 [.rs 3 (ts.map cT)] [] (.agg (cT (wholeT ts))) [] false := by
  have hpos : 0 < ts.length := List.length_pos_iff.2 hne
  obtain ⟨t0, h0, h0m⟩ := at_some (L := ts) (k := 0) hpos
  have hhd : ts.headD (0, 0, 0) = t0 := by cases ts with | nil => exact absurd rfl hne | cons a b => simpa using h0
  refine fc_run (nt := 41) Try.func60 rfl rfl mcOk60 (Nat.le_of_ble_eq_true rfl) ?_
  delta mc60
  refine aw_seq ?_
  refine aw_reg ?_
  refine rs_alloc rfl rfl rfl ?_
  refine rs_nil fun _ => ?_
  refine th_n ?_
  refine aw_seq ?_
  refine aw_reg ?_
  refine rs_mv rfl rfl ?_
  refine rs_ix_g rfl rfl rfl (by omega) h0 ?_
  first | refine rs_ld_pa rfl rfl rfl rfl (Nat.le_of_ble_eq_true rfl) rfl ?_ | refine rs_ld_ra rfl rfl (Nat.le_of_ble_eq_true rfl) rfl ?_ | refine rs_ld_ma rfl rfl rfl (by omega) (Nat.le_of_ble_eq_true rfl) rfl ?_
  refine rs_alloc rfl rfl rfl ?_
  refine rs_st rfl rfl rfl rfl rfl rfl rfl (Nat.le_of_ble_eq_true rfl) rfl rfl ?_
  refine rs_nil fun _ => ?_
  refine th_n ?_
  refine aw_seq ?_
  refine aw_seq ?_
  refine aw_reg ?_
  refine rs_mv rfl rfl ?_
  first | refine rs_len_m rfl rfl ?_ | refine rs_len_s rfl rfl ?_ | refine rs_len_n rfl rfl ?_ | refine rs_len_r rfl rfl rfl ?_
  refine rs_mv rfl rfl ?_
  refine rs_nil fun _ => ?_
  refine th_n ?_
  refine aw_block ?_
  refine aw_fam (α := Nat) (fun k => ts.length - k) (fun k => [(2, .ptr 2 0 0), (3, .ptr 3 0 0), (9, .rs 3 (ts.map cT)), (10, iv (ts.length : Int)), (11, iv (((k) : Nat) : Int))]) (fun k => [(2, .cells 111 3 [[.int .u64 0, .int .u64 0, .int .u64 0]] true), (3, .cells 111 3 [cT ((ts.take (k)).foldl andT (ts.headD (0, 0, 0)))] true)]) (fun k => k ≤ ts.length) 0 (by omega)
    (weak_to (.cons rfl (rc_same rfl (.inl rfl)) (.cons rfl (rc_same rfl (.inl rfl)) (.cons rfl (rc_same rfl (.inl rfl)) (.cons rfl (rc_same rfl (.inl rfl)) (.cons rfl (rc_same rfl (.inl rfl)) (.nil)))))) (.keep (rfl) rfl (.keep ((by rw [List.take_zero, List.foldl_nil, hhd]; rfl)) rfl (.nil))) (fun i h => by cases h)) ?_
  intro k hk
  have hw1 := foldT_lt (fun t => t.1) (fun _ _ => rfl) (B := 65536) (ts.take k) (ts.headD (0, 0, 0)) (by rw [hhd]; exact (hb t0 h0m).1)
  have hw2 := foldT_lt (fun t => t.2.1) (fun _ _ => rfl) (B := 65536) (ts.take k) (ts.headD (0, 0, 0)) (by rw [hhd]; exact (hb t0 h0m).2.1)
  have hw3 := foldT_lt (fun t => t.2.2) (fun _ _ => rfl) (B := 65536) (ts.take k) (ts.headD (0, 0, 0)) (by rw [hhd]; exact (hb t0 h0m).2.2)
  refine aw_seq ?_
  refine aw_reg ?_
  refine rs_lss rfl rfl rfl ?_
  refine rs_nil fun _ => ?_
  refine th_n ?_
  refine aw_seq ?_
  refine aw_cond rfl (fun h12 => ?_) (fun h12 => ?_)
  · first | replace h12 := of_decide_eq_true h12 | skip
    refine aw_skip ?_
    refine th_n ?_
    refine aw_seq ?_
    refine aw_block ?_
    refine aw_seq ?_
    refine aw_reg ?_
    obtain ⟨t, htk, htm⟩ := at_some (L := ts) (k := k) (by omega)
    have htb := hb t htm
    have hst : ((ts.take (k + 1)).foldl andT (ts.headD (0, 0, 0))) = andT ((ts.take (k)).foldl andT (ts.headD (0, 0, 0))) t := by rw [fold_take _ _ _ _ (by omega), (List.getElem?_eq_some_iff.1 htk).2]
    refine rs_ix_g rfl rfl rfl (by omega) htk ?_
    first | refine rs_ld_pa rfl rfl rfl rfl (Nat.le_of_ble_eq_true rfl) rfl ?_ | refine rs_ld_ra rfl rfl (Nat.le_of_ble_eq_true rfl) rfl ?_ | refine rs_ld_ma rfl rfl rfl (by omega) (Nat.le_of_ble_eq_true rfl) rfl ?_
    refine rs_alloc rfl rfl rfl ?_
    refine rs_st (els' := [cT t]) rfl rfl rfl rfl rfl rfl rfl (Nat.le_of_ble_eq_true rfl) rfl rfl ?_
    refine rs_nil fun _ => ?_
    refine th_n ?_
    refine aw_seq ?_
    refine aw_reg ?_
    first | refine rs_fa_p rfl rfl ?_ | refine rs_fa_r rfl rfl rfl ?_
    first | refine rs_fa_p rfl rfl ?_ | refine rs_fa_r rfl rfl rfl ?_
    first | refine rs_ld_r rfl rfl rfl ?_ | refine rs_ld_p rfl rfl rfl rfl rfl ?_ | refine rs_ld_m rfl rfl rfl (by omega) rfl ?_
    first | refine rs_fa_p rfl rfl ?_ | refine rs_fa_r rfl rfl rfl ?_
    first | refine rs_fa_p rfl rfl ?_ | refine rs_fa_r rfl rfl rfl ?_
    first | refine rs_ld_r rfl rfl rfl ?_ | refine rs_ld_p rfl rfl rfl rfl rfl ?_ | refine rs_ld_m rfl rfl rfl (by omega) rfl ?_
    refine rs_and rfl rfl rfl (u64_and_nat _ _ (by omega) (by omega)) ?_
    first | refine rs_fa_p rfl rfl ?_ | refine rs_fa_r rfl rfl rfl ?_
    first | refine rs_fa_p rfl rfl ?_ | refine rs_fa_r rfl rfl rfl ?_
    refine rs_st rfl rfl rfl rfl rfl rfl rfl (Nat.le_of_ble_eq_true rfl) rfl rfl ?_
    refine rs_nil fun _ => ?_
    refine th_n ?_
    refine aw_seq ?_
    refine aw_reg ?_
    first | refine rs_fa_p rfl rfl ?_ | refine rs_fa_r rfl rfl rfl ?_
    first | refine rs_fa_p rfl rfl ?_ | refine rs_fa_r rfl rfl rfl ?_
    first | refine rs_ld_r rfl rfl rfl ?_ | refine rs_ld_p rfl rfl rfl rfl rfl ?_ | refine rs_ld_m rfl rfl rfl (by omega) rfl ?_
    first | refine rs_fa_p rfl rfl ?_ | refine rs_fa_r rfl rfl rfl ?_
    first | refine rs_fa_p rfl rfl ?_ | refine rs_fa_r rfl rfl rfl ?_
    first | refine rs_ld_r rfl rfl rfl ?_ | refine rs_ld_p rfl rfl rfl rfl rfl ?_ | refine rs_ld_m rfl rfl rfl (by omega) rfl ?_
    refine rs_and rfl rfl rfl (u64_and_nat _ _ (by omega) (by omega)) ?_
    first | refine rs_fa_p rfl rfl ?_ | refine rs_fa_r rfl rfl rfl ?_
    first | refine rs_fa_p rfl rfl ?_ | refine rs_fa_r rfl rfl rfl ?_
    refine rs_st rfl rfl rfl rfl rfl rfl rfl (Nat.le_of_ble_eq_true rfl) rfl rfl ?_
    refine rs_nil fun _ => ?_
    refine th_n ?_
    refine aw_reg ?_
    first | refine rs_fa_p rfl rfl ?_ | refine rs_fa_r rfl rfl rfl ?_
    first | refine rs_ld_r rfl rfl rfl ?_ | refine rs_ld_p rfl rfl rfl rfl rfl ?_ | refine rs_ld_m rfl rfl rfl (by omega) rfl ?_
    first | refine rs_fa_p rfl rfl ?_ | refine rs_fa_r rfl rfl rfl ?_
    first | refine rs_ld_r rfl rfl rfl ?_ | refine rs_ld_p rfl rfl rfl rfl rfl ?_ | refine rs_ld_m rfl rfl rfl (by omega) rfl ?_
    refine rs_and rfl rfl rfl (u64_and_nat _ _ (by omega) (by omega)) ?_
    first | refine rs_fa_p rfl rfl ?_ | refine rs_fa_r rfl rfl rfl ?_
    refine rs_st rfl rfl rfl rfl rfl rfl rfl (Nat.le_of_ble_eq_true rfl) rfl rfl ?_
    refine rs_nil fun _ => ?_
    refine in_n ?_
    refine th_n ?_
    refine aw_reg ?_
    first | refine rs_add rfl rfl rfl (by omega) ?_ | refine rs_addw rfl rfl rfl rfl ?_
    refine rs_mv rfl rfl ?_
    refine rs_nil fun _ => ?_
    refine th_n ?_
    exact ⟨k + 1, by omega, by omega, weak_to (.cons rfl (rc_same rfl (.inl rfl)) (.cons rfl (rc_same rfl (.inl rfl)) (.cons rfl (rc_same rfl (.inl rfl)) (.cons rfl (rc_same rfl (.inl rfl)) (.cons rfl (rc_same rfl (.inl rfl)) (.nil)))))) (.keep (rfl) rfl (.keep ((by rw [hst]; rfl)) rfl (.nil))) (fun i h => by cases h)⟩
  · first | replace h12 := of_decide_eq_false h12 | skip
    refine aw_exit ?_
    refine th_e ?_
    refine th_e ?_
    refine in_hit ?_
    refine th_n ?_
    refine aw_seq ?_
    refine aw_reg ?_
    first | refine rs_ld_pa rfl rfl rfl rfl (Nat.le_of_ble_eq_true rfl) rfl ?_ | refine rs_ld_ra rfl rfl (Nat.le_of_ble_eq_true rfl) rfl ?_ | refine rs_ld_ma rfl rfl rfl (by omega) (Nat.le_of_ble_eq_true rfl) rfl ?_
    refine rs_st rfl rfl rfl rfl rfl rfl rfl (Nat.le_of_ble_eq_true rfl) rfl rfl ?_
    refine rs_nil fun _ => ?_
    refine th_n ?_
    refine aw_ret ?_
    obtain rfl : k = ts.length := by omega
    rw [List.take_length]
    exact ret_pure (resVs_cell (n := 3) rfl rfl (by kernel_rfl) (by kernel_rfl) rfl) rfl rfl (.inr rfl)

end Go.Proofs.Ytadjdnhnbkcakaa

/-! Walks: A25. -/
namespace Go.Proofs.Ytadjdnhnbkcakaa
open Go.RowKit

/-- The masks while sights are gone through. -/
def thK (l : List Sg) (s j : Nat) : Nat := (l.take j).foldl (thS s) 0
def goK (l : List Sg) (s j : Nat) : Nat := (l.take j).foldl (goS s) 0
theorem thK_succ {l : List Sg} {s j : Nat} {r : Sg} (hr : l[j]? = some r) : thK l s (j + 1) = thS s (thK l s j) r := by
  have hj := lt_of_at hr
  rw [thK, fold_take _ _ _ _ hj, (List.getElem?_eq_some_iff.1 hr).2]; rfl
theorem goK_succ {l : List Sg} {s j : Nat} {r : Sg} (hr : l[j]? = some r) : goK l s (j + 1) = goS s (goK l s j) r := by
  have hj := lt_of_at hr
  rw [goK, fold_take _ _ _ _ hj, (List.getElem?_eq_some_iff.1 hr).2]; rfl
theorem thK_lt {l : List Sg} (h : ∀ r ∈ l, r.cell.toNat < 16) (s j : Nat) : thK l s j < 65536 := thM_lt (take_lt l j h) s
theorem goK_lt {l : List Sg} (h : ∀ r ∈ l, r.cell.toNat < 16) (s j : Nat) : goK l s j < 65536 := goM_lt (take_lt l j h) s
theorem thK_all (l : List Sg) (s : Nat) : thK l s l.length = thM l s := by unfold thK thM; rw [List.take_length]
theorem goK_all (l : List Sg) (s : Nat) : goK l s l.length = goM l s := by unfold goK goM; rw [List.take_length]
theorem fc66' (k : Nat) (hk : k < 256) : FC Try.prog 66 [.int .u64 (k : Int)] [] (.int .i64 (sizeS k 8 : Int)) [] false := fc66 k hk

def mc59 : MC := (.seq (.reg [⟨(some 4), (.mv (.c .nils)), none, []⟩] false) (.seq (.reg [⟨(some 5), (.mv (.c .nils)), none, []⟩] false) (.seq (.seq (.reg [⟨(some 10), (.mv (.c (.int .u64 0))), none, []⟩] false) (.block 0 (.loop (.seq (.reg [⟨(some 11), (.bin .lss (.t 10) (.c (.int .u64 256))), none, []⟩] false) (.seq (.cond (.t 11) .skip (.exit 0)) (.seq (.block 1 (.seq (.reg [⟨(some 12), (.mv (.t 10)), none, []⟩, ⟨(some 6), (.mv (.t 12)), none, [0, 0]⟩] false) (.seq (.seq (.reg [⟨(some 13), (.mv (.t 6)), none, []⟩, ⟨(some 14), (.call 66 [(.t 13)]), none, [0]⟩, ⟨(some 15), (.mv (.t 1)), none, []⟩, ⟨(some 16), (.bin .gtr (.t 14) (.t 15)), none, [1, 2]⟩] false) (.cond (.t 16) (.exit 1) .skip)) (.seq (.reg [⟨(some 17), (.mv (.t 6)), none, []⟩, ⟨(some 18), (.build [(.int .u64 0), (.int .u64 0), (.int .u64 0)] [(2, (1, (.t 17)))]), none, [0]⟩, ⟨(some 7), (.alloc 111 3 [(.int .u64 0), (.int .u64 0), (.int .u64 0)]), none, []⟩, ⟨none, (.st 3 (.t 7) (.t 18)), none, [2, 1, 0, 1, 2]⟩] false) (.seq (.seq (.reg [⟨(some 19), (.mv (.t 0)), none, []⟩, ⟨(some 20), (.len (.t 19)), none, [0]⟩, ⟨(some 21), (.mv (.c (.int .i64 0))), none, []⟩] false) (.block 2 (.loop (.seq (.reg [⟨(some 22), (.bin .lss (.t 21) (.t 20)), none, []⟩] false) (.seq (.cond (.t 22) .skip (.exit 2)) (.seq (.block 3 (.seq (.reg [⟨(some 23), (.ixsl 3 (.t 19) (.t 21)), none, []⟩, ⟨(some 24), (.ld true 3 (.t 23)), none, [0]⟩, ⟨(some 9), (.alloc 80 3 [(.int .i64 0), (.int .i64 0), (.bool false)]), none, []⟩, ⟨none, (.st 3 (.t 9) (.t 24)), none, [2, 1, 0, 1, 2]⟩] false) (.block 4 (.seq (.reg [⟨(some 35), (.mv (.t 6)), none, []⟩, ⟨(some 36), (.fa 0 (.t 9)), none, []⟩, ⟨(some 37), (.ld false 1 (.t 36)), none, [1]⟩, ⟨(some 38), (.bin .shr (.t 35) (.t 37)), none, [0, 2]⟩, ⟨(some 39), (.bin .and (.t 38) (.c (.int .u64 1))), none, [3]⟩, ⟨(some 40), (.bin .eql (.t 39) (.c (.int .u64 1))), none, [4]⟩, ⟨(some 34), (.mv (.t 40)), none, [5]⟩] false) (.cond (.t 34) .skip (.seq (.reg [⟨(some 42), (.fa 2 (.t 9)), none, []⟩, ⟨(some 43), (.ld false 1 (.t 42)), none, [0]⟩, ⟨(some 41), (.mv (.t 43)), none, [1]⟩] false) (.cond (.t 41) (.reg [⟨(some 44), (.fa 0 (.t 7)), none, []⟩, ⟨(some 45), (.fa 0 (.t 44)), none, [0]⟩, ⟨(some 46), (.ld false 1 (.t 45)), none, [1]⟩, ⟨(some 47), (.fa 1 (.t 9)), none, []⟩, ⟨(some 48), (.ld false 1 (.t 47)), none, [3]⟩, ⟨(some 49), (.bin .shl (.c (.int .u64 1)) (.t 48)), none, [4]⟩, ⟨(some 50), (.bin .or (.t 46) (.t 49)), none, [2, 5]⟩, ⟨(some 51), (.fa 0 (.t 7)), none, [0, 1, 2, 3, 4, 5, 6]⟩, ⟨(some 52), (.fa 0 (.t 51)), none, [7, 0, 1, 2, 3, 4, 5, 6]⟩, ⟨none, (.st 1 (.t 52) (.t 50)), none, [8, 6, 0, 1, 2, 3, 4, 5, 6]⟩] true) (.reg [⟨(some 25), (.fa 0 (.t 7)), none, []⟩, ⟨(some 26), (.fa 1 (.t 25)), none, [0]⟩, ⟨(some 27), (.ld false 1 (.t 26)), none, [1]⟩, ⟨(some 28), (.fa 1 (.t 9)), none, []⟩, ⟨(some 29), (.ld false 1 (.t 28)), none, [3]⟩, ⟨(some 30), (.bin .shl (.c (.int .u64 1)) (.t 29)), none, [4]⟩, ⟨(some 31), (.bin .or (.t 27) (.t 30)), none, [2, 5]⟩, ⟨(some 32), (.fa 0 (.t 7)), none, [0, 1, 2, 3, 4, 5, 6]⟩, ⟨(some 33), (.fa 1 (.t 32)), none, [7, 0, 1, 2, 3, 4, 5, 6]⟩, ⟨none, (.st 1 (.t 33) (.t 31)), none, [8, 6, 0, 1, 2, 3, 4, 5, 6]⟩] true)))))))) (.reg [⟨(some 53), (.bin .add (.t 21) (.c (.int .i64 1))), none, []⟩, ⟨(some 21), (.mv (.t 53)), none, [0]⟩] false))))))) (.seq (.reg [⟨(some 54), (.fa 0 (.t 7)), none, []⟩, ⟨(some 55), (.ld true 2 (.t 54)), none, [0]⟩, ⟨(some 56), (.call 65 [(.t 55)]), none, [1]⟩, ⟨(some 57), (.un .not (.t 56)), none, [2]⟩] false) (.cond (.t 57) (.reg [⟨(some 58), (.mv (.t 5)), none, []⟩, ⟨(some 59), (.ld true 3 (.t 7)), none, []⟩, ⟨(some 60), (.bslice 111 3 [(.int .u64 0), (.int .u64 0), (.int .u64 0)] 1 [(0, (.t 59))]), none, [1]⟩, ⟨(some 61), (.app 111 3 24 [(.int .u64 0), (.int .u64 0), (.int .u64 0)] (.t 58) (.t 60)), none, [0, 2]⟩, ⟨(some 5), (.mv (.t 61)), none, [3, 3, 0, 1, 2, 3]⟩] false) .skip))))))) (.reg [⟨(some 62), (.bin .add (.t 10) (.c (.int .u64 1))), none, []⟩, ⟨(some 10), (.mv (.t 62)), none, [0]⟩] false))))))) (.seq (.reg [⟨(some 63), (.mv (.t 5)), none, []⟩, ⟨(some 4), (.mv (.t 63)), none, [0, 0]⟩] false) .ret))))
theorem mcOk59 : (match Try.f59.body with | some c => compC Try.prog 64 c | none => none) = some mc59 := by kernel_rfl

theorem fc59 (l : List Sg) (lies : Int) (hl : l.length ≤ 1000000) (hr0 : ∀ r ∈ l, 0 ≤ r.gauge ∧ r.gauge < 8 ∧ 0 ≤ r.cell ∧ r.cell < 16) : FC Try.prog 59 [.rs 3 (l.map cS), iv lies] [] (.sl 1005 0 (tsK l lies (256)).length) [(1005, .cells 111 3 ((tsK l lies (256)).map cT) true)] false := by
  have hcell : ∀ r ∈ l, r.cell.toNat < 16 := fun r hr => by have := hr0 r hr; omega
  refine fc_run (nt := 64) Try.func59 rfl rfl mcOk59 (Nat.le_of_ble_eq_true rfl) ?_
  delta mc59
  refine aw_seq ?_
  refine aw_reg ?_
  refine rs_mv rfl rfl ?_
  refine rs_nil fun _ => ?_
  refine th_n ?_
  refine aw_seq ?_
  refine aw_reg ?_
  refine rs_mv rfl rfl ?_
  refine rs_nil fun _ => ?_
  refine th_n ?_
  refine aw_seq ?_
  refine aw_seq ?_
  refine aw_reg ?_
  refine rs_mv rfl rfl ?_
  refine rs_nil fun _ => ?_
  refine th_n ?_
  refine aw_block ?_
  refine aw_fam (α := Nat) (fun k => 256 - k) (fun k => [(0, .rs 3 (l.map cS)), (1, iv lies), (5, .sl 1005 0 (tsK l lies (k)).length), (10, .int .u64 ((k : Nat) : Int))]) (fun k => [(1005, .cells 111 3 ((tsK l lies (k)).map cT) true)]) (fun k => k ≤ 256) 0 (by omega)
    (weak_to (.cons rfl (rc_same rfl (.inl rfl)) (.cons rfl (rc_same rfl (.inl rfl)) (.cons rfl (rc_virt rfl rfl) (.cons rfl (rc_same rfl (.inl rfl)) (.nil))))) (.virt rfl (.nil)) (fun i h => by cases h)) ?_
  intro k hk
  refine aw_seq ?_
  refine aw_reg ?_
  refine rs_lss rfl rfl rfl ?_
  refine rs_nil fun _ => ?_
  refine th_n ?_
  refine aw_seq ?_
  refine aw_cond rfl (fun h11 => ?_) (fun h11 => ?_)
  · first | replace h11 := of_decide_eq_true h11 | skip
    refine aw_skip ?_
    refine th_n ?_
    refine aw_seq ?_
    refine aw_block ?_
    refine aw_seq ?_
    refine aw_reg ?_
    refine rs_mv rfl rfl ?_
    refine rs_mv rfl rfl ?_
    refine rs_nil fun _ => ?_
    refine th_n ?_
    refine aw_seq ?_
    refine aw_seq ?_
    refine aw_reg ?_
    refine rs_mv rfl rfl ?_
    have hle := tsK_len l lies k
    have hsz := sizeS_le k 8
    refine rs_calln [] rfl rfl (fc66' k (by omega)) (.cons (hv_same rfl) (.nil)) rfl ?_
    refine rs_mv rfl rfl ?_
    refine rs_gtr rfl rfl rfl ?_
    refine rs_nil fun _ => ?_
    refine th_n ?_
    refine aw_cond rfl (fun h16 => ?_) (fun h16 => ?_)
    · first | replace h16 := of_decide_eq_true h16 | skip
      refine aw_exit ?_
      refine th_e ?_
      refine in_hit ?_
      refine th_n ?_
      refine aw_reg ?_
      first | refine rs_add rfl rfl rfl (by omega) ?_ | refine rs_addw rfl rfl rfl rfl ?_
      refine rs_mv rfl rfl ?_
      refine rs_nil fun _ => ?_
      refine th_n ?_
      first
        | (have hs := tsK_f (l := l) (lies := lies) (k := k) (by unfold exI; rw [decide_eq_false (by omega)]; rfl); exact ⟨k + 1, by omega, by omega, weak_to (.cons rfl (rc_same rfl (.inl rfl)) (.cons rfl (rc_same rfl (.inl rfl)) (.cons rfl (rc_eq (by rw [hs]) rfl) (.cons rfl (rc_int (by rw [IntKind.wrap_u64]; omega)) (.nil))))) (.keep ((by (rw [hs]) <;> rfl)) rfl (.nil)) (fun i h => by cases h)⟩)
        | (have hs := tsK_f (l := l) (lies := lies) (k := k) (by unfold exI; rw [decide_eq_false hcl, Bool.and_false]); exact ⟨k + 1, by omega, by omega, weak_to (.cons rfl (rc_same rfl (.inl rfl)) (.cons rfl (rc_same rfl (.inl rfl)) (.cons rfl (rc_eq (by rw [hs]) rfl) (.cons rfl (rc_int (by rw [IntKind.wrap_u64]; omega)) (.nil))))) (.keep ((by (rw [hs]) <;> rfl)) rfl (.nil)) (fun i h => by cases h)⟩)
        | (have hs := tsK_t (l := l) (lies := lies) (k := k) (by unfold exI; rw [decide_eq_true (by omega), decide_eq_true hcl]; rfl); exact ⟨k + 1, by omega, by omega, weak_to_ren (i := 61) (i' := 1005) (F1 := [(0, .rs 3 (l.map cS)), (1, iv lies), (5, .sl 61 0 (tsK l lies (k + 1)).length), (10, .int .u64 ((k + 1 : Nat) : Int))]) (H1 := [(61, .cells 111 3 ((tsK l lies (k + 1)).map cT) true)]) (.cons rfl (rc_same rfl (.inl rfl)) (.cons rfl (rc_same rfl (.inl rfl)) (.cons rfl (rc_eq (by rw [hs]; simp) rfl) (.cons rfl (rc_int (by rw [IntKind.wrap_u64]; omega)) (.nil))))) (.keep ((by (rw [hs]) <;> rfl)) rfl (.nil)) (fun i h => by cases h) rfl rfl (.cons rfl (.same _) (.cons rfl (.same _) (.cons rfl (.sl _ _) (.cons rfl (.same _) (.nil))))) (.cons rfl (rc_same rfl (.inl rfl)) (.cons rfl (rc_same rfl (.inl rfl)) (.cons rfl (rc_same rfl (.inl rfl)) (.cons rfl (rc_same rfl (.inl rfl)) (.nil))))) (.keep (rfl) rfl (.nil)) (fun i h => by cases h)⟩)
    · first | replace h16 := of_decide_eq_false h16 | skip
      refine aw_skip ?_
      refine th_n ?_
      refine aw_seq ?_
      refine aw_reg ?_
      refine rs_mv rfl rfl ?_
      refine rs_build rfl rfl ?_
      refine rs_alloc rfl rfl rfl ?_
      refine rs_st (els' := [[.int .u64 0, .int .u64 0, .int .u64 ((k : Nat) : Int)]]) rfl rfl rfl rfl rfl rfl rfl (Nat.le_of_ble_eq_true rfl) rfl rfl ?_
      refine rs_nil fun _ => ?_
      refine th_n ?_
      refine aw_seq ?_
      refine aw_seq ?_
      refine aw_reg ?_
      refine rs_mv rfl rfl ?_
      first | refine rs_len_m rfl rfl ?_ | refine rs_len_s rfl rfl ?_ | refine rs_len_n rfl rfl ?_ | refine rs_len_r rfl rfl rfl ?_
      refine rs_mv rfl rfl ?_
      refine rs_nil fun _ => ?_
      refine th_n ?_
      refine aw_block ?_
      refine aw_fam (α := Nat) (fun j => l.length - j) (fun j => [(0, .rs 3 (l.map cS)), (1, iv lies), (5, .sl 1005 0 (tsK l lies (k)).length), (10, .int .u64 ((k : Nat) : Int)), (6, .int .u64 ((k : Nat) : Int)), (7, .ptr 7 0 0), (19, .rs 3 (l.map cS)), (20, iv (l.length : Int)), (21, iv (((j) : Nat) : Int))]) (fun j => [(1005, .cells 111 3 ((tsK l lies (k)).map cT) true), (7, .cells 111 3 [[.int .u64 ((thK l k (j) : Nat) : Int), .int .u64 ((goK l k (j) : Nat) : Int), .int .u64 ((k : Nat) : Int)]] true)]) (fun j => j ≤ l.length) 0 (by omega)
        (weak_to (.cons rfl (rc_same rfl (.inl rfl)) (.cons rfl (rc_same rfl (.inl rfl)) (.cons rfl (rc_same rfl (.inl rfl)) (.cons rfl (rc_same rfl (.inl rfl)) (.cons rfl (rc_same rfl (.inl rfl)) (.cons rfl (rc_same rfl (.inl rfl)) (.cons rfl (rc_same rfl (.inl rfl)) (.cons rfl (rc_same rfl (.inl rfl)) (.cons rfl (rc_same rfl (.inl rfl)) (.nil)))))))))) (.keep (rfl) rfl (.keep (rfl) rfl (.nil))) (fun i h => by cases h)) ?_
      intro j hj
      refine aw_seq ?_
      refine aw_reg ?_
      refine rs_lss rfl rfl rfl ?_
      refine rs_nil fun _ => ?_
      refine th_n ?_
      refine aw_seq ?_
      refine aw_cond rfl (fun h22 => ?_) (fun h22 => ?_)
      · first | replace h22 := of_decide_eq_true h22 | skip
        refine aw_skip ?_
        refine th_n ?_
        refine aw_seq ?_
        refine aw_block ?_
        refine aw_seq ?_
        refine aw_reg ?_
        obtain ⟨r, hr, hrm⟩ := at_some (L := l) (k := j) (by omega)
        have hrr := hr0 r hrm
        have hpw : 2 ^ r.cell.toNat < 65536 := (show 2 ^ r.cell.toNat < 2 ^ 16 from Nat.pow_lt_pow_right (by decide) (hcell r hrm))
        have ht5 := thK_lt hcell k j
        have hg5 := goK_lt hcell k j
        refine rs_ix_g rfl rfl rfl (by omega) hr ?_
        first | refine rs_ld_pa rfl rfl rfl rfl (Nat.le_of_ble_eq_true rfl) rfl ?_ | refine rs_ld_ra rfl rfl (Nat.le_of_ble_eq_true rfl) rfl ?_ | refine rs_ld_ma rfl rfl rfl (by omega) (Nat.le_of_ble_eq_true rfl) rfl ?_
        refine rs_alloc rfl rfl rfl ?_
        refine rs_st (els' := [cS r]) rfl rfl rfl rfl rfl rfl rfl (Nat.le_of_ble_eq_true rfl) rfl rfl ?_
        refine rs_nil fun _ => ?_
        refine th_n ?_
        refine aw_block ?_
        refine aw_seq ?_
        refine aw_reg ?_
        refine rs_mv rfl rfl ?_
        first | refine rs_fa_p rfl rfl ?_ | refine rs_fa_r rfl rfl rfl ?_
        first | refine rs_ld_r rfl rfl rfl ?_ | refine rs_ld_p rfl rfl rfl rfl rfl ?_ | refine rs_ld_m rfl rfl rfl (by omega) rfl ?_
        refine rs_shr rfl rfl rfl (by omega) rfl ?_
        refine rs_and rfl rfl rfl rfl ?_
        refine rs_eql rfl rfl rfl ?_
        rw [has_bits_w1 k (by omega) _ hrr.1 hrr.2.1]
        refine rs_mv rfl rfl ?_
        refine rs_nil fun _ => ?_
        refine th_n ?_
        refine aw_cond rfl (fun h34 => ?_) (fun h34 => ?_)
        · first | replace h34 := of_decide_eq_true h34 | skip
          refine aw_skip ?_
          refine in_n ?_
          refine in_n ?_
          refine th_n ?_
          refine aw_reg ?_
          first | refine rs_add rfl rfl rfl (by omega) ?_ | refine rs_addw rfl rfl rfl rfl ?_
          refine rs_mv rfl rfl ?_
          refine rs_nil fun _ => ?_
          refine th_n ?_
          first
            | (have hq1 : thK l k (j + 1) = (thK l k j) := (by rw [thK_succ hr, thS, if_pos h34]); have hq2 : goK l k (j + 1) = (goK l k j) := (by rw [goK_succ hr, goS, if_pos h34]); exact ⟨j + 1, by omega, by omega, weak_to (.cons rfl (rc_same rfl (.inl rfl)) (.cons rfl (rc_same rfl (.inl rfl)) (.cons rfl (rc_same rfl (.inl rfl)) (.cons rfl (rc_same rfl (.inl rfl)) (.cons rfl (rc_same rfl (.inl rfl)) (.cons rfl (rc_same rfl (.inl rfl)) (.cons rfl (rc_same rfl (.inl rfl)) (.cons rfl (rc_same rfl (.inl rfl)) (.cons rfl (rc_same rfl (.inl rfl)) (.nil)))))))))) (.keep (rfl) rfl (.keep ((by rw [hq1, hq2]; rfl)) rfl (.nil))) (fun i h => by cases h)⟩)
            | (have hq1 : thK l k (j + 1) = (thK l k j) ||| 2 ^ r.cell.toNat := (by rw [thK_succ hr, thS, if_neg (by rw [h34]; decide), if_pos h41]); have hq2 : goK l k (j + 1) = (goK l k j) := (by rw [goK_succ hr, goS, if_neg (by rw [h34]; decide), if_pos h41]); exact ⟨j + 1, by omega, by omega, weak_to (.cons rfl (rc_same rfl (.inl rfl)) (.cons rfl (rc_same rfl (.inl rfl)) (.cons rfl (rc_same rfl (.inl rfl)) (.cons rfl (rc_same rfl (.inl rfl)) (.cons rfl (rc_same rfl (.inl rfl)) (.cons rfl (rc_same rfl (.inl rfl)) (.cons rfl (rc_same rfl (.inl rfl)) (.cons rfl (rc_same rfl (.inl rfl)) (.cons rfl (rc_same rfl (.inl rfl)) (.nil)))))))))) (.keep (rfl) rfl (.keep ((by rw [hq1, hq2]; rfl)) rfl (.nil))) (fun i h => by cases h)⟩)
            | (have hq1 : thK l k (j + 1) = (thK l k j) := (by rw [thK_succ hr, thS, if_neg (by rw [h34]; decide), if_neg (by rw [h41]; decide)]); have hq2 : goK l k (j + 1) = (goK l k j) ||| 2 ^ r.cell.toNat := (by rw [goK_succ hr, goS, if_neg (by rw [h34]; decide), if_neg (by rw [h41]; decide)]); exact ⟨j + 1, by omega, by omega, weak_to (.cons rfl (rc_same rfl (.inl rfl)) (.cons rfl (rc_same rfl (.inl rfl)) (.cons rfl (rc_same rfl (.inl rfl)) (.cons rfl (rc_same rfl (.inl rfl)) (.cons rfl (rc_same rfl (.inl rfl)) (.cons rfl (rc_same rfl (.inl rfl)) (.cons rfl (rc_same rfl (.inl rfl)) (.cons rfl (rc_same rfl (.inl rfl)) (.cons rfl (rc_same rfl (.inl rfl)) (.nil)))))))))) (.keep (rfl) rfl (.keep ((by rw [hq1, hq2]; rfl)) rfl (.nil))) (fun i h => by cases h)⟩)
        · first | replace h34 := of_decide_eq_false h34 | skip
          refine aw_seq ?_
          refine aw_reg ?_
          first | refine rs_fa_p rfl rfl ?_ | refine rs_fa_r rfl rfl rfl ?_
          first | refine rs_ld_r rfl rfl rfl ?_ | refine rs_ld_p rfl rfl rfl rfl rfl ?_ | refine rs_ld_m rfl rfl rfl (by omega) rfl ?_
          refine rs_mv rfl rfl ?_
          refine rs_nil fun _ => ?_
          refine th_n ?_
          refine aw_cond rfl (fun h41 => ?_) (fun h41 => ?_)
          · first | replace h41 := of_decide_eq_true h41 | skip
            refine aw_draw hmix ?_
            first | refine rs_fa_p rfl rfl ?_ | refine rs_fa_r rfl rfl rfl ?_
            first | refine rs_fa_p rfl rfl ?_ | refine rs_fa_r rfl rfl rfl ?_
            first | refine rs_ld_r rfl rfl rfl ?_ | refine rs_ld_p rfl rfl rfl rfl rfl ?_ | refine rs_ld_m rfl rfl rfl (by omega) rfl ?_
            first | refine rs_fa_p rfl rfl ?_ | refine rs_fa_r rfl rfl rfl ?_
            first | refine rs_ld_r rfl rfl rfl ?_ | refine rs_ld_p rfl rfl rfl rfl rfl ?_ | refine rs_ld_m rfl rfl rfl (by omega) rfl ?_
            refine rs_shl rfl rfl rfl (by omega) (shl_u64' _ (by omega) (by omega)) ?_
            refine rs_or rfl rfl rfl (u64_or_nat _ _ (by omega) (by omega)) ?_
            first | refine rs_fa_p rfl rfl ?_ | refine rs_fa_r rfl rfl rfl ?_
            first | refine rs_fa_p rfl rfl ?_ | refine rs_fa_r rfl rfl rfl ?_
            refine rs_st (els' := [[.int .u64 (((thK l k j) ||| 2 ^ r.cell.toNat : Nat) : Int), .int .u64 (((goK l k j) : Nat) : Int), .int .u64 ((k : Nat) : Int)]]) rfl rfl rfl rfl rfl rfl rfl (Nat.le_of_ble_eq_true rfl) rfl rfl ?_
            refine rs_nil ⟨by kernel_rfl, fun _ => ?_⟩
            refine in_n ?_
            refine in_n ?_
            refine th_n ?_
            refine aw_reg ?_
            first | refine rs_add rfl rfl rfl (by omega) ?_ | refine rs_addw rfl rfl rfl rfl ?_
            refine rs_mv rfl rfl ?_
            refine rs_nil fun _ => ?_
            refine th_n ?_
            first
              | (have hq1 : thK l k (j + 1) = (thK l k j) := (by rw [thK_succ hr, thS, if_pos h34]); have hq2 : goK l k (j + 1) = (goK l k j) := (by rw [goK_succ hr, goS, if_pos h34]); exact ⟨j + 1, by omega, by omega, weak_to (.cons rfl (rc_same rfl (.inl rfl)) (.cons rfl (rc_same rfl (.inl rfl)) (.cons rfl (rc_same rfl (.inl rfl)) (.cons rfl (rc_same rfl (.inl rfl)) (.cons rfl (rc_same rfl (.inl rfl)) (.cons rfl (rc_same rfl (.inl rfl)) (.cons rfl (rc_same rfl (.inl rfl)) (.cons rfl (rc_same rfl (.inl rfl)) (.cons rfl (rc_same rfl (.inl rfl)) (.nil)))))))))) (.keep (rfl) rfl (.keep ((by rw [hq1, hq2]; rfl)) rfl (.nil))) (fun i h => by cases h)⟩)
              | (have hq1 : thK l k (j + 1) = (thK l k j) ||| 2 ^ r.cell.toNat := (by rw [thK_succ hr, thS, if_neg (by rw [h34]; decide), if_pos h41]); have hq2 : goK l k (j + 1) = (goK l k j) := (by rw [goK_succ hr, goS, if_neg (by rw [h34]; decide), if_pos h41]); exact ⟨j + 1, by omega, by omega, weak_to (.cons rfl (rc_same rfl (.inl rfl)) (.cons rfl (rc_same rfl (.inl rfl)) (.cons rfl (rc_same rfl (.inl rfl)) (.cons rfl (rc_same rfl (.inl rfl)) (.cons rfl (rc_same rfl (.inl rfl)) (.cons rfl (rc_same rfl (.inl rfl)) (.cons rfl (rc_same rfl (.inl rfl)) (.cons rfl (rc_same rfl (.inl rfl)) (.cons rfl (rc_same rfl (.inl rfl)) (.nil)))))))))) (.keep (rfl) rfl (.keep ((by rw [hq1, hq2]; rfl)) rfl (.nil))) (fun i h => by cases h)⟩)
              | (have hq1 : thK l k (j + 1) = (thK l k j) := (by rw [thK_succ hr, thS, if_neg (by rw [h34]; decide), if_neg (by rw [h41]; decide)]); have hq2 : goK l k (j + 1) = (goK l k j) ||| 2 ^ r.cell.toNat := (by rw [goK_succ hr, goS, if_neg (by rw [h34]; decide), if_neg (by rw [h41]; decide)]); exact ⟨j + 1, by omega, by omega, weak_to (.cons rfl (rc_same rfl (.inl rfl)) (.cons rfl (rc_same rfl (.inl rfl)) (.cons rfl (rc_same rfl (.inl rfl)) (.cons rfl (rc_same rfl (.inl rfl)) (.cons rfl (rc_same rfl (.inl rfl)) (.cons rfl (rc_same rfl (.inl rfl)) (.cons rfl (rc_same rfl (.inl rfl)) (.cons rfl (rc_same rfl (.inl rfl)) (.cons rfl (rc_same rfl (.inl rfl)) (.nil)))))))))) (.keep (rfl) rfl (.keep ((by rw [hq1, hq2]; rfl)) rfl (.nil))) (fun i h => by cases h)⟩)
          · first | replace h41 := of_decide_eq_false h41 | skip
            refine aw_draw hmix ?_
            first | refine rs_fa_p rfl rfl ?_ | refine rs_fa_r rfl rfl rfl ?_
            first | refine rs_fa_p rfl rfl ?_ | refine rs_fa_r rfl rfl rfl ?_
            first | refine rs_ld_r rfl rfl rfl ?_ | refine rs_ld_p rfl rfl rfl rfl rfl ?_ | refine rs_ld_m rfl rfl rfl (by omega) rfl ?_
            first | refine rs_fa_p rfl rfl ?_ | refine rs_fa_r rfl rfl rfl ?_
            first | refine rs_ld_r rfl rfl rfl ?_ | refine rs_ld_p rfl rfl rfl rfl rfl ?_ | refine rs_ld_m rfl rfl rfl (by omega) rfl ?_
            refine rs_shl rfl rfl rfl (by omega) (shl_u64' _ (by omega) (by omega)) ?_
            refine rs_or rfl rfl rfl (u64_or_nat _ _ (by omega) (by omega)) ?_
            first | refine rs_fa_p rfl rfl ?_ | refine rs_fa_r rfl rfl rfl ?_
            first | refine rs_fa_p rfl rfl ?_ | refine rs_fa_r rfl rfl rfl ?_
            refine rs_st (els' := [[.int .u64 (((thK l k j) : Nat) : Int), .int .u64 (((goK l k j) ||| 2 ^ r.cell.toNat : Nat) : Int), .int .u64 ((k : Nat) : Int)]]) rfl rfl rfl rfl rfl rfl rfl (Nat.le_of_ble_eq_true rfl) rfl rfl ?_
            refine rs_nil ⟨by kernel_rfl, fun _ => ?_⟩
            refine in_n ?_
            refine in_n ?_
            refine th_n ?_
            refine aw_reg ?_
            first | refine rs_add rfl rfl rfl (by omega) ?_ | refine rs_addw rfl rfl rfl rfl ?_
            refine rs_mv rfl rfl ?_
            refine rs_nil fun _ => ?_
            refine th_n ?_
            first
              | (have hq1 : thK l k (j + 1) = (thK l k j) := (by rw [thK_succ hr, thS, if_pos h34]); have hq2 : goK l k (j + 1) = (goK l k j) := (by rw [goK_succ hr, goS, if_pos h34]); exact ⟨j + 1, by omega, by omega, weak_to (.cons rfl (rc_same rfl (.inl rfl)) (.cons rfl (rc_same rfl (.inl rfl)) (.cons rfl (rc_same rfl (.inl rfl)) (.cons rfl (rc_same rfl (.inl rfl)) (.cons rfl (rc_same rfl (.inl rfl)) (.cons rfl (rc_same rfl (.inl rfl)) (.cons rfl (rc_same rfl (.inl rfl)) (.cons rfl (rc_same rfl (.inl rfl)) (.cons rfl (rc_same rfl (.inl rfl)) (.nil)))))))))) (.keep (rfl) rfl (.keep ((by rw [hq1, hq2]; rfl)) rfl (.nil))) (fun i h => by cases h)⟩)
              | (have hq1 : thK l k (j + 1) = (thK l k j) ||| 2 ^ r.cell.toNat := (by rw [thK_succ hr, thS, if_neg (by rw [h34]; decide), if_pos h41]); have hq2 : goK l k (j + 1) = (goK l k j) := (by rw [goK_succ hr, goS, if_neg (by rw [h34]; decide), if_pos h41]); exact ⟨j + 1, by omega, by omega, weak_to (.cons rfl (rc_same rfl (.inl rfl)) (.cons rfl (rc_same rfl (.inl rfl)) (.cons rfl (rc_same rfl (.inl rfl)) (.cons rfl (rc_same rfl (.inl rfl)) (.cons rfl (rc_same rfl (.inl rfl)) (.cons rfl (rc_same rfl (.inl rfl)) (.cons rfl (rc_same rfl (.inl rfl)) (.cons rfl (rc_same rfl (.inl rfl)) (.cons rfl (rc_same rfl (.inl rfl)) (.nil)))))))))) (.keep (rfl) rfl (.keep ((by rw [hq1, hq2]; rfl)) rfl (.nil))) (fun i h => by cases h)⟩)
              | (have hq1 : thK l k (j + 1) = (thK l k j) := (by rw [thK_succ hr, thS, if_neg (by rw [h34]; decide), if_neg (by rw [h41]; decide)]); have hq2 : goK l k (j + 1) = (goK l k j) ||| 2 ^ r.cell.toNat := (by rw [goK_succ hr, goS, if_neg (by rw [h34]; decide), if_neg (by rw [h41]; decide)]); exact ⟨j + 1, by omega, by omega, weak_to (.cons rfl (rc_same rfl (.inl rfl)) (.cons rfl (rc_same rfl (.inl rfl)) (.cons rfl (rc_same rfl (.inl rfl)) (.cons rfl (rc_same rfl (.inl rfl)) (.cons rfl (rc_same rfl (.inl rfl)) (.cons rfl (rc_same rfl (.inl rfl)) (.cons rfl (rc_same rfl (.inl rfl)) (.cons rfl (rc_same rfl (.inl rfl)) (.cons rfl (rc_same rfl (.inl rfl)) (.nil)))))))))) (.keep (rfl) rfl (.keep ((by rw [hq1, hq2]; rfl)) rfl (.nil))) (fun i h => by cases h)⟩)
      · first | replace h22 := of_decide_eq_false h22 | skip
        refine aw_exit ?_
        refine th_e ?_
        refine th_e ?_
        refine in_hit ?_
        refine th_n ?_
        refine aw_seq ?_
        obtain rfl : j = l.length := by omega
        have hth := thM_lt hcell k
        have hgo := goM_lt hcell k
        rw [thK_all, goK_all]
        refine aw_reg ?_
        first | refine rs_fa_p rfl rfl ?_ | refine rs_fa_r rfl rfl rfl ?_
        first | refine rs_ld_pa rfl rfl rfl rfl (Nat.le_of_ble_eq_true rfl) rfl ?_ | refine rs_ld_ra rfl rfl (Nat.le_of_ble_eq_true rfl) rfl ?_ | refine rs_ld_ma rfl rfl rfl (by omega) (Nat.le_of_ble_eq_true rfl) rfl ?_
        refine rs_calln [] rfl rfl (fc65 (thM l k) (goM l k) (by omega) (by omega)) (.cons (hv_same rfl) (.nil)) rfl ?_
        refine rs_not rfl rfl ?_
        refine rs_nil fun _ => ?_
        refine th_n ?_
        refine aw_cond rfl (fun h57 => ?_) (fun h57 => ?_)
        · first | replace h57 := of_decide_eq_true h57 | skip
          have hcl : thM l k &&& goM l k = 0 := by simpa using h57
          refine aw_reg ?_
          refine rs_mv rfl rfl ?_
          first | refine rs_ld_pa rfl rfl rfl rfl (Nat.le_of_ble_eq_true rfl) rfl ?_ | refine rs_ld_ra rfl rfl (Nat.le_of_ble_eq_true rfl) rfl ?_ | refine rs_ld_ma rfl rfl rfl (by omega) (Nat.le_of_ble_eq_true rfl) rfl ?_
          refine rs_bslice rfl rfl rfl rfl rfl rfl ?_
          refine rs_app_m (y := mkT l k) (rd := [60]) rfl rfl rfl rfl rfl rfl rfl rfl (by simp) rfl (by omega) (by omega) rfl ?_
          refine rs_mv rfl rfl ?_
          refine rs_nil fun _ => ?_
          refine in_n ?_
          refine th_n ?_
          refine aw_reg ?_
          first | refine rs_add rfl rfl rfl (by omega) ?_ | refine rs_addw rfl rfl rfl rfl ?_
          refine rs_mv rfl rfl ?_
          refine rs_nil fun _ => ?_
          refine th_n ?_
          first
            | (have hs := tsK_f (l := l) (lies := lies) (k := k) (by unfold exI; rw [decide_eq_false (by omega)]; rfl); exact ⟨k + 1, by omega, by omega, weak_to (.cons rfl (rc_same rfl (.inl rfl)) (.cons rfl (rc_same rfl (.inl rfl)) (.cons rfl (rc_eq (by rw [hs]) rfl) (.cons rfl (rc_int (by rw [IntKind.wrap_u64]; omega)) (.nil))))) (.keep ((by (rw [hs]) <;> rfl)) rfl (.nil)) (fun i h => by cases h)⟩)
            | (have hs := tsK_f (l := l) (lies := lies) (k := k) (by unfold exI; rw [decide_eq_false hcl, Bool.and_false]); exact ⟨k + 1, by omega, by omega, weak_to (.cons rfl (rc_same rfl (.inl rfl)) (.cons rfl (rc_same rfl (.inl rfl)) (.cons rfl (rc_eq (by rw [hs]) rfl) (.cons rfl (rc_int (by rw [IntKind.wrap_u64]; omega)) (.nil))))) (.keep ((by (rw [hs]) <;> rfl)) rfl (.nil)) (fun i h => by cases h)⟩)
            | (have hs := tsK_t (l := l) (lies := lies) (k := k) (by unfold exI; rw [decide_eq_true (by omega), decide_eq_true hcl]; rfl); exact ⟨k + 1, by omega, by omega, weak_to_ren (i := 61) (i' := 1005) (F1 := [(0, .rs 3 (l.map cS)), (1, iv lies), (5, .sl 61 0 (tsK l lies (k + 1)).length), (10, .int .u64 ((k + 1 : Nat) : Int))]) (H1 := [(61, .cells 111 3 ((tsK l lies (k + 1)).map cT) true)]) (.cons rfl (rc_same rfl (.inl rfl)) (.cons rfl (rc_same rfl (.inl rfl)) (.cons rfl (rc_eq (by rw [hs]; simp) rfl) (.cons rfl (rc_int (by rw [IntKind.wrap_u64]; omega)) (.nil))))) (.keep ((by (rw [hs]) <;> rfl)) rfl (.nil)) (fun i h => by cases h) rfl rfl (.cons rfl (.same _) (.cons rfl (.same _) (.cons rfl (.sl _ _) (.cons rfl (.same _) (.nil))))) (.cons rfl (rc_same rfl (.inl rfl)) (.cons rfl (rc_same rfl (.inl rfl)) (.cons rfl (rc_same rfl (.inl rfl)) (.cons rfl (rc_same rfl (.inl rfl)) (.nil))))) (.keep (rfl) rfl (.nil)) (fun i h => by cases h)⟩)
        · first | replace h57 := of_decide_eq_false h57 | skip
          have hcl : ¬ (thM l k &&& goM l k = 0) := by simpa using h57
          refine aw_skip ?_
          refine in_n ?_
          refine th_n ?_
          refine aw_reg ?_
          first | refine rs_add rfl rfl rfl (by omega) ?_ | refine rs_addw rfl rfl rfl rfl ?_
          refine rs_mv rfl rfl ?_
          refine rs_nil fun _ => ?_
          refine th_n ?_
          first
            | (have hs := tsK_f (l := l) (lies := lies) (k := k) (by unfold exI; rw [decide_eq_false (by omega)]; rfl); exact ⟨k + 1, by omega, by omega, weak_to (.cons rfl (rc_same rfl (.inl rfl)) (.cons rfl (rc_same rfl (.inl rfl)) (.cons rfl (rc_eq (by rw [hs]) rfl) (.cons rfl (rc_int (by rw [IntKind.wrap_u64]; omega)) (.nil))))) (.keep ((by (rw [hs]) <;> rfl)) rfl (.nil)) (fun i h => by cases h)⟩)
            | (have hs := tsK_f (l := l) (lies := lies) (k := k) (by unfold exI; rw [decide_eq_false hcl, Bool.and_false]); exact ⟨k + 1, by omega, by omega, weak_to (.cons rfl (rc_same rfl (.inl rfl)) (.cons rfl (rc_same rfl (.inl rfl)) (.cons rfl (rc_eq (by rw [hs]) rfl) (.cons rfl (rc_int (by rw [IntKind.wrap_u64]; omega)) (.nil))))) (.keep ((by (rw [hs]) <;> rfl)) rfl (.nil)) (fun i h => by cases h)⟩)
            | (have hs := tsK_t (l := l) (lies := lies) (k := k) (by unfold exI; rw [decide_eq_true (by omega), decide_eq_true hcl]; rfl); exact ⟨k + 1, by omega, by omega, weak_to_ren (i := 61) (i' := 1005) (F1 := [(0, .rs 3 (l.map cS)), (1, iv lies), (5, .sl 61 0 (tsK l lies (k + 1)).length), (10, .int .u64 ((k + 1 : Nat) : Int))]) (H1 := [(61, .cells 111 3 ((tsK l lies (k + 1)).map cT) true)]) (.cons rfl (rc_same rfl (.inl rfl)) (.cons rfl (rc_same rfl (.inl rfl)) (.cons rfl (rc_eq (by rw [hs]; simp) rfl) (.cons rfl (rc_int (by rw [IntKind.wrap_u64]; omega)) (.nil))))) (.keep ((by (rw [hs]) <;> rfl)) rfl (.nil)) (fun i h => by cases h) rfl rfl (.cons rfl (.same _) (.cons rfl (.same _) (.cons rfl (.sl _ _) (.cons rfl (.same _) (.nil))))) (.cons rfl (rc_same rfl (.inl rfl)) (.cons rfl (rc_same rfl (.inl rfl)) (.cons rfl (rc_same rfl (.inl rfl)) (.cons rfl (rc_same rfl (.inl rfl)) (.nil))))) (.keep (rfl) rfl (.nil)) (fun i h => by cases h)⟩)
  · first | replace h11 := of_decide_eq_false h11 | skip
    refine aw_exit ?_
    refine th_e ?_
    refine th_e ?_
    refine in_hit ?_
    refine th_n ?_
    refine aw_seq ?_
    refine aw_reg ?_
    refine rs_mv rfl rfl ?_
    refine rs_mv rfl rfl ?_
    refine rs_nil fun _ => ?_
    refine th_n ?_
    refine aw_ret ?_
    obtain rfl : k = 256 := by omega
    exact ret_new rfl (rc_same rfl (.inr rfl)) (.keep rfl rfl (noROE_map (fun _ => rfl) _) .nil)

theorem fz59 (l : List Sg) (lies : Int) (hl : l.length ≤ 1000000) (hr0 : ∀ r ∈ l, 0 ≤ r.gauge ∧ r.gauge < 8 ∧ 0 ≤ r.cell ∧ r.cell < 16) : FC Try.prog 59 [.rs 3 (l.map cS), iv lies] [] (.rs 3 ((tsK l lies 256).map cT)) [] false :=
  fc_frozen (fc59 l lies hl hr0) (rc_frz rfl rfl rfl (fun _ => rfl))
/-- The cells while they are filled. -/
def rowW (w : T3) (n k : Nat) : List Int := (List.range n).map fun i => if i < k then cellF w i else 0
theorem rowW_0 (w : T3) (n : Nat) : (rowW w n 0).map ci = List.replicate n [AV.int .i64 0] := by
  apply List.ext_getElem (by simp [rowW])
  intro i h1 h2
  simp [rowW]
theorem rowW_set (w : T3) (n k : Nat) : (rowW w n k).set k (cellF w k) = rowW w n (k + 1) := by
  apply List.ext_getElem (by simp [rowW])
  intro i h1 h2
  rw [List.getElem_set]
  split
  · rename_i e; subst e; simp [rowW]
  · rename_i e
    simp only [rowW, List.getElem_map, List.getElem_range]
    by_cases h : i < k
    · rw [if_pos h, if_pos (by omega)]
    · rw [if_neg h, if_neg (by omega)]
theorem rowW_n (w : T3) (n : Nat) : rowW w n n = cellW w n := by
  unfold rowW cellW
  exact List.map_congr_left fun i hi => if_pos (List.mem_range.1 hi)

def mc36 : MC := (.seq (.reg [⟨(some 6), (.mv (.c .nils)), none, []⟩, ⟨(some 7), (.mv (.c (.int .i64 0))), none, [0]⟩] false) (.seq (.seq (.reg [⟨(some 13), (.mv (.t 0)), none, []⟩, ⟨(some 14), (.mv (.t 1)), none, []⟩, ⟨(some 15), (.mv (.t 2)), none, []⟩, ⟨(some 16), (.call 34 [(.t 13), (.t 14), (.t 15)]), none, [0, 1, 2]⟩, ⟨(some 8), (.mv (.t 16)), none, [3, 3, 0, 1, 2, 3]⟩] false) (.seq (.reg [⟨(some 17), (.mv (.t 8)), none, []⟩, ⟨(some 18), (.bin .neq (.t 17) (.c (.int .i64 0))), none, [0]⟩] false) (.cond (.t 18) (.seq (.reg [⟨(some 19), (.mv (.t 8)), none, []⟩, ⟨(some 6), (.mv (.c .nils)), none, []⟩, ⟨(some 7), (.mv (.t 19)), none, [0, 1, 0, 1]⟩] false) .ret) .skip))) (.seq (.reg [⟨(some 20), (.mv (.t 0)), none, []⟩, ⟨(some 21), (.mv (.t 2)), none, []⟩, ⟨(some 22), (.call 59 [(.t 20), (.t 21)]), none, [0, 1]⟩, ⟨(some 9), (.mv (.t 22)), none, [2, 2, 0, 1, 2]⟩] false) (.seq (.seq (.reg [⟨(some 23), (.mv (.t 9)), none, []⟩, ⟨(some 24), (.len (.t 23)), none, [0]⟩, ⟨(some 25), (.bin .eql (.t 24) (.c (.int .i64 0))), none, [1]⟩] false) (.cond (.t 25) (.seq (.reg [⟨(some 6), (.mv (.c .nils)), none, []⟩, ⟨(some 7), (.mv (.c (.int .i64 21))), none, [0, 0]⟩] false) .ret) .skip)) (.seq (.reg [⟨(some 26), (.mv (.t 9)), none, []⟩, ⟨(some 27), (.call 60 [(.t 26)]), none, [0]⟩, ⟨(some 10), (.alloc 111 3 [(.int .u64 0), (.int .u64 0), (.int .u64 0)]), none, []⟩, ⟨none, (.st 3 (.t 10) (.t 27)), none, [2, 1, 1, 0, 1, 2]⟩] false) (.seq (.reg [⟨(some 28), (.mv (.t 1)), none, []⟩, ⟨(some 29), (.mksl 3 1 8 [(.int .i64 0)] (.t 28) (.t 28)), none, [0, 0]⟩, ⟨(some 11), (.mv (.t 29)), none, [1, 0, 1]⟩] false) (.seq (.seq (.reg [⟨(some 30), (.mv (.t 1)), none, []⟩, ⟨(some 31), (.mv (.c (.int .i64 0))), none, []⟩] false) (.block 0 (.loop (.seq (.reg [⟨(some 32), (.bin .lss (.t 31) (.t 30)), none, []⟩] false) (.seq (.cond (.t 32) .skip (.exit 0)) (.seq (.block 1 (.seq (.reg [⟨(some 33), (.mv (.t 31)), none, []⟩, ⟨(some 12), (.mv (.t 33)), none, [0, 0]⟩] false) (.reg [⟨(some 34), (.mv (.t 11)), none, []⟩, ⟨(some 35), (.mv (.t 12)), none, []⟩, ⟨(some 36), (.fa 0 (.t 10)), none, []⟩, ⟨(some 37), (.ld true 2 (.t 36)), none, [2]⟩, ⟨(some 38), (.mv (.t 12)), none, []⟩, ⟨(some 39), (.call 61 [(.t 37), (.t 38)]), none, [3, 4]⟩, ⟨(some 40), (.ixsl 1 (.t 34) (.t 35)), none, [0, 1, 0, 1, 2, 3, 4, 5]⟩, ⟨none, (.st 1 (.t 40) (.t 39)), none, [6, 5, 5, 0, 1, 2, 3, 4, 5]⟩] false))) (.reg [⟨(some 41), (.bin .add (.t 31) (.c (.int .i64 1))), none, []⟩, ⟨(some 31), (.mv (.t 41)), none, [0]⟩] false))))))) (.seq (.reg [⟨(some 42), (.mv (.t 11)), none, []⟩, ⟨(some 6), (.mv (.t 42)), none, [0, 0]⟩, ⟨(some 7), (.mv (.c (.int .i64 0))), none, [1, 0, 1]⟩] false) .ret))))))))
theorem mcOk36 : (match Try.f36.body with | some c => compC Try.prog 43 c | none => none) = some mc36 := by kernel_rfl

theorem fc36 (l : List Sg) (cells lies : Int) (hl : l.length ≤ 1000000) : FC Try.prog 36 [.rs 3 (l.map cS), iv cells, iv lies] [] (.tup [ints (cellsL l cells lies), iv (cellsE l cells lies)]) [] false := by
  refine fc_run (nt := 43) Try.func36 rfl rfl mcOk36 (Nat.le_of_ble_eq_true rfl) ?_
  delta mc36
  refine aw_seq ?_
  refine aw_reg ?_
  refine rs_mv rfl rfl ?_
  refine rs_mv rfl rfl ?_
  refine rs_nil fun _ => ?_
  refine th_n ?_
  refine aw_seq ?_
  refine aw_seq ?_
  refine aw_reg ?_
  refine rs_mv rfl rfl ?_
  refine rs_mv rfl rfl ?_
  refine rs_mv rfl rfl ?_
  refine rs_calln [] rfl rfl (fc34 l cells lies hl) (.cons (hv_same rfl) (.cons (hv_same rfl) (.cons (hv_same rfl) (.nil)))) rfl ?_
  refine rs_mv rfl rfl ?_
  refine rs_nil fun _ => ?_
  refine th_n ?_
  refine aw_seq ?_
  refine aw_reg ?_
  refine rs_mv rfl rfl ?_
  refine rs_neq rfl rfl rfl ?_
  refine rs_nil fun _ => ?_
  refine th_n ?_
  refine aw_cond rfl (fun h18 => ?_) (fun h18 => ?_)
  · first | replace h18 := of_decide_eq_true h18 | skip
    refine aw_seq ?_
    refine aw_reg ?_
    refine rs_mv rfl rfl ?_
    refine rs_mv rfl rfl ?_
    refine rs_mv rfl rfl ?_
    refine rs_nil fun _ => ?_
    refine th_n ?_
    refine aw_ret ?_
    refine th_r ?_
    first
      | (obtain ⟨e1, e2, _⟩ := cells_1 h18
         rw [e1, e2]
         exact ret_new rfl (rc_tup (.cons rc_nils (.cons (rc_same rfl (.inr rfl)) .nil))) .nil)
      | (obtain ⟨e1, e2, _⟩ := cells_2 (l := l) (cells := cells) (lies := lies) (by omega) hts
         rw [e1, e2]
         exact ret_new rfl (rc_tup (.cons rc_nils (.cons (rc_same rfl (.inr rfl)) .nil))) .nil)
      | (obtain ⟨e1, e2, _⟩ := cells_3 h0 hts
         obtain rfl : k = cells.toNat := by omega
         rw [e1, e2, ← rowW_n]
         exact ret_new rfl (rc_tup (.cons (rc_frz rfl rfl (by simp [rowW]) (fun _ => rfl)) (.cons (rc_same rfl (.inr rfl)) .nil))) .nil)
  · first | replace h18 := of_decide_eq_false h18 | skip
    refine aw_skip ?_
    refine th_n ?_
    refine aw_seq ?_
    have h0 : checkI l cells lies = 0 := by omega
    have hok := checkI_ok.1 h0
    have hk1 := hok.c0
    have hk2 := hok.c16
    have hr0 : ∀ r ∈ l, 0 ≤ r.gauge ∧ r.gauge < 8 ∧ 0 ≤ r.cell ∧ r.cell < 16 := fun r hr => by have := hok.sg r hr; omega
    refine aw_reg ?_
    refine rs_mv rfl rfl ?_
    refine rs_mv rfl rfl ?_
    refine rs_calln [] rfl rfl (fz59 l lies hl hr0) (.cons (hv_same rfl) (.cons (hv_same rfl) (.nil))) rfl ?_
    refine rs_mv rfl rfl ?_
    refine rs_nil fun _ => ?_
    refine th_n ?_
    refine aw_seq ?_
    refine aw_seq ?_
    refine aw_reg ?_
    refine rs_mv rfl rfl ?_
    first | refine rs_len_m rfl rfl ?_ | refine rs_len_s rfl rfl ?_ | refine rs_len_n rfl rfl ?_ | refine rs_len_r rfl rfl rfl ?_
    refine rs_eql rfl rfl rfl ?_
    refine rs_nil fun _ => ?_
    refine th_n ?_
    refine aw_cond rfl (fun h25 => ?_) (fun h25 => ?_)
    · first | replace h25 := of_decide_eq_true h25 | skip
      have hts : tsK l lies 256 = [] := List.length_eq_zero_iff.1 (by omega)
      refine aw_seq ?_
      refine aw_reg ?_
      refine rs_mv rfl rfl ?_
      refine rs_mv rfl rfl ?_
      refine rs_nil fun _ => ?_
      refine th_n ?_
      refine aw_ret ?_
      refine th_r ?_
      first
        | (obtain ⟨e1, e2, _⟩ := cells_1 h18
           rw [e1, e2]
           exact ret_new rfl (rc_tup (.cons rc_nils (.cons (rc_same rfl (.inr rfl)) .nil))) .nil)
        | (obtain ⟨e1, e2, _⟩ := cells_2 (l := l) (cells := cells) (lies := lies) (by omega) hts
           rw [e1, e2]
           exact ret_new rfl (rc_tup (.cons rc_nils (.cons (rc_same rfl (.inr rfl)) .nil))) .nil)
        | (obtain ⟨e1, e2, _⟩ := cells_3 h0 hts
           obtain rfl : k = cells.toNat := by omega
           rw [e1, e2, ← rowW_n]
           exact ret_new rfl (rc_tup (.cons (rc_frz rfl rfl (by simp [rowW]) (fun _ => rfl)) (.cons (rc_same rfl (.inr rfl)) .nil))) .nil)
    · first | replace h25 := of_decide_eq_false h25 | skip
      have hts : tsK l lies 256 ≠ [] := fun e => (by rw [e] at h25; exact h25 rfl)
      have htb := fun t (ht : t ∈ tsK l lies 256) => ts_lt hok ht
      have hw1 := whole_lt (fun t => t.1) (fun _ _ => rfl) hts (fun t ht => (htb t ht).1)
      have hw2 := whole_lt (fun t => t.2.1) (fun _ _ => rfl) hts (fun t ht => (htb t ht).2.1)
      have hw3 := whole_lt (fun t => t.2.2) (fun _ _ => rfl) hts (fun t ht => (htb t ht).2.2)
      refine aw_skip ?_
      refine th_n ?_
      refine aw_seq ?_
      refine aw_reg ?_
      refine rs_mv rfl rfl ?_
      refine rs_calln [] rfl rfl (fc60 (tsK l lies 256) hts (by have := tsK_len l lies 256; omega) (fun t ht => (by have := htb t ht; omega))) (.cons (hv_same rfl) (.nil)) rfl ?_
      refine rs_alloc rfl rfl rfl ?_
      refine rs_st (els' := [cT (wholeT (tsK l lies 256))]) rfl rfl rfl rfl rfl rfl rfl (Nat.le_of_ble_eq_true rfl) rfl rfl ?_
      refine rs_nil fun _ => ?_
      refine th_n ?_
      refine aw_seq ?_
      refine aw_reg ?_
      refine rs_mv rfl rfl ?_
      refine rs_mksl rfl rfl rfl rfl rfl (by omega) (by omega) (by omega) ?_
      refine rs_mv rfl rfl ?_
      refine rs_nil fun _ => ?_
      refine th_n ?_
      refine aw_seq ?_
      refine aw_seq ?_
      refine aw_reg ?_
      refine rs_mv rfl rfl ?_
      refine rs_mv rfl rfl ?_
      refine rs_nil fun _ => ?_
      refine th_n ?_
      refine aw_block ?_
      refine aw_fam (α := Nat) (fun k => cells.toNat - k) (fun k => [(1, iv cells), (10, .ptr 10 0 0), (11, .sl 29 0 cells.toNat), (30, iv cells), (31, iv (((k) : Nat) : Int))]) (fun k => [(10, .cells 111 3 [cT (wholeT (tsK l lies 256))] true), (29, .cells 3 1 ((rowW (wholeT (tsK l lies 256)) cells.toNat (k)).map ci) true)]) (fun k => k ≤ cells.toNat) 0 (by omega)
        (weak_to (.cons rfl (rc_same rfl (.inl rfl)) (.cons rfl (rc_same rfl (.inl rfl)) (.cons rfl (rc_same rfl (.inl rfl)) (.cons rfl (rc_same rfl (.inl rfl)) (.cons rfl (rc_same rfl (.inl rfl)) (.nil)))))) (.keep (rfl) rfl (.keep ((by rw [rowW_0]; rfl)) rfl (.nil))) (fun i h => by cases h)) ?_
      intro k hk
      refine aw_seq ?_
      refine aw_reg ?_
      refine rs_lss rfl rfl rfl ?_
      refine rs_nil fun _ => ?_
      refine th_n ?_
      refine aw_seq ?_
      refine aw_cond rfl (fun h32 => ?_) (fun h32 => ?_)
      · first | replace h32 := of_decide_eq_true h32 | skip
        refine aw_skip ?_
        refine th_n ?_
        refine aw_seq ?_
        refine aw_block ?_
        refine aw_seq ?_
        refine aw_reg ?_
        refine rs_mv rfl rfl ?_
        refine rs_mv rfl rfl ?_
        refine rs_nil fun _ => ?_
        refine th_n ?_
        refine aw_reg ?_
        refine rs_mv rfl rfl ?_
        refine rs_mv rfl rfl ?_
        first | refine rs_fa_p rfl rfl ?_ | refine rs_fa_r rfl rfl rfl ?_
        refine rs_ld_pa (cs := [.int .u64 (((wholeT (tsK l lies 256)).1 : Nat) : Int), .int .u64 (((wholeT (tsK l lies 256)).2.1 : Nat) : Int)]) rfl rfl rfl rfl (Nat.le_of_ble_eq_true rfl) rfl ?_
        refine rs_mv rfl rfl ?_
        refine rs_calln [] rfl rfl (fc61 (wholeT (tsK l lies 256)).1 (wholeT (tsK l lies 256)).2.1 k (by omega) (by omega) (by omega)) (.cons (hv_same rfl) (.cons (hv_same rfl) (.nil))) rfl ?_
        refine rs_ix_sm (t := k) rfl rfl rfl rfl (by omega) ?_
        refine rs_st_m (v := cellF (wholeT (tsK l lies 256)) k) (fl' := true) rfl rfl rfl rfl (by simp [rowW]; omega) rfl rfl (Nat.le_of_ble_eq_true rfl) rfl rfl ?_
        refine rs_nil fun _ => ?_
        refine in_n ?_
        refine th_n ?_
        refine aw_reg ?_
        first | refine rs_add rfl rfl rfl (by omega) ?_ | refine rs_addw rfl rfl rfl rfl ?_
        refine rs_mv rfl rfl ?_
        refine rs_nil fun _ => ?_
        refine th_n ?_
        exact ⟨k + 1, by omega, by omega, weak_to (.cons rfl (rc_same rfl (.inl rfl)) (.cons rfl (rc_same rfl (.inl rfl)) (.cons rfl (rc_same rfl (.inl rfl)) (.cons rfl (rc_same rfl (.inl rfl)) (.cons rfl (rc_same rfl (.inl rfl)) (.nil)))))) (.keep (rfl) rfl (.keep ((by rw [← rowW_set]; rfl)) rfl (.nil))) (fun i h => by cases h)⟩
      · first | replace h32 := of_decide_eq_false h32 | skip
        refine aw_exit ?_
        refine th_e ?_
        refine th_e ?_
        refine in_hit ?_
        refine th_n ?_
        refine aw_seq ?_
        refine aw_reg ?_
        refine rs_mv rfl rfl ?_
        refine rs_mv rfl rfl ?_
        refine rs_mv rfl rfl ?_
        refine rs_nil fun _ => ?_
        refine th_n ?_
        refine aw_ret ?_
        first
          | (obtain ⟨e1, e2, _⟩ := cells_1 h18
             rw [e1, e2]
             exact ret_new rfl (rc_tup (.cons rc_nils (.cons (rc_same rfl (.inr rfl)) .nil))) .nil)
          | (obtain ⟨e1, e2, _⟩ := cells_2 (l := l) (cells := cells) (lies := lies) (by omega) hts
             rw [e1, e2]
             exact ret_new rfl (rc_tup (.cons rc_nils (.cons (rc_same rfl (.inr rfl)) .nil))) .nil)
          | (obtain ⟨e1, e2, _⟩ := cells_3 h0 hts
             obtain rfl : k = cells.toNat := by omega
             rw [e1, e2, ← rowW_n]
             exact ret_new rfl (rc_tup (.cons (rc_frz rfl rfl (by simp [rowW]) (fun _ => rfl)) (.cons (rc_same rfl (.inr rfl)) .nil))) .nil)

def mc39 : MC := (.seq (.reg [⟨(some 6), (.mv (.c .nils)), none, []⟩, ⟨(some 7), (.mv (.c (.int .i64 0))), none, [0]⟩] false) (.seq (.seq (.reg [⟨(some 13), (.mv (.t 0)), none, []⟩, ⟨(some 14), (.mv (.t 1)), none, []⟩, ⟨(some 15), (.mv (.t 2)), none, []⟩, ⟨(some 16), (.call 34 [(.t 13), (.t 14), (.t 15)]), none, [0, 1, 2]⟩, ⟨(some 8), (.mv (.t 16)), none, [3, 3, 0, 1, 2, 3]⟩] false) (.seq (.reg [⟨(some 17), (.mv (.t 8)), none, []⟩, ⟨(some 18), (.bin .neq (.t 17) (.c (.int .i64 0))), none, [0]⟩] false) (.cond (.t 18) (.seq (.reg [⟨(some 19), (.mv (.t 8)), none, []⟩, ⟨(some 6), (.mv (.c .nils)), none, []⟩, ⟨(some 7), (.mv (.t 19)), none, [0, 1, 0, 1]⟩] false) .ret) .skip))) (.seq (.reg [⟨(some 20), (.mv (.t 0)), none, []⟩, ⟨(some 21), (.mv (.t 2)), none, []⟩, ⟨(some 22), (.call 59 [(.t 20), (.t 21)]), none, [0, 1]⟩, ⟨(some 9), (.mv (.t 22)), none, [2, 2, 0, 1, 2]⟩] false) (.seq (.seq (.reg [⟨(some 23), (.mv (.t 9)), none, []⟩, ⟨(some 24), (.len (.t 23)), none, [0]⟩, ⟨(some 25), (.bin .eql (.t 24) (.c (.int .i64 0))), none, [1]⟩] false) (.cond (.t 25) (.seq (.reg [⟨(some 6), (.mv (.c .nils)), none, []⟩, ⟨(some 7), (.mv (.c (.int .i64 21))), none, [0, 0]⟩] false) .ret) .skip)) (.seq (.reg [⟨(some 26), (.mv (.t 9)), none, []⟩, ⟨(some 27), (.call 60 [(.t 26)]), none, [0]⟩, ⟨(some 28), (.fld false 2 1 (.t 27)), none, [1]⟩, ⟨(some 10), (.mv (.t 28)), none, [2, 1, 0, 1, 2]⟩] false) (.seq (.reg [⟨(some 11), (.mv (.c .nils)), none, []⟩] false) (.seq (.seq (.reg [⟨(some 29), (.mv (.c (.int .i64 0))), none, []⟩] false) (.block 0 (.loop (.seq (.reg [⟨(some 30), (.bin .lss (.t 29) (.c (.int .i64 8))), none, []⟩] false) (.seq (.cond (.t 30) .skip (.exit 0)) (.seq (.block 1 (.seq (.reg [⟨(some 31), (.mv (.t 29)), none, []⟩, ⟨(some 12), (.mv (.t 31)), none, [0, 0]⟩] false) (.seq (.reg [⟨(some 32), (.mv (.t 10)), none, []⟩, ⟨(some 33), (.mv (.t 12)), none, []⟩, ⟨(some 34), (.bin .shr (.t 32) (.t 33)), none, [0, 1]⟩, ⟨(some 35), (.bin .and (.t 34) (.c (.int .u64 1))), none, [2]⟩, ⟨(some 36), (.bin .eql (.t 35) (.c (.int .u64 1))), none, [3]⟩] false) (.cond (.t 36) (.reg [⟨(some 37), (.mv (.t 11)), none, []⟩, ⟨(some 38), (.mv (.t 12)), none, []⟩, ⟨(some 39), (.bslice 3 1 [(.int .i64 0)] 1 [(0, (.t 38))]), none, [1]⟩, ⟨(some 40), (.app 3 1 8 [(.int .i64 0)] (.t 37) (.t 39)), none, [0, 2]⟩, ⟨(some 11), (.mv (.t 40)), none, [3, 3, 0, 1, 2, 3]⟩] false) .skip)))) (.reg [⟨(some 41), (.bin .add (.t 29) (.c (.int .i64 1))), none, []⟩, ⟨(some 29), (.mv (.t 41)), none, [0]⟩] false))))))) (.seq (.reg [⟨(some 42), (.mv (.t 11)), none, []⟩, ⟨(some 6), (.mv (.t 42)), none, [0, 0]⟩, ⟨(some 7), (.mv (.c (.int .i64 0))), none, [1, 0, 1]⟩] false) .ret))))))))
theorem mcOk39 : (match Try.f39.body with | some c => compC Try.prog 43 c | none => none) = some mc39 := by kernel_rfl

theorem fc39 (l : List Sg) (cells lies : Int) (hl : l.length ≤ 1000000) : FC Try.prog 39 [.rs 3 (l.map cS), iv cells, iv lies] [] (.tup [ints (sureL l cells lies), iv (cellsE l cells lies)]) [] false := by
  refine fc_run (nt := 43) Try.func39 rfl rfl mcOk39 (Nat.le_of_ble_eq_true rfl) ?_
  delta mc39
  refine aw_seq ?_
  refine aw_reg ?_
  refine rs_mv rfl rfl ?_
  refine rs_mv rfl rfl ?_
  refine rs_nil fun _ => ?_
  refine th_n ?_
  refine aw_seq ?_
  refine aw_seq ?_
  refine aw_reg ?_
  refine rs_mv rfl rfl ?_
  refine rs_mv rfl rfl ?_
  refine rs_mv rfl rfl ?_
  refine rs_calln [] rfl rfl (fc34 l cells lies hl) (.cons (hv_same rfl) (.cons (hv_same rfl) (.cons (hv_same rfl) (.nil)))) rfl ?_
  refine rs_mv rfl rfl ?_
  refine rs_nil fun _ => ?_
  refine th_n ?_
  refine aw_seq ?_
  refine aw_reg ?_
  refine rs_mv rfl rfl ?_
  refine rs_neq rfl rfl rfl ?_
  refine rs_nil fun _ => ?_
  refine th_n ?_
  refine aw_cond rfl (fun h18 => ?_) (fun h18 => ?_)
  · first | replace h18 := of_decide_eq_true h18 | skip
    refine aw_seq ?_
    refine aw_reg ?_
    refine rs_mv rfl rfl ?_
    refine rs_mv rfl rfl ?_
    refine rs_mv rfl rfl ?_
    refine rs_nil fun _ => ?_
    refine th_n ?_
    refine aw_ret ?_
    refine th_r ?_
    first
      | (obtain ⟨e1, _, e2⟩ := cells_1 h18
         rw [e1, e2]
         exact ret_new rfl (rc_tup (.cons rc_nils (.cons (rc_same rfl (.inr rfl)) .nil))) .nil)
      | (obtain ⟨e1, _, e2⟩ := cells_2 (l := l) (cells := cells) (lies := lies) (by omega) hts
         rw [e1, e2]
         exact ret_new rfl (rc_tup (.cons rc_nils (.cons (rc_same rfl (.inr rfl)) .nil))) .nil)
      | (obtain ⟨e1, _, e2⟩ := cells_3 h0 hts
         obtain rfl : k = 8 := by omega
         rw [e1, e2]
         exact ret_new rfl (rc_tup (.cons (rc_frz rfl rfl rfl (fun _ => rfl)) (.cons (rc_same rfl (.inr rfl)) .nil))) .nil)
  · first | replace h18 := of_decide_eq_false h18 | skip
    refine aw_skip ?_
    refine th_n ?_
    refine aw_seq ?_
    have h0 : checkI l cells lies = 0 := by omega
    have hok := checkI_ok.1 h0
    have hk1 := hok.c0
    have hk2 := hok.c16
    have hr0 : ∀ r ∈ l, 0 ≤ r.gauge ∧ r.gauge < 8 ∧ 0 ≤ r.cell ∧ r.cell < 16 := fun r hr => by have := hok.sg r hr; omega
    refine aw_reg ?_
    refine rs_mv rfl rfl ?_
    refine rs_mv rfl rfl ?_
    refine rs_calln [] rfl rfl (fz59 l lies hl hr0) (.cons (hv_same rfl) (.cons (hv_same rfl) (.nil))) rfl ?_
    refine rs_mv rfl rfl ?_
    refine rs_nil fun _ => ?_
    refine th_n ?_
    refine aw_seq ?_
    refine aw_seq ?_
    refine aw_reg ?_
    refine rs_mv rfl rfl ?_
    first | refine rs_len_m rfl rfl ?_ | refine rs_len_s rfl rfl ?_ | refine rs_len_n rfl rfl ?_ | refine rs_len_r rfl rfl rfl ?_
    refine rs_eql rfl rfl rfl ?_
    refine rs_nil fun _ => ?_
    refine th_n ?_
    refine aw_cond rfl (fun h25 => ?_) (fun h25 => ?_)
    · first | replace h25 := of_decide_eq_true h25 | skip
      have hts : tsK l lies 256 = [] := List.length_eq_zero_iff.1 (by omega)
      refine aw_seq ?_
      refine aw_reg ?_
      refine rs_mv rfl rfl ?_
      refine rs_mv rfl rfl ?_
      refine rs_nil fun _ => ?_
      refine th_n ?_
      refine aw_ret ?_
      refine th_r ?_
      first
        | (obtain ⟨e1, _, e2⟩ := cells_1 h18
           rw [e1, e2]
           exact ret_new rfl (rc_tup (.cons rc_nils (.cons (rc_same rfl (.inr rfl)) .nil))) .nil)
        | (obtain ⟨e1, _, e2⟩ := cells_2 (l := l) (cells := cells) (lies := lies) (by omega) hts
           rw [e1, e2]
           exact ret_new rfl (rc_tup (.cons rc_nils (.cons (rc_same rfl (.inr rfl)) .nil))) .nil)
        | (obtain ⟨e1, _, e2⟩ := cells_3 h0 hts
           obtain rfl : k = 8 := by omega
           rw [e1, e2]
           exact ret_new rfl (rc_tup (.cons (rc_frz rfl rfl rfl (fun _ => rfl)) (.cons (rc_same rfl (.inr rfl)) .nil))) .nil)
    · first | replace h25 := of_decide_eq_false h25 | skip
      have hts : tsK l lies 256 ≠ [] := fun e => (by rw [e] at h25; exact h25 rfl)
      have htb := fun t (ht : t ∈ tsK l lies 256) => ts_lt hok ht
      have hw1 := whole_lt (fun t => t.1) (fun _ _ => rfl) hts (fun t ht => (htb t ht).1)
      have hw2 := whole_lt (fun t => t.2.1) (fun _ _ => rfl) hts (fun t ht => (htb t ht).2.1)
      have hw3 := whole_lt (fun t => t.2.2) (fun _ _ => rfl) hts (fun t ht => (htb t ht).2.2)
      refine aw_skip ?_
      refine th_n ?_
      refine aw_seq ?_
      refine aw_reg ?_
      refine rs_mv rfl rfl ?_
      refine rs_calln [] rfl rfl (fc60 (tsK l lies 256) hts (by have := tsK_len l lies 256; omega) (fun t ht => (by have := htb t ht; omega))) (.cons (hv_same rfl) (.nil)) rfl ?_
      refine rs_fld rfl rfl rfl ?_
      refine rs_mv rfl rfl ?_
      refine rs_nil fun _ => ?_
      refine th_n ?_
      refine aw_seq ?_
      refine aw_reg ?_
      refine rs_mv rfl rfl ?_
      refine rs_nil fun _ => ?_
      refine th_n ?_
      refine aw_seq ?_
      refine aw_seq ?_
      refine aw_reg ?_
      refine rs_mv rfl rfl ?_
      refine rs_nil fun _ => ?_
      refine th_n ?_
      refine aw_block ?_
      refine aw_fam (α := Nat) (fun k => 8 - k) (fun k => [(10, .int .u64 (((wholeT (tsK l lies 256)).2.2 : Nat) : Int)), (11, .sl 1011 0 (outK (wholeT (tsK l lies 256)).2.2 (k)).length), (29, iv (((k) : Nat) : Int))]) (fun k => [(1011, .cells 3 1 ((outK (wholeT (tsK l lies 256)).2.2 (k)).map ci) true)]) (fun k => k ≤ 8) 0 (by omega)
        (weak_to (.cons rfl (rc_same rfl (.inl rfl)) (.cons rfl (rc_virt rfl rfl) (.cons rfl (rc_same rfl (.inl rfl)) (.nil)))) (.virt rfl (.nil)) (fun i h => by cases h)) ?_
      intro k hk
      have hol := outK_le (wholeT (tsK l lies 256)).2.2 k
      refine aw_seq ?_
      refine aw_reg ?_
      refine rs_lss rfl rfl rfl ?_
      refine rs_nil fun _ => ?_
      refine th_n ?_
      refine aw_seq ?_
      refine aw_cond rfl (fun h30 => ?_) (fun h30 => ?_)
      · first | replace h30 := of_decide_eq_true h30 | skip
        refine aw_skip ?_
        refine th_n ?_
        refine aw_seq ?_
        refine aw_block ?_
        refine aw_seq ?_
        refine aw_reg ?_
        refine rs_mv rfl rfl ?_
        refine rs_mv rfl rfl ?_
        refine rs_nil fun _ => ?_
        refine th_n ?_
        refine aw_seq ?_
        refine aw_reg ?_
        refine rs_mv rfl rfl ?_
        refine rs_mv rfl rfl ?_
        refine rs_shr rfl rfl rfl (by omega) rfl ?_
        refine rs_and rfl rfl rfl rfl ?_
        refine rs_eql rfl rfl rfl ?_
        rw [show decide (bits .and .u64 ((((wholeT (tsK l lies 256)).2.2 : Nat) : Int).fdiv (2 ^ min ((k : Nat) : Int).toNat IntKind.u64.bits)) 1 = 1) = hasS (wholeT (tsK l lies 256)).2.2 k from has_bits_u1 _ hw3 k (by omega)]
        refine rs_nil fun _ => ?_
        refine th_n ?_
        refine aw_cond rfl (fun h36 => ?_) (fun h36 => ?_)
        · first | replace h36 := of_decide_eq_true h36 | skip
          refine aw_reg ?_
          refine rs_mv rfl rfl ?_
          refine rs_mv rfl rfl ?_
          refine rs_bslice rfl rfl rfl rfl rfl rfl ?_
          refine rs_app_m (y := (k : Int)) rfl rfl rfl rfl rfl rfl rfl rfl (by decide) rfl (by omega) (by omega) rfl ?_
          refine rs_mv rfl rfl ?_
          refine rs_nil fun _ => ?_
          refine in_n ?_
          refine th_n ?_
          refine aw_reg ?_
          first | refine rs_add rfl rfl rfl (by omega) ?_ | refine rs_addw rfl rfl rfl rfl ?_
          refine rs_mv rfl rfl ?_
          refine rs_nil fun _ => ?_
          refine th_n ?_
          refine ⟨k + 1, by omega, by omega, ?_⟩
          first
            | (have ho := outK_t (wholeT (tsK l lies 256)).2.2 k h36; exact weak_to_ren (i := 40) (i' := 1011) (F1 := [(10, .int .u64 (((wholeT (tsK l lies 256)).2.2 : Nat) : Int)), (11, .sl 40 0 (outK (wholeT (tsK l lies 256)).2.2 (k + 1)).length), (29, iv (((k + 1) : Nat) : Int))]) (H1 := [(40, .cells 3 1 ((outK (wholeT (tsK l lies 256)).2.2 (k + 1)).map ci) true)]) (.cons rfl (rc_same rfl (.inl rfl)) (.cons rfl (rc_eq (by rw [ho]; simp) rfl) (.cons rfl (rc_same rfl (.inl rfl)) (.nil)))) (.keep ((by (rw [ho]) <;> rfl)) rfl (.nil)) (fun i h => by cases h) rfl rfl (.cons rfl (.same _) (.cons rfl (.sl _ _) (.cons rfl (.same _) (.nil)))) (.cons rfl (rc_same rfl (.inl rfl)) (.cons rfl (rc_same rfl (.inl rfl)) (.cons rfl (rc_same rfl (.inl rfl)) (.nil)))) (.keep (rfl) rfl (.nil)) (fun i h => by cases h))
            | (have ho := outK_f (wholeT (tsK l lies 256)).2.2 k h36; exact weak_to (.cons rfl (rc_same rfl (.inl rfl)) (.cons rfl (rc_eq (by rw [ho]) rfl) (.cons rfl (rc_same rfl (.inl rfl)) (.nil)))) (.keep ((by (rw [ho]) <;> rfl)) rfl (.nil)) (fun i h => by cases h))
        · first | replace h36 := of_decide_eq_false h36 | skip
          refine aw_skip ?_
          refine in_n ?_
          refine th_n ?_
          refine aw_reg ?_
          first | refine rs_add rfl rfl rfl (by omega) ?_ | refine rs_addw rfl rfl rfl rfl ?_
          refine rs_mv rfl rfl ?_
          refine rs_nil fun _ => ?_
          refine th_n ?_
          refine ⟨k + 1, by omega, by omega, ?_⟩
          first
            | (have ho := outK_t (wholeT (tsK l lies 256)).2.2 k h36; exact weak_to_ren (i := 40) (i' := 1011) (F1 := [(10, .int .u64 (((wholeT (tsK l lies 256)).2.2 : Nat) : Int)), (11, .sl 40 0 (outK (wholeT (tsK l lies 256)).2.2 (k + 1)).length), (29, iv (((k + 1) : Nat) : Int))]) (H1 := [(40, .cells 3 1 ((outK (wholeT (tsK l lies 256)).2.2 (k + 1)).map ci) true)]) (.cons rfl (rc_same rfl (.inl rfl)) (.cons rfl (rc_eq (by rw [ho]; simp) rfl) (.cons rfl (rc_same rfl (.inl rfl)) (.nil)))) (.keep ((by (rw [ho]) <;> rfl)) rfl (.nil)) (fun i h => by cases h) rfl rfl (.cons rfl (.same _) (.cons rfl (.sl _ _) (.cons rfl (.same _) (.nil)))) (.cons rfl (rc_same rfl (.inl rfl)) (.cons rfl (rc_same rfl (.inl rfl)) (.cons rfl (rc_same rfl (.inl rfl)) (.nil)))) (.keep (rfl) rfl (.nil)) (fun i h => by cases h))
            | (have ho := outK_f (wholeT (tsK l lies 256)).2.2 k h36; exact weak_to (.cons rfl (rc_same rfl (.inl rfl)) (.cons rfl (rc_eq (by rw [ho]) rfl) (.cons rfl (rc_same rfl (.inl rfl)) (.nil)))) (.keep ((by (rw [ho]) <;> rfl)) rfl (.nil)) (fun i h => by cases h))
      · first | replace h30 := of_decide_eq_false h30 | skip
        refine aw_exit ?_
        refine th_e ?_
        refine th_e ?_
        refine in_hit ?_
        refine th_n ?_
        refine aw_seq ?_
        refine aw_reg ?_
        refine rs_mv rfl rfl ?_
        refine rs_mv rfl rfl ?_
        refine rs_mv rfl rfl ?_
        refine rs_nil fun _ => ?_
        refine th_n ?_
        refine aw_ret ?_
        first
          | (obtain ⟨e1, _, e2⟩ := cells_1 h18
             rw [e1, e2]
             exact ret_new rfl (rc_tup (.cons rc_nils (.cons (rc_same rfl (.inr rfl)) .nil))) .nil)
          | (obtain ⟨e1, _, e2⟩ := cells_2 (l := l) (cells := cells) (lies := lies) (by omega) hts
             rw [e1, e2]
             exact ret_new rfl (rc_tup (.cons rc_nils (.cons (rc_same rfl (.inr rfl)) .nil))) .nil)
          | (obtain ⟨e1, _, e2⟩ := cells_3 h0 hts
             obtain rfl : k = 8 := by omega
             rw [e1, e2]
             exact ret_new rfl (rc_tup (.cons (rc_frz rfl rfl rfl (fun _ => rfl)) (.cons (rc_same rfl (.inr rfl)) .nil))) .nil)

end Go.Proofs.Ytadjdnhnbkcakaa

/-! Walks: A28. -/
namespace Go.Proofs.Ytadjdnhnbkcakaa
open Go.RowKit

theorem hv_agg {H Hs : Hp} {rd : List Nat} {al : Bool} {vs vs' : List AV} (h : HVs H Hs rd al vs vs') : HV H Hs rd al (.agg vs) (.agg vs') := fun w S ρ c hh hv => by
  obtain ⟨C, rfl, hn, h1, h2⟩ := hv.agg_inv
  obtain ⟨e1, e2⟩ := h.at_
  refine .agg vs' C (by rw [hn, e1]) (fun j r hj => ?_) fun j r hj => ?_
  · obtain ⟨v, g1, _⟩ := e2 j r hj
    exact h1 j v g1
  · obtain ⟨v, g1, g2⟩ := e2 j r hj
    exact g2 w S ρ _ hh (h2 j v g1)
/-- A made sight. -/
def mkSg (q x : Int) : Sg := ⟨(modS x (8 * q)).tmod 4, (modS x (8 * q)).tdiv 8, decide (((modS x (8 * q)).tdiv 4).tmod 2 = 1)⟩
def sightsS (L : List Int) (q : Int) : List Sg := (L.take 12).map (mkSg q)
theorem mkSg_ok (q x : Int) (h : 1 ≤ q) : 0 ≤ (mkSg q x).gauge ∧ (mkSg q x).gauge < 4 ∧ 0 ≤ (mkSg q x).cell ∧ (mkSg q x).cell < q := by
  have h1 := modS_range x (8 * q) (by omega)
  have e1 := Int.tmod_eq_emod_of_nonneg (b := 4) h1.1
  have e2 := Int.tdiv_eq_ediv_of_nonneg (b := 8) h1.1
  simp only [mkSg]
  rw [e1, e2]
  omega
/-- Sights of which one is changed. -/
def sg0 : Sg := ⟨0, 0, false⟩
def pickI (x t : Int) : Int := if t = 0 then x else if t = 1 then -1 else if t = 2 then 7 else if t = 3 then 8 else if t = 4 then 15 else 16
theorem pickI_at (x t : Int) (h0 : 0 ≤ t) (h1 : t < 6) : ([ci x, ci (-1), ci 7, ci 8, ci 15, ci 16] : List (List AV))[0 + t.toNat]? = some (ci (pickI x t)) := by
  obtain rfl | rfl | rfl | rfl | rfl | rfl : t = 0 ∨ t = 1 ∨ t = 2 ∨ t = 3 ∨ t = 4 ∨ t = 5 := by omega
  all_goals rfl
def oddI (l : List Sg) (q0 q1 q2 : Int) : List Sg :=
  if l.length = 0 then [⟨q2, 0, false⟩]
  else if modS q0 4 = 0 then l.set (modS q1 l.length).toNat ⟨pickI q2 (modS q2 6), (l.getD (modS q1 l.length).toNat sg0).cell, (l.getD (modS q1 l.length).toNat sg0).there⟩
  else if modS q0 4 = 1 then l.set (modS q1 l.length).toNat ⟨(l.getD (modS q1 l.length).toNat sg0).gauge, pickI q2 (modS q2 6), (l.getD (modS q1 l.length).toNat sg0).there⟩
  else if modS q0 4 = 2 then l.set (modS q1 l.length).toNat ⟨(l.getD (modS q1 l.length).toNat sg0).gauge, (l.getD (modS q1 l.length).toNat sg0).cell, !(l.getD (modS q1 l.length).toNat sg0).there⟩
  else l ++ List.replicate (41 - l.length) (l.getD 0 sg0)
theorem oddI_len (l : List Sg) (q0 q1 q2 : Int) : (oddI l q0 q1 q2).length ≤ l.length + 41 := by
  unfold oddI
  split
  · simp
  · split
    · simp
    · split
      · simp
      · split
        · simp
        · simp <;> omega
def wantF (m : Int) : Int := if m.tmod 5 = 0 then 1 else if m.tmod 5 = 1 then 2 else if m.tmod 5 = 2 then 3 else if m.tmod 5 = 3 then 1 else 2
def wantsS (L : List Int) (n : Nat) : List Int := (List.range n).map fun c => wantF (L.getD c 0)
theorem wants_succ (L : List Int) (n : Nat) : wantsS L (n + 1) = wantsS L n ++ [wantF (L.getD n 0)] := by simp [wantsS, List.range_succ]
theorem length_wants (L : List Int) (n : Nat) : (wantsS L n).length = n := by simp [wantsS]
theorem wantF_range (m : Int) : 1 ≤ wantF m ∧ wantF m ≤ 3 := by
  unfold wantF
  split <;> (try split) <;> (try split) <;> (try split) <;> omega
theorem want_at (m : Int) (h0 : 0 ≤ m) (h1 : m < 256) : ([ci 1, ci 2, ci 3, ci 1, ci 2] : List (List AV))[0 + (m.tmod 5).toNat]? = some (ci (wantF m)) := by
  have e1 := Int.tmod_eq_emod_of_nonneg (b := 5) h0
  unfold wantF
  obtain e | e | e | e | e : m.tmod 5 = 0 ∨ m.tmod 5 = 1 ∨ m.tmod 5 = 2 ∨ m.tmod 5 = 3 ∨ m.tmod 5 = 4 := by omega
  all_goals rw [e]; rfl
theorem wants_range (L : List Int) (n : Nat) : ∀ x ∈ wantsS L n, 1 ≤ x ∧ x ≤ 3 := fun x hx => by
  obtain ⟨c, _, rfl⟩ := List.mem_map.1 hx
  exact wantF_range _

def mc58 : MC := (.seq (.reg [⟨(some 4), (.mv (.c .nils)), none, []⟩] false) (.seq (.reg [⟨(some 5), (.mv (.c .nils)), none, []⟩] false) (.seq (.seq (.reg [⟨(some 6), (.mv (.c (.int .i64 0))), none, []⟩] false) (.block 0 (.loop (.seq (.seq (.reg [⟨(some 8), (.mv (.t 6)), none, []⟩, ⟨(some 9), (.mv (.t 0)), none, []⟩, ⟨(some 10), (.len (.t 9)), none, [1]⟩, ⟨(some 11), (.bin .lss (.t 8) (.t 10)), none, [0, 2]⟩, ⟨(some 12), (.mv (.t 11)), none, [3]⟩, ⟨(some 13), (.mv (.t 6)), (some (12, true)), [4]⟩, ⟨(some 14), (.bin .lss (.t 13) (.c (.int .i64 12))), (some (12, true)), [5, 4]⟩, ⟨(some 15), (.pick (.t 12) (.t 14) (.c (.bool false))), none, [4, 6]⟩, ⟨(some 16), (.mv (.t 15)), none, [7, 4]⟩, ⟨(some 17), (.mv (.t 1)), (some (16, true)), [8]⟩, ⟨(some 18), (.bin .gtr (.t 17) (.c (.int .i64 0))), (some (16, true)), [9, 8]⟩, ⟨(some 19), (.pick (.t 16) (.t 18) (.c (.bool false))), none, [8, 10]⟩] false) (.cond (.t 19) .skip (.exit 0))) (.seq (.block 1 (.seq (.reg [⟨(some 22), (.mv (.t 0)), none, []⟩, ⟨(some 23), (.mv (.t 6)), none, []⟩, ⟨(some 24), (.ixsl 1 (.t 22) (.t 23)), none, [0, 1]⟩, ⟨(some 25), (.ld false 1 (.t 24)), none, [2]⟩, ⟨(some 26), (.mv (.t 1)), none, []⟩, ⟨(some 27), (.bin .mul (.c (.int .i64 8)) (.t 26)), none, [4]⟩, ⟨(some 28), (.call 30 [(.t 25), (.t 27)]), none, [3, 5]⟩, ⟨(some 7), (.mv (.t 28)), none, [6, 6, 0, 1, 2, 3, 4, 5, 6]⟩] false) (.reg [⟨(some 29), (.mv (.t 5)), none, []⟩, ⟨(some 30), (.mv (.t 7)), none, []⟩, ⟨(some 31), (.bin .rem (.t 30) (.c (.int .i64 4))), none, [1]⟩, ⟨(some 32), (.mv (.t 7)), none, []⟩, ⟨(some 33), (.bin .quo (.t 32) (.c (.int .i64 4))), none, [3]⟩, ⟨(some 34), (.bin .rem (.t 33) (.c (.int .i64 2))), none, [4]⟩, ⟨(some 35), (.bin .eql (.t 34) (.c (.int .i64 1))), none, [5]⟩, ⟨(some 36), (.mv (.t 7)), none, []⟩, ⟨(some 37), (.bin .quo (.t 36) (.c (.int .i64 8))), none, [7]⟩, ⟨(some 38), (.build [(.int .i64 0), (.int .i64 0), (.bool false)] [(0, (1, (.t 31))), (2, (1, (.t 35))), (1, (1, (.t 37)))]), none, [2, 6, 8]⟩, ⟨(some 39), (.bslice 80 3 [(.int .i64 0), (.int .i64 0), (.bool false)] 1 [(0, (.t 38))]), none, [9]⟩, ⟨(some 40), (.app 80 3 24 [(.int .i64 0), (.int .i64 0), (.bool false)] (.t 29) (.t 39)), none, [0, 10]⟩, ⟨(some 5), (.mv (.t 40)), none, [11, 11, 0, 1, 2, 3, 4, 5, 6, 7, 8, 9, 10, 11]⟩] false))) (.reg [⟨(some 20), (.mv (.t 6)), none, []⟩, ⟨(some 21), (.bin .add (.t 20) (.c (.int .i64 1))), none, [0]⟩, ⟨(some 6), (.mv (.t 21)), none, [1, 0, 1]⟩] false)))))) (.seq (.reg [⟨(some 41), (.mv (.t 5)), none, []⟩, ⟨(some 4), (.mv (.t 41)), none, [0, 0]⟩] false) .ret))))
theorem mcOk58 : (match Try.f58.body with | some c => compC Try.prog 42 c | none => none) = some mc58 := by kernel_rfl

theorem fc58 (L : List Int) (q : Int) (hq1 : 1 ≤ q) (hq5 : q ≤ 1000) (hL : L.length ≤ 4611686018427387904) : FC Try.prog 58 [ints L, iv q] [] (.sl 1005 0 (sightsS L q).length) [(1005, .cells 80 3 ((sightsS L q).map cS) true)] false := by
  refine fc_run (nt := 42) Try.func58 rfl rfl mcOk58 (Nat.le_of_ble_eq_true rfl) ?_
  delta mc58
  refine aw_seq ?_
  refine aw_reg ?_
  refine rs_mv rfl rfl ?_
  refine rs_nil fun _ => ?_
  refine th_n ?_
  refine aw_seq ?_
  refine aw_reg ?_
  refine rs_mv rfl rfl ?_
  refine rs_nil fun _ => ?_
  refine th_n ?_
  refine aw_seq ?_
  refine aw_seq ?_
  refine aw_reg ?_
  refine rs_mv rfl rfl ?_
  refine rs_nil fun _ => ?_
  refine th_n ?_
  refine aw_block ?_
  refine aw_fam (α := Nat) (fun k => L.length - k) (fun k => [(0, ints L), (1, iv q), (5, .sl 1005 0 (k)), (6, iv (((k) : Nat) : Int))]) (fun k => [(1005, .cells 80 3 (((L.take (k)).map (mkSg q)).map cS) true)]) (fun k => k ≤ L.length ∧ k ≤ 12) 0 (⟨by omega, by omega⟩)
    (weak_to (.cons rfl (rc_same rfl (.inl rfl)) (.cons rfl (rc_same rfl (.inl rfl)) (.cons rfl (rc_virt rfl rfl) (.cons rfl (rc_same rfl (.inl rfl)) (.nil))))) (.virt rfl (.nil)) (fun i h => by cases h)) ?_
  rintro k ⟨hk, hk2⟩
  refine aw_seq ?_
  refine aw_seq ?_
  refine aw_reg ?_
  refine rs_mv rfl rfl ?_
  refine rs_mv rfl rfl ?_
  first | refine rs_len_m rfl rfl ?_ | refine rs_len_s rfl rfl ?_ | refine rs_len_n rfl rfl ?_ | refine rs_len_r rfl rfl rfl ?_
  refine rs_cmp rfl rfl rfl rfl (fun h11 => ?_) (fun h11 => ?_)
  · skip
    refine rs_mv rfl rfl ?_
    refine rs_mv rfl rfl ?_
    refine rs_cmp rfl rfl rfl rfl (fun h14 => ?_) (fun h14 => ?_)
    · skip
      refine rs_pick rfl rfl rfl ?_
      refine rs_mv rfl rfl ?_
      refine rs_mv rfl rfl ?_
      refine rs_cmp rfl rfl rfl rfl (fun h18 => ?_) (fun h18 => ?_)
      · skip
        refine rs_pick rfl rfl rfl ?_
        refine rs_nil fun _ => ?_
        refine th_n ?_
        refine aw_cond rfl (fun _ => ?_) (fun h => by cases h)
        refine aw_skip ?_
        refine th_n ?_
        refine aw_seq ?_
        refine aw_block ?_
        refine aw_seq ?_
        refine aw_reg ?_
        obtain ⟨x, hx, _⟩ := at_some (L := L) (k := k) (by omega)
        have hkl := lt_of_at hx
        have hmr := modS_range x (8 * q) (by omega)
        have e4 := Int.tdiv_eq_ediv_of_nonneg (b := 4) hmr.1
        have e8 := Int.tdiv_eq_ediv_of_nonneg (b := 8) hmr.1
        refine rs_mv rfl rfl ?_
        refine rs_mv rfl rfl ?_
        refine rs_ix_g rfl rfl rfl (by omega) hx ?_
        refine rs_ld_r rfl rfl rfl ?_
        refine rs_mv rfl rfl ?_
        refine rs_mulw (c := 8 * q) rfl rfl rfl (wrap64_eq (by omega)) ?_
        refine rs_calln [] rfl rfl (fc30 x (8 * q) (by omega)) (.cons (hv_same rfl) (.cons (hv_same rfl) (.nil))) rfl ?_
        refine rs_mv rfl rfl ?_
        refine rs_nil fun _ => ?_
        refine th_n ?_
        refine aw_reg ?_
        refine rs_mv rfl rfl ?_
        refine rs_mv rfl rfl ?_
        refine rs_rem rfl rfl rfl (by decide) rfl ?_
        refine rs_mv rfl rfl ?_
        refine rs_quow (c := (modS x (8 * q)).tdiv 4) rfl rfl rfl (by decide) (wrap64_eq (by omega)) ?_
        refine rs_rem rfl rfl rfl (by decide) rfl ?_
        refine rs_eql rfl rfl rfl ?_
        refine rs_mv rfl rfl ?_
        refine rs_quow (c := (modS x (8 * q)).tdiv 8) rfl rfl rfl (by decide) (wrap64_eq (by omega)) ?_
        refine rs_build rfl rfl ?_
        refine rs_bslice rfl rfl rfl rfl rfl rfl ?_
        refine rs_app_m (y := mkSg q x) (rd := [39]) rfl rfl rfl rfl (by simp; omega) rfl rfl rfl (by simp) rfl (by omega) (by omega) rfl ?_
        refine rs_mv rfl rfl ?_
        refine rs_nil fun _ => ?_
        refine in_n ?_
        refine th_n ?_
        refine aw_reg ?_
        refine rs_mv rfl rfl ?_
        first | refine rs_add rfl rfl rfl (by omega) ?_ | refine rs_addw rfl rfl rfl rfl ?_
        refine rs_mv rfl rfl ?_
        refine rs_nil fun _ => ?_
        refine th_n ?_
        have hs := take_map_succ (mkSg q) L k hkl
        rw [(List.getElem?_eq_some_iff.1 hx).2] at hs
        exact ⟨k + 1, ⟨by omega, by omega⟩, by omega, weak_to_ren (i := 40) (i' := 1005) (F1 := [(0, ints L), (1, iv q), (5, .sl 40 0 (k + 1)), (6, iv (((k + 1) : Nat) : Int))]) (H1 := [(40, .cells 80 3 (((L.take (k + 1)).map (mkSg q)).map cS) true)]) (.cons rfl (rc_same rfl (.inl rfl)) (.cons rfl (rc_same rfl (.inl rfl)) (.cons rfl (rc_same rfl (.inl rfl)) (.cons rfl (rc_same rfl (.inl rfl)) (.nil))))) (.keep ((by rw [hs]; rfl)) rfl (.nil)) (fun i h => by cases h) rfl rfl (.cons rfl (.same _) (.cons rfl (.same _) (.cons rfl (.sl _ _) (.cons rfl (.same _) (.nil))))) (.cons rfl (rc_same rfl (.inl rfl)) (.cons rfl (rc_same rfl (.inl rfl)) (.cons rfl (rc_same rfl (.inl rfl)) (.cons rfl (rc_same rfl (.inl rfl)) (.nil))))) (.keep (rfl) rfl (.nil)) (fun i h => by cases h)⟩
      · skip
        refine rs_pick rfl rfl rfl ?_
        refine rs_nil fun _ => ?_
        refine th_n ?_
        refine aw_cond rfl (fun h => by cases h) (fun _ => ?_)
        refine aw_exit ?_
        refine th_e ?_
        refine th_e ?_
        refine in_hit ?_
        refine th_n ?_
        refine aw_seq ?_
        refine aw_reg ?_
        refine rs_mv rfl rfl ?_
        refine rs_mv rfl rfl ?_
        refine rs_nil fun _ => ?_
        refine th_n ?_
        refine aw_ret ?_
        have hr : sightsS L q = (L.take k).map (mkSg q) := by
          unfold sightsS
          by_cases hk1 : k = 12
          · rw [hk1]
          · have : k = L.length := by omega
            subst this
            rw [List.take_of_length_le (by omega), List.take_of_length_le (by omega)]
        have hlen : ((L.take k).map (mkSg q)).length = k := by simp; omega
        rw [hr, hlen]
        exact ret_new rfl (rc_same rfl (.inr rfl)) (.keep rfl rfl (noROE_map (fun _ => rfl) _) .nil)
    · skip
      refine rs_pick rfl rfl rfl ?_
      refine rs_mv rfl rfl ?_
      refine rs_skip rfl ?_
      refine rs_skip rfl ?_
      refine rs_pick rfl rfl rfl ?_
      refine rs_nil fun _ => ?_
      refine th_n ?_
      refine aw_cond rfl (fun h => by cases h) (fun _ => ?_)
      refine aw_exit ?_
      refine th_e ?_
      refine th_e ?_
      refine in_hit ?_
      refine th_n ?_
      refine aw_seq ?_
      refine aw_reg ?_
      refine rs_mv rfl rfl ?_
      refine rs_mv rfl rfl ?_
      refine rs_nil fun _ => ?_
      refine th_n ?_
      refine aw_ret ?_
      have hr : sightsS L q = (L.take k).map (mkSg q) := by
        unfold sightsS
        by_cases hk1 : k = 12
        · rw [hk1]
        · have : k = L.length := by omega
          subst this
          rw [List.take_of_length_le (by omega), List.take_of_length_le (by omega)]
      have hlen : ((L.take k).map (mkSg q)).length = k := by simp; omega
      rw [hr, hlen]
      exact ret_new rfl (rc_same rfl (.inr rfl)) (.keep rfl rfl (noROE_map (fun _ => rfl) _) .nil)
  · skip
    refine rs_mv rfl rfl ?_
    refine rs_skip rfl ?_
    refine rs_skip rfl ?_
    refine rs_pick rfl rfl rfl ?_
    refine rs_mv rfl rfl ?_
    refine rs_skip rfl ?_
    refine rs_skip rfl ?_
    refine rs_pick rfl rfl rfl ?_
    refine rs_nil fun _ => ?_
    refine th_n ?_
    refine aw_cond rfl (fun h => by cases h) (fun _ => ?_)
    refine aw_exit ?_
    refine th_e ?_
    refine th_e ?_
    refine in_hit ?_
    refine th_n ?_
    refine aw_seq ?_
    refine aw_reg ?_
    refine rs_mv rfl rfl ?_
    refine rs_mv rfl rfl ?_
    refine rs_nil fun _ => ?_
    refine th_n ?_
    refine aw_ret ?_
    have hr : sightsS L q = (L.take k).map (mkSg q) := by
      unfold sightsS
      by_cases hk1 : k = 12
      · rw [hk1]
      · have : k = L.length := by omega
        subst this
        rw [List.take_of_length_le (by omega), List.take_of_length_le (by omega)]
    have hlen : ((L.take k).map (mkSg q)).length = k := by simp; omega
    rw [hr, hlen]
    exact ret_new rfl (rc_same rfl (.inr rfl)) (.keep rfl rfl (noROE_map (fun _ => rfl) _) .nil)

def mc32 : MC := (.seq (.reg [⟨(some 1), (.box 60 3 (.t 0)), none, []⟩, ⟨(some 2), (.mv (.c .nils)), none, []⟩, ⟨(some 3), (.mv (.c (.int .i64 0))), none, [1]⟩, ⟨(some 4), (.mv (.c (.int .i64 0))), none, [2]⟩] false) (.seq (.reg [⟨(some 6), (.fa 1 (.t 1)), none, []⟩, ⟨(some 7), (.ld false 1 (.t 6)), none, [0]⟩, ⟨(some 8), (.bin .rem (.t 7) (.c (.int .u8 5))), none, [1]⟩, ⟨(some 9), (.cvt .i64 (.t 8)), none, [2]⟩, ⟨(some 10), (.bin .add (.c (.int .i64 1)) (.t 9)), none, [3]⟩, ⟨(some 5), (.mv (.t 10)), none, [4, 0, 1, 2, 3, 4]⟩] false) (.seq (.reg [⟨(some 11), (.fa 0 (.t 1)), none, []⟩, ⟨(some 12), (.ld false 1 (.t 11)), none, [0]⟩, ⟨(some 13), (.mv (.t 5)), none, []⟩, ⟨(some 14), (.call 58 [(.t 12), (.t 13)]), none, [1, 2]⟩, ⟨(some 15), (.mv (.t 5)), none, []⟩, ⟨(some 16), (.fa 2 (.t 1)), none, []⟩, ⟨(some 17), (.ld false 1 (.t 16)), none, [5]⟩, ⟨(some 18), (.bin .rem (.t 17) (.c (.int .u8 4))), none, [6]⟩, ⟨(some 19), (.cvt .i64 (.t 18)), none, [7]⟩, ⟨(some 2), (.mv (.t 14)), none, [3, 3, 0, 1, 2, 3]⟩, ⟨(some 3), (.mv (.t 15)), none, [4, 9, 0, 1, 2, 3, 4, 9]⟩, ⟨(some 4), (.mv (.t 19)), none, [8, 10, 0, 1, 2, 3, 4, 5, 6, 7, 8, 9, 10]⟩] true) .ret)))
theorem mcOk32 : (match Try.f32.body with | some c => compC Try.prog 20 c | none => none) = some mc32 := by kernel_rfl

theorem fc32 (L : List Int) (c5 l4 : Int) (hL : L.length ≤ 4611686018427387904) (hc : 0 ≤ c5 ∧ c5 < 256) (hl : 0 ≤ l4 ∧ l4 < 256) : FC Try.prog 32 [.agg [ints L, .int .u8 c5, .int .u8 l4]] [] (.tup [.sl 1005 0 (sightsS L (1 + (c5.tmod 5))).length, iv (1 + (c5.tmod 5)), iv (l4.tmod 4)]) [(1005, .cells 80 3 ((sightsS L (1 + (c5.tmod 5))).map cS) true)] true := by
  have ht5 := tmodr c5 5 hc.1 (by decide)
  have ht4 := tmodr l4 4 hl.1 (by decide)
  refine fc_run (nt := 20) Try.func32 rfl rfl mcOk32 (Nat.le_of_ble_eq_true rfl) ?_
  delta mc32
  refine aw_seq ?_
  refine aw_reg ?_
  refine rs_box rfl rfl rfl rfl rfl rfl ?_
  refine rs_mv rfl rfl ?_
  refine rs_mv rfl rfl ?_
  refine rs_mv rfl rfl ?_
  refine rs_nil fun _ => ?_
  refine th_n ?_
  refine aw_seq ?_
  refine aw_reg ?_
  first | refine rs_fa_p rfl rfl ?_ | refine rs_fa_r rfl rfl rfl ?_
  first | refine rs_ld_r rfl rfl rfl ?_ | refine rs_ld_p rfl rfl rfl rfl rfl ?_ | refine rs_ld_m rfl rfl rfl (by omega) rfl ?_
  refine rs_rem rfl rfl rfl (by decide) rfl ?_
  refine rs_cvt (m := c5.tmod 5) rfl rfl (wrap64_eq (by omega)) ?_
  first | refine rs_add rfl rfl rfl (by omega) ?_ | refine rs_addw rfl rfl rfl rfl ?_
  refine rs_mv rfl rfl ?_
  refine rs_nil fun _ => ?_
  refine th_n ?_
  refine aw_seq ?_
  refine aw_draw hmix ?_
  first | refine rs_fa_p rfl rfl ?_ | refine rs_fa_r rfl rfl rfl ?_
  first | refine rs_ld_r rfl rfl rfl ?_ | refine rs_ld_p rfl rfl rfl rfl rfl ?_ | refine rs_ld_m rfl rfl rfl (by omega) rfl ?_
  refine rs_mv rfl rfl ?_
  refine rs_calln [] rfl rfl (fc58 L (1 + (c5.tmod 5)) (by omega) (by omega) hL) (.cons (hv_same rfl) (.cons (hv_same rfl) (.nil))) rfl ?_
  refine rs_mv rfl rfl ?_
  first | refine rs_fa_p rfl rfl ?_ | refine rs_fa_r rfl rfl rfl ?_
  first | refine rs_ld_r rfl rfl rfl ?_ | refine rs_ld_p rfl rfl rfl rfl rfl ?_ | refine rs_ld_m rfl rfl rfl (by omega) rfl ?_
  refine rs_rem rfl rfl rfl (by decide) rfl ?_
  refine rs_cvt (m := l4.tmod 4) rfl rfl (wrap64_eq (by omega)) ?_
  refine rs_mv rfl rfl ?_
  refine rs_mv rfl rfl ?_
  refine rs_mv rfl rfl ?_
  refine rs_nil ⟨by kernel_rfl, fun _ => ?_⟩
  refine th_n ?_
  refine aw_ret ?_
  exact ret_own rfl (rc_same rfl (.inl rfl)) (.keep rfl rfl .nil) .nil

/-- What made hands out. -/
structure MadeI (n m : Int) (R : List Sg) : Prop where
  n1 : 1 ≤ n
  n5 : n ≤ 5
  m0 : 0 ≤ m
  m3 : m ≤ 3
  lR : R.length ≤ 12
  sg : ∀ r ∈ R, 0 ≤ r.gauge ∧ r.gauge < 4 ∧ 0 ≤ r.cell ∧ r.cell < n
theorem made_i (L : List Int) (c5 l4 : Int) (hL : L.length ≤ 4611686018427387904) (hc : 0 ≤ c5 ∧ c5 < 256) (hl : 0 ≤ l4 ∧ l4 < 256) : ∃ (n m : Int) (R : List Sg), MadeI n m R ∧
    FC Try.prog 32 [.agg [ints L, .int .u8 c5, .int .u8 l4]] [] (.tup [.sl 1005 0 R.length, iv n, iv m]) [(1005, .cells 80 3 (R.map cS) true)] true := by
  have ht5 := tmodr c5 5 hc.1 (by decide)
  have ht4 := tmodr l4 4 hl.1 (by decide)
  refine ⟨_, _, _, ⟨by omega, by omega, ht4.1, by omega, by simp [sightsS]; omega, fun r hr => ?_⟩, fc32 L c5 l4 hL hc hl⟩
  obtain ⟨x, _, rfl⟩ := List.mem_map.1 hr
  exact mkSg_ok _ x (by omega)

def mc33 : MC := (.seq (.reg [⟨(some 3), (.box 26 3 (.t 1)), none, []⟩, ⟨(some 4), (.mv (.c .nils)), none, []⟩] false) (.seq (.reg [⟨(some 8), (.bslice 80 3 [(.int .i64 0), (.int .i64 0), (.bool false)] 0 []), none, []⟩, ⟨(some 9), (.mv (.t 0)), none, []⟩, ⟨(some 10), (.app 80 3 24 [(.int .i64 0), (.int .i64 0), (.bool false)] (.t 8) (.t 9)), none, [0, 1]⟩, ⟨(some 5), (.mv (.t 10)), none, [2, 2, 0, 1, 2]⟩] false) (.seq (.seq (.reg [⟨(some 11), (.mv (.t 5)), none, []⟩, ⟨(some 12), (.len (.t 11)), none, [0]⟩, ⟨(some 13), (.bin .eql (.t 12) (.c (.int .i64 0))), none, [1]⟩] false) (.cond (.t 13) (.seq (.reg [⟨(some 14), (.ixarr 3 1 (.t 3) (.c (.int .i64 2))), none, []⟩, ⟨(some 15), (.ld false 1 (.t 14)), none, [0]⟩, ⟨(some 16), (.build [(.int .i64 0), (.int .i64 0), (.bool false)] [(0, (1, (.t 15)))]), none, [1]⟩, ⟨(some 17), (.bslice 80 3 [(.int .i64 0), (.int .i64 0), (.bool false)] 1 [(0, (.t 16))]), none, [2]⟩, ⟨(some 4), (.mv (.t 17)), none, [3, 0, 1, 2, 3]⟩] false) .ret) .skip)) (.seq (.reg [⟨(some 18), (.mv (.t 5)), none, []⟩, ⟨(some 19), (.ixarr 3 1 (.t 3) (.c (.int .i64 1))), none, []⟩, ⟨(some 20), (.ld false 1 (.t 19)), none, [1]⟩, ⟨(some 21), (.mv (.t 5)), none, []⟩, ⟨(some 22), (.len (.t 21)), none, [3]⟩, ⟨(some 23), (.call 30 [(.t 20), (.t 22)]), none, [2, 4]⟩, ⟨(some 24), (.ixsl 3 (.t 18) (.t 23)), none, [0, 5]⟩, ⟨(some 6), (.mv (.t 24)), none, [6, 5, 0, 1, 2, 3, 4, 5, 6]⟩] false) (.seq (.reg [⟨(some 25), (.ixarr 3 1 (.t 3) (.c (.int .i64 2))), none, []⟩, ⟨(some 26), (.ld false 1 (.t 25)), none, [0]⟩, ⟨(some 27), (.bslice 3 1 [(.int .i64 0)] 6 [(0, (.t 26)), (1, (.c (.int .i64 (-1)))), (2, (.c (.int .i64 7))), (3, (.c (.int .i64 8))), (4, (.c (.int .i64 15))), (5, (.c (.int .i64 16)))]), none, [1]⟩, ⟨(some 28), (.ixarr 3 1 (.t 3) (.c (.int .i64 2))), none, []⟩, ⟨(some 29), (.ld false 1 (.t 28)), none, [3]⟩, ⟨(some 30), (.call 30 [(.t 29), (.c (.int .i64 6))]), none, [4]⟩, ⟨(some 31), (.ixsl 1 (.t 27) (.t 30)), none, [2, 5]⟩, ⟨(some 32), (.ld false 1 (.t 31)), none, [6]⟩, ⟨(some 7), (.mv (.t 32)), none, [7, 5, 0, 1, 2, 3, 4, 5, 6, 7]⟩] true) (.seq (.seq (.reg [⟨(some 33), (.ixarr 3 1 (.t 3) (.c (.int .i64 0))), none, []⟩, ⟨(some 34), (.ld false 1 (.t 33)), none, [0]⟩, ⟨(some 35), (.call 30 [(.t 34), (.c (.int .i64 4))]), none, [1]⟩] false) (.block 0 (.seq (.reg [⟨(some 37), (.bin .eql (.t 35) (.c (.int .i64 0))), none, []⟩, ⟨(some 36), (.mv (.t 37)), none, [0]⟩] false) (.cond (.t 36) (.reg [⟨(some 38), (.mv (.t 6)), none, []⟩, ⟨(some 39), (.mv (.t 7)), none, []⟩, ⟨(some 40), (.nilc (.t 38)), none, [0, 0, 1]⟩, ⟨(some 41), (.fa 0 (.t 40)), none, [2, 0, 1]⟩, ⟨none, (.st 1 (.t 41) (.t 39)), none, [3, 1, 0, 1]⟩] false) (.seq (.reg [⟨(some 43), (.bin .eql (.t 35) (.c (.int .i64 1))), none, []⟩, ⟨(some 42), (.mv (.t 43)), none, [0]⟩] false) (.cond (.t 42) (.reg [⟨(some 44), (.mv (.t 6)), none, []⟩, ⟨(some 45), (.mv (.t 7)), none, []⟩, ⟨(some 46), (.nilc (.t 44)), none, [0, 0, 1]⟩, ⟨(some 47), (.fa 1 (.t 46)), none, [2, 0, 1]⟩, ⟨none, (.st 1 (.t 47) (.t 45)), none, [3, 1, 0, 1]⟩] false) (.seq (.reg [⟨(some 49), (.bin .eql (.t 35) (.c (.int .i64 2))), none, []⟩, ⟨(some 48), (.mv (.t 49)), none, [0]⟩] false) (.cond (.t 48) (.reg [⟨(some 50), (.mv (.t 6)), none, []⟩, ⟨(some 51), (.mv (.t 6)), none, []⟩, ⟨(some 52), (.nilc (.t 51)), none, [1]⟩, ⟨(some 53), (.fa 2 (.t 52)), none, [2]⟩, ⟨(some 54), (.ld false 1 (.t 53)), none, [3]⟩, ⟨(some 55), (.un .not (.t 54)), none, [4]⟩, ⟨(some 56), (.nilc (.t 50)), none, [0, 0, 1, 2, 3, 4, 5]⟩, ⟨(some 57), (.fa 2 (.t 56)), none, [6, 0, 1, 2, 3, 4, 5]⟩, ⟨none, (.st 1 (.t 57) (.t 55)), none, [7, 5, 0, 1, 2, 3, 4, 5]⟩] false) (.seq (.reg [⟨(some 59), (.bin .eql (.t 35) (.c (.int .i64 3))), none, []⟩, ⟨(some 58), (.mv (.t 59)), none, [0]⟩] false) (.cond (.t 58) (.block 1 (.loop (.seq (.seq (.reg [⟨(some 60), (.mv (.t 5)), none, []⟩, ⟨(some 61), (.len (.t 60)), none, [0]⟩, ⟨(some 62), (.bin .leq (.t 61) (.c (.int .i64 40))), none, [1]⟩] false) (.cond (.t 62) .skip (.exit 1))) (.block 2 (.reg [⟨(some 63), (.mv (.t 5)), none, []⟩, ⟨(some 64), (.mv (.t 5)), none, []⟩, ⟨(some 65), (.ixsl 3 (.t 64) (.c (.int .i64 0))), none, [1]⟩, ⟨(some 66), (.ld true 3 (.t 65)), none, [2]⟩, ⟨(some 67), (.bslice 80 3 [(.int .i64 0), (.int .i64 0), (.bool false)] 1 [(0, (.t 66))]), none, [3]⟩, ⟨(some 68), (.app 80 3 24 [(.int .i64 0), (.int .i64 0), (.bool false)] (.t 63) (.t 67)), none, [0, 4]⟩, ⟨(some 5), (.mv (.t 68)), none, [5, 5, 0, 1, 2, 3, 4, 5]⟩] false))))) .skip)))))))))) (.seq (.reg [⟨(some 69), (.mv (.t 5)), none, []⟩, ⟨(some 4), (.mv (.t 69)), none, [0, 0]⟩] false) .ret)))))))
theorem mcOk33 : (match Try.f33.body with | some c => compC Try.prog 70 c | none => none) = some mc33 := by kernel_rfl

theorem fc33 (l : List Sg) (q0 q1 q2 : Int) (hl : l.length ≤ 1000000) : FC Try.prog 33 [.rs 3 (l.map cS), .agg [iv q0, iv q1, iv q2]] [] (.rs 3 ((oddI l q0 q1 q2).map cS)) [] false := by
  refine fc_run (nt := 70) Try.func33 rfl rfl mcOk33 (Nat.le_of_ble_eq_true rfl) ?_
  delta mc33
  refine aw_seq ?_
  refine aw_reg ?_
  refine rs_box rfl rfl rfl rfl rfl rfl ?_
  refine rs_mv rfl rfl ?_
  refine rs_nil fun _ => ?_
  refine th_n ?_
  refine aw_seq ?_
  refine aw_reg ?_
  refine rs_bslice rfl rfl rfl rfl rfl rfl ?_
  refine rs_mv rfl rfl ?_
  refine rs_app_e (ys := l) (n := l.length) (f := cS) (rd := []) rfl rfl rfl rfl rfl rfl rfl (by simp) (fun _ => rfl) rfl (by omega) (by omega) (fun _ => rfl) ?_
  refine rs_mv rfl rfl ?_
  refine rs_nil fun _ => ?_
  refine th_n ?_
  refine aw_seq ?_
  refine aw_seq ?_
  refine aw_reg ?_
  refine rs_mv rfl rfl ?_
  first | refine rs_len_m rfl rfl ?_ | refine rs_len_s rfl rfl ?_ | refine rs_len_n rfl rfl ?_ | refine rs_len_r rfl rfl rfl ?_
  refine rs_eql rfl rfl rfl ?_
  refine rs_nil fun _ => ?_
  refine th_n ?_
  refine aw_cond rfl (fun h13 => ?_) (fun h13 => ?_)
  · first | replace h13 := of_decide_eq_true h13 | skip
    refine aw_seq ?_
    refine aw_reg ?_
    refine rs_ixarr_p rfl rfl rfl (by decide) (by decide) ?_
    first | refine rs_ld_r rfl rfl rfl ?_ | refine rs_ld_p rfl rfl rfl rfl rfl ?_ | refine rs_ld_m rfl rfl rfl (by omega) rfl ?_
    refine rs_build rfl rfl ?_
    refine rs_bslice rfl rfl rfl rfl rfl rfl ?_
    refine rs_mv rfl rfl ?_
    refine rs_nil fun _ => ?_
    refine th_n ?_
    refine aw_ret ?_
    refine th_r ?_
    first
      | (exfalso; omega)
      | (rw [oddI, if_pos (by omega)]
         exact ret_new rfl (rc_frz (f := cS) (xs := [(⟨q2, 0, false⟩ : Sg)]) rfl rfl rfl (fun _ => rfl)) .nil)
      | (have e : oddI l q0 q1 q2 = l ++ List.replicate k r0 := by
           rw [oddI, if_neg hne, if_neg (by omega), if_neg (by omega), if_neg (by omega), e3]
           congr 2
           omega
         rw [e]
         exact ret_new rfl (rc_frz rfl rfl (by simp) (fun _ => rfl)) .nil)
      | (rw [oddI, if_neg hne, e1, e2]
         first | rw [if_pos (by omega)] | rw [if_neg (by omega), if_pos (by omega)] | rw [if_neg (by omega), if_neg (by omega), if_pos (by omega)]
         exact ret_new rfl (rc_frz rfl rfl (by simp) (fun _ => rfl)) .nil)
  · first | replace h13 := of_decide_eq_false h13 | skip
    refine aw_skip ?_
    refine th_n ?_
    refine aw_seq ?_
    refine aw_reg ?_
    have hne : l.length ≠ 0 := by omega
    have hq1 := modS_range q1 (l.length : Int) (by omega)
    have hq2 := modS_range q2 6 (by omega)
    have hq0 := modS_range q0 4 (by omega)
    obtain ⟨i, hi9⟩ : ∃ i : Nat, modS q1 (l.length : Int) = (i : Int) := ⟨(modS q1 (l.length : Int)).toNat, by omega⟩
    obtain ⟨r, hr, _⟩ := at_some (L := l) (k := i) (by omega)
    obtain ⟨r0, hr0, _⟩ := at_some (L := l) (k := 0) (by omega)
    have c23 : FC Try.prog 30 [iv q1, iv (l.length : Int)] [] (iv (i : Int)) [] false := by have := fc30 q1 (l.length : Int) (by omega); rwa [hi9] at this
    have e1 : (modS q1 (l.length : Int)).toNat = i := by omega
    have e2 : l.getD i sg0 = r := by simp [List.getD_eq_getElem?_getD, hr]
    have e3 : l.getD 0 sg0 = r0 := by simp [List.getD_eq_getElem?_getD, hr0]
    refine rs_mv rfl rfl ?_
    refine rs_ixarr_p rfl rfl rfl (by decide) (by decide) ?_
    first | refine rs_ld_r rfl rfl rfl ?_ | refine rs_ld_p rfl rfl rfl rfl rfl ?_ | refine rs_ld_m rfl rfl rfl (by omega) rfl ?_
    refine rs_mv rfl rfl ?_
    first | refine rs_len_m rfl rfl ?_ | refine rs_len_s rfl rfl ?_ | refine rs_len_n rfl rfl ?_ | refine rs_len_r rfl rfl rfl ?_
    refine rs_calln [] rfl rfl (c23) (.cons (hv_same rfl) (.cons (hv_same rfl) (.nil))) rfl ?_
    refine rs_ix_sm (t := i) rfl rfl rfl rfl (by omega) ?_
    refine rs_mv rfl rfl ?_
    refine rs_nil fun _ => ?_
    refine th_n ?_
    refine aw_seq ?_
    refine aw_draw hmix ?_
    refine rs_ixarr_p rfl rfl rfl (by decide) (by decide) ?_
    first | refine rs_ld_r rfl rfl rfl ?_ | refine rs_ld_p rfl rfl rfl rfl rfl ?_ | refine rs_ld_m rfl rfl rfl (by omega) rfl ?_
    refine rs_bslice rfl rfl rfl rfl rfl rfl ?_
    refine rs_ixarr_p rfl rfl rfl (by decide) (by decide) ?_
    first | refine rs_ld_r rfl rfl rfl ?_ | refine rs_ld_p rfl rfl rfl rfl rfl ?_ | refine rs_ld_m rfl rfl rfl (by omega) rfl ?_
    refine rs_calln [] rfl rfl (fc30 q2 6 (by omega)) (.cons (hv_same rfl) (.cons (hv_same rfl) (.nil))) rfl ?_
    refine rs_ix_s rfl rfl rfl rfl (by omega) (by omega) ?_
    refine rs_ld_p rfl rfl rfl (el := ci (pickI q2 (modS q2 6))) (pickI_at q2 _ hq2.1 hq2.2) rfl ?_
    refine rs_mv rfl rfl ?_
    refine rs_nil ⟨by kernel_rfl, fun _ => ?_⟩
    refine th_n ?_
    refine aw_seq ?_
    refine aw_seq ?_
    refine aw_reg ?_
    refine rs_ixarr_p rfl rfl rfl (by decide) (by decide) ?_
    first | refine rs_ld_r rfl rfl rfl ?_ | refine rs_ld_p rfl rfl rfl rfl rfl ?_ | refine rs_ld_m rfl rfl rfl (by omega) rfl ?_
    refine rs_calln [] rfl rfl (fc30 q0 4 (by omega)) (.cons (hv_same rfl) (.cons (hv_same rfl) (.nil))) rfl ?_
    refine rs_nil fun _ => ?_
    refine th_n ?_
    refine aw_block ?_
    refine aw_seq ?_
    refine aw_reg ?_
    refine rs_eql rfl rfl rfl ?_
    refine rs_mv rfl rfl ?_
    refine rs_nil fun _ => ?_
    refine th_n ?_
    refine aw_cond rfl (fun h36 => ?_) (fun h36 => ?_)
    · first | replace h36 := of_decide_eq_true h36 | skip
      refine aw_reg ?_
      refine rs_mv rfl rfl ?_
      refine rs_mv rfl rfl ?_
      first | refine rs_nilc_p rfl rfl ?_ | refine rs_nilc_r rfl rfl ?_
      first | refine rs_fa_p rfl rfl ?_ | refine rs_fa_r rfl rfl rfl ?_
      refine rs_st_m (v := ⟨pickI q2 (modS q2 6), r.cell, r.there⟩) (fl' := true) rfl rfl rfl rfl (by omega) rfl rfl (Nat.le_of_ble_eq_true rfl) (by rw [(List.getElem?_eq_some_iff.1 hr).2]; rfl) rfl ?_
      refine rs_nil fun _ => ?_
      refine in_n ?_
      refine th_n ?_
      refine aw_seq ?_
      refine aw_reg ?_
      refine rs_mv rfl rfl ?_
      refine rs_mv rfl rfl ?_
      refine rs_nil fun _ => ?_
      refine th_n ?_
      refine aw_ret ?_
      first
        | (exfalso; omega)
        | (rw [oddI, if_pos (by omega)]
           exact ret_new rfl (rc_frz (f := cS) (xs := [(⟨q2, 0, false⟩ : Sg)]) rfl rfl rfl (fun _ => rfl)) .nil)
        | (have e : oddI l q0 q1 q2 = l ++ List.replicate k r0 := by
             rw [oddI, if_neg hne, if_neg (by omega), if_neg (by omega), if_neg (by omega), e3]
             congr 2
             omega
           rw [e]
           exact ret_new rfl (rc_frz rfl rfl (by simp) (fun _ => rfl)) .nil)
        | (rw [oddI, if_neg hne, e1, e2]
           first | rw [if_pos (by omega)] | rw [if_neg (by omega), if_pos (by omega)] | rw [if_neg (by omega), if_neg (by omega), if_pos (by omega)]
           exact ret_new rfl (rc_frz rfl rfl (by simp) (fun _ => rfl)) .nil)
    · first | replace h36 := of_decide_eq_false h36 | skip
      refine aw_seq ?_
      refine aw_reg ?_
      refine rs_eql rfl rfl rfl ?_
      refine rs_mv rfl rfl ?_
      refine rs_nil fun _ => ?_
      refine th_n ?_
      refine aw_cond rfl (fun h42 => ?_) (fun h42 => ?_)
      · first | replace h42 := of_decide_eq_true h42 | skip
        refine aw_reg ?_
        refine rs_mv rfl rfl ?_
        refine rs_mv rfl rfl ?_
        first | refine rs_nilc_p rfl rfl ?_ | refine rs_nilc_r rfl rfl ?_
        first | refine rs_fa_p rfl rfl ?_ | refine rs_fa_r rfl rfl rfl ?_
        refine rs_st_m (v := ⟨r.gauge, pickI q2 (modS q2 6), r.there⟩) (fl' := true) rfl rfl rfl rfl (by omega) rfl rfl (Nat.le_of_ble_eq_true rfl) (by rw [(List.getElem?_eq_some_iff.1 hr).2]; rfl) rfl ?_
        refine rs_nil fun _ => ?_
        refine in_n ?_
        refine th_n ?_
        refine aw_seq ?_
        refine aw_reg ?_
        refine rs_mv rfl rfl ?_
        refine rs_mv rfl rfl ?_
        refine rs_nil fun _ => ?_
        refine th_n ?_
        refine aw_ret ?_
        first
          | (exfalso; omega)
          | (rw [oddI, if_pos (by omega)]
             exact ret_new rfl (rc_frz (f := cS) (xs := [(⟨q2, 0, false⟩ : Sg)]) rfl rfl rfl (fun _ => rfl)) .nil)
          | (have e : oddI l q0 q1 q2 = l ++ List.replicate k r0 := by
               rw [oddI, if_neg hne, if_neg (by omega), if_neg (by omega), if_neg (by omega), e3]
               congr 2
               omega
             rw [e]
             exact ret_new rfl (rc_frz rfl rfl (by simp) (fun _ => rfl)) .nil)
          | (rw [oddI, if_neg hne, e1, e2]
             first | rw [if_pos (by omega)] | rw [if_neg (by omega), if_pos (by omega)] | rw [if_neg (by omega), if_neg (by omega), if_pos (by omega)]
             exact ret_new rfl (rc_frz rfl rfl (by simp) (fun _ => rfl)) .nil)
      · first | replace h42 := of_decide_eq_false h42 | skip
        refine aw_seq ?_
        refine aw_reg ?_
        refine rs_eql rfl rfl rfl ?_
        refine rs_mv rfl rfl ?_
        refine rs_nil fun _ => ?_
        refine th_n ?_
        refine aw_cond rfl (fun h48 => ?_) (fun h48 => ?_)
        · first | replace h48 := of_decide_eq_true h48 | skip
          refine aw_reg ?_
          refine rs_mv rfl rfl ?_
          refine rs_mv rfl rfl ?_
          first | refine rs_nilc_p rfl rfl ?_ | refine rs_nilc_r rfl rfl ?_
          first | refine rs_fa_p rfl rfl ?_ | refine rs_fa_r rfl rfl rfl ?_
          refine rs_ld_g rfl rfl rfl hr rfl ?_
          refine rs_not rfl rfl ?_
          first | refine rs_nilc_p rfl rfl ?_ | refine rs_nilc_r rfl rfl ?_
          first | refine rs_fa_p rfl rfl ?_ | refine rs_fa_r rfl rfl rfl ?_
          refine rs_st_m (v := ⟨r.gauge, r.cell, !r.there⟩) (fl' := true) rfl rfl rfl rfl (by omega) rfl rfl (Nat.le_of_ble_eq_true rfl) (by rw [(List.getElem?_eq_some_iff.1 hr).2]; rfl) rfl ?_
          refine rs_nil fun _ => ?_
          refine in_n ?_
          refine th_n ?_
          refine aw_seq ?_
          refine aw_reg ?_
          refine rs_mv rfl rfl ?_
          refine rs_mv rfl rfl ?_
          refine rs_nil fun _ => ?_
          refine th_n ?_
          refine aw_ret ?_
          first
            | (exfalso; omega)
            | (rw [oddI, if_pos (by omega)]
               exact ret_new rfl (rc_frz (f := cS) (xs := [(⟨q2, 0, false⟩ : Sg)]) rfl rfl rfl (fun _ => rfl)) .nil)
            | (have e : oddI l q0 q1 q2 = l ++ List.replicate k r0 := by
                 rw [oddI, if_neg hne, if_neg (by omega), if_neg (by omega), if_neg (by omega), e3]
                 congr 2
                 omega
               rw [e]
               exact ret_new rfl (rc_frz rfl rfl (by simp) (fun _ => rfl)) .nil)
            | (rw [oddI, if_neg hne, e1, e2]
               first | rw [if_pos (by omega)] | rw [if_neg (by omega), if_pos (by omega)] | rw [if_neg (by omega), if_neg (by omega), if_pos (by omega)]
               exact ret_new rfl (rc_frz rfl rfl (by simp) (fun _ => rfl)) .nil)
        · first | replace h48 := of_decide_eq_false h48 | skip
          refine aw_seq ?_
          refine aw_reg ?_
          refine rs_eql rfl rfl rfl ?_
          refine rs_mv rfl rfl ?_
          refine rs_nil fun _ => ?_
          refine th_n ?_
          refine aw_cond rfl (fun h58 => ?_) (fun h58 => ?_)
          · first | replace h58 := of_decide_eq_true h58 | skip
            refine aw_block ?_
            refine aw_fam (α := Nat) (fun k => 41 - k) (fun k => [(5, .sl 1033 0 (l.length + (k)))]) (fun k => [(1033, .cells 80 3 ((l ++ List.replicate (k) r0).map cS) true)]) (fun k => k = 0 ∨ l.length + k ≤ 41) 0 (.inl rfl)
              (weak_to_ren (i := 10) (i' := 1033) (F1 := [(5, .sl 10 0 (l.length + (0)))]) (H1 := [(10, .cells 80 3 ((l ++ List.replicate (0) r0).map cS) true)]) (.cons rfl (rc_same rfl (.inl rfl)) (.nil)) (.keep ((by (rw [show l ++ List.replicate 0 _ = l from List.append_nil l]) <;> rfl)) rfl (.nil)) (fun i h => by cases h) rfl rfl (.cons rfl (.sl _ _) (.nil)) (.cons rfl (rc_same rfl (.inl rfl)) (.nil)) (.keep (rfl) rfl (.nil)) (fun i h => by cases h)) ?_
            intro k hk
            refine aw_seq ?_
            refine aw_seq ?_
            refine aw_reg ?_
            refine rs_mv rfl rfl ?_
            first | refine rs_len_m rfl rfl ?_ | refine rs_len_s rfl rfl ?_ | refine rs_len_n rfl rfl ?_ | refine rs_len_r rfl rfl rfl ?_
            refine rs_leq rfl rfl rfl ?_
            refine rs_nil fun _ => ?_
            refine th_n ?_
            refine aw_cond rfl (fun h62 => ?_) (fun h62 => ?_)
            · first | replace h62 := of_decide_eq_true h62 | skip
              refine aw_skip ?_
              refine th_n ?_
              refine aw_block ?_
              refine aw_reg ?_
              refine rs_mv rfl rfl ?_
              refine rs_mv rfl rfl ?_
              refine rs_ix_sm (t := 0) rfl rfl rfl rfl (by omega) ?_
              refine rs_ld_ga (y := r0) (cs := cS r0) rfl rfl rfl (by rw [List.getElem?_append_left (by omega)]; exact hr0) (Nat.le_of_ble_eq_true rfl) rfl ?_
              refine rs_bslice rfl rfl rfl rfl rfl rfl ?_
              refine rs_app_m (y := r0) (rd := [67]) rfl rfl rfl rfl (by simp) rfl rfl rfl (by simp) rfl (by omega) (by omega) rfl ?_
              refine rs_mv rfl rfl ?_
              refine rs_nil fun _ => ?_
              refine in_n ?_
              refine th_n ?_
              refine ⟨k + 1, by omega, by omega, ?_⟩
              exact weak_to_ren (i := 68) (i' := 1033) (F1 := [(5, .sl 68 0 (l.length + (k + 1)))]) (H1 := [(68, .cells 80 3 ((l ++ List.replicate (k + 1) r0).map cS) true)]) (.cons rfl (rc_same rfl (.inl rfl)) (.nil)) (.keep ((by (rw [List.replicate_succ', ← List.append_assoc]) <;> rfl)) rfl (.nil)) (fun i h => by cases h) rfl rfl (.cons rfl (.sl _ _) (.nil)) (.cons rfl (rc_same rfl (.inl rfl)) (.nil)) (.keep (rfl) rfl (.nil)) (fun i h => by cases h)
            · first | replace h62 := of_decide_eq_false h62 | skip
              refine aw_exit ?_
              refine th_e ?_
              refine th_e ?_
              refine in_hit ?_
              refine in_n ?_
              refine th_n ?_
              refine aw_seq ?_
              refine aw_reg ?_
              refine rs_mv rfl rfl ?_
              refine rs_mv rfl rfl ?_
              refine rs_nil fun _ => ?_
              refine th_n ?_
              refine aw_ret ?_
              first
                | (exfalso; omega)
                | (rw [oddI, if_pos (by omega)]
                   exact ret_new rfl (rc_frz (f := cS) (xs := [(⟨q2, 0, false⟩ : Sg)]) rfl rfl rfl (fun _ => rfl)) .nil)
                | (have e : oddI l q0 q1 q2 = l ++ List.replicate k r0 := by
                     rw [oddI, if_neg hne, if_neg (by omega), if_neg (by omega), if_neg (by omega), e3]
                     congr 2
                     omega
                   rw [e]
                   exact ret_new rfl (rc_frz rfl rfl (by simp) (fun _ => rfl)) .nil)
                | (rw [oddI, if_neg hne, e1, e2]
                   first | rw [if_pos (by omega)] | rw [if_neg (by omega), if_pos (by omega)] | rw [if_neg (by omega), if_neg (by omega), if_pos (by omega)]
                   exact ret_new rfl (rc_frz rfl rfl (by simp) (fun _ => rfl)) .nil)
          · first | replace h58 := of_decide_eq_false h58 | skip
            refine aw_skip ?_
            refine in_n ?_
            refine th_n ?_
            refine aw_seq ?_
            refine aw_reg ?_
            refine rs_mv rfl rfl ?_
            refine rs_mv rfl rfl ?_
            refine rs_nil fun _ => ?_
            refine th_n ?_
            refine aw_ret ?_
            first
              | (exfalso; omega)
              | (rw [oddI, if_pos (by omega)]
                 exact ret_new rfl (rc_frz (f := cS) (xs := [(⟨q2, 0, false⟩ : Sg)]) rfl rfl rfl (fun _ => rfl)) .nil)
              | (have e : oddI l q0 q1 q2 = l ++ List.replicate k r0 := by
                   rw [oddI, if_neg hne, if_neg (by omega), if_neg (by omega), if_neg (by omega), e3]
                   congr 2
                   omega
                 rw [e]
                 exact ret_new rfl (rc_frz rfl rfl (by simp) (fun _ => rfl)) .nil)
              | (rw [oddI, if_neg hne, e1, e2]
                 first | rw [if_pos (by omega)] | rw [if_neg (by omega), if_pos (by omega)] | rw [if_neg (by omega), if_neg (by omega), if_pos (by omega)]
                 exact ret_new rfl (rc_frz rfl rfl (by simp) (fun _ => rfl)) .nil)

def mc41 : MC := (.seq (.reg [⟨(some 4), (.mv (.c .nils)), none, []⟩] false) (.seq (.reg [⟨(some 5), (.mv (.c .nils)), none, []⟩] false) (.seq (.seq (.reg [⟨(some 6), (.mv (.c (.int .i64 0))), none, []⟩] false) (.block 0 (.loop (.seq (.seq (.reg [⟨(some 8), (.mv (.t 6)), none, []⟩, ⟨(some 9), (.mv (.t 1)), none, []⟩, ⟨(some 10), (.bin .lss (.t 8) (.t 9)), none, [0, 1]⟩] false) (.cond (.t 10) .skip (.exit 0))) (.seq (.block 1 (.seq (.reg [⟨(some 7), (.mv (.c (.int .i64 0))), none, []⟩] false) (.seq (.seq (.reg [⟨(some 13), (.mv (.t 6)), none, []⟩, ⟨(some 14), (.mv (.t 0)), none, []⟩, ⟨(some 15), (.len (.t 14)), none, [1]⟩, ⟨(some 16), (.bin .lss (.t 13) (.t 15)), none, [0, 2]⟩] false) (.cond (.t 16) (.reg [⟨(some 17), (.mv (.t 0)), none, []⟩, ⟨(some 18), (.mv (.t 6)), none, []⟩, ⟨(some 19), (.ixsl 1 (.t 17) (.t 18)), none, [0, 1]⟩, ⟨(some 20), (.ld false 1 (.t 19)), none, [2]⟩, ⟨(some 21), (.cvt .i64 (.t 20)), none, [3]⟩, ⟨(some 7), (.mv (.t 21)), none, [4, 0, 1, 2, 3, 4]⟩] false) .skip)) (.reg [⟨(some 22), (.mv (.t 5)), none, []⟩, ⟨(some 23), (.bslice 3 1 [(.int .i64 0)] 5 [(0, (.c (.int .i64 1))), (1, (.c (.int .i64 2))), (2, (.c (.int .i64 3))), (3, (.c (.int .i64 1))), (4, (.c (.int .i64 2)))]), none, []⟩, ⟨(some 24), (.mv (.t 7)), none, []⟩, ⟨(some 25), (.bin .rem (.t 24) (.c (.int .i64 5))), none, [2]⟩, ⟨(some 26), (.ixsl 1 (.t 23) (.t 25)), none, [1, 3]⟩, ⟨(some 27), (.ld false 1 (.t 26)), none, [4]⟩, ⟨(some 28), (.bslice 3 1 [(.int .i64 0)] 1 [(0, (.t 27))]), none, [5]⟩, ⟨(some 29), (.app 3 1 8 [(.int .i64 0)] (.t 22) (.t 28)), none, [0, 6]⟩, ⟨(some 5), (.mv (.t 29)), none, [7, 7, 0, 1, 2, 3, 4, 5, 6, 7]⟩] false)))) (.reg [⟨(some 11), (.mv (.t 6)), none, []⟩, ⟨(some 12), (.bin .add (.t 11) (.c (.int .i64 1))), none, [0]⟩, ⟨(some 6), (.mv (.t 12)), none, [1, 0, 1]⟩] false)))))) (.seq (.reg [⟨(some 30), (.mv (.t 5)), none, []⟩, ⟨(some 4), (.mv (.t 30)), none, [0, 0]⟩] false) .ret))))
theorem mcOk41 : (match Try.f41.body with | some c => compC Try.prog 31 c | none => none) = some mc41 := by kernel_rfl

theorem fc41 (L : List Int) (n : Nat) (hn : n ≤ 1000) (hL : ∀ x ∈ L, 0 ≤ x ∧ x < 256) : FC Try.prog 41 [.rs 1 (L.map cu8), iv (n : Int)] [] (ints (wantsS L n)) [] false := by
  refine fc_run (nt := 31) Try.func41 rfl rfl mcOk41 (Nat.le_of_ble_eq_true rfl) ?_
  delta mc41
  refine aw_seq ?_
  refine aw_reg ?_
  refine rs_mv rfl rfl ?_
  refine rs_nil fun _ => ?_
  refine th_n ?_
  refine aw_seq ?_
  refine aw_reg ?_
  refine rs_mv rfl rfl ?_
  refine rs_nil fun _ => ?_
  refine th_n ?_
  refine aw_seq ?_
  refine aw_seq ?_
  refine aw_reg ?_
  refine rs_mv rfl rfl ?_
  refine rs_nil fun _ => ?_
  refine th_n ?_
  refine aw_block ?_
  refine aw_fam (α := Nat) (fun k => n - k) (fun k => [(0, .rs 1 (L.map cu8)), (1, iv (n : Int)), (5, .sl 1005 0 (k)), (6, iv (((k) : Nat) : Int))]) (fun k => [(1005, .cells 3 1 ((wantsS L (k)).map ci) true)]) (fun k => k ≤ n) 0 (by omega)
    (weak_to (.cons rfl (rc_same rfl (.inl rfl)) (.cons rfl (rc_same rfl (.inl rfl)) (.cons rfl (rc_virt rfl rfl) (.cons rfl (rc_same rfl (.inl rfl)) (.nil))))) (.virt rfl (.nil)) (fun i h => by cases h)) ?_
  intro k hk
  refine aw_seq ?_
  refine aw_seq ?_
  refine aw_reg ?_
  refine rs_mv rfl rfl ?_
  refine rs_mv rfl rfl ?_
  refine rs_lss rfl rfl rfl ?_
  refine rs_nil fun _ => ?_
  refine th_n ?_
  refine aw_cond rfl (fun h10 => ?_) (fun h10 => ?_)
  · first | replace h10 := of_decide_eq_true h10 | skip
    refine aw_skip ?_
    refine th_n ?_
    refine aw_seq ?_
    refine aw_block ?_
    refine aw_seq ?_
    refine aw_reg ?_
    refine rs_mv rfl rfl ?_
    refine rs_nil fun _ => ?_
    refine th_n ?_
    refine aw_seq ?_
    refine aw_seq ?_
    refine aw_reg ?_
    refine rs_mv rfl rfl ?_
    refine rs_mv rfl rfl ?_
    first | refine rs_len_m rfl rfl ?_ | refine rs_len_s rfl rfl ?_ | refine rs_len_n rfl rfl ?_ | refine rs_len_r rfl rfl rfl ?_
    refine rs_lss rfl rfl rfl ?_
    refine rs_nil fun _ => ?_
    refine th_n ?_
    refine aw_cond rfl (fun h16 => ?_) (fun h16 => ?_)
    · first | replace h16 := of_decide_eq_true h16 | skip
      refine aw_reg ?_
      obtain ⟨x, hx, hxm⟩ := at_some (L := L) (k := k) (by omega)
      have hxr := hL x hxm
      have htm := tmodr x 5 hxr.1 (by decide)
      have hxd := getD_of hx
      refine rs_mv rfl rfl ?_
      refine rs_mv rfl rfl ?_
      refine rs_ix_g rfl rfl rfl (by omega) hx ?_
      refine rs_ld_r rfl rfl rfl ?_
      refine rs_cvt (m := x) rfl rfl (wrap64_eq (by have := hL x hxm; omega)) ?_
      refine rs_mv rfl rfl ?_
      refine rs_nil fun _ => ?_
      refine th_n ?_
      refine aw_reg ?_
      refine rs_mv rfl rfl ?_
      refine rs_bslice rfl rfl rfl rfl rfl rfl ?_
      refine rs_mv rfl rfl ?_
      refine rs_rem rfl rfl rfl (by decide) rfl ?_
      refine rs_ix_s rfl rfl rfl rfl (by omega) (by omega) ?_
      refine rs_ld_p rfl rfl rfl (el := ci (wantF x)) (want_at x (by omega) (by omega)) rfl ?_
      refine rs_bslice rfl rfl rfl rfl rfl rfl ?_
      refine rs_app_m (y := wantF x) rfl rfl rfl rfl (length_wants _ _) rfl rfl rfl (by decide) rfl (by omega) (by omega) rfl ?_
      refine rs_mv rfl rfl ?_
      refine rs_nil fun _ => ?_
      refine in_n ?_
      refine th_n ?_
      refine aw_reg ?_
      refine rs_mv rfl rfl ?_
      first | refine rs_add rfl rfl rfl (by omega) ?_ | refine rs_addw rfl rfl rfl rfl ?_
      refine rs_mv rfl rfl ?_
      refine rs_nil fun _ => ?_
      refine th_n ?_
      have hw := wants_succ L k
      rw [hxd] at hw
      exact ⟨k + 1, by omega, by omega, weak_to_ren (i := 29) (i' := 1005) (F1 := [(0, .rs 1 (L.map cu8)), (1, iv (n : Int)), (5, .sl 29 0 (k + 1)), (6, iv (((k + 1) : Nat) : Int))]) (H1 := [(29, .cells 3 1 ((wantsS L (k + 1)).map ci) true)]) (.cons rfl (rc_same rfl (.inl rfl)) (.cons rfl (rc_same rfl (.inl rfl)) (.cons rfl (rc_same rfl (.inl rfl)) (.cons rfl (rc_same rfl (.inl rfl)) (.nil))))) (.keep ((by rw [hw]; rfl)) rfl (.nil)) (fun i h => by cases h) rfl rfl (.cons rfl (.same _) (.cons rfl (.same _) (.cons rfl (.sl _ _) (.cons rfl (.same _) (.nil))))) (.cons rfl (rc_same rfl (.inl rfl)) (.cons rfl (rc_same rfl (.inl rfl)) (.cons rfl (rc_same rfl (.inl rfl)) (.cons rfl (rc_same rfl (.inl rfl)) (.nil))))) (.keep (rfl) rfl (.nil)) (fun i h => by cases h)⟩
    · first | replace h16 := of_decide_eq_false h16 | skip
      have hxd : L.getD k 0 = 0 := by simp [List.getD_eq_getElem?_getD, List.getElem?_eq_none (show L.length ≤ k by omega)]
      have h05 : Int.tmod 0 5 = 0 := rfl
      refine aw_skip ?_
      refine th_n ?_
      refine aw_reg ?_
      refine rs_mv rfl rfl ?_
      refine rs_bslice rfl rfl rfl rfl rfl rfl ?_
      refine rs_mv rfl rfl ?_
      refine rs_rem rfl rfl rfl (by decide) rfl ?_
      refine rs_ix_s rfl rfl rfl rfl (by omega) (by omega) ?_
      refine rs_ld_p rfl rfl rfl (el := ci (wantF 0)) (want_at 0 (by decide) (by decide)) rfl ?_
      refine rs_bslice rfl rfl rfl rfl rfl rfl ?_
      refine rs_app_m (y := wantF 0) rfl rfl rfl rfl (length_wants _ _) rfl rfl rfl (by decide) rfl (by omega) (by omega) rfl ?_
      refine rs_mv rfl rfl ?_
      refine rs_nil fun _ => ?_
      refine in_n ?_
      refine th_n ?_
      refine aw_reg ?_
      refine rs_mv rfl rfl ?_
      first | refine rs_add rfl rfl rfl (by omega) ?_ | refine rs_addw rfl rfl rfl rfl ?_
      refine rs_mv rfl rfl ?_
      refine rs_nil fun _ => ?_
      refine th_n ?_
      have hw := wants_succ L k
      rw [hxd] at hw
      exact ⟨k + 1, by omega, by omega, weak_to_ren (i := 29) (i' := 1005) (F1 := [(0, .rs 1 (L.map cu8)), (1, iv (n : Int)), (5, .sl 29 0 (k + 1)), (6, iv (((k + 1) : Nat) : Int))]) (H1 := [(29, .cells 3 1 ((wantsS L (k + 1)).map ci) true)]) (.cons rfl (rc_same rfl (.inl rfl)) (.cons rfl (rc_same rfl (.inl rfl)) (.cons rfl (rc_same rfl (.inl rfl)) (.cons rfl (rc_same rfl (.inl rfl)) (.nil))))) (.keep ((by rw [hw]; rfl)) rfl (.nil)) (fun i h => by cases h) rfl rfl (.cons rfl (.same _) (.cons rfl (.same _) (.cons rfl (.sl _ _) (.cons rfl (.same _) (.nil))))) (.cons rfl (rc_same rfl (.inl rfl)) (.cons rfl (rc_same rfl (.inl rfl)) (.cons rfl (rc_same rfl (.inl rfl)) (.cons rfl (rc_same rfl (.inl rfl)) (.nil))))) (.keep (rfl) rfl (.nil)) (fun i h => by cases h)⟩
  · first | replace h10 := of_decide_eq_false h10 | skip
    refine aw_exit ?_
    refine th_e ?_
    refine th_e ?_
    refine in_hit ?_
    refine th_n ?_
    refine aw_seq ?_
    refine aw_reg ?_
    refine rs_mv rfl rfl ?_
    refine rs_mv rfl rfl ?_
    refine rs_nil fun _ => ?_
    refine th_n ?_
    refine aw_ret ?_
    obtain rfl : n = k := by omega
    exact ret_new rfl (rc_frz rfl rfl (length_wants _ _) (fun _ => rfl)) .nil

end Go.Proofs.Ytadjdnhnbkcakaa

/-! What is said of cells when some gauges are left out, as plain data. -/
namespace Go.Proofs.Ytadjdnhnbkcakaa
open Go.RowKit
/-- What is said of a cell. -/
def leftF (t g c : Nat) : Int := if t.testBit c = true then 1 else if g.testBit c = true then -1 else 0
def leftW (t g n : Nat) : List Int := (List.range n).map (leftF t g)
theorem length_leftW (t g n : Nat) : (leftW t g n).length = n := by simp [leftW]
theorem leftW_at {t g n c : Nat} (h : c < n) : (leftW t g n)[c]? = some (leftF t g c) := by simp [leftW, h]
theorem leftW_0 (n : Nat) : (leftW 0 0 n).map ci = List.replicate n [AV.int .i64 0] := by
  apply List.ext_getElem (by simp [leftW])
  intro i h1 h2
  simp [leftW, leftF]
theorem or_bit (a c i : Nat) : (a ||| 2 ^ c).testBit i = (a.testBit i || decide (c = i)) := by simp [Nat.testBit_or, Nat.testBit_two_pow]
theorem leftW_t {t g n c : Nat} : (leftW t g n).set c 1 = leftW (t ||| 2 ^ c) g n := by
  apply List.ext_getElem (by simp [leftW])
  intro i h1 h2
  rw [List.getElem_set]
  simp only [leftW, List.getElem_map, List.getElem_range, leftF]
  split
  · rename_i e; subst e; rw [if_pos (by rw [or_bit]; simp)]
  · rename_i e; rw [or_bit]; simp [e]
theorem leftW_f {t g n c : Nat} (h : t.testBit c = false) : (leftW t g n).set c (-1) = leftW t (g ||| 2 ^ c) n := by
  apply List.ext_getElem (by simp [leftW])
  intro i h1 h2
  rw [List.getElem_set]
  simp only [leftW, List.getElem_map, List.getElem_range, leftF]
  split
  · rename_i e; subst e; rw [if_neg (by rw [h]; decide), if_pos (by rw [or_bit]; simp)]
  · rename_i e; rw [or_bit]; simp [e]
theorem noclash_t {t g c : Nat} (h0 : t &&& g = 0) (h : ¬ leftF t g c = -1) : (t ||| 2 ^ c) &&& g = 0 := by
  rw [and_zero] at h0 ⊢
  rintro i ⟨h1, h2⟩
  rw [or_bit, Bool.or_eq_true, decide_eq_true_eq] at h1
  rcases h1 with h1 | rfl
  · exact h0 i ⟨h1, h2⟩
  · have h3 : t.testBit c = false := by
      cases e : t.testBit c
      · rfl
      · exact absurd ⟨e, h2⟩ (h0 c)
    exact h (by unfold leftF; rw [if_neg (by rw [h3]; decide), if_pos h2])
theorem leftF_t {t g c : Nat} (h : ¬ leftF t g c = 1) : t.testBit c = false := by
  cases e : t.testBit c
  · rfl
  · exact absurd (by unfold leftF; rw [if_pos e]) h
theorem noclash_f {t g c : Nat} (h0 : t &&& g = 0) (h : ¬ leftF t g c = 1) : t &&& (g ||| 2 ^ c) = 0 := by
  rw [and_zero] at h0 ⊢
  rintro i ⟨h1, h2⟩
  rw [or_bit, Bool.or_eq_true, decide_eq_true_eq] at h2
  rcases h2 with h2 | rfl
  · exact h0 i ⟨h1, h2⟩
  · rw [leftF_t h] at h1; cases h1
theorem thK_sub {l : List Sg} {s j i : Nat} (h : (thK l s j).testBit i = true) : (thM l s).testBit i = true := by
  obtain ⟨r, hr, h1⟩ := thM_bit.1 (show (thM (l.take j) s).testBit i = true from h)
  exact thM_bit.2 ⟨r, List.mem_of_mem_take hr, h1⟩
theorem goK_sub {l : List Sg} {s j i : Nat} (h : (goK l s j).testBit i = true) : (goM l s).testBit i = true := by
  obtain ⟨r, hr, h1⟩ := goM_bit.1 (show (goM (l.take j) s).testBit i = true from h)
  exact goM_bit.2 ⟨r, List.mem_of_mem_take hr, h1⟩
theorem clash_f {l : List Sg} {s j : Nat} {r : Sg} (hr : r ∈ l) (hs : hasS s r.gauge.toNat = false) (ht : r.there = false) (h : leftF (thK l s j) (goK l s j) r.cell.toNat = 1) : ¬ (thM l s &&& goM l s = 0) := by
  intro h0
  have h1 : (thK l s j).testBit r.cell.toNat = true := by
    cases e : (thK l s j).testBit r.cell.toNat
    · unfold leftF at h; rw [e] at h; simp at h; split at h <;> simp at h
    · rfl
  exact (and_zero.1 h0) _ ⟨thK_sub h1, goM_bit.2 ⟨r, hr, hs, ht, rfl⟩⟩
theorem clash_t {l : List Sg} {s j : Nat} {r : Sg} (hr : r ∈ l) (hs : hasS s r.gauge.toNat = false) (ht : r.there = true) (h : leftF (thK l s j) (goK l s j) r.cell.toNat = -1) : ¬ (thM l s &&& goM l s = 0) := by
  intro h0
  have h1 : (goK l s j).testBit r.cell.toNat = true := by
    cases e : (goK l s j).testBit r.cell.toNat
    · unfold leftF at h; rw [e] at h; simp at h; split at h <;> simp at h
    · rfl
  exact (and_zero.1 h0) _ ⟨thM_bit.2 ⟨r, hr, hs, ht, rfl⟩, goK_sub h1⟩
def okL (l : List Sg) (s : Nat) : Bool := decide (thM l s &&& goM l s = 0)
def leftR (l : List Sg) (s n : Nat) : List Int := if okL l s = true then leftW (thM l s) (goM l s) n else []
end Go.Proofs.Ytadjdnhnbkcakaa

/-! What Verdict says, as plain data. No program in sight. -/
namespace Go.Proofs.Ytadjdnhnbkcakaa
open Go.RowKit

def kpK (want : List Int) : Nat → Nat
  | 0 => 0
  | k + 1 => if want.getD k 0 = 1 then kpK want k ||| 2 ^ (min (k : Int) 16).toNat else kpK want k
def rmK (want : List Int) : Nat → Nat
  | 0 => 0
  | k + 1 => if want.getD k 0 = 2 then rmK want k ||| 2 ^ (min (k : Int) 16).toNat else rmK want k
theorem or_lt17 {a c : Nat} (ha : a < 131072) (hc : c < 17) : a ||| 2 ^ c < 131072 := by
  have h2 : 2 ^ c < 2 ^ 17 := Nat.pow_lt_pow_right (by decide) hc
  exact Nat.or_lt_two_pow (n := 17) ha h2
theorem kpK_lt (want : List Int) : ∀ k, kpK want k < 131072
  | 0 => by simp [kpK, rmK]
  | k + 1 => by
    unfold kpK
    split
    · exact or_lt17 (kpK_lt want k) (by omega)
    · exact kpK_lt want k
theorem rmK_lt (want : List Int) : ∀ k, rmK want k < 131072
  | 0 => by simp [kpK, rmK]
  | k + 1 => by
    unfold rmK
    split
    · exact or_lt17 (rmK_lt want k) (by omega)
    · exact rmK_lt want k
theorem kpK_bit (want : List Int) : ∀ k, k ≤ 16 → ∀ i, (kpK want k).testBit i = true ↔ i < k ∧ want.getD i 0 = 1
  | 0, _, i => by simp [kpK]
  | k + 1, hk, i => by
    have ih := kpK_bit want k (by omega) i
    have e : (min (k : Int) 16).toNat = k := by omega
    unfold kpK
    split
    · rename_i h
      rw [e, or_bit, Bool.or_eq_true, ih, decide_eq_true_eq]
      constructor
      · rintro (⟨a, b⟩ | rfl)
        · exact ⟨by omega, b⟩
        · exact ⟨by omega, h⟩
      · rintro ⟨a, b⟩
        by_cases q : k = i
        · exact .inr q
        · exact .inl ⟨by omega, b⟩
    · rename_i h
      rw [ih]
      constructor
      · exact fun ⟨a, b⟩ => ⟨by omega, b⟩
      · rintro ⟨a, b⟩
        refine ⟨?_, b⟩
        by_cases q : i = k
        · subst q; exact absurd b h
        · omega
theorem rmK_bit (want : List Int) : ∀ k, k ≤ 16 → ∀ i, (rmK want k).testBit i = true ↔ i < k ∧ want.getD i 0 = 2
  | 0, _, i => by simp [rmK]
  | k + 1, hk, i => by
    have ih := rmK_bit want k (by omega) i
    have e : (min (k : Int) 16).toNat = k := by omega
    unfold rmK
    split
    · rename_i h
      rw [e, or_bit, Bool.or_eq_true, ih, decide_eq_true_eq]
      constructor
      · rintro (⟨a, b⟩ | rfl)
        · exact ⟨by omega, b⟩
        · exact ⟨by omega, h⟩
      · rintro ⟨a, b⟩
        by_cases q : k = i
        · exact .inr q
        · exact .inl ⟨by omega, b⟩
    · rename_i h
      rw [ih]
      constructor
      · exact fun ⟨a, b⟩ => ⟨by omega, b⟩
      · rintro ⟨a, b⟩
        refine ⟨?_, b⟩
        by_cases q : i = k
        · subst q; exact absurd b h
        · omega
theorem andNot_zero {a b : Nat} (ha : a < 18446744073709551616) (hb : b < 18446744073709551616) : a &&& (18446744073709551615 - b) = 0 ↔ ∀ i, a.testBit i = true → b.testBit i = true := by
  have e : 18446744073709551615 - b = 2 ^ 64 - (b + 1) := by omega
  rw [and_zero, e]
  constructor
  · intro h i hi
    cases hbi : b.testBit i
    · refine absurd ⟨hi, ?_⟩ (h i)
      rw [Nat.testBit_two_pow_sub_succ hb, hbi]
      have : i < 64 := by
        by_cases q : i < 64
        · exact q
        · have := Nat.testBit_lt_two_pow (x := a) (i := i) (Nat.lt_of_lt_of_le ha (by calc 18446744073709551616 = 2 ^ 64 := by decide
              _ ≤ 2 ^ i := Nat.pow_le_pow_right (by decide) (by omega)))
          rw [hi] at this; cases this
      simp [this]
    · rfl
  · rintro h i ⟨h1, h2⟩
    rw [Nat.testBit_two_pow_sub_succ hb, h i h1] at h2
    simp at h2

def sureF (x y : Int) : Bool := decide (x = 3 ∨ (y = 1 ∧ x = 1) ∨ (y = -1 ∧ x = 2))
def fitF (x y : Int) : Bool := decide (x = 3 ∨ (y ≠ -1 ∧ x = 1) ∨ (y ≠ 1 ∧ x = 2))
def sureK (want : List Int) (w : T3) (k : Nat) : Bool := (List.range k).all fun c => sureF (want.getD c 0) (cellF w c)
def fitK (want : List Int) (t g k : Nat) : Bool := (List.range k).all fun c => fitF (want.getD c 0) (leftF t g c)
theorem sureK_succ (want : List Int) (w : T3) (k : Nat) : sureK want w (k + 1) = (sureK want w k && sureF (want.getD k 0) (cellF w k)) := by simp [sureK, List.range_succ]
theorem fitK_succ (want : List Int) (t g k : Nat) : fitK want t g (k + 1) = (fitK want t g k && fitF (want.getD k 0) (leftF t g k)) := by simp [fitK, List.range_succ]
theorem fitK_false {want : List Int} {t g k n : Nat} (h : fitK want t g k = false) (hk : k ≤ n) : fitK want t g n = false := by
  unfold fitK at h ⊢
  rw [List.all_eq_false] at h ⊢
  obtain ⟨c, h1, h2⟩ := h
  exact ⟨c, List.mem_range.2 (by have := List.mem_range.1 h1; omega), h2⟩
def badW (want : List Int) : Bool := want.any fun x => decide (x < 1 ∨ x > 3)
def verdS (want : List Int) (l : List Sg) (lies : Int) : Int :=
  if badW want = true then 1
  else if cellsE l want.length lies ≠ 0 then cellsE l want.length lies
  else if sureK want (wholeT (tsK l lies 256)) want.length = true then 0
  else if (tsK l lies 256).any (fun t => fitK want t.1 t.2.1 want.length) = true then 5 else 35
section
variable {want : List Int} {l : List Sg} {lies : Int}
theorem badW_t {x : Int} (hx : x ∈ want) (h : x < 1 ∨ x > 3) : badW want = true := List.any_eq_true.2 ⟨x, hx, decide_eq_true h⟩
theorem badW_f (h : ∀ x ∈ want, ¬ (x < 1 ∨ x > 3)) : badW want = false := List.any_eq_false.2 fun x hx => by simpa using h x hx
theorem verd_1 (h : badW want = true) : verdS want l lies = 1 := if_pos h
theorem verd_2 (h0 : badW want = false) (h : checkI l want.length lies ≠ 0) : verdS want l lies = checkI l want.length lies := by
  have e : cellsE l want.length lies = checkI l want.length lies := if_pos h
  rw [verdS, if_neg (by rw [h0]; decide), e, if_pos h]
theorem verd_2' (h0 : badW want = false) (h : cellsE l want.length lies ≠ 0) : verdS want l lies = cellsE l want.length lies := by
  rw [verdS, if_neg (by rw [h0]; decide), if_pos h]
theorem verd_3 (h0 : badW want = false) (h : checkI l want.length lies = 0) (ht : tsK l lies 256 = []) : verdS want l lies = 21 := by
  have e := (cells_2 h ht).1
  rw [verdS, if_neg (by rw [h0]; decide), e, if_pos (by decide)]
theorem verd_4 (h0 : badW want = false) (hE : cellsE l want.length lies = 0) (h : sureK want (wholeT (tsK l lies 256)) want.length = true) : verdS want l lies = 0 := by
  rw [verdS, if_neg (by rw [h0]; decide), hE, if_neg (by decide), if_pos h]
theorem verd_5 (h0 : badW want = false) (hE : cellsE l want.length lies = 0) (h : sureK want (wholeT (tsK l lies 256)) want.length = false) {t : T3} (ht : t ∈ tsK l lies 256) (hf : fitK want t.1 t.2.1 want.length = true) : verdS want l lies = 5 := by
  rw [verdS, if_neg (by rw [h0]; decide), hE, if_neg (by decide), if_neg (by rw [h]; decide), if_pos (List.any_eq_true.2 ⟨t, ht, hf⟩)]
theorem verd_6 (h0 : badW want = false) (hE : cellsE l want.length lies = 0) (h : sureK want (wholeT (tsK l lies 256)) want.length = false) (hf : ∀ t ∈ tsK l lies 256, fitK want t.1 t.2.1 want.length = false) : verdS want l lies = 35 := by
  rw [verdS, if_neg (by rw [h0]; decide), hE, if_neg (by decide), if_neg (by rw [h]; decide), if_neg]
  intro e
  obtain ⟨t, ht, q⟩ := List.any_eq_true.1 e
  rw [hf t ht] at q; cases q
theorem ts_disj {t : T3} (ht : t ∈ tsK l lies 256) : t.1 &&& t.2.1 = 0 := by
  obtain ⟨s, _, hs, rfl⟩ := mem_tsK.1 ht
  unfold exI at hs
  simp only [Bool.and_eq_true, decide_eq_true_eq] at hs
  exact hs.2
theorem whole_disj (h : tsK l lies 256 ≠ []) : (wholeT (tsK l lies 256)).1 &&& (wholeT (tsK l lies 256)).2.1 = 0 := by
  rw [and_zero]
  rintro c ⟨a, b⟩
  rw [whole_bit (fun t => t.1) (fun _ _ => rfl) h] at a
  rw [whole_bit (fun t => t.2.1) (fun _ _ => rfl) h] at b
  obtain ⟨t, ht⟩ := List.exists_mem_of_ne_nil _ h
  exact (and_zero.1 (ts_disj ht)) c ⟨a _ ht, b _ ht⟩
theorem cellF_1 {w : T3} (h : w.1 &&& w.2.1 = 0) (c : Nat) : (cellF w c = 1 ↔ w.1.testBit c = true) ∧ (cellF w c = -1 ↔ w.2.1.testBit c = true) := by
  have := (and_zero.1 h) c
  unfold cellF bitN
  cases e1 : w.1.testBit c <;> cases e2 : w.2.1.testBit c <;> simp_all
theorem leftF_1 {t g : Nat} (h : t &&& g = 0) (c : Nat) : (leftF t g c = 1 ↔ t.testBit c = true) ∧ (leftF t g c = -1 ↔ g.testBit c = true) := by
  have := (and_zero.1 h) c
  unfold leftF
  cases e1 : t.testBit c <;> cases e2 : g.testBit c <;> simp_all
theorem want_cases (h0 : badW want = false) {c : Nat} (hc : c < want.length) : want.getD c 0 = 1 ∨ want.getD c 0 = 2 ∨ want.getD c 0 = 3 := by
  obtain ⟨x, hx, hm⟩ := at_some (L := want) (k := c) hc
  have := (List.any_eq_false.1 h0) x hm
  simp only [decide_eq_true_eq] at this
  rw [getD_of hx]
  omega
/-- The program's test for what is sure. -/
theorem sure_iff (h0 : badW want = false) (hn : want.length ≤ 16) {w : T3} (hw : w.1 &&& w.2.1 = 0) (h1 : w.1 < 65536) (h2 : w.2.1 < 65536) :
    sureK want w want.length = true ↔ (kpK want want.length &&& (18446744073709551615 - w.1) = 0 ∧ rmK want want.length &&& (18446744073709551615 - w.2.1) = 0) := by
  have b1 := kpK_lt want want.length
  have b2 := rmK_lt want want.length
  rw [andNot_zero (by omega) (by omega), andNot_zero (by omega) (by omega)]
  unfold sureK
  rw [List.all_eq_true]
  constructor
  · intro h
    refine ⟨fun i hi => ?_, fun i hi => ?_⟩
    · obtain ⟨a, b⟩ := (kpK_bit want _ hn i).1 hi
      have := h i (List.mem_range.2 a)
      unfold sureF at this
      rw [b, decide_eq_true_eq, (cellF_1 hw i).1] at this
      rcases this with e | e | e
      · omega
      · exact e.1
      · omega
    · obtain ⟨a, b⟩ := (rmK_bit want _ hn i).1 hi
      have := h i (List.mem_range.2 a)
      unfold sureF at this
      rw [b, decide_eq_true_eq, (cellF_1 hw i).2] at this
      rcases this with e | e | e
      · omega
      · omega
      · exact e.1
  · rintro ⟨a, b⟩ c hc
    have hc := List.mem_range.1 hc
    unfold sureF
    rw [decide_eq_true_eq]
    rcases want_cases h0 hc with e | e | e
    · exact .inr (.inl ⟨(cellF_1 hw c).1.2 (a c ((kpK_bit want _ hn c).2 ⟨hc, e⟩)), e⟩)
    · exact .inr (.inr ⟨(cellF_1 hw c).2.2 (b c ((rmK_bit want _ hn c).2 ⟨hc, e⟩)), e⟩)
    · exact .inl e
/-- The program's test for what fits. -/
theorem fit_iff (h0 : badW want = false) (hn : want.length ≤ 16) {t g : Nat} (hd : t &&& g = 0) : fitK want t g want.length = true ↔ (t ||| kpK want want.length) &&& (g ||| rmK want want.length) = 0 := by
  rw [and_zero]
  unfold fitK
  rw [List.all_eq_true]
  constructor
  · rintro h i ⟨h1, h2⟩
    rw [Nat.testBit_or, Bool.or_eq_true] at h1 h2
    rcases h1 with h1 | h1 <;> rcases h2 with h2 | h2
    · exact (and_zero.1 hd) i ⟨h1, h2⟩
    · obtain ⟨a, b⟩ := (rmK_bit want _ hn i).1 h2
      have := h i (List.mem_range.2 a)
      unfold fitF at this
      rw [b, decide_eq_true_eq] at this
      rcases this with e | e | e
      · omega
      · omega
      · exact e.1 ((leftF_1 hd i).1.2 h1)
    · obtain ⟨a, b⟩ := (kpK_bit want _ hn i).1 h1
      have := h i (List.mem_range.2 a)
      unfold fitF at this
      rw [b, decide_eq_true_eq] at this
      rcases this with e | e | e
      · omega
      · exact e.1 ((leftF_1 hd i).2.2 h2)
      · omega
    · obtain ⟨a, b⟩ := (kpK_bit want _ hn i).1 h1
      obtain ⟨a', b'⟩ := (rmK_bit want _ hn i).1 h2
      omega
  · intro h c hc
    have hc := List.mem_range.1 hc
    unfold fitF
    rw [decide_eq_true_eq]
    rcases want_cases h0 hc with e | e | e
    · refine .inr (.inl ⟨fun q => ?_, e⟩)
      have h1 := (leftF_1 hd c).2.1 q
      exact h c ⟨by rw [Nat.testBit_or, (kpK_bit want _ hn c).2 ⟨hc, e⟩]; simp, by rw [Nat.testBit_or, h1]; rfl⟩
    · refine .inr (.inr ⟨fun q => ?_, e⟩)
      have h1 := (leftF_1 hd c).1.1 q
      exact h c ⟨by rw [Nat.testBit_or, h1]; rfl, by rw [Nat.testBit_or, (rmK_bit want _ hn c).2 ⟨hc, e⟩]; simp⟩
    · exact .inl e
end
end Go.Proofs.Ytadjdnhnbkcakaa

/-! Walks: A29. -/
namespace Go.Proofs.Ytadjdnhnbkcakaa
open Go.RowKit

abbrev partV (want : List Int) : AV := .agg [.str ⟨⟨[]⟩⟩, .nils, ints want]
theorem shl_min (k : Nat) : IntKind.u64.wrap (1 * 2 ^ min (min (k : Int) 16).toNat IntKind.u64.bits) = ((2 ^ (min (k : Int) 16).toNat : Nat) : Int) := shl_u64' _ (by omega) (by omega)
theorem pow_min (k : Nat) : 2 ^ (min (k : Int) 16).toNat < 131072 := (show 2 ^ (min (k : Int) 16).toNat < 2 ^ 17 from Nat.pow_lt_pow_right (by decide) (by omega))
theorem want_step {want : List Int} {k : Nat} {x : Int} (h : ∀ j y, j < k → want[j]? = some y → ¬ (y < 1 ∨ y > 3)) (hx : want[k]? = some x) (h1 : ¬ (x < 1 ∨ x > 3)) : ∀ j y, j < k + 1 → want[j]? = some y → ¬ (y < 1 ∨ y > 3) := fun j y hj hy => by
  by_cases e : j = k
  · subst e; rw [hx] at hy; injection hy with hy; subst hy; exact h1
  · exact h j y (by omega) hy
theorem want_all {want : List Int} (h : ∀ j y, j < want.length → want[j]? = some y → ¬ (y < 1 ∨ y > 3)) : badW want = false := badW_f fun x hx => by
  obtain ⟨j, hj⟩ := List.getElem?_of_mem hx
  exact h j x (lt_of_at hj) hj
theorem cellW_at {w : T3} {n c : Nat} (h : c < n) : (cellW w n)[c]? = some (cellF w c) := by simp [cellW, h]
theorem cells_ok {l : List Sg} {cells lies : Int} (h : cellsE l cells lies = 0) : checkI l cells lies = 0 ∧ tsK l lies 256 ≠ [] := by
  unfold cellsE at h
  split at h
  · rename_i e; exact absurd h e
  · rename_i e
    split at h
    · cases h
    · rename_i e2; exact ⟨Decidable.not_not.1 e, e2⟩
theorem exI_of {l : List Sg} {lies : Int} {k : Nat} (h : okL l k = true) : exI l lies k = decide ((sizeS k 8 : Int) ≤ lies) := by
  unfold okL at h
  unfold exI
  rw [h, Bool.and_true]
theorem exI_ok {l : List Sg} {lies : Int} {k : Nat} (h : exI l lies k = true) : okL l k = true := by
  unfold exI at h
  exact (Bool.and_eq_true _ _ ▸ h).2
theorem fitK_0 (want : List Int) (t g : Nat) : fitK want t g 0 = true := rfl
def goodF (x : Int) (b : Bool) : Bool := !(decide (x = 1) && !b) && !(decide (x = 2) && b)
def goodK (want : List Int) (t k : Nat) : Bool := (List.range k).all fun c => goodF (want.getD c 0) (hasS t c)
theorem goodK_succ (want : List Int) (t k : Nat) : goodK want t (k + 1) = (goodK want t k && goodF (want.getD k 0) (hasS t k)) := by simp [goodK, List.range_succ]
theorem goodK_false {want : List Int} {t k n : Nat} (hk : k < n) (h : goodF (want.getD k 0) (hasS t k) = false) : goodK want t n = false := by
  unfold goodK
  rw [List.all_eq_false]
  exact ⟨k, List.mem_range.2 hk, by rw [h]; decide⟩

def mc42 : MC := (.seq (.reg [⟨(some 3), (.box 74 3 (.t 0)), none, []⟩, ⟨(some 6), (.mv (.c (.int .i64 0))), none, []⟩] false) (.seq (.reg [⟨(some 7), (.alloc 109 2 [(.int .u64 0), (.int .u64 0)]), none, []⟩] false) (.seq (.seq (.reg [⟨(some 15), (.fa 2 (.t 3)), none, []⟩, ⟨(some 16), (.ld false 1 (.t 15)), none, [0]⟩, ⟨(some 17), (.len (.t 16)), none, [1]⟩, ⟨(some 18), (.mv (.c (.int .i64 0))), none, []⟩] false) (.block 0 (.loop (.seq (.reg [⟨(some 19), (.bin .lss (.t 18) (.t 17)), none, []⟩] false) (.seq (.cond (.t 19) .skip (.exit 0)) (.seq (.block 1 (.seq (.reg [⟨(some 20), (.mv (.t 18)), none, []⟩, ⟨(some 21), (.ixsl 1 (.t 16) (.t 18)), none, []⟩, ⟨(some 22), (.ld false 1 (.t 21)), none, [1]⟩, ⟨(some 8), (.mv (.t 20)), none, [0, 0, 1, 2]⟩, ⟨(some 9), (.mv (.t 22)), none, [2, 3, 0, 1, 2, 3]⟩] false) (.seq (.reg [⟨(some 23), (.mv (.t 9)), none, []⟩] false) (.block 2 (.seq (.reg [⟨(some 25), (.bin .eql (.t 23) (.c (.int .i64 1))), none, []⟩, ⟨(some 24), (.mv (.t 25)), none, [0]⟩] false) (.cond (.t 24) (.reg [⟨(some 26), (.fa 0 (.t 7)), none, []⟩, ⟨(some 27), (.ld false 1 (.t 26)), none, [0]⟩, ⟨(some 28), (.mv (.t 8)), none, []⟩, ⟨(some 29), (.mn (.t 28) (.c (.int .i64 16))), none, [2]⟩, ⟨(some 30), (.bin .shl (.c (.int .u64 1)) (.t 29)), none, [3]⟩, ⟨(some 31), (.bin .or (.t 27) (.t 30)), none, [1, 4]⟩, ⟨(some 32), (.fa 0 (.t 7)), none, [0, 1, 2, 3, 4, 5]⟩, ⟨none, (.st 1 (.t 32) (.t 31)), none, [6, 5, 0, 1, 2, 3, 4, 5]⟩] true) (.seq (.reg [⟨(some 34), (.bin .eql (.t 23) (.c (.int .i64 2))), none, []⟩, ⟨(some 33), (.mv (.t 34)), none, [0]⟩] false) (.cond (.t 33) (.reg [⟨(some 35), (.fa 1 (.t 7)), none, []⟩, ⟨(some 36), (.ld false 1 (.t 35)), none, [0]⟩, ⟨(some 37), (.mv (.t 8)), none, []⟩, ⟨(some 38), (.mn (.t 37) (.c (.int .i64 16))), none, [2]⟩, ⟨(some 39), (.bin .shl (.c (.int .u64 1)) (.t 38)), none, [3]⟩, ⟨(some 40), (.bin .or (.t 36) (.t 39)), none, [1, 4]⟩, ⟨(some 41), (.fa 1 (.t 7)), none, [0, 1, 2, 3, 4, 5]⟩, ⟨none, (.st 1 (.t 41) (.t 40)), none, [6, 5, 0, 1, 2, 3, 4, 5]⟩] true) (.seq (.reg [⟨(some 43), (.bin .eql (.t 23) (.c (.int .i64 3))), none, []⟩, ⟨(some 42), (.mv (.t 43)), none, [0]⟩] false) (.cond (.t 42) .skip (.seq (.reg [⟨(some 6), (.mv (.c (.int .i64 1))), none, []⟩] false) .ret))))))))))) (.reg [⟨(some 44), (.bin .add (.t 18) (.c (.int .i64 1))), none, []⟩, ⟨(some 18), (.mv (.t 44)), none, [0]⟩] false))))))) (.seq (.seq (.reg [⟨(some 45), (.mv (.t 1)), none, []⟩, ⟨(some 46), (.fa 2 (.t 3)), none, []⟩, ⟨(some 47), (.ld false 1 (.t 46)), none, [1]⟩, ⟨(some 48), (.len (.t 47)), none, [2]⟩, ⟨(some 49), (.mv (.t 2)), none, []⟩, ⟨(some 50), (.call 34 [(.t 45), (.t 48), (.t 49)]), none, [0, 3, 4]⟩, ⟨(some 10), (.mv (.t 50)), none, [5, 5, 0, 1, 2, 3, 4, 5]⟩] false) (.seq (.reg [⟨(some 51), (.mv (.t 10)), none, []⟩, ⟨(some 52), (.bin .neq (.t 51) (.c (.int .i64 0))), none, [0]⟩] false) (.cond (.t 52) (.seq (.reg [⟨(some 53), (.mv (.t 10)), none, []⟩, ⟨(some 6), (.mv (.t 53)), none, [0, 0]⟩] false) .ret) .skip))) (.seq (.reg [⟨(some 54), (.mv (.t 1)), none, []⟩, ⟨(some 55), (.mv (.t 2)), none, []⟩, ⟨(some 56), (.call 59 [(.t 54), (.t 55)]), none, [0, 1]⟩, ⟨(some 11), (.mv (.t 56)), none, [2, 2, 0, 1, 2]⟩] false) (.seq (.seq (.reg [⟨(some 57), (.mv (.t 11)), none, []⟩, ⟨(some 58), (.len (.t 57)), none, [0]⟩, ⟨(some 59), (.bin .eql (.t 58) (.c (.int .i64 0))), none, [1]⟩] false) (.cond (.t 59) (.seq (.reg [⟨(some 6), (.mv (.c (.int .i64 21))), none, []⟩] false) .ret) .skip)) (.seq (.seq (.reg [⟨(some 60), (.mv (.t 11)), none, []⟩, ⟨(some 61), (.call 60 [(.t 60)]), none, [0]⟩, ⟨(some 12), (.alloc 111 3 [(.int .u64 0), (.int .u64 0), (.int .u64 0)]), none, []⟩, ⟨none, (.st 3 (.t 12) (.t 61)), none, [2, 1, 1, 0, 1, 2]⟩] false) (.seq (.reg [⟨(some 62), (.fa 0 (.t 7)), none, []⟩, ⟨(some 63), (.ld false 1 (.t 62)), none, [0]⟩, ⟨(some 64), (.fa 0 (.t 12)), none, []⟩, ⟨(some 65), (.fa 0 (.t 64)), none, [2]⟩, ⟨(some 66), (.ld false 1 (.t 65)), none, [3]⟩, ⟨(some 67), (.bin .andNot (.t 63) (.t 66)), none, [1, 4]⟩, ⟨(some 68), (.bin .eql (.t 67) (.c (.int .u64 0))), none, [5]⟩, ⟨(some 69), (.mv (.t 68)), none, [6]⟩, ⟨(some 70), (.fa 1 (.t 7)), (some (69, true)), [7]⟩, ⟨(some 71), (.ld false 1 (.t 70)), (some (69, true)), [8, 7]⟩, ⟨(some 72), (.fa 0 (.t 12)), (some (69, true)), [7]⟩, ⟨(some 73), (.fa 1 (.t 72)), (some (69, true)), [10, 7]⟩, ⟨(some 74), (.ld false 1 (.t 73)), (some (69, true)), [11, 7]⟩, ⟨(some 75), (.bin .andNot (.t 71) (.t 74)), (some (69, true)), [9, 12, 7]⟩, ⟨(some 76), (.bin .eql (.t 75) (.c (.int .u64 0))), (some (69, true)), [13, 7]⟩, ⟨(some 77), (.pick (.t 69) (.t 76) (.c (.bool false))), none, [7, 14]⟩] false) (.cond (.t 77) (.seq (.reg [⟨(some 6), (.mv (.c (.int .i64 0))), none, []⟩] false) .ret) .skip))) (.seq (.seq (.reg [⟨(some 78), (.mv (.t 11)), none, []⟩, ⟨(some 79), (.len (.t 78)), none, [0]⟩, ⟨(some 80), (.mv (.c (.int .i64 0))), none, []⟩] false) (.block 3 (.loop (.seq (.reg [⟨(some 81), (.bin .lss (.t 80) (.t 79)), none, []⟩] false) (.seq (.cond (.t 81) .skip (.exit 3)) (.seq (.block 4 (.seq (.reg [⟨(some 82), (.ixsl 3 (.t 78) (.t 80)), none, []⟩, ⟨(some 83), (.ld true 3 (.t 82)), none, [0]⟩, ⟨(some 14), (.alloc 111 3 [(.int .u64 0), (.int .u64 0), (.int .u64 0)]), none, []⟩, ⟨none, (.st 3 (.t 14) (.t 83)), none, [2, 1, 0, 1, 2]⟩] false) (.seq (.seq (.reg [⟨(some 84), (.fa 0 (.t 14)), none, []⟩, ⟨(some 85), (.fa 0 (.t 84)), none, [0]⟩, ⟨(some 86), (.ld false 1 (.t 85)), none, [1]⟩, ⟨(some 87), (.fa 0 (.t 7)), none, []⟩, ⟨(some 88), (.ld false 1 (.t 87)), none, [3]⟩, ⟨(some 89), (.bin .or (.t 86) (.t 88)), none, [2, 4]⟩, ⟨(some 90), (.fa 0 (.t 14)), none, []⟩, ⟨(some 91), (.fa 1 (.t 90)), none, [6]⟩, ⟨(some 92), (.ld false 1 (.t 91)), none, [7]⟩, ⟨(some 93), (.fa 1 (.t 7)), none, []⟩, ⟨(some 94), (.ld false 1 (.t 93)), none, [9]⟩, ⟨(some 95), (.bin .or (.t 92) (.t 94)), none, [8, 10]⟩, ⟨(some 96), (.build [(.int .u64 0), (.int .u64 0)] [(0, (1, (.t 89))), (1, (1, (.t 95)))]), none, [5, 11]⟩, ⟨(some 97), (.call 65 [(.t 96)]), none, [12]⟩] false) (.cond (.t 97) (.exit 4) .skip)) (.seq (.reg [⟨(some 6), (.mv (.c (.int .i64 5))), none, []⟩] false) .ret)))) (.reg [⟨(some 98), (.bin .add (.t 80) (.c (.int .i64 1))), none, []⟩, ⟨(some 80), (.mv (.t 98)), none, [0]⟩] false))))))) (.seq (.reg [⟨(some 6), (.mv (.c (.int .i64 35))), none, []⟩] false) .ret)))))))))
theorem mcOk42 : (match Try.f42.body with | some c => compC Try.prog 99 c | none => none) = some mc42 := by kernel_rfl

theorem fc42 (want : List Int) (l : List Sg) (lies : Int) (hw : want.length ≤ 1000000) (hl : l.length ≤ 1000000) : FC Try.prog 42 [partV want, .rs 3 (l.map cS), iv lies] [] (iv (verdS want l lies)) [] false := by
  refine fc_run (nt := 99) Try.func42 rfl rfl mcOk42 (Nat.le_of_ble_eq_true rfl) ?_
  delta mc42
  refine aw_seq ?_
  refine aw_reg ?_
  refine rs_box rfl rfl rfl rfl rfl rfl ?_
  refine rs_mv rfl rfl ?_
  refine rs_nil fun _ => ?_
  refine th_n ?_
  refine aw_seq ?_
  refine aw_reg ?_
  refine rs_alloc rfl rfl rfl ?_
  refine rs_nil fun _ => ?_
  refine th_n ?_
  refine aw_seq ?_
  refine aw_seq ?_
  refine aw_reg ?_
  first | refine rs_fa_p rfl rfl ?_ | refine rs_fa_r rfl rfl rfl ?_
  first | refine rs_ld_r rfl rfl rfl ?_ | refine rs_ld_p rfl rfl rfl rfl rfl ?_ | refine rs_ld_m rfl rfl rfl (by omega) rfl ?_
  first | refine rs_len_m rfl rfl ?_ | refine rs_len_s rfl rfl ?_ | refine rs_len_n rfl rfl ?_ | refine rs_len_r rfl rfl rfl ?_
  refine rs_mv rfl rfl ?_
  refine rs_nil fun _ => ?_
  refine th_n ?_
  refine aw_block ?_
  refine aw_fam (α := Nat) (fun k => want.length - k) (fun k => [(1, .rs 3 (l.map cS)), (2, iv lies), (3, .ptr 3 0 0), (7, .ptr 7 0 0), (16, ints want), (17, iv (want.length : Int)), (18, iv (((k) : Nat) : Int))]) (fun k => [(3, .cells 74 3 [[.str ⟨⟨[]⟩⟩, .nils, ints want]] true), (7, .cells 109 2 [[.int .u64 (((kpK want (k)) : Nat) : Int), .int .u64 (((rmK want (k)) : Nat) : Int)]] true)]) (fun k => k ≤ want.length ∧ ∀ j y, j < k → want[j]? = some y → ¬ (y < 1 ∨ y > 3)) 0 (⟨by omega, fun j y h => by omega⟩)
    (weak_to (.cons rfl (rc_same rfl (.inl rfl)) (.cons rfl (rc_same rfl (.inl rfl)) (.cons rfl (rc_same rfl (.inl rfl)) (.cons rfl (rc_same rfl (.inl rfl)) (.cons rfl (rc_same rfl (.inl rfl)) (.cons rfl (rc_same rfl (.inl rfl)) (.cons rfl (rc_same rfl (.inl rfl)) (.nil)))))))) (.keep (rfl) rfl (.keep (rfl) rfl (.nil))) (fun i h => by cases h)) ?_
  rintro k ⟨hk, hok⟩
  refine aw_seq ?_
  refine aw_reg ?_
  refine rs_lss rfl rfl rfl ?_
  refine rs_nil fun _ => ?_
  refine th_n ?_
  refine aw_seq ?_
  refine aw_cond rfl (fun h19 => ?_) (fun h19 => ?_)
  · first | replace h19 := of_decide_eq_true h19 | skip
    refine aw_skip ?_
    refine th_n ?_
    refine aw_seq ?_
    refine aw_block ?_
    refine aw_seq ?_
    refine aw_reg ?_
    refine rs_mv rfl rfl ?_
    obtain ⟨x, hx, hxm⟩ := at_some (L := want) (k := k) (by omega)
    have hkb1 := kpK_lt want k
    have hkb2 := rmK_lt want k
    have hkp := pow_min k
    refine rs_ix_g rfl rfl rfl (by omega) hx ?_
    refine rs_ld_r rfl rfl rfl ?_
    refine rs_mv rfl rfl ?_
    refine rs_mv rfl rfl ?_
    refine rs_nil fun _ => ?_
    refine th_n ?_
    refine aw_seq ?_
    refine aw_reg ?_
    refine rs_mv rfl rfl ?_
    refine rs_nil fun _ => ?_
    refine th_n ?_
    refine aw_block ?_
    refine aw_seq ?_
    refine aw_reg ?_
    refine rs_eql rfl rfl rfl ?_
    refine rs_mv rfl rfl ?_
    refine rs_nil fun _ => ?_
    refine th_n ?_
    refine aw_cond rfl (fun h24 => ?_) (fun h24 => ?_)
    · first | replace h24 := of_decide_eq_true h24 | skip
      refine aw_draw hmix ?_
      first | refine rs_fa_p rfl rfl ?_ | refine rs_fa_r rfl rfl rfl ?_
      first | refine rs_ld_r rfl rfl rfl ?_ | refine rs_ld_p rfl rfl rfl rfl rfl ?_ | refine rs_ld_m rfl rfl rfl (by omega) rfl ?_
      refine rs_mv rfl rfl ?_
      refine rs_mn rfl rfl rfl rfl ?_
      refine rs_shl rfl rfl rfl (by omega) (shl_min k) ?_
      refine rs_or rfl rfl rfl (u64_or_nat _ _ (by omega) (by omega)) ?_
      first | refine rs_fa_p rfl rfl ?_ | refine rs_fa_r rfl rfl rfl ?_
      refine rs_st (els' := [[.int .u64 (((kpK want (k)) ||| 2 ^ (min (k : Int) 16).toNat : Nat) : Int), .int .u64 (((rmK want (k)) : Nat) : Int)]]) rfl rfl rfl rfl rfl rfl rfl (Nat.le_of_ble_eq_true rfl) rfl rfl ?_
      refine rs_nil ⟨by kernel_rfl, fun _ => ?_⟩
      refine in_n ?_
      refine in_n ?_
      refine th_n ?_
      refine aw_reg ?_
      first | refine rs_add rfl rfl rfl (by omega) ?_ | refine rs_addw rfl rfl rfl rfl ?_
      refine rs_mv rfl rfl ?_
      refine rs_nil fun _ => ?_
      refine th_n ?_
      have hgx := getD_of hx
      first
        | (have hq1 : kpK want (k + 1) = (kpK want (k)) ||| 2 ^ (min (k : Int) 16).toNat := (by rw [kpK, if_pos (by omega)]); have hq2 : rmK want (k + 1) = (rmK want (k)) := (by rw [rmK, if_neg (by omega)]); exact ⟨k + 1, ⟨by omega, want_step hok hx (by omega)⟩, by omega, weak_to (.cons rfl (rc_same rfl (.inl rfl)) (.cons rfl (rc_same rfl (.inl rfl)) (.cons rfl (rc_same rfl (.inl rfl)) (.cons rfl (rc_same rfl (.inl rfl)) (.cons rfl (rc_same rfl (.inl rfl)) (.cons rfl (rc_same rfl (.inl rfl)) (.cons rfl (rc_same rfl (.inl rfl)) (.nil)))))))) (.keep (rfl) rfl (.keep ((by rw [hq1, hq2]; rfl)) rfl (.nil))) (fun i h => by cases h)⟩)
        | (have hq1 : kpK want (k + 1) = (kpK want (k)) := (by rw [kpK, if_neg (by omega)]); have hq2 : rmK want (k + 1) = (rmK want (k)) ||| 2 ^ (min (k : Int) 16).toNat := (by rw [rmK, if_pos (by omega)]); exact ⟨k + 1, ⟨by omega, want_step hok hx (by omega)⟩, by omega, weak_to (.cons rfl (rc_same rfl (.inl rfl)) (.cons rfl (rc_same rfl (.inl rfl)) (.cons rfl (rc_same rfl (.inl rfl)) (.cons rfl (rc_same rfl (.inl rfl)) (.cons rfl (rc_same rfl (.inl rfl)) (.cons rfl (rc_same rfl (.inl rfl)) (.cons rfl (rc_same rfl (.inl rfl)) (.nil)))))))) (.keep (rfl) rfl (.keep ((by rw [hq1, hq2]; rfl)) rfl (.nil))) (fun i h => by cases h)⟩)
        | (have hq1 : kpK want (k + 1) = (kpK want (k)) := (by rw [kpK, if_neg (by omega)]); have hq2 : rmK want (k + 1) = (rmK want (k)) := (by rw [rmK, if_neg (by omega)]); exact ⟨k + 1, ⟨by omega, want_step hok hx (by omega)⟩, by omega, weak_to (.cons rfl (rc_same rfl (.inl rfl)) (.cons rfl (rc_same rfl (.inl rfl)) (.cons rfl (rc_same rfl (.inl rfl)) (.cons rfl (rc_same rfl (.inl rfl)) (.cons rfl (rc_same rfl (.inl rfl)) (.cons rfl (rc_same rfl (.inl rfl)) (.cons rfl (rc_same rfl (.inl rfl)) (.nil)))))))) (.keep (rfl) rfl (.keep ((by rw [hq1, hq2]; rfl)) rfl (.nil))) (fun i h => by cases h)⟩)
    · first | replace h24 := of_decide_eq_false h24 | skip
      refine aw_seq ?_
      refine aw_reg ?_
      refine rs_eql rfl rfl rfl ?_
      refine rs_mv rfl rfl ?_
      refine rs_nil fun _ => ?_
      refine th_n ?_
      refine aw_cond rfl (fun h33 => ?_) (fun h33 => ?_)
      · first | replace h33 := of_decide_eq_true h33 | skip
        refine aw_draw hmix ?_
        first | refine rs_fa_p rfl rfl ?_ | refine rs_fa_r rfl rfl rfl ?_
        first | refine rs_ld_r rfl rfl rfl ?_ | refine rs_ld_p rfl rfl rfl rfl rfl ?_ | refine rs_ld_m rfl rfl rfl (by omega) rfl ?_
        refine rs_mv rfl rfl ?_
        refine rs_mn rfl rfl rfl rfl ?_
        refine rs_shl rfl rfl rfl (by omega) (shl_min k) ?_
        refine rs_or rfl rfl rfl (u64_or_nat _ _ (by omega) (by omega)) ?_
        first | refine rs_fa_p rfl rfl ?_ | refine rs_fa_r rfl rfl rfl ?_
        refine rs_st (els' := [[.int .u64 (((kpK want (k)) : Nat) : Int), .int .u64 (((rmK want (k)) ||| 2 ^ (min (k : Int) 16).toNat : Nat) : Int)]]) rfl rfl rfl rfl rfl rfl rfl (Nat.le_of_ble_eq_true rfl) rfl rfl ?_
        refine rs_nil ⟨by kernel_rfl, fun _ => ?_⟩
        refine in_n ?_
        refine in_n ?_
        refine th_n ?_
        refine aw_reg ?_
        first | refine rs_add rfl rfl rfl (by omega) ?_ | refine rs_addw rfl rfl rfl rfl ?_
        refine rs_mv rfl rfl ?_
        refine rs_nil fun _ => ?_
        refine th_n ?_
        have hgx := getD_of hx
        first
          | (have hq1 : kpK want (k + 1) = (kpK want (k)) ||| 2 ^ (min (k : Int) 16).toNat := (by rw [kpK, if_pos (by omega)]); have hq2 : rmK want (k + 1) = (rmK want (k)) := (by rw [rmK, if_neg (by omega)]); exact ⟨k + 1, ⟨by omega, want_step hok hx (by omega)⟩, by omega, weak_to (.cons rfl (rc_same rfl (.inl rfl)) (.cons rfl (rc_same rfl (.inl rfl)) (.cons rfl (rc_same rfl (.inl rfl)) (.cons rfl (rc_same rfl (.inl rfl)) (.cons rfl (rc_same rfl (.inl rfl)) (.cons rfl (rc_same rfl (.inl rfl)) (.cons rfl (rc_same rfl (.inl rfl)) (.nil)))))))) (.keep (rfl) rfl (.keep ((by rw [hq1, hq2]; rfl)) rfl (.nil))) (fun i h => by cases h)⟩)
          | (have hq1 : kpK want (k + 1) = (kpK want (k)) := (by rw [kpK, if_neg (by omega)]); have hq2 : rmK want (k + 1) = (rmK want (k)) ||| 2 ^ (min (k : Int) 16).toNat := (by rw [rmK, if_pos (by omega)]); exact ⟨k + 1, ⟨by omega, want_step hok hx (by omega)⟩, by omega, weak_to (.cons rfl (rc_same rfl (.inl rfl)) (.cons rfl (rc_same rfl (.inl rfl)) (.cons rfl (rc_same rfl (.inl rfl)) (.cons rfl (rc_same rfl (.inl rfl)) (.cons rfl (rc_same rfl (.inl rfl)) (.cons rfl (rc_same rfl (.inl rfl)) (.cons rfl (rc_same rfl (.inl rfl)) (.nil)))))))) (.keep (rfl) rfl (.keep ((by rw [hq1, hq2]; rfl)) rfl (.nil))) (fun i h => by cases h)⟩)
          | (have hq1 : kpK want (k + 1) = (kpK want (k)) := (by rw [kpK, if_neg (by omega)]); have hq2 : rmK want (k + 1) = (rmK want (k)) := (by rw [rmK, if_neg (by omega)]); exact ⟨k + 1, ⟨by omega, want_step hok hx (by omega)⟩, by omega, weak_to (.cons rfl (rc_same rfl (.inl rfl)) (.cons rfl (rc_same rfl (.inl rfl)) (.cons rfl (rc_same rfl (.inl rfl)) (.cons rfl (rc_same rfl (.inl rfl)) (.cons rfl (rc_same rfl (.inl rfl)) (.cons rfl (rc_same rfl (.inl rfl)) (.cons rfl (rc_same rfl (.inl rfl)) (.nil)))))))) (.keep (rfl) rfl (.keep ((by rw [hq1, hq2]; rfl)) rfl (.nil))) (fun i h => by cases h)⟩)
      · first | replace h33 := of_decide_eq_false h33 | skip
        refine aw_seq ?_
        refine aw_reg ?_
        refine rs_eql rfl rfl rfl ?_
        refine rs_mv rfl rfl ?_
        refine rs_nil fun _ => ?_
        refine th_n ?_
        refine aw_cond rfl (fun h42 => ?_) (fun h42 => ?_)
        · first | replace h42 := of_decide_eq_true h42 | skip
          refine aw_skip ?_
          refine in_n ?_
          refine in_n ?_
          refine th_n ?_
          refine aw_reg ?_
          first | refine rs_add rfl rfl rfl (by omega) ?_ | refine rs_addw rfl rfl rfl rfl ?_
          refine rs_mv rfl rfl ?_
          refine rs_nil fun _ => ?_
          refine th_n ?_
          have hgx := getD_of hx
          first
            | (have hq1 : kpK want (k + 1) = (kpK want (k)) ||| 2 ^ (min (k : Int) 16).toNat := (by rw [kpK, if_pos (by omega)]); have hq2 : rmK want (k + 1) = (rmK want (k)) := (by rw [rmK, if_neg (by omega)]); exact ⟨k + 1, ⟨by omega, want_step hok hx (by omega)⟩, by omega, weak_to (.cons rfl (rc_same rfl (.inl rfl)) (.cons rfl (rc_same rfl (.inl rfl)) (.cons rfl (rc_same rfl (.inl rfl)) (.cons rfl (rc_same rfl (.inl rfl)) (.cons rfl (rc_same rfl (.inl rfl)) (.cons rfl (rc_same rfl (.inl rfl)) (.cons rfl (rc_same rfl (.inl rfl)) (.nil)))))))) (.keep (rfl) rfl (.keep ((by rw [hq1, hq2]; rfl)) rfl (.nil))) (fun i h => by cases h)⟩)
            | (have hq1 : kpK want (k + 1) = (kpK want (k)) := (by rw [kpK, if_neg (by omega)]); have hq2 : rmK want (k + 1) = (rmK want (k)) ||| 2 ^ (min (k : Int) 16).toNat := (by rw [rmK, if_pos (by omega)]); exact ⟨k + 1, ⟨by omega, want_step hok hx (by omega)⟩, by omega, weak_to (.cons rfl (rc_same rfl (.inl rfl)) (.cons rfl (rc_same rfl (.inl rfl)) (.cons rfl (rc_same rfl (.inl rfl)) (.cons rfl (rc_same rfl (.inl rfl)) (.cons rfl (rc_same rfl (.inl rfl)) (.cons rfl (rc_same rfl (.inl rfl)) (.cons rfl (rc_same rfl (.inl rfl)) (.nil)))))))) (.keep (rfl) rfl (.keep ((by rw [hq1, hq2]; rfl)) rfl (.nil))) (fun i h => by cases h)⟩)
            | (have hq1 : kpK want (k + 1) = (kpK want (k)) := (by rw [kpK, if_neg (by omega)]); have hq2 : rmK want (k + 1) = (rmK want (k)) := (by rw [rmK, if_neg (by omega)]); exact ⟨k + 1, ⟨by omega, want_step hok hx (by omega)⟩, by omega, weak_to (.cons rfl (rc_same rfl (.inl rfl)) (.cons rfl (rc_same rfl (.inl rfl)) (.cons rfl (rc_same rfl (.inl rfl)) (.cons rfl (rc_same rfl (.inl rfl)) (.cons rfl (rc_same rfl (.inl rfl)) (.cons rfl (rc_same rfl (.inl rfl)) (.cons rfl (rc_same rfl (.inl rfl)) (.nil)))))))) (.keep (rfl) rfl (.keep ((by rw [hq1, hq2]; rfl)) rfl (.nil))) (fun i h => by cases h)⟩)
        · first | replace h42 := of_decide_eq_false h42 | skip
          refine aw_seq ?_
          refine aw_reg ?_
          refine rs_mv rfl rfl ?_
          refine rs_nil fun _ => ?_
          refine th_n ?_
          refine aw_ret ?_
          refine in_r ?_
          refine in_r ?_
          refine th_r ?_
          refine th_r ?_
          refine in_r ?_
          refine th_r ?_
          first
            | exact ret_pure rfl (congrArg _ (verd_1 (badW_t hxm (by omega))).symm) rfl (.inr rfl)
            | exact ret_pure rfl (congrArg _ (verd_2 hbw h52).symm) rfl (.inr rfl)
            | exact ret_pure rfl (congrArg _ (verd_3 hbw h0 hts).symm) rfl (.inr rfl)
            | exact ret_pure rfl (congrArg _ (verd_4 hbw hE (hsi.2 ⟨by omega, by omega⟩)).symm) rfl (.inr rfl)
            | exact ret_pure rfl (congrArg _ (verd_5 hbw hE hsf htm ((fit_iff hbw (by omega) (ts_disj htm)).2 (Decidable.not_not.1 h97))).symm) rfl (.inr rfl)
            | exact ret_pure rfl (congrArg _ (verd_6 hbw hE hsf (fun t ht => (by obtain ⟨j, hj⟩ := List.getElem?_of_mem ht; exact hno j t (by have := lt_of_at hj; omega) hj))).symm) rfl (.inr rfl)
  · first | replace h19 := of_decide_eq_false h19 | skip
    refine aw_exit ?_
    refine th_e ?_
    refine th_e ?_
    refine in_hit ?_
    refine th_n ?_
    refine aw_seq ?_
    refine aw_seq ?_
    obtain rfl : k = want.length := by omega
    have hbw := want_all hok
    have hkb1 := kpK_lt want want.length
    have hkb2 := rmK_lt want want.length
    refine aw_reg ?_
    refine rs_mv rfl rfl ?_
    first | refine rs_fa_p rfl rfl ?_ | refine rs_fa_r rfl rfl rfl ?_
    first | refine rs_ld_r rfl rfl rfl ?_ | refine rs_ld_p rfl rfl rfl rfl rfl ?_ | refine rs_ld_m rfl rfl rfl (by omega) rfl ?_
    first | refine rs_len_m rfl rfl ?_ | refine rs_len_s rfl rfl ?_ | refine rs_len_n rfl rfl ?_ | refine rs_len_r rfl rfl rfl ?_
    refine rs_mv rfl rfl ?_
    refine rs_calln [] rfl rfl (fc34 l (want.length : Int) lies hl) (.cons (hv_same rfl) (.cons (hv_same rfl) (.cons (hv_same rfl) (.nil)))) rfl ?_
    refine rs_mv rfl rfl ?_
    refine rs_nil fun _ => ?_
    refine th_n ?_
    refine aw_seq ?_
    refine aw_reg ?_
    refine rs_mv rfl rfl ?_
    refine rs_neq rfl rfl rfl ?_
    refine rs_nil fun _ => ?_
    refine th_n ?_
    refine aw_cond rfl (fun h52 => ?_) (fun h52 => ?_)
    · first | replace h52 := of_decide_eq_true h52 | skip
      refine aw_seq ?_
      refine aw_reg ?_
      refine rs_mv rfl rfl ?_
      refine rs_mv rfl rfl ?_
      refine rs_nil fun _ => ?_
      refine th_n ?_
      refine aw_ret ?_
      refine th_r ?_
      first
        | exact ret_pure rfl (congrArg _ (verd_1 (badW_t hxm (by omega))).symm) rfl (.inr rfl)
        | exact ret_pure rfl (congrArg _ (verd_2 hbw h52).symm) rfl (.inr rfl)
        | exact ret_pure rfl (congrArg _ (verd_3 hbw h0 hts).symm) rfl (.inr rfl)
        | exact ret_pure rfl (congrArg _ (verd_4 hbw hE (hsi.2 ⟨by omega, by omega⟩)).symm) rfl (.inr rfl)
        | exact ret_pure rfl (congrArg _ (verd_5 hbw hE hsf htm ((fit_iff hbw (by omega) (ts_disj htm)).2 (Decidable.not_not.1 h97))).symm) rfl (.inr rfl)
        | exact ret_pure rfl (congrArg _ (verd_6 hbw hE hsf (fun t ht => (by obtain ⟨j, hj⟩ := List.getElem?_of_mem ht; exact hno j t (by have := lt_of_at hj; omega) hj))).symm) rfl (.inr rfl)
    · first | replace h52 := of_decide_eq_false h52 | skip
      refine aw_skip ?_
      refine th_n ?_
      refine aw_seq ?_
      have h0 : checkI l (want.length : Int) lies = 0 := by omega
      have hok := checkI_ok.1 h0
      have hk1 := hok.c0
      have hk2 := hok.c16
      have hr0 : ∀ r ∈ l, 0 ≤ r.gauge ∧ r.gauge < 8 ∧ 0 ≤ r.cell ∧ r.cell < 16 := fun r hr => by have := hok.sg r hr; omega
      refine aw_reg ?_
      refine rs_mv rfl rfl ?_
      refine rs_mv rfl rfl ?_
      refine rs_calln [] rfl rfl (fz59 l lies hl hr0) (.cons (hv_same rfl) (.cons (hv_same rfl) (.nil))) rfl ?_
      refine rs_mv rfl rfl ?_
      refine rs_nil fun _ => ?_
      refine th_n ?_
      refine aw_seq ?_
      refine aw_seq ?_
      refine aw_reg ?_
      refine rs_mv rfl rfl ?_
      first | refine rs_len_m rfl rfl ?_ | refine rs_len_s rfl rfl ?_ | refine rs_len_n rfl rfl ?_ | refine rs_len_r rfl rfl rfl ?_
      refine rs_eql rfl rfl rfl ?_
      refine rs_nil fun _ => ?_
      refine th_n ?_
      refine aw_cond rfl (fun h59 => ?_) (fun h59 => ?_)
      · first | replace h59 := of_decide_eq_true h59 | skip
        have hts : tsK l lies 256 = [] := List.length_eq_zero_iff.1 (by omega)
        refine aw_seq ?_
        refine aw_reg ?_
        refine rs_mv rfl rfl ?_
        refine rs_nil fun _ => ?_
        refine th_n ?_
        refine aw_ret ?_
        refine th_r ?_
        first
          | exact ret_pure rfl (congrArg _ (verd_1 (badW_t hxm (by omega))).symm) rfl (.inr rfl)
          | exact ret_pure rfl (congrArg _ (verd_2 hbw h52).symm) rfl (.inr rfl)
          | exact ret_pure rfl (congrArg _ (verd_3 hbw h0 hts).symm) rfl (.inr rfl)
          | exact ret_pure rfl (congrArg _ (verd_4 hbw hE (hsi.2 ⟨by omega, by omega⟩)).symm) rfl (.inr rfl)
          | exact ret_pure rfl (congrArg _ (verd_5 hbw hE hsf htm ((fit_iff hbw (by omega) (ts_disj htm)).2 (Decidable.not_not.1 h97))).symm) rfl (.inr rfl)
          | exact ret_pure rfl (congrArg _ (verd_6 hbw hE hsf (fun t ht => (by obtain ⟨j, hj⟩ := List.getElem?_of_mem ht; exact hno j t (by have := lt_of_at hj; omega) hj))).symm) rfl (.inr rfl)
      · first | replace h59 := of_decide_eq_false h59 | skip
        have hts : tsK l lies 256 ≠ [] := fun e => (by rw [e] at h59; exact h59 rfl)
        have htb := fun t (ht : t ∈ tsK l lies 256) => ts_lt hok ht
        have hw1 := whole_lt (fun t => t.1) (fun _ _ => rfl) hts (fun t ht => (htb t ht).1)
        have hw2 := whole_lt (fun t => t.2.1) (fun _ _ => rfl) hts (fun t ht => (htb t ht).2.1)
        have hw3 := whole_lt (fun t => t.2.2) (fun _ _ => rfl) hts (fun t ht => (htb t ht).2.2)
        have hE := (cells_3 h0 hts).1
        have hsi := sure_iff hbw (by omega) (whole_disj hts) (by omega) (by omega)
        refine aw_skip ?_
        refine th_n ?_
        refine aw_seq ?_
        refine aw_seq ?_
        refine aw_reg ?_
        refine rs_mv rfl rfl ?_
        refine rs_calln [] rfl rfl (fc60 (tsK l lies 256) hts (by have := tsK_len l lies 256; omega) (fun t ht => (by have := htb t ht; omega))) (.cons (hv_same rfl) (.nil)) rfl ?_
        refine rs_alloc rfl rfl rfl ?_
        refine rs_st (els' := [cT (wholeT (tsK l lies 256))]) rfl rfl rfl rfl rfl rfl rfl (Nat.le_of_ble_eq_true rfl) rfl rfl ?_
        refine rs_nil fun _ => ?_
        refine th_n ?_
        refine aw_seq ?_
        refine aw_reg ?_
        first | refine rs_fa_p rfl rfl ?_ | refine rs_fa_r rfl rfl rfl ?_
        first | refine rs_ld_r rfl rfl rfl ?_ | refine rs_ld_p rfl rfl rfl rfl rfl ?_ | refine rs_ld_m rfl rfl rfl (by omega) rfl ?_
        first | refine rs_fa_p rfl rfl ?_ | refine rs_fa_r rfl rfl rfl ?_
        first | refine rs_fa_p rfl rfl ?_ | refine rs_fa_r rfl rfl rfl ?_
        first | refine rs_ld_r rfl rfl rfl ?_ | refine rs_ld_p rfl rfl rfl rfl rfl ?_ | refine rs_ld_m rfl rfl rfl (by omega) rfl ?_
        refine rs_andNot rfl rfl rfl (u64_andNot_nat _ _ (by omega) (by omega)) ?_
        refine rs_cmp rfl rfl rfl rfl (fun h68 => ?_) (fun h68 => ?_)
        · skip
          refine rs_mv rfl rfl ?_
          first | refine rs_fa_p rfl rfl ?_ | refine rs_fa_r rfl rfl rfl ?_
          first | refine rs_ld_r rfl rfl rfl ?_ | refine rs_ld_p rfl rfl rfl rfl rfl ?_ | refine rs_ld_m rfl rfl rfl (by omega) rfl ?_
          first | refine rs_fa_p rfl rfl ?_ | refine rs_fa_r rfl rfl rfl ?_
          first | refine rs_fa_p rfl rfl ?_ | refine rs_fa_r rfl rfl rfl ?_
          first | refine rs_ld_r rfl rfl rfl ?_ | refine rs_ld_p rfl rfl rfl rfl rfl ?_ | refine rs_ld_m rfl rfl rfl (by omega) rfl ?_
          refine rs_andNot rfl rfl rfl (u64_andNot_nat _ _ (by omega) (by omega)) ?_
          refine rs_cmp rfl rfl rfl rfl (fun h76 => ?_) (fun h76 => ?_)
          · skip
            refine rs_pick rfl rfl rfl ?_
            refine rs_nil fun _ => ?_
            refine th_n ?_
            refine aw_cond rfl (fun _ => ?_) (fun h => by cases h)
            refine aw_seq ?_
            refine aw_reg ?_
            refine rs_mv rfl rfl ?_
            refine rs_nil fun _ => ?_
            refine th_n ?_
            refine aw_ret ?_
            refine th_r ?_
            first
              | exact ret_pure rfl (congrArg _ (verd_1 (badW_t hxm (by omega))).symm) rfl (.inr rfl)
              | exact ret_pure rfl (congrArg _ (verd_2 hbw h52).symm) rfl (.inr rfl)
              | exact ret_pure rfl (congrArg _ (verd_3 hbw h0 hts).symm) rfl (.inr rfl)
              | exact ret_pure rfl (congrArg _ (verd_4 hbw hE (hsi.2 ⟨by omega, by omega⟩)).symm) rfl (.inr rfl)
              | exact ret_pure rfl (congrArg _ (verd_5 hbw hE hsf htm ((fit_iff hbw (by omega) (ts_disj htm)).2 (Decidable.not_not.1 h97))).symm) rfl (.inr rfl)
              | exact ret_pure rfl (congrArg _ (verd_6 hbw hE hsf (fun t ht => (by obtain ⟨j, hj⟩ := List.getElem?_of_mem ht; exact hno j t (by have := lt_of_at hj; omega) hj))).symm) rfl (.inr rfl)
          · skip
            refine rs_pick rfl rfl rfl ?_
            refine rs_nil fun _ => ?_
            refine th_n ?_
            refine aw_cond rfl (fun h => by cases h) (fun _ => ?_)
            refine aw_skip ?_
            refine th_n ?_
            refine aw_seq ?_
            refine aw_seq ?_
            refine aw_reg ?_
            have hsf : sureK want (wholeT (tsK l lies 256)) want.length = false := Bool.eq_false_iff.2 fun e => (by obtain ⟨q1, q2⟩ := hsi.1 e; omega)
            refine rs_mv rfl rfl ?_
            first | refine rs_len_m rfl rfl ?_ | refine rs_len_s rfl rfl ?_ | refine rs_len_n rfl rfl ?_ | refine rs_len_r rfl rfl rfl ?_
            refine rs_mv rfl rfl ?_
            refine rs_nil fun _ => ?_
            refine th_n ?_
            refine aw_block ?_
            refine aw_fam (α := Nat) (fun k => (tsK l lies 256).length - k) (fun k => [(7, .ptr 7 0 0), (78, .rs 3 ((tsK l lies 256).map cT)), (79, iv ((tsK l lies 256).length : Int)), (80, iv (((k) : Nat) : Int))]) (fun k => [(7, .cells 109 2 [[.int .u64 (((kpK want (want.length)) : Nat) : Int), .int .u64 (((rmK want (want.length)) : Nat) : Int)]] true)]) (fun k => k ≤ (tsK l lies 256).length ∧ ∀ j t, j < k → (tsK l lies 256)[j]? = some t → fitK want t.1 t.2.1 want.length = false) 0 (⟨by omega, fun j t h => by omega⟩)
              (weak_to (.cons rfl (rc_same rfl (.inl rfl)) (.cons rfl (rc_same rfl (.inl rfl)) (.cons rfl (rc_same rfl (.inl rfl)) (.cons rfl (rc_same rfl (.inl rfl)) (.nil))))) (.keep (rfl) rfl (.nil)) (fun i h => by cases h)) ?_
            rintro k ⟨hk, hno⟩
            have htl6 := tsK_len l lies 256
            refine aw_seq ?_
            refine aw_reg ?_
            refine rs_lss rfl rfl rfl ?_
            refine rs_nil fun _ => ?_
            refine th_n ?_
            refine aw_seq ?_
            refine aw_cond rfl (fun h81 => ?_) (fun h81 => ?_)
            · first | replace h81 := of_decide_eq_true h81 | skip
              refine aw_skip ?_
              refine th_n ?_
              refine aw_seq ?_
              refine aw_block ?_
              refine aw_seq ?_
              refine aw_reg ?_
              obtain ⟨t, htk, htm⟩ := at_some (L := tsK l lies 256) (k := k) (by omega)
              have htl := htb t htm
              refine rs_ix_g rfl rfl rfl (by omega) htk ?_
              first | refine rs_ld_pa rfl rfl rfl rfl (Nat.le_of_ble_eq_true rfl) rfl ?_ | refine rs_ld_ra rfl rfl (Nat.le_of_ble_eq_true rfl) rfl ?_ | refine rs_ld_ma rfl rfl rfl (by omega) (Nat.le_of_ble_eq_true rfl) rfl ?_
              refine rs_alloc rfl rfl rfl ?_
              refine rs_st (els' := [cT t]) rfl rfl rfl rfl rfl rfl rfl (Nat.le_of_ble_eq_true rfl) rfl rfl ?_
              refine rs_nil fun _ => ?_
              refine th_n ?_
              refine aw_seq ?_
              refine aw_seq ?_
              refine aw_reg ?_
              first | refine rs_fa_p rfl rfl ?_ | refine rs_fa_r rfl rfl rfl ?_
              first | refine rs_fa_p rfl rfl ?_ | refine rs_fa_r rfl rfl rfl ?_
              first | refine rs_ld_r rfl rfl rfl ?_ | refine rs_ld_p rfl rfl rfl rfl rfl ?_ | refine rs_ld_m rfl rfl rfl (by omega) rfl ?_
              first | refine rs_fa_p rfl rfl ?_ | refine rs_fa_r rfl rfl rfl ?_
              first | refine rs_ld_r rfl rfl rfl ?_ | refine rs_ld_p rfl rfl rfl rfl rfl ?_ | refine rs_ld_m rfl rfl rfl (by omega) rfl ?_
              refine rs_or rfl rfl rfl (u64_or_nat _ _ (by omega) (by omega)) ?_
              first | refine rs_fa_p rfl rfl ?_ | refine rs_fa_r rfl rfl rfl ?_
              first | refine rs_fa_p rfl rfl ?_ | refine rs_fa_r rfl rfl rfl ?_
              first | refine rs_ld_r rfl rfl rfl ?_ | refine rs_ld_p rfl rfl rfl rfl rfl ?_ | refine rs_ld_m rfl rfl rfl (by omega) rfl ?_
              first | refine rs_fa_p rfl rfl ?_ | refine rs_fa_r rfl rfl rfl ?_
              first | refine rs_ld_r rfl rfl rfl ?_ | refine rs_ld_p rfl rfl rfl rfl rfl ?_ | refine rs_ld_m rfl rfl rfl (by omega) rfl ?_
              refine rs_or rfl rfl rfl (u64_or_nat _ _ (by omega) (by omega)) ?_
              refine rs_build rfl rfl ?_
              refine rs_calln [] rfl rfl (fc65 (t.1 ||| (kpK want (want.length))) (t.2.1 ||| (rmK want (want.length))) (by have := Nat.or_lt_two_pow (n := 17) (x := t.1) (y := kpK want want.length) (by omega) (by omega); omega) (by have := Nat.or_lt_two_pow (n := 17) (x := t.2.1) (y := rmK want want.length) (by omega) (by omega); omega)) (.cons (hv_same rfl) (.nil)) rfl ?_
              refine rs_nil fun _ => ?_
              refine th_n ?_
              refine aw_cond rfl (fun h97 => ?_) (fun h97 => ?_)
              · first | replace h97 := of_decide_eq_true h97 | skip
                refine aw_exit ?_
                refine th_e ?_
                refine in_hit ?_
                refine th_n ?_
                refine aw_reg ?_
                first | refine rs_add rfl rfl rfl (by omega) ?_ | refine rs_addw rfl rfl rfl rfl ?_
                refine rs_mv rfl rfl ?_
                refine rs_nil fun _ => ?_
                refine th_n ?_
                have hff : fitK want t.1 t.2.1 want.length = false := Bool.eq_false_iff.2 fun e => h97 ((fit_iff hbw (by omega) (ts_disj htm)).1 e)
                exact ⟨k + 1, ⟨by omega, fun j t2 hj ht2 => (by
                  by_cases e : j = k
                  · subst e; rw [htk] at ht2; injection ht2 with ht2; subst ht2; exact hff
                  · exact hno j t2 (by omega) ht2)⟩, by omega, weak_to (.cons rfl (rc_same rfl (.inl rfl)) (.cons rfl (rc_same rfl (.inl rfl)) (.cons rfl (rc_same rfl (.inl rfl)) (.cons rfl (rc_same rfl (.inl rfl)) (.nil))))) (.keep (rfl) rfl (.nil)) (fun i h => by cases h)⟩
              · first | replace h97 := of_decide_eq_false h97 | skip
                refine aw_skip ?_
                refine th_n ?_
                refine aw_seq ?_
                refine aw_reg ?_
                refine rs_mv rfl rfl ?_
                refine rs_nil fun _ => ?_
                refine th_n ?_
                refine aw_ret ?_
                refine in_r ?_
                refine th_r ?_
                refine th_r ?_
                refine in_r ?_
                refine th_r ?_
                first
                  | exact ret_pure rfl (congrArg _ (verd_1 (badW_t hxm (by omega))).symm) rfl (.inr rfl)
                  | exact ret_pure rfl (congrArg _ (verd_2 hbw h52).symm) rfl (.inr rfl)
                  | exact ret_pure rfl (congrArg _ (verd_3 hbw h0 hts).symm) rfl (.inr rfl)
                  | exact ret_pure rfl (congrArg _ (verd_4 hbw hE (hsi.2 ⟨by omega, by omega⟩)).symm) rfl (.inr rfl)
                  | exact ret_pure rfl (congrArg _ (verd_5 hbw hE hsf htm ((fit_iff hbw (by omega) (ts_disj htm)).2 (Decidable.not_not.1 h97))).symm) rfl (.inr rfl)
                  | exact ret_pure rfl (congrArg _ (verd_6 hbw hE hsf (fun t ht => (by obtain ⟨j, hj⟩ := List.getElem?_of_mem ht; exact hno j t (by have := lt_of_at hj; omega) hj))).symm) rfl (.inr rfl)
            · first | replace h81 := of_decide_eq_false h81 | skip
              refine aw_exit ?_
              refine th_e ?_
              refine th_e ?_
              refine in_hit ?_
              refine th_n ?_
              refine aw_seq ?_
              refine aw_reg ?_
              refine rs_mv rfl rfl ?_
              refine rs_nil fun _ => ?_
              refine th_n ?_
              refine aw_ret ?_
              first
                | exact ret_pure rfl (congrArg _ (verd_1 (badW_t hxm (by omega))).symm) rfl (.inr rfl)
                | exact ret_pure rfl (congrArg _ (verd_2 hbw h52).symm) rfl (.inr rfl)
                | exact ret_pure rfl (congrArg _ (verd_3 hbw h0 hts).symm) rfl (.inr rfl)
                | exact ret_pure rfl (congrArg _ (verd_4 hbw hE (hsi.2 ⟨by omega, by omega⟩)).symm) rfl (.inr rfl)
                | exact ret_pure rfl (congrArg _ (verd_5 hbw hE hsf htm ((fit_iff hbw (by omega) (ts_disj htm)).2 (Decidable.not_not.1 h97))).symm) rfl (.inr rfl)
                | exact ret_pure rfl (congrArg _ (verd_6 hbw hE hsf (fun t ht => (by obtain ⟨j, hj⟩ := List.getElem?_of_mem ht; exact hno j t (by have := lt_of_at hj; omega) hj))).symm) rfl (.inr rfl)
        · skip
          refine rs_mv rfl rfl ?_
          refine rs_skip rfl ?_
          refine rs_skip rfl ?_
          refine rs_skip rfl ?_
          refine rs_skip rfl ?_
          refine rs_skip rfl ?_
          refine rs_skip rfl ?_
          refine rs_skip rfl ?_
          refine rs_pick rfl rfl rfl ?_
          refine rs_nil fun _ => ?_
          refine th_n ?_
          refine aw_cond rfl (fun h => by cases h) (fun _ => ?_)
          refine aw_skip ?_
          refine th_n ?_
          refine aw_seq ?_
          refine aw_seq ?_
          refine aw_reg ?_
          have hsf : sureK want (wholeT (tsK l lies 256)) want.length = false := Bool.eq_false_iff.2 fun e => (by obtain ⟨q1, q2⟩ := hsi.1 e; omega)
          refine rs_mv rfl rfl ?_
          first | refine rs_len_m rfl rfl ?_ | refine rs_len_s rfl rfl ?_ | refine rs_len_n rfl rfl ?_ | refine rs_len_r rfl rfl rfl ?_
          refine rs_mv rfl rfl ?_
          refine rs_nil fun _ => ?_
          refine th_n ?_
          refine aw_block ?_
          refine aw_fam (α := Nat) (fun k => (tsK l lies 256).length - k) (fun k => [(7, .ptr 7 0 0), (78, .rs 3 ((tsK l lies 256).map cT)), (79, iv ((tsK l lies 256).length : Int)), (80, iv (((k) : Nat) : Int))]) (fun k => [(7, .cells 109 2 [[.int .u64 (((kpK want (want.length)) : Nat) : Int), .int .u64 (((rmK want (want.length)) : Nat) : Int)]] true)]) (fun k => k ≤ (tsK l lies 256).length ∧ ∀ j t, j < k → (tsK l lies 256)[j]? = some t → fitK want t.1 t.2.1 want.length = false) 0 (⟨by omega, fun j t h => by omega⟩)
            (weak_to (.cons rfl (rc_same rfl (.inl rfl)) (.cons rfl (rc_same rfl (.inl rfl)) (.cons rfl (rc_same rfl (.inl rfl)) (.cons rfl (rc_same rfl (.inl rfl)) (.nil))))) (.keep (rfl) rfl (.nil)) (fun i h => by cases h)) ?_
          rintro k ⟨hk, hno⟩
          have htl6 := tsK_len l lies 256
          refine aw_seq ?_
          refine aw_reg ?_
          refine rs_lss rfl rfl rfl ?_
          refine rs_nil fun _ => ?_
          refine th_n ?_
          refine aw_seq ?_
          refine aw_cond rfl (fun h81 => ?_) (fun h81 => ?_)
          · first | replace h81 := of_decide_eq_true h81 | skip
            refine aw_skip ?_
            refine th_n ?_
            refine aw_seq ?_
            refine aw_block ?_
            refine aw_seq ?_
            refine aw_reg ?_
            obtain ⟨t, htk, htm⟩ := at_some (L := tsK l lies 256) (k := k) (by omega)
            have htl := htb t htm
            refine rs_ix_g rfl rfl rfl (by omega) htk ?_
            first | refine rs_ld_pa rfl rfl rfl rfl (Nat.le_of_ble_eq_true rfl) rfl ?_ | refine rs_ld_ra rfl rfl (Nat.le_of_ble_eq_true rfl) rfl ?_ | refine rs_ld_ma rfl rfl rfl (by omega) (Nat.le_of_ble_eq_true rfl) rfl ?_
            refine rs_alloc rfl rfl rfl ?_
            refine rs_st (els' := [cT t]) rfl rfl rfl rfl rfl rfl rfl (Nat.le_of_ble_eq_true rfl) rfl rfl ?_
            refine rs_nil fun _ => ?_
            refine th_n ?_
            refine aw_seq ?_
            refine aw_seq ?_
            refine aw_reg ?_
            first | refine rs_fa_p rfl rfl ?_ | refine rs_fa_r rfl rfl rfl ?_
            first | refine rs_fa_p rfl rfl ?_ | refine rs_fa_r rfl rfl rfl ?_
            first | refine rs_ld_r rfl rfl rfl ?_ | refine rs_ld_p rfl rfl rfl rfl rfl ?_ | refine rs_ld_m rfl rfl rfl (by omega) rfl ?_
            first | refine rs_fa_p rfl rfl ?_ | refine rs_fa_r rfl rfl rfl ?_
            first | refine rs_ld_r rfl rfl rfl ?_ | refine rs_ld_p rfl rfl rfl rfl rfl ?_ | refine rs_ld_m rfl rfl rfl (by omega) rfl ?_
            refine rs_or rfl rfl rfl (u64_or_nat _ _ (by omega) (by omega)) ?_
            first | refine rs_fa_p rfl rfl ?_ | refine rs_fa_r rfl rfl rfl ?_
            first | refine rs_fa_p rfl rfl ?_ | refine rs_fa_r rfl rfl rfl ?_
            first | refine rs_ld_r rfl rfl rfl ?_ | refine rs_ld_p rfl rfl rfl rfl rfl ?_ | refine rs_ld_m rfl rfl rfl (by omega) rfl ?_
            first | refine rs_fa_p rfl rfl ?_ | refine rs_fa_r rfl rfl rfl ?_
            first | refine rs_ld_r rfl rfl rfl ?_ | refine rs_ld_p rfl rfl rfl rfl rfl ?_ | refine rs_ld_m rfl rfl rfl (by omega) rfl ?_
            refine rs_or rfl rfl rfl (u64_or_nat _ _ (by omega) (by omega)) ?_
            refine rs_build rfl rfl ?_
            refine rs_calln [] rfl rfl (fc65 (t.1 ||| (kpK want (want.length))) (t.2.1 ||| (rmK want (want.length))) (by have := Nat.or_lt_two_pow (n := 17) (x := t.1) (y := kpK want want.length) (by omega) (by omega); omega) (by have := Nat.or_lt_two_pow (n := 17) (x := t.2.1) (y := rmK want want.length) (by omega) (by omega); omega)) (.cons (hv_same rfl) (.nil)) rfl ?_
            refine rs_nil fun _ => ?_
            refine th_n ?_
            refine aw_cond rfl (fun h97 => ?_) (fun h97 => ?_)
            · first | replace h97 := of_decide_eq_true h97 | skip
              refine aw_exit ?_
              refine th_e ?_
              refine in_hit ?_
              refine th_n ?_
              refine aw_reg ?_
              first | refine rs_add rfl rfl rfl (by omega) ?_ | refine rs_addw rfl rfl rfl rfl ?_
              refine rs_mv rfl rfl ?_
              refine rs_nil fun _ => ?_
              refine th_n ?_
              have hff : fitK want t.1 t.2.1 want.length = false := Bool.eq_false_iff.2 fun e => h97 ((fit_iff hbw (by omega) (ts_disj htm)).1 e)
              exact ⟨k + 1, ⟨by omega, fun j t2 hj ht2 => (by
                by_cases e : j = k
                · subst e; rw [htk] at ht2; injection ht2 with ht2; subst ht2; exact hff
                · exact hno j t2 (by omega) ht2)⟩, by omega, weak_to (.cons rfl (rc_same rfl (.inl rfl)) (.cons rfl (rc_same rfl (.inl rfl)) (.cons rfl (rc_same rfl (.inl rfl)) (.cons rfl (rc_same rfl (.inl rfl)) (.nil))))) (.keep (rfl) rfl (.nil)) (fun i h => by cases h)⟩
            · first | replace h97 := of_decide_eq_false h97 | skip
              refine aw_skip ?_
              refine th_n ?_
              refine aw_seq ?_
              refine aw_reg ?_
              refine rs_mv rfl rfl ?_
              refine rs_nil fun _ => ?_
              refine th_n ?_
              refine aw_ret ?_
              refine in_r ?_
              refine th_r ?_
              refine th_r ?_
              refine in_r ?_
              refine th_r ?_
              first
                | exact ret_pure rfl (congrArg _ (verd_1 (badW_t hxm (by omega))).symm) rfl (.inr rfl)
                | exact ret_pure rfl (congrArg _ (verd_2 hbw h52).symm) rfl (.inr rfl)
                | exact ret_pure rfl (congrArg _ (verd_3 hbw h0 hts).symm) rfl (.inr rfl)
                | exact ret_pure rfl (congrArg _ (verd_4 hbw hE (hsi.2 ⟨by omega, by omega⟩)).symm) rfl (.inr rfl)
                | exact ret_pure rfl (congrArg _ (verd_5 hbw hE hsf htm ((fit_iff hbw (by omega) (ts_disj htm)).2 (Decidable.not_not.1 h97))).symm) rfl (.inr rfl)
                | exact ret_pure rfl (congrArg _ (verd_6 hbw hE hsf (fun t ht => (by obtain ⟨j, hj⟩ := List.getElem?_of_mem ht; exact hno j t (by have := lt_of_at hj; omega) hj))).symm) rfl (.inr rfl)
          · first | replace h81 := of_decide_eq_false h81 | skip
            refine aw_exit ?_
            refine th_e ?_
            refine th_e ?_
            refine in_hit ?_
            refine th_n ?_
            refine aw_seq ?_
            refine aw_reg ?_
            refine rs_mv rfl rfl ?_
            refine rs_nil fun _ => ?_
            refine th_n ?_
            refine aw_ret ?_
            first
              | exact ret_pure rfl (congrArg _ (verd_1 (badW_t hxm (by omega))).symm) rfl (.inr rfl)
              | exact ret_pure rfl (congrArg _ (verd_2 hbw h52).symm) rfl (.inr rfl)
              | exact ret_pure rfl (congrArg _ (verd_3 hbw h0 hts).symm) rfl (.inr rfl)
              | exact ret_pure rfl (congrArg _ (verd_4 hbw hE (hsi.2 ⟨by omega, by omega⟩)).symm) rfl (.inr rfl)
              | exact ret_pure rfl (congrArg _ (verd_5 hbw hE hsf htm ((fit_iff hbw (by omega) (ts_disj htm)).2 (Decidable.not_not.1 h97))).symm) rfl (.inr rfl)
              | exact ret_pure rfl (congrArg _ (verd_6 hbw hE hsf (fun t ht => (by obtain ⟨j, hj⟩ := List.getElem?_of_mem ht; exact hno j t (by have := lt_of_at hj; omega) hj))).symm) rfl (.inr rfl)

def mc44 : MC := (.seq (.reg [⟨(some 4), (.mv (.c (.bool false))), none, []⟩] false) (.seq (.seq (.reg [⟨(some 7), (.mv (.t 0)), none, []⟩, ⟨(some 8), (.len (.t 7)), none, [0]⟩, ⟨(some 9), (.mv (.c (.int .i64 0))), none, []⟩] false) (.block 0 (.loop (.seq (.reg [⟨(some 10), (.bin .lss (.t 9) (.t 8)), none, []⟩] false) (.seq (.cond (.t 10) .skip (.exit 0)) (.seq (.block 1 (.seq (.reg [⟨(some 11), (.mv (.t 9)), none, []⟩, ⟨(some 5), (.mv (.t 11)), none, [0, 0]⟩] false) (.seq (.reg [⟨(some 12), (.mv (.t 1)), none, []⟩, ⟨(some 13), (.mv (.t 5)), none, []⟩, ⟨(some 14), (.bin .shr (.t 12) (.t 13)), none, [0, 1]⟩, ⟨(some 15), (.bin .and (.t 14) (.c (.int .i64 1))), none, [2]⟩, ⟨(some 16), (.bin .eql (.t 15) (.c (.int .i64 1))), none, [3]⟩, ⟨(some 6), (.mv (.t 16)), none, [4, 0, 1, 2, 3, 4]⟩] false) (.seq (.reg [⟨(some 17), (.mv (.t 0)), none, []⟩, ⟨(some 18), (.mv (.t 5)), none, []⟩, ⟨(some 19), (.ixsl 1 (.t 17) (.t 18)), none, [0, 1]⟩, ⟨(some 20), (.ld false 1 (.t 19)), none, [2]⟩, ⟨(some 21), (.bin .eql (.t 20) (.c (.int .i64 1))), none, [3]⟩, ⟨(some 22), (.mv (.t 21)), none, [4]⟩, ⟨(some 23), (.mv (.t 6)), (some (22, true)), [5]⟩, ⟨(some 24), (.un .not (.t 23)), (some (22, true)), [6, 5]⟩, ⟨(some 25), (.pick (.t 22) (.t 24) (.c (.bool false))), none, [5, 7]⟩, ⟨(some 26), (.mv (.t 25)), none, [8, 5]⟩, ⟨(some 27), (.mv (.t 0)), (some (26, false)), [9]⟩, ⟨(some 28), (.mv (.t 5)), (some (26, false)), [9]⟩, ⟨(some 29), (.ixsl 1 (.t 27) (.t 28)), (some (26, false)), [10, 11, 9]⟩, ⟨(some 30), (.ld false 1 (.t 29)), (some (26, false)), [12, 9]⟩, ⟨(some 31), (.bin .eql (.t 30) (.c (.int .i64 2))), (some (26, false)), [13, 9]⟩, ⟨(some 32), (.mv (.t 31)), (some (26, false)), [14, 9, 9]⟩, ⟨(some 33), (.mv (.t 6)), (some (32, true)), [15]⟩, ⟨(some 34), (.pick (.t 32) (.t 33) (.c (.bool false))), (some (26, false)), [15, 16, 9]⟩, ⟨(some 35), (.pick (.t 26) (.c (.bool true)) (.t 34)), none, [9, 17]⟩] false) (.cond (.t 35) (.seq (.reg [⟨(some 4), (.mv (.c (.bool false))), none, []⟩] false) .ret) .skip))))) (.reg [⟨(some 36), (.bin .add (.t 9) (.c (.int .i64 1))), none, []⟩, ⟨(some 9), (.mv (.t 36)), none, [0]⟩] false))))))) (.seq (.reg [⟨(some 4), (.mv (.c (.bool true))), none, []⟩] false) .ret)))
theorem mcOk44 : (match Try.f44.body with | some c => compC Try.prog 37 c | none => none) = some mc44 := by kernel_rfl

theorem fc44 (want : List Int) (t : Nat) (ht : t < 256) (hw : want.length ≤ 8) : FC Try.prog 44 [ints want, iv (t : Int)] [] (.bool (goodK want t want.length)) [] false := by
  refine fc_run (nt := 37) Try.func44 rfl rfl mcOk44 (Nat.le_of_ble_eq_true rfl) ?_
  delta mc44
  refine aw_seq ?_
  refine aw_reg ?_
  refine rs_mv rfl rfl ?_
  refine rs_nil fun _ => ?_
  refine th_n ?_
  refine aw_seq ?_
  refine aw_seq ?_
  refine aw_reg ?_
  refine rs_mv rfl rfl ?_
  first | refine rs_len_m rfl rfl ?_ | refine rs_len_s rfl rfl ?_ | refine rs_len_n rfl rfl ?_ | refine rs_len_r rfl rfl rfl ?_
  refine rs_mv rfl rfl ?_
  refine rs_nil fun _ => ?_
  refine th_n ?_
  refine aw_block ?_
  refine aw_fam (α := Nat) (fun k => want.length - k) (fun k => [(0, ints want), (1, iv (t : Int)), (7, ints want), (8, iv (want.length : Int)), (9, iv (((k) : Nat) : Int))]) (fun k => []) (fun k => k ≤ want.length ∧ goodK want t k = true) 0 (⟨by omega, rfl⟩)
    (weak_to (.cons rfl (rc_same rfl (.inl rfl)) (.cons rfl (rc_same rfl (.inl rfl)) (.cons rfl (rc_same rfl (.inl rfl)) (.cons rfl (rc_same rfl (.inl rfl)) (.cons rfl (rc_same rfl (.inl rfl)) (.nil)))))) (.nil) (fun i h => by cases h)) ?_
  rintro k ⟨hk, hg⟩
  refine aw_seq ?_
  refine aw_reg ?_
  refine rs_lss rfl rfl rfl ?_
  refine rs_nil fun _ => ?_
  refine th_n ?_
  refine aw_seq ?_
  refine aw_cond rfl (fun h10 => ?_) (fun h10 => ?_)
  · first | replace h10 := of_decide_eq_true h10 | skip
    refine aw_skip ?_
    refine th_n ?_
    refine aw_seq ?_
    refine aw_block ?_
    refine aw_seq ?_
    refine aw_reg ?_
    refine rs_mv rfl rfl ?_
    refine rs_mv rfl rfl ?_
    refine rs_nil fun _ => ?_
    refine th_n ?_
    refine aw_seq ?_
    refine aw_reg ?_
    obtain ⟨x, hx, hxm⟩ := at_some (L := want) (k := k) (by omega)
    have hxd := getD_of hx
    refine rs_mv rfl rfl ?_
    refine rs_mv rfl rfl ?_
    refine rs_shr rfl rfl rfl (by omega) rfl ?_
    refine rs_and rfl rfl rfl rfl ?_
    refine rs_eql rfl rfl rfl ?_
    rw [show decide (bits .and .i64 ((t : Int).fdiv (2 ^ min ((k : Nat) : Int).toNat IntKind.i64.bits)) 1 = 1) = hasS t k from has_bits t ht k (by omega)]
    refine rs_mv rfl rfl ?_
    refine rs_nil fun _ => ?_
    refine th_n ?_
    refine aw_seq ?_
    refine aw_reg ?_
    refine rs_mv rfl rfl ?_
    refine rs_mv rfl rfl ?_
    refine rs_ix_g rfl rfl rfl (by omega) hx ?_
    refine rs_ld_r rfl rfl rfl ?_
    refine rs_cmp rfl rfl rfl rfl (fun h21 => ?_) (fun h21 => ?_)
    · skip
      refine rs_mv rfl rfl ?_
      refine rs_mv rfl rfl ?_
      cases h23 : hasS t k
      · skip
        refine rs_not rfl rfl ?_
        refine rs_pick rfl rfl rfl ?_
        refine rs_mv rfl rfl ?_
        refine rs_skip rfl ?_
        refine rs_skip rfl ?_
        refine rs_skip rfl ?_
        refine rs_skip rfl ?_
        refine rs_skip rfl ?_
        refine rs_skip rfl ?_
        refine rs_skip rfl ?_
        refine rs_skip rfl ?_
        refine rs_pick rfl rfl rfl ?_
        refine rs_nil fun _ => ?_
        refine th_n ?_
        refine aw_cond rfl (fun _ => ?_) (fun h => by cases h)
        refine aw_seq ?_
        refine aw_reg ?_
        refine rs_mv rfl rfl ?_
        refine rs_nil fun _ => ?_
        refine th_n ?_
        refine aw_ret ?_
        refine in_r ?_
        refine th_r ?_
        refine th_r ?_
        refine in_r ?_
        refine th_r ?_
        first
          | (obtain rfl : k = want.length := by omega
             exact ret_pure rfl (congrArg AV.bool hg.symm) rfl (.inr rfl))
          | (exfalso; omega)
          | (have e := goodK_false (want := want) (t := t) (k := k) (n := want.length) (by omega) (by rw [hxd]; unfold goodF; first | (rw [h23, decide_eq_true h21]; rfl) | (rw [h33, decide_eq_true h31]; simp))
             exact ret_pure rfl (congrArg AV.bool e.symm) rfl (.inr rfl))
      · skip
        refine rs_not rfl rfl ?_
        refine rs_pick rfl rfl rfl ?_
        refine rs_mv rfl rfl ?_
        refine rs_mv rfl rfl ?_
        refine rs_mv rfl rfl ?_
        refine rs_ix_g rfl rfl rfl (by omega) hx ?_
        refine rs_ld_r rfl rfl rfl ?_
        refine rs_cmp rfl rfl rfl rfl (fun h31 => ?_) (fun h31 => ?_)
        · skip
          refine rs_mv rfl rfl ?_
          refine rs_mv rfl rfl ?_
          refine rs_pick rfl rfl rfl ?_
          refine rs_pick rfl rfl rfl ?_
          refine rs_nil fun _ => ?_
          refine th_n ?_
          refine aw_cond rfl (fun _ => ?_) (fun h => by cases h)
          refine aw_seq ?_
          refine aw_reg ?_
          refine rs_mv rfl rfl ?_
          refine rs_nil fun _ => ?_
          refine th_n ?_
          refine aw_ret ?_
          refine in_r ?_
          refine th_r ?_
          refine th_r ?_
          refine in_r ?_
          refine th_r ?_
          first
            | (obtain rfl : k = want.length := by omega
               exact ret_pure rfl (congrArg AV.bool hg.symm) rfl (.inr rfl))
            | (exfalso; omega)
            | (have e := goodK_false (want := want) (t := t) (k := k) (n := want.length) (by omega) (by rw [hxd]; unfold goodF; first | (rw [h23, decide_eq_true h21]; rfl) | (rw [h33, decide_eq_true h31]; simp))
               exact ret_pure rfl (congrArg AV.bool e.symm) rfl (.inr rfl))
        · skip
          refine rs_mv rfl rfl ?_
          refine rs_skip rfl ?_
          refine rs_pick rfl rfl rfl ?_
          refine rs_pick rfl rfl rfl ?_
          refine rs_nil fun _ => ?_
          refine th_n ?_
          refine aw_cond rfl (fun h => by cases h) (fun _ => ?_)
          refine aw_skip ?_
          refine in_n ?_
          refine th_n ?_
          refine aw_reg ?_
          first | refine rs_add rfl rfl rfl (by omega) ?_ | refine rs_addw rfl rfl rfl rfl ?_
          refine rs_mv rfl rfl ?_
          refine rs_nil fun _ => ?_
          refine th_n ?_
          refine ⟨k + 1, ⟨by omega, ?_⟩, by omega, weak_to (.cons rfl (rc_same rfl (.inl rfl)) (.cons rfl (rc_same rfl (.inl rfl)) (.cons rfl (rc_same rfl (.inl rfl)) (.cons rfl (rc_same rfl (.inl rfl)) (.cons rfl (rc_same rfl (.inl rfl)) (.nil)))))) (.nil) (fun i h => by cases h)⟩
          rw [goodK_succ, hg, hxd]
          unfold goodF
          first
            | (rw [h23, decide_eq_true h21, decide_eq_false (show ¬ x = 2 by omega)]; rfl)
            | (rw [h33, decide_eq_false h21, decide_eq_true h31]; rfl)
            | (rw [decide_eq_false h21, decide_eq_false h31]; rfl)
    · skip
      refine rs_mv rfl rfl ?_
      refine rs_skip rfl ?_
      refine rs_skip rfl ?_
      refine rs_pick rfl rfl rfl ?_
      refine rs_mv rfl rfl ?_
      refine rs_mv rfl rfl ?_
      refine rs_mv rfl rfl ?_
      refine rs_ix_g rfl rfl rfl (by omega) hx ?_
      refine rs_ld_r rfl rfl rfl ?_
      refine rs_cmp rfl rfl rfl rfl (fun h31 => ?_) (fun h31 => ?_)
      · skip
        refine rs_mv rfl rfl ?_
        refine rs_mv rfl rfl ?_
        cases h33 : hasS t k
        · skip
          refine rs_pick rfl rfl rfl ?_
          refine rs_pick rfl rfl rfl ?_
          refine rs_nil fun _ => ?_
          refine th_n ?_
          refine aw_cond rfl (fun h => by cases h) (fun _ => ?_)
          refine aw_skip ?_
          refine in_n ?_
          refine th_n ?_
          refine aw_reg ?_
          first | refine rs_add rfl rfl rfl (by omega) ?_ | refine rs_addw rfl rfl rfl rfl ?_
          refine rs_mv rfl rfl ?_
          refine rs_nil fun _ => ?_
          refine th_n ?_
          refine ⟨k + 1, ⟨by omega, ?_⟩, by omega, weak_to (.cons rfl (rc_same rfl (.inl rfl)) (.cons rfl (rc_same rfl (.inl rfl)) (.cons rfl (rc_same rfl (.inl rfl)) (.cons rfl (rc_same rfl (.inl rfl)) (.cons rfl (rc_same rfl (.inl rfl)) (.nil)))))) (.nil) (fun i h => by cases h)⟩
          rw [goodK_succ, hg, hxd]
          unfold goodF
          first
            | (rw [h23, decide_eq_true h21, decide_eq_false (show ¬ x = 2 by omega)]; rfl)
            | (rw [h33, decide_eq_false h21, decide_eq_true h31]; rfl)
            | (rw [decide_eq_false h21, decide_eq_false h31]; rfl)
        · skip
          refine rs_pick rfl rfl rfl ?_
          refine rs_pick rfl rfl rfl ?_
          refine rs_nil fun _ => ?_
          refine th_n ?_
          refine aw_cond rfl (fun _ => ?_) (fun h => by cases h)
          refine aw_seq ?_
          refine aw_reg ?_
          refine rs_mv rfl rfl ?_
          refine rs_nil fun _ => ?_
          refine th_n ?_
          refine aw_ret ?_
          refine in_r ?_
          refine th_r ?_
          refine th_r ?_
          refine in_r ?_
          refine th_r ?_
          first
            | (obtain rfl : k = want.length := by omega
               exact ret_pure rfl (congrArg AV.bool hg.symm) rfl (.inr rfl))
            | (exfalso; omega)
            | (have e := goodK_false (want := want) (t := t) (k := k) (n := want.length) (by omega) (by rw [hxd]; unfold goodF; first | (rw [h23, decide_eq_true h21]; rfl) | (rw [h33, decide_eq_true h31]; simp))
               exact ret_pure rfl (congrArg AV.bool e.symm) rfl (.inr rfl))
      · skip
        refine rs_mv rfl rfl ?_
        refine rs_skip rfl ?_
        refine rs_pick rfl rfl rfl ?_
        refine rs_pick rfl rfl rfl ?_
        refine rs_nil fun _ => ?_
        refine th_n ?_
        refine aw_cond rfl (fun h => by cases h) (fun _ => ?_)
        refine aw_skip ?_
        refine in_n ?_
        refine th_n ?_
        refine aw_reg ?_
        first | refine rs_add rfl rfl rfl (by omega) ?_ | refine rs_addw rfl rfl rfl rfl ?_
        refine rs_mv rfl rfl ?_
        refine rs_nil fun _ => ?_
        refine th_n ?_
        refine ⟨k + 1, ⟨by omega, ?_⟩, by omega, weak_to (.cons rfl (rc_same rfl (.inl rfl)) (.cons rfl (rc_same rfl (.inl rfl)) (.cons rfl (rc_same rfl (.inl rfl)) (.cons rfl (rc_same rfl (.inl rfl)) (.cons rfl (rc_same rfl (.inl rfl)) (.nil)))))) (.nil) (fun i h => by cases h)⟩
        rw [goodK_succ, hg, hxd]
        unfold goodF
        first
          | (rw [h23, decide_eq_true h21, decide_eq_false (show ¬ x = 2 by omega)]; rfl)
          | (rw [h33, decide_eq_false h21, decide_eq_true h31]; rfl)
          | (rw [decide_eq_false h21, decide_eq_false h31]; rfl)
  · first | replace h10 := of_decide_eq_false h10 | skip
    refine aw_exit ?_
    refine th_e ?_
    refine th_e ?_
    refine in_hit ?_
    refine th_n ?_
    refine aw_seq ?_
    refine aw_reg ?_
    refine rs_mv rfl rfl ?_
    refine rs_nil fun _ => ?_
    refine th_n ?_
    refine aw_ret ?_
    first
      | (obtain rfl : k = want.length := by omega
         exact ret_pure rfl (congrArg AV.bool hg.symm) rfl (.inr rfl))
      | (exfalso; omega)
      | (have e := goodK_false (want := want) (t := t) (k := k) (n := want.length) (by omega) (by rw [hxd]; unfold goodF; first | (rw [h23, decide_eq_true h21]; rfl) | (rw [h33, decide_eq_true h31]; simp))
         exact ret_pure rfl (congrArg AV.bool e.symm) rfl (.inr rfl))

end Go.Proofs.Ytadjdnhnbkcakaa
