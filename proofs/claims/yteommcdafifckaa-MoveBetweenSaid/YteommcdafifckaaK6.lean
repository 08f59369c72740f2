/-
  Proved: colletlaw15.MoveBetween returns true for every input, and its arguments read as before. No condition.
-/
import Derived.Test.YteommcdafifckaaK5
import Derived.Test.YteommcdafifckaaRows
set_option linter.unusedVariables false

/-! Walks: M10a. -/
namespace Go.Proofs.Yteommcdafifckaa
open Go.RowKit

/- The def mc7 lies in M10p. -/

set_option maxHeartbeats 1600000 in
theorem fc7_a (l : List Int) (hl : l.length ≤ 4611686018427387904) (y0 y1 y2 : Int) (hy0 : 0 ≤ y0 ∧ y0 < 256) (hy1 : 0 ≤ y1 ∧ y1 < 256) (hy2 : 0 ≤ y2 ∧ y2 < 256) (hk : (madeS l).kind = 3) : FC Try.prog 7 [ints l, .agg [.int .u8 y0, .int .u8 y1, .int .u8 y2]] [] (.bool true) [] false := by
  obtain ⟨m, hm⟩ : ∃ m, m = madeS l := ⟨_, rfl⟩
  have h10 : FC Try.prog 10 [ints l] [] (aM m) [] false := by rw [hm]; exact fc10 l hl
  have hc : checkS m = 0 := by rw [hm]; exact made_ok l
  have h2 := path_two hc
  have hpl := path_len m
  rw [← hm] at hk
  clear hm
  have hi := ck_in hc
  have ht0 := tmodr y0 41 hy0.1 (by decide)
  have ht1 := tmodr y1 41 hy1.1 (by decide)
  have ht2 := tmodr y2 41 hy2.1 (by decide)
  have ht5 : -4 ≤ (y0.tmod 41 - 20).tmod 5 ∧ (y0.tmod 41 - 20).tmod 5 ≤ 4 := by have := tmod_range (y0.tmod 41 - 20) 5 (by decide); omega
  have hWL : ∀ w ∈ ([yV y0 y1 y2, ⟨(primV (dS m)).x * (y0.tmod 41 - 20).tmod 5, (primV (dS m)).y * (y0.tmod 41 - 20).tmod 5, (primV (dS m)).z * (y0.tmod 41 - 20).tmod 5⟩] : List V3), Bd 200 w := fun w hw => by
    have b1 := mulB (prim_bd hi.d48).x ht5
    have b2 := mulB (prim_bd hi.d48).y ht5
    have b3 := mulB (prim_bd hi.d48).z ht5
    simp only [List.mem_cons, List.not_mem_nil, or_false] at hw
    rcases hw with rfl | rfl
    · exact (y_bd hy0 hy1 hy2).mono (by decide)
    · exact ⟨by dsimp only; omega, by dsimp only; omega, by dsimp only; omega⟩
  refine fc_run (nt := 177) Try.func7 rfl rfl mcOk7 (Nat.le_of_ble_eq_true rfl) ?_
  delta mc7
  refine aw_seq ?_
  refine aw_reg ?_
  refine rs_box rfl rfl rfl rfl rfl rfl ?_
  refine rs_mv rfl rfl ?_
  refine rs_nil fun _ => ?_
  refine th_n ?_
  refine aw_seq ?_
  refine aw_reg ?_
  refine rs_calln [] rfl rfl fc9 .nil rfl ?_
  refine rs_mv rfl rfl ?_
  refine rs_nil fun _ => ?_
  refine th_n ?_
  refine aw_seq ?_
  refine aw_reg ?_
  refine rs_mv rfl rfl ?_
  refine rs_calln [] rfl rfl (h10) (.cons (hv_same rfl) (.nil)) rfl ?_
  refine rs_alloc rfl rfl rfl ?_
  refine rs_st rfl rfl rfl rfl rfl rfl rfl (Nat.le_of_ble_eq_true rfl) rfl rfl ?_
  refine rs_nil fun _ => ?_
  refine th_n ?_
  refine aw_seq ?_
  refine aw_reg ?_
  first | refine rs_ld_pa rfl rfl rfl rfl (Nat.le_of_ble_eq_true rfl) rfl ?_ | refine rs_ld_ra rfl rfl (Nat.le_of_ble_eq_true rfl) rfl ?_ | refine rs_ld_ma rfl rfl rfl (by omega) (Nat.le_of_ble_eq_true rfl) rfl ?_
  refine rs_calln [] rfl rfl (fc25 m h2) (.cons (hv_same rfl) (.nil)) rfl ?_
  refine rs_mv rfl rfl ?_
  refine rs_ext rfl rfl rfl ?_
  refine rs_ext rfl rfl rfl ?_
  refine rs_mv rfl rfl ?_
  refine rs_mv rfl rfl ?_
  refine rs_nil fun _ => ?_
  refine th_n ?_
  refine aw_seq ?_
  refine aw_seq ?_
  refine aw_reg ?_
  refine rs_mv rfl rfl ?_
  refine rs_not rfl rfl ?_
  refine rs_nil fun _ => ?_
  refine th_n ?_
  refine aw_cond rfl (fun h => by cases h) (fun _ => ?_)
  refine aw_skip ?_
  refine th_n ?_
  refine aw_seq ?_
  refine aw_reg ?_
  first | refine rs_fa_p rfl rfl ?_ | refine rs_fa_r rfl rfl rfl ?_
  first | refine rs_ld_pa rfl rfl rfl rfl (Nat.le_of_ble_eq_true rfl) rfl ?_ | refine rs_ld_ra rfl rfl (Nat.le_of_ble_eq_true rfl) rfl ?_ | refine rs_ld_ma rfl rfl rfl (by omega) (Nat.le_of_ble_eq_true rfl) rfl ?_
  first | refine rs_fa_p rfl rfl ?_ | refine rs_fa_r rfl rfl rfl ?_
  first | refine rs_ld_pa rfl rfl rfl rfl (Nat.le_of_ble_eq_true rfl) rfl ?_ | refine rs_ld_ra rfl rfl (Nat.le_of_ble_eq_true rfl) rfl ?_ | refine rs_ld_ma rfl rfl rfl (by omega) (Nat.le_of_ble_eq_true rfl) rfl ?_
  refine rs_calln [] rfl rfl (fc27d hi) (.cons (hv_same rfl) (.cons (hv_same rfl) (.nil))) rfl ?_
  refine rs_alloc rfl rfl rfl ?_
  refine rs_st rfl rfl rfl rfl rfl rfl rfl (Nat.le_of_ble_eq_true rfl) rfl rfl ?_
  refine rs_nil fun _ => ?_
  refine th_n ?_
  refine aw_seq ?_
  refine aw_reg ?_
  refine rs_ixarr_p rfl rfl rfl (by decide) (by decide) ?_
  first | refine rs_ld_r rfl rfl rfl ?_ | refine rs_ld_p rfl rfl rfl rfl rfl ?_ | refine rs_ld_m rfl rfl rfl (by omega) rfl ?_
  refine rs_rem rfl rfl rfl (by decide) rfl ?_
  refine rs_cvt rfl rfl (W_eq (by omega)) ?_
  first | refine rs_sub rfl rfl rfl (by omega) ?_ | refine rs_subw rfl rfl rfl rfl ?_
  refine rs_ixarr_p rfl rfl rfl (by decide) (by decide) ?_
  first | refine rs_ld_r rfl rfl rfl ?_ | refine rs_ld_p rfl rfl rfl rfl rfl ?_ | refine rs_ld_m rfl rfl rfl (by omega) rfl ?_
  refine rs_rem rfl rfl rfl (by decide) rfl ?_
  refine rs_cvt rfl rfl (W_eq (by omega)) ?_
  first | refine rs_sub rfl rfl rfl (by omega) ?_ | refine rs_subw rfl rfl rfl rfl ?_
  refine rs_ixarr_p rfl rfl rfl (by decide) (by decide) ?_
  first | refine rs_ld_r rfl rfl rfl ?_ | refine rs_ld_p rfl rfl rfl rfl rfl ?_ | refine rs_ld_m rfl rfl rfl (by omega) rfl ?_
  refine rs_rem rfl rfl rfl (by decide) rfl ?_
  refine rs_cvt rfl rfl (W_eq (by omega)) ?_
  first | refine rs_sub rfl rfl rfl (by omega) ?_ | refine rs_subw rfl rfl rfl rfl ?_
  refine rs_build rfl rfl ?_
  refine rs_alloc rfl rfl rfl ?_
  refine rs_st rfl rfl rfl rfl rfl rfl rfl (Nat.le_of_ble_eq_true rfl) rfl rfl ?_
  refine rs_nil fun _ => ?_
  refine th_n ?_
  refine aw_seq ?_
  refine aw_reg ?_
  first | refine rs_ld_pa rfl rfl rfl rfl (Nat.le_of_ble_eq_true rfl) rfl ?_ | refine rs_ld_ra rfl rfl (Nat.le_of_ble_eq_true rfl) rfl ?_ | refine rs_ld_ma rfl rfl rfl (by omega) (Nat.le_of_ble_eq_true rfl) rfl ?_
  refine rs_calln [] rfl rfl (fc32 (dS m) hi.d48.big) (.cons (hv_same rfl) (.nil)) rfl ?_
  refine rs_mv rfl rfl ?_
  refine rs_ext rfl rfl rfl ?_
  refine rs_ext rfl rfl rfl ?_
  refine rs_alloc rfl rfl rfl ?_
  refine rs_st rfl rfl rfl rfl rfl rfl rfl (Nat.le_of_ble_eq_true rfl) rfl rfl ?_
  refine rs_mv rfl rfl ?_
  refine rs_nil fun _ => ?_
  refine th_n ?_
  refine aw_seq ?_
  refine aw_seq ?_
  refine aw_reg ?_
  first | refine rs_ld_pa rfl rfl rfl rfl (Nat.le_of_ble_eq_true rfl) rfl ?_ | refine rs_ld_ra rfl rfl (Nat.le_of_ble_eq_true rfl) rfl ?_ | refine rs_ld_ma rfl rfl rfl (by omega) (Nat.le_of_ble_eq_true rfl) rfl ?_
  first | refine rs_fa_p rfl rfl ?_ | refine rs_fa_r rfl rfl rfl ?_
  first | refine rs_ld_r rfl rfl rfl ?_ | refine rs_ld_p rfl rfl rfl rfl rfl ?_ | refine rs_ld_m rfl rfl rfl (by omega) rfl ?_
  first | refine rs_fa_p rfl rfl ?_ | refine rs_fa_r rfl rfl rfl ?_
  first | refine rs_ld_r rfl rfl rfl ?_ | refine rs_ld_p rfl rfl rfl rfl rfl ?_ | refine rs_ld_m rfl rfl rfl (by omega) rfl ?_
  refine rs_rem rfl rfl rfl (by decide) rfl ?_
  refine rs_mulw rfl rfl rfl (W_eq (by have := mulB (prim_bd hi.d48).x ht5; omega)) ?_
  first | refine rs_fa_p rfl rfl ?_ | refine rs_fa_r rfl rfl rfl ?_
  first | refine rs_ld_r rfl rfl rfl ?_ | refine rs_ld_p rfl rfl rfl rfl rfl ?_ | refine rs_ld_m rfl rfl rfl (by omega) rfl ?_
  first | refine rs_fa_p rfl rfl ?_ | refine rs_fa_r rfl rfl rfl ?_
  first | refine rs_ld_r rfl rfl rfl ?_ | refine rs_ld_p rfl rfl rfl rfl rfl ?_ | refine rs_ld_m rfl rfl rfl (by omega) rfl ?_
  refine rs_rem rfl rfl rfl (by decide) rfl ?_
  refine rs_mulw rfl rfl rfl (W_eq (by have := mulB (prim_bd hi.d48).y ht5; omega)) ?_
  first | refine rs_fa_p rfl rfl ?_ | refine rs_fa_r rfl rfl rfl ?_
  first | refine rs_ld_r rfl rfl rfl ?_ | refine rs_ld_p rfl rfl rfl rfl rfl ?_ | refine rs_ld_m rfl rfl rfl (by omega) rfl ?_
  first | refine rs_fa_p rfl rfl ?_ | refine rs_fa_r rfl rfl rfl ?_
  first | refine rs_ld_r rfl rfl rfl ?_ | refine rs_ld_p rfl rfl rfl rfl rfl ?_ | refine rs_ld_m rfl rfl rfl (by omega) rfl ?_
  refine rs_rem rfl rfl rfl (by decide) rfl ?_
  refine rs_mulw rfl rfl rfl (W_eq (by have := mulB (prim_bd hi.d48).z ht5; omega)) ?_
  refine rs_build rfl rfl ?_
  refine rs_bslice (l := (([yV y0 y1 y2, ⟨(primV (dS m)).x * (y0.tmod 41 - 20).tmod 5, (primV (dS m)).y * (y0.tmod 41 - 20).tmod 5, (primV (dS m)).z * (y0.tmod 41 - 20).tmod 5⟩] : List V3)).flatMap cV) (els := (([yV y0 y1 y2, ⟨(primV (dS m)).x * (y0.tmod 41 - 20).tmod 5, (primV (dS m)).y * (y0.tmod 41 - 20).tmod 5, (primV (dS m)).z * (y0.tmod 41 - 20).tmod 5⟩] : List V3)).map cV) (fl := true) rfl (by kernel_rfl) rfl rfl (by kernel_rfl) (by kernel_rfl) ?_
  first | refine rs_len_m rfl rfl ?_ | refine rs_len_s rfl rfl ?_ | refine rs_len_n rfl rfl ?_ | refine rs_len_r rfl rfl rfl ?_
  refine rs_mv rfl rfl ?_
  refine rs_nil fun _ => ?_
  refine th_n ?_
  refine aw_block ?_
  refine aw_fam (α := Nat) (fun k => 2 - k) (fun k => [(5, .bool true), (6, .ptr 6 0 0), (7, .rs 3 ((pathS m).map cV)), (9, .ptr 9 0 0), (80, .sl 80 0 2), (81, iv 2), (82, iv (((k) : Nat) : Int))]) (fun k => [(6, .cells 28 11 [cM m] true), (9, .cells 26 3 [cV (dS m)] true), (80, .cells 26 3 (([yV y0 y1 y2, ⟨(primV (dS m)).x * (y0.tmod 41 - 20).tmod 5, (primV (dS m)).y * (y0.tmod 41 - 20).tmod 5, (primV (dS m)).z * (y0.tmod 41 - 20).tmod 5⟩] : List V3).map cV) true)]) (fun k => k ≤ 2) 0 (by omega)
    (weak_to (.cons rfl (rc_same rfl (.inl rfl)) (.cons rfl (rc_same rfl (.inl rfl)) (.cons rfl (rc_same rfl (.inl rfl)) (.cons rfl (rc_same rfl (.inl rfl)) (.cons rfl (rc_same rfl (.inl rfl)) (.cons rfl (rc_same rfl (.inl rfl)) (.cons rfl (rc_same rfl (.inl rfl)) (.nil)))))))) (.keep (rfl) rfl (.keep (rfl) rfl (.keep (rfl) rfl (.nil)))) (fun i h => by cases h)) ?_
  intro k hk2
  refine aw_seq ?_
  refine aw_reg ?_
  refine rs_lss rfl rfl rfl ?_
  refine rs_nil fun _ => ?_
  refine th_n ?_
  refine aw_seq ?_
  refine aw_cond rfl (fun h83 => ?_) (fun h83 => ?_)
  · first | replace h83 := of_decide_eq_true h83 | skip
    refine aw_skip ?_
    refine th_n ?_
    refine aw_seq ?_
    refine aw_block ?_
    refine aw_seq ?_
    refine aw_reg ?_
    obtain ⟨w, hw, hwm⟩ := at_some (L := ([yV y0 y1 y2, ⟨(primV (dS m)).x * (y0.tmod 41 - 20).tmod 5, (primV (dS m)).y * (y0.tmod 41 - 20).tmod 5, (primV (dS m)).z * (y0.tmod 41 - 20).tmod 5⟩] : List V3)) (k := 0 + k) (by simp; omega)
    have hwb := hWL w hwm
    refine rs_ix_s rfl rfl rfl rfl (by omega) (by omega) ?_
    refine rs_ld_ga (f := cV) (xs := ([yV y0 y1 y2, ⟨(primV (dS m)).x * (y0.tmod 41 - 20).tmod 5, (primV (dS m)).y * (y0.tmod 41 - 20).tmod 5, (primV (dS m)).z * (y0.tmod 41 - 20).tmod 5⟩] : List V3)) (y := w) rfl rfl rfl hw (Nat.le_of_ble_eq_true rfl) rfl ?_
    refine rs_alloc rfl rfl rfl ?_
    refine rs_st rfl rfl rfl rfl rfl rfl rfl (Nat.le_of_ble_eq_true rfl) rfl rfl ?_
    refine rs_nil fun _ => ?_
    refine th_n ?_
    refine aw_seq ?_
    refine aw_reg ?_
    first | refine rs_fa_p rfl rfl ?_ | refine rs_fa_r rfl rfl rfl ?_
    first | refine rs_ld_pa rfl rfl rfl rfl (Nat.le_of_ble_eq_true rfl) rfl ?_ | refine rs_ld_ra rfl rfl (Nat.le_of_ble_eq_true rfl) rfl ?_ | refine rs_ld_ma rfl rfl rfl (by omega) (Nat.le_of_ble_eq_true rfl) rfl ?_
    first | refine rs_ld_pa rfl rfl rfl rfl (Nat.le_of_ble_eq_true rfl) rfl ?_ | refine rs_ld_ra rfl rfl (Nat.le_of_ble_eq_true rfl) rfl ?_ | refine rs_ld_ma rfl rfl rfl (by omega) (Nat.le_of_ble_eq_true rfl) rfl ?_
    refine rs_calln [] rfl rfl (fc28s hi.fr.big hwb.big) (.cons (hv_same rfl) (.cons (hv_same rfl) (.nil))) rfl ?_
    refine rs_alloc rfl rfl rfl ?_
    refine rs_st rfl rfl rfl rfl rfl rfl rfl (Nat.le_of_ble_eq_true rfl) rfl rfl ?_
    refine rs_nil fun _ => ?_
    refine th_n ?_
    refine aw_cutw (F0 := [(5, .bool true), (6, .ptr 6 0 0), (7, .rs 3 ((pathS m).map cV)), (9, .ptr 9 0 0), (80, .sl 80 0 2), (81, iv 2), (82, iv (((k) : Nat) : Int)), (15, .ptr 15 0 0)]) (H0 := [(6, .cells 28 11 [cM m] true), (9, .cells 26 3 [cV (dS m)] true), (80, .cells 26 3 (([yV y0 y1 y2, ⟨(primV (dS m)).x * (y0.tmod 41 - 20).tmod 5, (primV (dS m)).y * (y0.tmod 41 - 20).tmod 5, (primV (dS m)).z * (y0.tmod 41 - 20).tmod 5⟩] : List V3).map cV) true), (15, .cells 26 3 [cV (add m.fr w)] true)]) ?_ ?_
    · skip
      refine aw_draw hmix ?_
      first | refine rs_ld_pa rfl rfl rfl rfl (Nat.le_of_ble_eq_true rfl) rfl ?_ | refine rs_ld_ra rfl rfl (Nat.le_of_ble_eq_true rfl) rfl ?_ | refine rs_ld_ma rfl rfl rfl (by omega) (Nat.le_of_ble_eq_true rfl) rfl ?_
      first | refine rs_ld_pa rfl rfl rfl rfl (Nat.le_of_ble_eq_true rfl) rfl ?_ | refine rs_ld_ra rfl rfl (Nat.le_of_ble_eq_true rfl) rfl ?_ | refine rs_ld_ma rfl rfl rfl (by omega) (Nat.le_of_ble_eq_true rfl) rfl ?_
      refine rs_calln [] rfl rfl (fc31s hwb.big hi.d48.big) (.cons (hv_same rfl) (.cons (hv_same rfl) (.nil))) rfl ?_
      refine rs_build rfl rfl ?_
      refine rs_aeqv (v := ⟨0, 0, 0⟩) rfl rfl rfl ?_
      cases h94 : (false != decide (cross w (dS m) = ⟨0, 0, 0⟩))
      · skip
        refine rs_mv rfl rfl ?_
        refine rs_skip rfl ?_
        refine rs_skip rfl ?_
        refine rs_skip rfl ?_
        refine rs_skip rfl ?_
        refine rs_pick rfl rfl rfl ?_
        refine rs_mv rfl rfl ?_
        refine rs_skip rfl ?_
        refine rs_skip rfl ?_
        refine rs_skip rfl ?_
        refine rs_skip rfl ?_
        refine rs_skip rfl ?_
        refine rs_skip rfl ?_
        refine rs_skip rfl ?_
        refine rs_pick rfl rfl rfl ?_
        refine rs_mv rfl rfl ?_
        refine rs_nil ⟨by kernel_rfl, fun _ => ?_⟩
        exact ⟨rfl, weak_to (.cons rfl (rc_same rfl (.inl rfl)) (.cons rfl (rc_same rfl (.inl rfl)) (.cons rfl (rc_same rfl (.inl rfl)) (.cons rfl (rc_same rfl (.inl rfl)) (.cons rfl (rc_same rfl (.inl rfl)) (.cons rfl (rc_same rfl (.inl rfl)) (.cons rfl (rc_same rfl (.inl rfl)) (.cons rfl (rc_same rfl (.inl rfl)) (.nil))))))))) (.keep (rfl) rfl (.keep (rfl) rfl (.keep (rfl) rfl (.keep (rfl) rfl (.nil))))) (fun i h => by cases h)⟩
      · skip
        refine rs_mv rfl rfl ?_
        first | refine rs_ld_pa rfl rfl rfl rfl (Nat.le_of_ble_eq_true rfl) rfl ?_ | refine rs_ld_ra rfl rfl (Nat.le_of_ble_eq_true rfl) rfl ?_ | refine rs_ld_ma rfl rfl rfl (by omega) (Nat.le_of_ble_eq_true rfl) rfl ?_
        first | refine rs_ld_pa rfl rfl rfl rfl (Nat.le_of_ble_eq_true rfl) rfl ?_ | refine rs_ld_ra rfl rfl (Nat.le_of_ble_eq_true rfl) rfl ?_ | refine rs_ld_ma rfl rfl rfl (by omega) (Nat.le_of_ble_eq_true rfl) rfl ?_
        refine rs_calln [] rfl rfl (fc30s hwb.big hi.d48.big) (.cons (hv_same rfl) (.cons (hv_same rfl) (.nil))) rfl ?_
        refine rs_cmp rfl rfl rfl rfl (fun h99 => ?_) (fun h99 => ?_)
        · skip
          refine rs_pick rfl rfl rfl ?_
          refine rs_mv rfl rfl ?_
          first | refine rs_ld_pa rfl rfl rfl rfl (Nat.le_of_ble_eq_true rfl) rfl ?_ | refine rs_ld_ra rfl rfl (Nat.le_of_ble_eq_true rfl) rfl ?_ | refine rs_ld_ma rfl rfl rfl (by omega) (Nat.le_of_ble_eq_true rfl) rfl ?_
          first | refine rs_ld_pa rfl rfl rfl rfl (Nat.le_of_ble_eq_true rfl) rfl ?_ | refine rs_ld_ra rfl rfl (Nat.le_of_ble_eq_true rfl) rfl ?_ | refine rs_ld_ma rfl rfl rfl (by omega) (Nat.le_of_ble_eq_true rfl) rfl ?_
          refine rs_calln [] rfl rfl (fc30s hwb.big hi.d48.big) (.cons (hv_same rfl) (.cons (hv_same rfl) (.nil))) rfl ?_
          first | refine rs_ld_pa rfl rfl rfl rfl (Nat.le_of_ble_eq_true rfl) rfl ?_ | refine rs_ld_ra rfl rfl (Nat.le_of_ble_eq_true rfl) rfl ?_ | refine rs_ld_ma rfl rfl rfl (by omega) (Nat.le_of_ble_eq_true rfl) rfl ?_
          first | refine rs_ld_pa rfl rfl rfl rfl (Nat.le_of_ble_eq_true rfl) rfl ?_ | refine rs_ld_ra rfl rfl (Nat.le_of_ble_eq_true rfl) rfl ?_ | refine rs_ld_ma rfl rfl rfl (by omega) (Nat.le_of_ble_eq_true rfl) rfl ?_
          refine rs_calln [] rfl rfl (fc30s hi.d48.big hi.d48.big) (.cons (hv_same rfl) (.cons (hv_same rfl) (.nil))) rfl ?_
          refine rs_cmp rfl rfl rfl rfl (fun h108 => ?_) (fun h108 => ?_)
          · skip
            refine rs_pick rfl rfl rfl ?_
            refine rs_mv rfl rfl ?_
            refine rs_nil ⟨by kernel_rfl, fun _ => ?_⟩
            exact ⟨rfl, weak_to (.cons rfl (rc_same rfl (.inl rfl)) (.cons rfl (rc_same rfl (.inl rfl)) (.cons rfl (rc_same rfl (.inl rfl)) (.cons rfl (rc_same rfl (.inl rfl)) (.cons rfl (rc_same rfl (.inl rfl)) (.cons rfl (rc_same rfl (.inl rfl)) (.cons rfl (rc_same rfl (.inl rfl)) (.cons rfl (rc_same rfl (.inl rfl)) (.nil))))))))) (.keep (rfl) rfl (.keep (rfl) rfl (.keep (rfl) rfl (.keep (rfl) rfl (.nil))))) (fun i h => by cases h)⟩
          · skip
            refine rs_pick rfl rfl rfl ?_
            refine rs_mv rfl rfl ?_
            refine rs_nil ⟨by kernel_rfl, fun _ => ?_⟩
            exact ⟨rfl, weak_to (.cons rfl (rc_same rfl (.inl rfl)) (.cons rfl (rc_same rfl (.inl rfl)) (.cons rfl (rc_same rfl (.inl rfl)) (.cons rfl (rc_same rfl (.inl rfl)) (.cons rfl (rc_same rfl (.inl rfl)) (.cons rfl (rc_same rfl (.inl rfl)) (.cons rfl (rc_same rfl (.inl rfl)) (.cons rfl (rc_same rfl (.inl rfl)) (.nil))))))))) (.keep (rfl) rfl (.keep (rfl) rfl (.keep (rfl) rfl (.keep (rfl) rfl (.nil))))) (fun i h => by cases h)⟩
        · skip
          refine rs_pick rfl rfl rfl ?_
          refine rs_mv rfl rfl ?_
          refine rs_skip rfl ?_
          refine rs_skip rfl ?_
          refine rs_skip rfl ?_
          refine rs_skip rfl ?_
          refine rs_skip rfl ?_
          refine rs_skip rfl ?_
          refine rs_skip rfl ?_
          refine rs_pick rfl rfl rfl ?_
          refine rs_mv rfl rfl ?_
          refine rs_nil ⟨by kernel_rfl, fun _ => ?_⟩
          exact ⟨rfl, weak_to (.cons rfl (rc_same rfl (.inl rfl)) (.cons rfl (rc_same rfl (.inl rfl)) (.cons rfl (rc_same rfl (.inl rfl)) (.cons rfl (rc_same rfl (.inl rfl)) (.cons rfl (rc_same rfl (.inl rfl)) (.cons rfl (rc_same rfl (.inl rfl)) (.cons rfl (rc_same rfl (.inl rfl)) (.cons rfl (rc_same rfl (.inl rfl)) (.nil))))))))) (.keep (rfl) rfl (.keep (rfl) rfl (.keep (rfl) rfl (.keep (rfl) rfl (.nil))))) (fun i h => by cases h)⟩
    · skip
      refine aw_seq ?_
      refine aw_seq ?_
      refine aw_reg ?_
      first | refine rs_fa_p rfl rfl ?_ | refine rs_fa_r rfl rfl rfl ?_
      first | refine rs_ld_r rfl rfl rfl ?_ | refine rs_ld_p rfl rfl rfl rfl rfl ?_ | refine rs_ld_m rfl rfl rfl (by omega) rfl ?_
      refine rs_cmp_t rfl rfl rfl rfl hk ?_
      refine rs_nil fun _ => ?_
      refine th_n ?_
      refine aw_cond rfl (fun _ => ?_) (fun h => by cases h)
      refine aw_seq ?_
      refine aw_draw hmix ?_
      first | refine rs_fa_p rfl rfl ?_ | refine rs_fa_r rfl rfl rfl ?_
      first | refine rs_ld_pa rfl rfl rfl rfl (Nat.le_of_ble_eq_true rfl) rfl ?_ | refine rs_ld_ra rfl rfl (Nat.le_of_ble_eq_true rfl) rfl ?_ | refine rs_ld_ma rfl rfl rfl (by omega) (Nat.le_of_ble_eq_true rfl) rfl ?_
      first | refine rs_fa_p rfl rfl ?_ | refine rs_fa_r rfl rfl rfl ?_
      first | refine rs_ld_pa rfl rfl rfl rfl (Nat.le_of_ble_eq_true rfl) rfl ?_ | refine rs_ld_ra rfl rfl (Nat.le_of_ble_eq_true rfl) rfl ?_ | refine rs_ld_ma rfl rfl rfl (by omega) (Nat.le_of_ble_eq_true rfl) rfl ?_
      refine rs_calln [] rfl rfl (fc28s hi.fr.big hi.to.big) (.cons (hv_same rfl) (.cons (hv_same rfl) (.nil))) rfl ?_
      first | refine rs_fa_p rfl rfl ?_ | refine rs_fa_r rfl rfl rfl ?_
      first | refine rs_ld_pa rfl rfl rfl rfl (Nat.le_of_ble_eq_true rfl) rfl ?_ | refine rs_ld_ra rfl rfl (Nat.le_of_ble_eq_true rfl) rfl ?_ | refine rs_ld_ma rfl rfl rfl (by omega) (Nat.le_of_ble_eq_true rfl) rfl ?_
      refine rs_calln [] rfl rfl (fc27c hi) (.cons (hv_same rfl) (.cons (hv_same rfl) (.nil))) rfl ?_
      refine rs_alloc rfl rfl rfl ?_
      refine rs_st rfl rfl rfl rfl rfl rfl rfl (Nat.le_of_ble_eq_true rfl) rfl rfl ?_
      refine rs_nil ⟨by kernel_rfl, fun _ => ?_⟩
      refine th_n ?_
      refine aw_seq ?_
      refine aw_draw hmix ?_
      first | refine rs_fa_p rfl rfl ?_ | refine rs_fa_r rfl rfl rfl ?_
      first | refine rs_ld_pa rfl rfl rfl rfl (Nat.le_of_ble_eq_true rfl) rfl ?_ | refine rs_ld_ra rfl rfl (Nat.le_of_ble_eq_true rfl) rfl ?_ | refine rs_ld_ma rfl rfl rfl (by omega) (Nat.le_of_ble_eq_true rfl) rfl ?_
      first | refine rs_ld_pa rfl rfl rfl rfl (Nat.le_of_ble_eq_true rfl) rfl ?_ | refine rs_ld_ra rfl rfl (Nat.le_of_ble_eq_true rfl) rfl ?_ | refine rs_ld_ma rfl rfl rfl (by omega) (Nat.le_of_ble_eq_true rfl) rfl ?_
      refine rs_calln [] rfl rfl (fc27a hi) (.cons (hv_same rfl) (.cons (hv_same rfl) (.nil))) rfl ?_
      first | refine rs_fa_p rfl rfl ?_ | refine rs_fa_r rfl rfl rfl ?_
      first | refine rs_ld_pa rfl rfl rfl rfl (Nat.le_of_ble_eq_true rfl) rfl ?_ | refine rs_ld_ra rfl rfl (Nat.le_of_ble_eq_true rfl) rfl ?_ | refine rs_ld_ma rfl rfl rfl (by omega) (Nat.le_of_ble_eq_true rfl) rfl ?_
      first | refine rs_ld_pa rfl rfl rfl rfl (Nat.le_of_ble_eq_true rfl) rfl ?_ | refine rs_ld_ra rfl rfl (Nat.le_of_ble_eq_true rfl) rfl ?_ | refine rs_ld_ma rfl rfl rfl (by omega) (Nat.le_of_ble_eq_true rfl) rfl ?_
      refine rs_calln [] rfl rfl (fc27b hi) (.cons (hv_same rfl) (.cons (hv_same rfl) (.nil))) rfl ?_
      first | refine rs_ld_pa rfl rfl rfl rfl (Nat.le_of_ble_eq_true rfl) rfl ?_ | refine rs_ld_ra rfl rfl (Nat.le_of_ble_eq_true rfl) rfl ?_ | refine rs_ld_ma rfl rfl rfl (by omega) (Nat.le_of_ble_eq_true rfl) rfl ?_
      first | refine rs_ld_pa rfl rfl rfl rfl (Nat.le_of_ble_eq_true rfl) rfl ?_ | refine rs_ld_ra rfl rfl (Nat.le_of_ble_eq_true rfl) rfl ?_ | refine rs_ld_ma rfl rfl rfl (by omega) (Nat.le_of_ble_eq_true rfl) rfl ?_
      refine rs_calln [] rfl rfl (fc27s (hi.fr.add hwb).big hi.c.big) (.cons (hv_same rfl) (.cons (hv_same rfl) (.nil))) rfl ?_
      refine rs_alloc rfl rfl rfl ?_
      refine rs_alloc rfl rfl rfl ?_
      refine rs_alloc rfl rfl rfl ?_
      refine rs_st rfl rfl rfl rfl rfl rfl rfl (Nat.le_of_ble_eq_true rfl) rfl rfl ?_
      refine rs_st rfl rfl rfl rfl rfl rfl rfl (Nat.le_of_ble_eq_true rfl) rfl rfl ?_
      refine rs_st rfl rfl rfl rfl rfl rfl rfl (Nat.le_of_ble_eq_true rfl) rfl rfl ?_
      refine rs_nil ⟨by kernel_rfl, fun _ => ?_⟩
      refine th_n ?_
      refine aw_draw hmix ?_
      first | refine rs_ld_pa rfl rfl rfl rfl (Nat.le_of_ble_eq_true rfl) rfl ?_ | refine rs_ld_ra rfl rfl (Nat.le_of_ble_eq_true rfl) rfl ?_ | refine rs_ld_ma rfl rfl rfl (by omega) (Nat.le_of_ble_eq_true rfl) rfl ?_
      first | refine rs_ld_pa rfl rfl rfl rfl (Nat.le_of_ble_eq_true rfl) rfl ?_ | refine rs_ld_ra rfl rfl (Nat.le_of_ble_eq_true rfl) rfl ?_ | refine rs_ld_ma rfl rfl rfl (by omega) (Nat.le_of_ble_eq_true rfl) rfl ?_
      refine rs_calln [] rfl rfl (fc30s ((hi.fr.add hwb).sub hi.c).big ((hi.fr.add hwb).sub hi.c).big) (.cons (hv_same rfl) (.cons (hv_same rfl) (.nil))) rfl ?_
      first | refine rs_ld_pa rfl rfl rfl rfl (Nat.le_of_ble_eq_true rfl) rfl ?_ | refine rs_ld_ra rfl rfl (Nat.le_of_ble_eq_true rfl) rfl ?_ | refine rs_ld_ma rfl rfl rfl (by omega) (Nat.le_of_ble_eq_true rfl) rfl ?_
      first | refine rs_ld_pa rfl rfl rfl rfl (Nat.le_of_ble_eq_true rfl) rfl ?_ | refine rs_ld_ra rfl rfl (Nat.le_of_ble_eq_true rfl) rfl ?_ | refine rs_ld_ma rfl rfl rfl (by omega) (Nat.le_of_ble_eq_true rfl) rfl ?_
      refine rs_calln [] rfl rfl (fc30s hi.a48.big hi.a48.big) (.cons (hv_same rfl) (.cons (hv_same rfl) (.nil))) rfl ?_
      refine rs_cmp rfl rfl rfl rfl (fun h138 => ?_) (fun h138 => ?_)
      · skip
        refine rs_mv rfl rfl ?_
        first | refine rs_ld_pa rfl rfl rfl rfl (Nat.le_of_ble_eq_true rfl) rfl ?_ | refine rs_ld_ra rfl rfl (Nat.le_of_ble_eq_true rfl) rfl ?_ | refine rs_ld_ma rfl rfl rfl (by omega) (Nat.le_of_ble_eq_true rfl) rfl ?_
        first | refine rs_ld_pa rfl rfl rfl rfl (Nat.le_of_ble_eq_true rfl) rfl ?_ | refine rs_ld_ra rfl rfl (Nat.le_of_ble_eq_true rfl) rfl ?_ | refine rs_ld_ma rfl rfl rfl (by omega) (Nat.le_of_ble_eq_true rfl) rfl ?_
        refine rs_calln [] rfl rfl (fc31s hi.a48.big hi.b48.big) (.cons (hv_same rfl) (.cons (hv_same rfl) (.nil))) rfl ?_
        first | refine rs_ld_pa rfl rfl rfl rfl (Nat.le_of_ble_eq_true rfl) rfl ?_ | refine rs_ld_ra rfl rfl (Nat.le_of_ble_eq_true rfl) rfl ?_ | refine rs_ld_ma rfl rfl rfl (by omega) (Nat.le_of_ble_eq_true rfl) rfl ?_
        refine rs_calln [] rfl rfl (fc30s (hi.a48.cross hi.b48).big ((hi.fr.add hwb).sub hi.c).big) (.cons (hv_same rfl) (.cons (hv_same rfl) (.nil))) rfl ?_
        refine rs_cmp rfl rfl rfl rfl (fun h145 => ?_) (fun h145 => ?_)
        · skip
          refine rs_pick rfl rfl rfl ?_
          refine rs_mv rfl rfl ?_
          first | refine rs_ld_pa rfl rfl rfl rfl (Nat.le_of_ble_eq_true rfl) rfl ?_ | refine rs_ld_ra rfl rfl (Nat.le_of_ble_eq_true rfl) rfl ?_ | refine rs_ld_ma rfl rfl rfl (by omega) (Nat.le_of_ble_eq_true rfl) rfl ?_
          first | refine rs_ld_pa rfl rfl rfl rfl (Nat.le_of_ble_eq_true rfl) rfl ?_ | refine rs_ld_ra rfl rfl (Nat.le_of_ble_eq_true rfl) rfl ?_ | refine rs_ld_ma rfl rfl rfl (by omega) (Nat.le_of_ble_eq_true rfl) rfl ?_
          refine rs_calln [] rfl rfl (fc30s ((hi.fr.add hwb).sub hi.c).big hi.a48.big) (.cons (hv_same rfl) (.cons (hv_same rfl) (.nil))) rfl ?_
          refine rs_cmp rfl rfl rfl rfl (fun h151 => ?_) (fun h151 => ?_)
          · skip
            refine rs_pick rfl rfl rfl ?_
            refine rs_mv rfl rfl ?_
            first | refine rs_ld_pa rfl rfl rfl rfl (Nat.le_of_ble_eq_true rfl) rfl ?_ | refine rs_ld_ra rfl rfl (Nat.le_of_ble_eq_true rfl) rfl ?_ | refine rs_ld_ma rfl rfl rfl (by omega) (Nat.le_of_ble_eq_true rfl) rfl ?_
            first | refine rs_ld_pa rfl rfl rfl rfl (Nat.le_of_ble_eq_true rfl) rfl ?_ | refine rs_ld_ra rfl rfl (Nat.le_of_ble_eq_true rfl) rfl ?_ | refine rs_ld_ma rfl rfl rfl (by omega) (Nat.le_of_ble_eq_true rfl) rfl ?_
            refine rs_calln [] rfl rfl (fc30s ((hi.fr.add hwb).sub hi.c).big hi.b48.big) (.cons (hv_same rfl) (.cons (hv_same rfl) (.nil))) rfl ?_
            refine rs_cmp rfl rfl rfl rfl (fun h157 => ?_) (fun h157 => ?_)
            · skip
              refine rs_pick rfl rfl rfl ?_
              refine rs_mv rfl rfl ?_
              refine rs_nil ⟨by kernel_rfl, fun _ => ?_⟩
              refine th_n ?_
              refine aw_seq ?_
              refine aw_weak (F0 := [(5, .bool true), (6, .ptr 6 0 0), (7, .rs 3 ((pathS m).map cV)), (9, .ptr 9 0 0), (80, .sl 80 0 2), (81, iv 2), (82, iv (((k) : Nat) : Int)), (15, .ptr 15 0 0), (16, .bool (decide (add m.fr w ∈ pathS m)))]) (H0 := [(6, .cells 28 11 [cM m] true), (9, .cells 26 3 [cV (dS m)] true), (80, .cells 26 3 (([yV y0 y1 y2, ⟨(primV (dS m)).x * (y0.tmod 41 - 20).tmod 5, (primV (dS m)).y * (y0.tmod 41 - 20).tmod 5, (primV (dS m)).z * (y0.tmod 41 - 20).tmod 5⟩] : List V3).map cV) true), (15, .cells 26 3 [cV (add m.fr w)] true)]) (weak_to (.cons rfl (rc_same rfl (.inl rfl)) (.cons rfl (rc_same rfl (.inl rfl)) (.cons rfl (rc_same rfl (.inl rfl)) (.cons rfl (rc_same rfl (.inl rfl)) (.cons rfl (rc_same rfl (.inl rfl)) (.cons rfl (rc_same rfl (.inl rfl)) (.cons rfl (rc_same rfl (.inl rfl)) (.cons rfl (rc_same rfl (.inl rfl)) (.cons rfl (rc_eq (congrArg AV.bool (by first | exact (decide_eq_true ((on_arc hc hk (add m.fr w)).1 ⟨h138, h145, h151, h157⟩)).symm | exact (decide_eq_false (fun hx => h157 ((on_arc hc hk (add m.fr w)).2 hx).2.2.2)).symm | exact (decide_eq_false (fun hx => h151 ((on_arc hc hk (add m.fr w)).2 hx).2.2.1)).symm | exact (decide_eq_false (fun hx => h145 ((on_arc hc hk (add m.fr w)).2 hx).2.1)).symm | exact (decide_eq_false (fun hx => h138 ((on_arc hc hk (add m.fr w)).2 hx).1)).symm)) rfl) (.nil)))))))))) (.keep (rfl) rfl (.keep (rfl) rfl (.keep (rfl) rfl (.keep (rfl) rfl (.nil))))) (fun i h => by cases h)) ?_
              refine aw_reg ?_
              refine rs_mv rfl rfl ?_
              refine rs_nil fun _ => ?_
              refine th_n ?_
              refine aw_seq ?_
              refine aw_seq ?_
              refine aw_reg ?_
              refine rs_mv rfl rfl ?_
              first | refine rs_len_m rfl rfl ?_ | refine rs_len_s rfl rfl ?_ | refine rs_len_n rfl rfl ?_ | refine rs_len_r rfl rfl rfl ?_
              refine rs_mv rfl rfl ?_
              refine rs_nil fun _ => ?_
              refine th_n ?_
              refine aw_block ?_
              refine aw_fam (α := Nat) (fun j => (pathS m).length - j) (fun j => [(5, .bool true), (6, .ptr 6 0 0), (7, .rs 3 ((pathS m).map cV)), (9, .ptr 9 0 0), (80, .sl 80 0 2), (81, iv 2), (82, iv (((k) : Nat) : Int)), (15, .ptr 15 0 0), (16, .bool (decide (add m.fr w ∈ pathS m))), (21, .bool (decide (add m.fr w ∈ (pathS m).take (j)))), (159, .rs 3 ((pathS m).map cV)), (160, iv ((pathS m).length : Int)), (161, iv (((j) : Nat) : Int))]) (fun j => [(6, .cells 28 11 [cM m] true), (9, .cells 26 3 [cV (dS m)] true), (80, .cells 26 3 (([yV y0 y1 y2, ⟨(primV (dS m)).x * (y0.tmod 41 - 20).tmod 5, (primV (dS m)).y * (y0.tmod 41 - 20).tmod 5, (primV (dS m)).z * (y0.tmod 41 - 20).tmod 5⟩] : List V3).map cV) true), (15, .cells 26 3 [cV (add m.fr w)] true)]) (fun j => j ≤ (pathS m).length) 0 (by omega)
                (weak_to (.cons rfl (rc_same rfl (.inl rfl)) (.cons rfl (rc_same rfl (.inl rfl)) (.cons rfl (rc_same rfl (.inl rfl)) (.cons rfl (rc_same rfl (.inl rfl)) (.cons rfl (rc_same rfl (.inl rfl)) (.cons rfl (rc_same rfl (.inl rfl)) (.cons rfl (rc_same rfl (.inl rfl)) (.cons rfl (rc_same rfl (.inl rfl)) (.cons rfl (rc_same rfl (.inl rfl)) (.cons rfl (rc_eq (by simp) rfl) (.cons rfl (rc_same rfl (.inl rfl)) (.cons rfl (rc_same rfl (.inl rfl)) (.cons rfl (rc_same rfl (.inl rfl)) (.nil)))))))))))))) (.keep (rfl) rfl (.keep (rfl) rfl (.keep (rfl) rfl (.keep (rfl) rfl (.nil))))) (fun i h => by cases h)) ?_
              intro j hj
              refine aw_seq ?_
              refine aw_reg ?_
              refine rs_lss rfl rfl rfl ?_
              refine rs_nil fun _ => ?_
              refine th_n ?_
              refine aw_seq ?_
              refine aw_cond rfl (fun h162 => ?_) (fun h162 => ?_)
              · first | replace h162 := of_decide_eq_true h162 | skip
                refine aw_skip ?_
                refine th_n ?_
                refine aw_seq ?_
                refine aw_block ?_
                refine aw_seq ?_
                refine aw_reg ?_
                obtain ⟨z, hz, _⟩ := at_some (L := pathS m) (k := j) (by omega)
                refine rs_ix_g rfl rfl rfl (by omega) hz ?_
                refine rs_ld_ra rfl rfl (Nat.le_of_ble_eq_true rfl) rfl ?_
                refine rs_alloc rfl rfl rfl ?_
                refine rs_st rfl rfl rfl rfl rfl rfl rfl (Nat.le_of_ble_eq_true rfl) rfl rfl ?_
                refine rs_nil fun _ => ?_
                refine th_n ?_
                refine aw_reg ?_
                refine rs_mv rfl rfl ?_
                cases h165 : decide (add m.fr w ∈ (pathS m).take j)
                · skip
                  refine rs_mv rfl rfl ?_
                  first | refine rs_ld_pa rfl rfl rfl rfl (Nat.le_of_ble_eq_true rfl) rfl ?_ | refine rs_ld_ra rfl rfl (Nat.le_of_ble_eq_true rfl) rfl ?_ | refine rs_ld_ma rfl rfl rfl (by omega) (Nat.le_of_ble_eq_true rfl) rfl ?_
                  first | refine rs_ld_pa rfl rfl rfl rfl (Nat.le_of_ble_eq_true rfl) rfl ?_ | refine rs_ld_ra rfl rfl (Nat.le_of_ble_eq_true rfl) rfl ?_ | refine rs_ld_ma rfl rfl rfl (by omega) (Nat.le_of_ble_eq_true rfl) rfl ?_
                  refine rs_aeqv (u := z) (v := add m.fr w) rfl rfl rfl ?_
                  refine rs_pick rfl rfl rfl ?_
                  refine rs_mv rfl rfl ?_
                  refine rs_nil fun _ => ?_
                  refine in_n ?_
                  refine th_n ?_
                  refine aw_reg ?_
                  first | refine rs_add rfl rfl rfl (by omega) ?_ | refine rs_addw rfl rfl rfl rfl ?_
                  refine rs_mv rfl rfl ?_
                  refine rs_nil fun _ => ?_
                  refine th_n ?_
                  first
                    | exact ⟨j + 1, by omega, by omega, weak_to (.cons rfl (rc_same rfl (.inl rfl)) (.cons rfl (rc_same rfl (.inl rfl)) (.cons rfl (rc_same rfl (.inl rfl)) (.cons rfl (rc_same rfl (.inl rfl)) (.cons rfl (rc_same rfl (.inl rfl)) (.cons rfl (rc_same rfl (.inl rfl)) (.cons rfl (rc_same rfl (.inl rfl)) (.cons rfl (rc_same rfl (.inl rfl)) (.cons rfl (rc_same rfl (.inl rfl)) (.cons rfl (rc_eq (congrArg AV.bool (mem_succ_t hz h165)) rfl) (.cons rfl (rc_same rfl (.inl rfl)) (.cons rfl (rc_same rfl (.inl rfl)) (.cons rfl (rc_same rfl (.inl rfl)) (.nil)))))))))))))) (.keep (rfl) rfl (.keep (rfl) rfl (.keep (rfl) rfl (.keep (rfl) rfl (.nil))))) (fun i h => by cases h)⟩
                    | exact ⟨j + 1, by omega, by omega, weak_to (.cons rfl (rc_same rfl (.inl rfl)) (.cons rfl (rc_same rfl (.inl rfl)) (.cons rfl (rc_same rfl (.inl rfl)) (.cons rfl (rc_same rfl (.inl rfl)) (.cons rfl (rc_same rfl (.inl rfl)) (.cons rfl (rc_same rfl (.inl rfl)) (.cons rfl (rc_same rfl (.inl rfl)) (.cons rfl (rc_same rfl (.inl rfl)) (.cons rfl (rc_same rfl (.inl rfl)) (.cons rfl (rc_eq (congrArg AV.bool (mem_succ hz h165)) rfl) (.cons rfl (rc_same rfl (.inl rfl)) (.cons rfl (rc_same rfl (.inl rfl)) (.cons rfl (rc_same rfl (.inl rfl)) (.nil)))))))))))))) (.keep (rfl) rfl (.keep (rfl) rfl (.keep (rfl) rfl (.keep (rfl) rfl (.nil))))) (fun i h => by cases h)⟩
                · skip
                  refine rs_mv rfl rfl ?_
                  refine rs_skip rfl ?_
                  refine rs_skip rfl ?_
                  refine rs_skip rfl ?_
                  refine rs_pick rfl rfl rfl ?_
                  refine rs_mv rfl rfl ?_
                  refine rs_nil fun _ => ?_
                  refine in_n ?_
                  refine th_n ?_
                  refine aw_reg ?_
                  first | refine rs_add rfl rfl rfl (by omega) ?_ | refine rs_addw rfl rfl rfl rfl ?_
                  refine rs_mv rfl rfl ?_
                  refine rs_nil fun _ => ?_
                  refine th_n ?_
                  first
                    | exact ⟨j + 1, by omega, by omega, weak_to (.cons rfl (rc_same rfl (.inl rfl)) (.cons rfl (rc_same rfl (.inl rfl)) (.cons rfl (rc_same rfl (.inl rfl)) (.cons rfl (rc_same rfl (.inl rfl)) (.cons rfl (rc_same rfl (.inl rfl)) (.cons rfl (rc_same rfl (.inl rfl)) (.cons rfl (rc_same rfl (.inl rfl)) (.cons rfl (rc_same rfl (.inl rfl)) (.cons rfl (rc_same rfl (.inl rfl)) (.cons rfl (rc_eq (congrArg AV.bool (mem_succ_t hz h165)) rfl) (.cons rfl (rc_same rfl (.inl rfl)) (.cons rfl (rc_same rfl (.inl rfl)) (.cons rfl (rc_same rfl (.inl rfl)) (.nil)))))))))))))) (.keep (rfl) rfl (.keep (rfl) rfl (.keep (rfl) rfl (.keep (rfl) rfl (.nil))))) (fun i h => by cases h)⟩
                    | exact ⟨j + 1, by omega, by omega, weak_to (.cons rfl (rc_same rfl (.inl rfl)) (.cons rfl (rc_same rfl (.inl rfl)) (.cons rfl (rc_same rfl (.inl rfl)) (.cons rfl (rc_same rfl (.inl rfl)) (.cons rfl (rc_same rfl (.inl rfl)) (.cons rfl (rc_same rfl (.inl rfl)) (.cons rfl (rc_same rfl (.inl rfl)) (.cons rfl (rc_same rfl (.inl rfl)) (.cons rfl (rc_same rfl (.inl rfl)) (.cons rfl (rc_eq (congrArg AV.bool (mem_succ hz h165)) rfl) (.cons rfl (rc_same rfl (.inl rfl)) (.cons rfl (rc_same rfl (.inl rfl)) (.cons rfl (rc_same rfl (.inl rfl)) (.nil)))))))))))))) (.keep (rfl) rfl (.keep (rfl) rfl (.keep (rfl) rfl (.keep (rfl) rfl (.nil))))) (fun i h => by cases h)⟩
              · first | replace h162 := of_decide_eq_false h162 | skip
                refine aw_exit ?_
                refine th_e ?_
                refine th_e ?_
                refine in_hit ?_
                refine th_n ?_
                refine aw_seq ?_
                refine aw_reg ?_
                refine rs_mv rfl rfl ?_
                refine rs_mv rfl rfl ?_
                refine rs_beq_f (by rw [show j = (pathS m).length by omega, List.take_length]) rfl rfl rfl ?_
                refine rs_nil fun _ => ?_
                refine th_n ?_
                refine aw_cond rfl (fun h => by cases h) (fun _ => ?_)
                refine aw_skip ?_
                refine in_n ?_
                refine th_n ?_
                refine aw_reg ?_
                first | refine rs_add rfl rfl rfl (by omega) ?_ | refine rs_addw rfl rfl rfl rfl ?_
                refine rs_mv rfl rfl ?_
                refine rs_nil fun _ => ?_
                refine th_n ?_
                exact ⟨k + 1, by omega, by omega, weak_to (.cons rfl (rc_same rfl (.inl rfl)) (.cons rfl (rc_same rfl (.inl rfl)) (.cons rfl (rc_same rfl (.inl rfl)) (.cons rfl (rc_same rfl (.inl rfl)) (.cons rfl (rc_same rfl (.inl rfl)) (.cons rfl (rc_same rfl (.inl rfl)) (.cons rfl (rc_same rfl (.inl rfl)) (.nil)))))))) (.keep (rfl) rfl (.keep (rfl) rfl (.keep (rfl) rfl (.nil)))) (fun i h => by cases h)⟩
            · skip
              refine rs_pick rfl rfl rfl ?_
              refine rs_mv rfl rfl ?_
              refine rs_nil ⟨by kernel_rfl, fun _ => ?_⟩
              refine th_n ?_
              refine aw_seq ?_
              refine aw_weak (F0 := [(5, .bool true), (6, .ptr 6 0 0), (7, .rs 3 ((pathS m).map cV)), (9, .ptr 9 0 0), (80, .sl 80 0 2), (81, iv 2), (82, iv (((k) : Nat) : Int)), (15, .ptr 15 0 0), (16, .bool (decide (add m.fr w ∈ pathS m)))]) (H0 := [(6, .cells 28 11 [cM m] true), (9, .cells 26 3 [cV (dS m)] true), (80, .cells 26 3 (([yV y0 y1 y2, ⟨(primV (dS m)).x * (y0.tmod 41 - 20).tmod 5, (primV (dS m)).y * (y0.tmod 41 - 20).tmod 5, (primV (dS m)).z * (y0.tmod 41 - 20).tmod 5⟩] : List V3).map cV) true), (15, .cells 26 3 [cV (add m.fr w)] true)]) (weak_to (.cons rfl (rc_same rfl (.inl rfl)) (.cons rfl (rc_same rfl (.inl rfl)) (.cons rfl (rc_same rfl (.inl rfl)) (.cons rfl (rc_same rfl (.inl rfl)) (.cons rfl (rc_same rfl (.inl rfl)) (.cons rfl (rc_same rfl (.inl rfl)) (.cons rfl (rc_same rfl (.inl rfl)) (.cons rfl (rc_same rfl (.inl rfl)) (.cons rfl (rc_eq (congrArg AV.bool (by first | exact (decide_eq_true ((on_arc hc hk (add m.fr w)).1 ⟨h138, h145, h151, h157⟩)).symm | exact (decide_eq_false (fun hx => h157 ((on_arc hc hk (add m.fr w)).2 hx).2.2.2)).symm | exact (decide_eq_false (fun hx => h151 ((on_arc hc hk (add m.fr w)).2 hx).2.2.1)).symm | exact (decide_eq_false (fun hx => h145 ((on_arc hc hk (add m.fr w)).2 hx).2.1)).symm | exact (decide_eq_false (fun hx => h138 ((on_arc hc hk (add m.fr w)).2 hx).1)).symm)) rfl) (.nil)))))))))) (.keep (rfl) rfl (.keep (rfl) rfl (.keep (rfl) rfl (.keep (rfl) rfl (.nil))))) (fun i h => by cases h)) ?_
              refine aw_reg ?_
              refine rs_mv rfl rfl ?_
              refine rs_nil fun _ => ?_
              refine th_n ?_
              refine aw_seq ?_
              refine aw_seq ?_
              refine aw_reg ?_
              refine rs_mv rfl rfl ?_
              first | refine rs_len_m rfl rfl ?_ | refine rs_len_s rfl rfl ?_ | refine rs_len_n rfl rfl ?_ | refine rs_len_r rfl rfl rfl ?_
              refine rs_mv rfl rfl ?_
              refine rs_nil fun _ => ?_
              refine th_n ?_
              refine aw_block ?_
              refine aw_fam (α := Nat) (fun j => (pathS m).length - j) (fun j => [(5, .bool true), (6, .ptr 6 0 0), (7, .rs 3 ((pathS m).map cV)), (9, .ptr 9 0 0), (80, .sl 80 0 2), (81, iv 2), (82, iv (((k) : Nat) : Int)), (15, .ptr 15 0 0), (16, .bool (decide (add m.fr w ∈ pathS m))), (21, .bool (decide (add m.fr w ∈ (pathS m).take (j)))), (159, .rs 3 ((pathS m).map cV)), (160, iv ((pathS m).length : Int)), (161, iv (((j) : Nat) : Int))]) (fun j => [(6, .cells 28 11 [cM m] true), (9, .cells 26 3 [cV (dS m)] true), (80, .cells 26 3 (([yV y0 y1 y2, ⟨(primV (dS m)).x * (y0.tmod 41 - 20).tmod 5, (primV (dS m)).y * (y0.tmod 41 - 20).tmod 5, (primV (dS m)).z * (y0.tmod 41 - 20).tmod 5⟩] : List V3).map cV) true), (15, .cells 26 3 [cV (add m.fr w)] true)]) (fun j => j ≤ (pathS m).length) 0 (by omega)
                (weak_to (.cons rfl (rc_same rfl (.inl rfl)) (.cons rfl (rc_same rfl (.inl rfl)) (.cons rfl (rc_same rfl (.inl rfl)) (.cons rfl (rc_same rfl (.inl rfl)) (.cons rfl (rc_same rfl (.inl rfl)) (.cons rfl (rc_same rfl (.inl rfl)) (.cons rfl (rc_same rfl (.inl rfl)) (.cons rfl (rc_same rfl (.inl rfl)) (.cons rfl (rc_same rfl (.inl rfl)) (.cons rfl (rc_eq (by simp) rfl) (.cons rfl (rc_same rfl (.inl rfl)) (.cons rfl (rc_same rfl (.inl rfl)) (.cons rfl (rc_same rfl (.inl rfl)) (.nil)))))))))))))) (.keep (rfl) rfl (.keep (rfl) rfl (.keep (rfl) rfl (.keep (rfl) rfl (.nil))))) (fun i h => by cases h)) ?_
              intro j hj
              refine aw_seq ?_
              refine aw_reg ?_
              refine rs_lss rfl rfl rfl ?_
              refine rs_nil fun _ => ?_
              refine th_n ?_
              refine aw_seq ?_
              refine aw_cond rfl (fun h162 => ?_) (fun h162 => ?_)
              · first | replace h162 := of_decide_eq_true h162 | skip
                refine aw_skip ?_
                refine th_n ?_
                refine aw_seq ?_
                refine aw_block ?_
                refine aw_seq ?_
                refine aw_reg ?_
                obtain ⟨z, hz, _⟩ := at_some (L := pathS m) (k := j) (by omega)
                refine rs_ix_g rfl rfl rfl (by omega) hz ?_
                refine rs_ld_ra rfl rfl (Nat.le_of_ble_eq_true rfl) rfl ?_
                refine rs_alloc rfl rfl rfl ?_
                refine rs_st rfl rfl rfl rfl rfl rfl rfl (Nat.le_of_ble_eq_true rfl) rfl rfl ?_
                refine rs_nil fun _ => ?_
                refine th_n ?_
                refine aw_reg ?_
                refine rs_mv rfl rfl ?_
                cases h165 : decide (add m.fr w ∈ (pathS m).take j)
                · skip
                  refine rs_mv rfl rfl ?_
                  first | refine rs_ld_pa rfl rfl rfl rfl (Nat.le_of_ble_eq_true rfl) rfl ?_ | refine rs_ld_ra rfl rfl (Nat.le_of_ble_eq_true rfl) rfl ?_ | refine rs_ld_ma rfl rfl rfl (by omega) (Nat.le_of_ble_eq_true rfl) rfl ?_
                  first | refine rs_ld_pa rfl rfl rfl rfl (Nat.le_of_ble_eq_true rfl) rfl ?_ | refine rs_ld_ra rfl rfl (Nat.le_of_ble_eq_true rfl) rfl ?_ | refine rs_ld_ma rfl rfl rfl (by omega) (Nat.le_of_ble_eq_true rfl) rfl ?_
                  refine rs_aeqv (u := z) (v := add m.fr w) rfl rfl rfl ?_
                  refine rs_pick rfl rfl rfl ?_
                  refine rs_mv rfl rfl ?_
                  refine rs_nil fun _ => ?_
                  refine in_n ?_
                  refine th_n ?_
                  refine aw_reg ?_
                  first | refine rs_add rfl rfl rfl (by omega) ?_ | refine rs_addw rfl rfl rfl rfl ?_
                  refine rs_mv rfl rfl ?_
                  refine rs_nil fun _ => ?_
                  refine th_n ?_
                  first
                    | exact ⟨j + 1, by omega, by omega, weak_to (.cons rfl (rc_same rfl (.inl rfl)) (.cons rfl (rc_same rfl (.inl rfl)) (.cons rfl (rc_same rfl (.inl rfl)) (.cons rfl (rc_same rfl (.inl rfl)) (.cons rfl (rc_same rfl (.inl rfl)) (.cons rfl (rc_same rfl (.inl rfl)) (.cons rfl (rc_same rfl (.inl rfl)) (.cons rfl (rc_same rfl (.inl rfl)) (.cons rfl (rc_same rfl (.inl rfl)) (.cons rfl (rc_eq (congrArg AV.bool (mem_succ_t hz h165)) rfl) (.cons rfl (rc_same rfl (.inl rfl)) (.cons rfl (rc_same rfl (.inl rfl)) (.cons rfl (rc_same rfl (.inl rfl)) (.nil)))))))))))))) (.keep (rfl) rfl (.keep (rfl) rfl (.keep (rfl) rfl (.keep (rfl) rfl (.nil))))) (fun i h => by cases h)⟩
                    | exact ⟨j + 1, by omega, by omega, weak_to (.cons rfl (rc_same rfl (.inl rfl)) (.cons rfl (rc_same rfl (.inl rfl)) (.cons rfl (rc_same rfl (.inl rfl)) (.cons rfl (rc_same rfl (.inl rfl)) (.cons rfl (rc_same rfl (.inl rfl)) (.cons rfl (rc_same rfl (.inl rfl)) (.cons rfl (rc_same rfl (.inl rfl)) (.cons rfl (rc_same rfl (.inl rfl)) (.cons rfl (rc_same rfl (.inl rfl)) (.cons rfl (rc_eq (congrArg AV.bool (mem_succ hz h165)) rfl) (.cons rfl (rc_same rfl (.inl rfl)) (.cons rfl (rc_same rfl (.inl rfl)) (.cons rfl (rc_same rfl (.inl rfl)) (.nil)))))))))))))) (.keep (rfl) rfl (.keep (rfl) rfl (.keep (rfl) rfl (.keep (rfl) rfl (.nil))))) (fun i h => by cases h)⟩
                · skip
                  refine rs_mv rfl rfl ?_
                  refine rs_skip rfl ?_
                  refine rs_skip rfl ?_
                  refine rs_skip rfl ?_
                  refine rs_pick rfl rfl rfl ?_
                  refine rs_mv rfl rfl ?_
                  refine rs_nil fun _ => ?_
                  refine in_n ?_
                  refine th_n ?_
                  refine aw_reg ?_
                  first | refine rs_add rfl rfl rfl (by omega) ?_ | refine rs_addw rfl rfl rfl rfl ?_
                  refine rs_mv rfl rfl ?_
                  refine rs_nil fun _ => ?_
                  refine th_n ?_
                  first
                    | exact ⟨j + 1, by omega, by omega, weak_to (.cons rfl (rc_same rfl (.inl rfl)) (.cons rfl (rc_same rfl (.inl rfl)) (.cons rfl (rc_same rfl (.inl rfl)) (.cons rfl (rc_same rfl (.inl rfl)) (.cons rfl (rc_same rfl (.inl rfl)) (.cons rfl (rc_same rfl (.inl rfl)) (.cons rfl (rc_same rfl (.inl rfl)) (.cons rfl (rc_same rfl (.inl rfl)) (.cons rfl (rc_same rfl (.inl rfl)) (.cons rfl (rc_eq (congrArg AV.bool (mem_succ_t hz h165)) rfl) (.cons rfl (rc_same rfl (.inl rfl)) (.cons rfl (rc_same rfl (.inl rfl)) (.cons rfl (rc_same rfl (.inl rfl)) (.nil)))))))))))))) (.keep (rfl) rfl (.keep (rfl) rfl (.keep (rfl) rfl (.keep (rfl) rfl (.nil))))) (fun i h => by cases h)⟩
                    | exact ⟨j + 1, by omega, by omega, weak_to (.cons rfl (rc_same rfl (.inl rfl)) (.cons rfl (rc_same rfl (.inl rfl)) (.cons rfl (rc_same rfl (.inl rfl)) (.cons rfl (rc_same rfl (.inl rfl)) (.cons rfl (rc_same rfl (.inl rfl)) (.cons rfl (rc_same rfl (.inl rfl)) (.cons rfl (rc_same rfl (.inl rfl)) (.cons rfl (rc_same rfl (.inl rfl)) (.cons rfl (rc_same rfl (.inl rfl)) (.cons rfl (rc_eq (congrArg AV.bool (mem_succ hz h165)) rfl) (.cons rfl (rc_same rfl (.inl rfl)) (.cons rfl (rc_same rfl (.inl rfl)) (.cons rfl (rc_same rfl (.inl rfl)) (.nil)))))))))))))) (.keep (rfl) rfl (.keep (rfl) rfl (.keep (rfl) rfl (.keep (rfl) rfl (.nil))))) (fun i h => by cases h)⟩
              · first | replace h162 := of_decide_eq_false h162 | skip
                refine aw_exit ?_
                refine th_e ?_
                refine th_e ?_
                refine in_hit ?_
                refine th_n ?_
                refine aw_seq ?_
                refine aw_reg ?_
                refine rs_mv rfl rfl ?_
                refine rs_mv rfl rfl ?_
                refine rs_beq_f (by rw [show j = (pathS m).length by omega, List.take_length]) rfl rfl rfl ?_
                refine rs_nil fun _ => ?_
                refine th_n ?_
                refine aw_cond rfl (fun h => by cases h) (fun _ => ?_)
                refine aw_skip ?_
                refine in_n ?_
                refine th_n ?_
                refine aw_reg ?_
                first | refine rs_add rfl rfl rfl (by omega) ?_ | refine rs_addw rfl rfl rfl rfl ?_
                refine rs_mv rfl rfl ?_
                refine rs_nil fun _ => ?_
                refine th_n ?_
                exact ⟨k + 1, by omega, by omega, weak_to (.cons rfl (rc_same rfl (.inl rfl)) (.cons rfl (rc_same rfl (.inl rfl)) (.cons rfl (rc_same rfl (.inl rfl)) (.cons rfl (rc_same rfl (.inl rfl)) (.cons rfl (rc_same rfl (.inl rfl)) (.cons rfl (rc_same rfl (.inl rfl)) (.cons rfl (rc_same rfl (.inl rfl)) (.nil)))))))) (.keep (rfl) rfl (.keep (rfl) rfl (.keep (rfl) rfl (.nil)))) (fun i h => by cases h)⟩
          · skip
            refine rs_pick rfl rfl rfl ?_
            refine rs_mv rfl rfl ?_
            refine rs_skip rfl ?_
            refine rs_skip rfl ?_
            refine rs_skip rfl ?_
            refine rs_skip rfl ?_
            refine rs_pick rfl rfl rfl ?_
            refine rs_mv rfl rfl ?_
            refine rs_nil ⟨by kernel_rfl, fun _ => ?_⟩
            refine th_n ?_
            refine aw_seq ?_
            refine aw_weak (F0 := [(5, .bool true), (6, .ptr 6 0 0), (7, .rs 3 ((pathS m).map cV)), (9, .ptr 9 0 0), (80, .sl 80 0 2), (81, iv 2), (82, iv (((k) : Nat) : Int)), (15, .ptr 15 0 0), (16, .bool (decide (add m.fr w ∈ pathS m)))]) (H0 := [(6, .cells 28 11 [cM m] true), (9, .cells 26 3 [cV (dS m)] true), (80, .cells 26 3 (([yV y0 y1 y2, ⟨(primV (dS m)).x * (y0.tmod 41 - 20).tmod 5, (primV (dS m)).y * (y0.tmod 41 - 20).tmod 5, (primV (dS m)).z * (y0.tmod 41 - 20).tmod 5⟩] : List V3).map cV) true), (15, .cells 26 3 [cV (add m.fr w)] true)]) (weak_to (.cons rfl (rc_same rfl (.inl rfl)) (.cons rfl (rc_same rfl (.inl rfl)) (.cons rfl (rc_same rfl (.inl rfl)) (.cons rfl (rc_same rfl (.inl rfl)) (.cons rfl (rc_same rfl (.inl rfl)) (.cons rfl (rc_same rfl (.inl rfl)) (.cons rfl (rc_same rfl (.inl rfl)) (.cons rfl (rc_same rfl (.inl rfl)) (.cons rfl (rc_eq (congrArg AV.bool (by first | exact (decide_eq_true ((on_arc hc hk (add m.fr w)).1 ⟨h138, h145, h151, h157⟩)).symm | exact (decide_eq_false (fun hx => h157 ((on_arc hc hk (add m.fr w)).2 hx).2.2.2)).symm | exact (decide_eq_false (fun hx => h151 ((on_arc hc hk (add m.fr w)).2 hx).2.2.1)).symm | exact (decide_eq_false (fun hx => h145 ((on_arc hc hk (add m.fr w)).2 hx).2.1)).symm | exact (decide_eq_false (fun hx => h138 ((on_arc hc hk (add m.fr w)).2 hx).1)).symm)) rfl) (.nil)))))))))) (.keep (rfl) rfl (.keep (rfl) rfl (.keep (rfl) rfl (.keep (rfl) rfl (.nil))))) (fun i h => by cases h)) ?_
            refine aw_reg ?_
            refine rs_mv rfl rfl ?_
            refine rs_nil fun _ => ?_
            refine th_n ?_
            refine aw_seq ?_
            refine aw_seq ?_
            refine aw_reg ?_
            refine rs_mv rfl rfl ?_
            first | refine rs_len_m rfl rfl ?_ | refine rs_len_s rfl rfl ?_ | refine rs_len_n rfl rfl ?_ | refine rs_len_r rfl rfl rfl ?_
            refine rs_mv rfl rfl ?_
            refine rs_nil fun _ => ?_
            refine th_n ?_
            refine aw_block ?_
            refine aw_fam (α := Nat) (fun j => (pathS m).length - j) (fun j => [(5, .bool true), (6, .ptr 6 0 0), (7, .rs 3 ((pathS m).map cV)), (9, .ptr 9 0 0), (80, .sl 80 0 2), (81, iv 2), (82, iv (((k) : Nat) : Int)), (15, .ptr 15 0 0), (16, .bool (decide (add m.fr w ∈ pathS m))), (21, .bool (decide (add m.fr w ∈ (pathS m).take (j)))), (159, .rs 3 ((pathS m).map cV)), (160, iv ((pathS m).length : Int)), (161, iv (((j) : Nat) : Int))]) (fun j => [(6, .cells 28 11 [cM m] true), (9, .cells 26 3 [cV (dS m)] true), (80, .cells 26 3 (([yV y0 y1 y2, ⟨(primV (dS m)).x * (y0.tmod 41 - 20).tmod 5, (primV (dS m)).y * (y0.tmod 41 - 20).tmod 5, (primV (dS m)).z * (y0.tmod 41 - 20).tmod 5⟩] : List V3).map cV) true), (15, .cells 26 3 [cV (add m.fr w)] true)]) (fun j => j ≤ (pathS m).length) 0 (by omega)
              (weak_to (.cons rfl (rc_same rfl (.inl rfl)) (.cons rfl (rc_same rfl (.inl rfl)) (.cons rfl (rc_same rfl (.inl rfl)) (.cons rfl (rc_same rfl (.inl rfl)) (.cons rfl (rc_same rfl (.inl rfl)) (.cons rfl (rc_same rfl (.inl rfl)) (.cons rfl (rc_same rfl (.inl rfl)) (.cons rfl (rc_same rfl (.inl rfl)) (.cons rfl (rc_same rfl (.inl rfl)) (.cons rfl (rc_eq (by simp) rfl) (.cons rfl (rc_same rfl (.inl rfl)) (.cons rfl (rc_same rfl (.inl rfl)) (.cons rfl (rc_same rfl (.inl rfl)) (.nil)))))))))))))) (.keep (rfl) rfl (.keep (rfl) rfl (.keep (rfl) rfl (.keep (rfl) rfl (.nil))))) (fun i h => by cases h)) ?_
            intro j hj
            refine aw_seq ?_
            refine aw_reg ?_
            refine rs_lss rfl rfl rfl ?_
            refine rs_nil fun _ => ?_
            refine th_n ?_
            refine aw_seq ?_
            refine aw_cond rfl (fun h162 => ?_) (fun h162 => ?_)
            · first | replace h162 := of_decide_eq_true h162 | skip
              refine aw_skip ?_
              refine th_n ?_
              refine aw_seq ?_
              refine aw_block ?_
              refine aw_seq ?_
              refine aw_reg ?_
              obtain ⟨z, hz, _⟩ := at_some (L := pathS m) (k := j) (by omega)
              refine rs_ix_g rfl rfl rfl (by omega) hz ?_
              refine rs_ld_ra rfl rfl (Nat.le_of_ble_eq_true rfl) rfl ?_
              refine rs_alloc rfl rfl rfl ?_
              refine rs_st rfl rfl rfl rfl rfl rfl rfl (Nat.le_of_ble_eq_true rfl) rfl rfl ?_
              refine rs_nil fun _ => ?_
              refine th_n ?_
              refine aw_reg ?_
              refine rs_mv rfl rfl ?_
              cases h165 : decide (add m.fr w ∈ (pathS m).take j)
              · skip
                refine rs_mv rfl rfl ?_
                first | refine rs_ld_pa rfl rfl rfl rfl (Nat.le_of_ble_eq_true rfl) rfl ?_ | refine rs_ld_ra rfl rfl (Nat.le_of_ble_eq_true rfl) rfl ?_ | refine rs_ld_ma rfl rfl rfl (by omega) (Nat.le_of_ble_eq_true rfl) rfl ?_
                first | refine rs_ld_pa rfl rfl rfl rfl (Nat.le_of_ble_eq_true rfl) rfl ?_ | refine rs_ld_ra rfl rfl (Nat.le_of_ble_eq_true rfl) rfl ?_ | refine rs_ld_ma rfl rfl rfl (by omega) (Nat.le_of_ble_eq_true rfl) rfl ?_
                refine rs_aeqv (u := z) (v := add m.fr w) rfl rfl rfl ?_
                refine rs_pick rfl rfl rfl ?_
                refine rs_mv rfl rfl ?_
                refine rs_nil fun _ => ?_
                refine in_n ?_
                refine th_n ?_
                refine aw_reg ?_
                first | refine rs_add rfl rfl rfl (by omega) ?_ | refine rs_addw rfl rfl rfl rfl ?_
                refine rs_mv rfl rfl ?_
                refine rs_nil fun _ => ?_
                refine th_n ?_
                first
                  | exact ⟨j + 1, by omega, by omega, weak_to (.cons rfl (rc_same rfl (.inl rfl)) (.cons rfl (rc_same rfl (.inl rfl)) (.cons rfl (rc_same rfl (.inl rfl)) (.cons rfl (rc_same rfl (.inl rfl)) (.cons rfl (rc_same rfl (.inl rfl)) (.cons rfl (rc_same rfl (.inl rfl)) (.cons rfl (rc_same rfl (.inl rfl)) (.cons rfl (rc_same rfl (.inl rfl)) (.cons rfl (rc_same rfl (.inl rfl)) (.cons rfl (rc_eq (congrArg AV.bool (mem_succ_t hz h165)) rfl) (.cons rfl (rc_same rfl (.inl rfl)) (.cons rfl (rc_same rfl (.inl rfl)) (.cons rfl (rc_same rfl (.inl rfl)) (.nil)))))))))))))) (.keep (rfl) rfl (.keep (rfl) rfl (.keep (rfl) rfl (.keep (rfl) rfl (.nil))))) (fun i h => by cases h)⟩
                  | exact ⟨j + 1, by omega, by omega, weak_to (.cons rfl (rc_same rfl (.inl rfl)) (.cons rfl (rc_same rfl (.inl rfl)) (.cons rfl (rc_same rfl (.inl rfl)) (.cons rfl (rc_same rfl (.inl rfl)) (.cons rfl (rc_same rfl (.inl rfl)) (.cons rfl (rc_same rfl (.inl rfl)) (.cons rfl (rc_same rfl (.inl rfl)) (.cons rfl (rc_same rfl (.inl rfl)) (.cons rfl (rc_same rfl (.inl rfl)) (.cons rfl (rc_eq (congrArg AV.bool (mem_succ hz h165)) rfl) (.cons rfl (rc_same rfl (.inl rfl)) (.cons rfl (rc_same rfl (.inl rfl)) (.cons rfl (rc_same rfl (.inl rfl)) (.nil)))))))))))))) (.keep (rfl) rfl (.keep (rfl) rfl (.keep (rfl) rfl (.keep (rfl) rfl (.nil))))) (fun i h => by cases h)⟩
              · skip
                refine rs_mv rfl rfl ?_
                refine rs_skip rfl ?_
                refine rs_skip rfl ?_
                refine rs_skip rfl ?_
                refine rs_pick rfl rfl rfl ?_
                refine rs_mv rfl rfl ?_
                refine rs_nil fun _ => ?_
                refine in_n ?_
                refine th_n ?_
                refine aw_reg ?_
                first | refine rs_add rfl rfl rfl (by omega) ?_ | refine rs_addw rfl rfl rfl rfl ?_
                refine rs_mv rfl rfl ?_
                refine rs_nil fun _ => ?_
                refine th_n ?_
                first
                  | exact ⟨j + 1, by omega, by omega, weak_to (.cons rfl (rc_same rfl (.inl rfl)) (.cons rfl (rc_same rfl (.inl rfl)) (.cons rfl (rc_same rfl (.inl rfl)) (.cons rfl (rc_same rfl (.inl rfl)) (.cons rfl (rc_same rfl (.inl rfl)) (.cons rfl (rc_same rfl (.inl rfl)) (.cons rfl (rc_same rfl (.inl rfl)) (.cons rfl (rc_same rfl (.inl rfl)) (.cons rfl (rc_same rfl (.inl rfl)) (.cons rfl (rc_eq (congrArg AV.bool (mem_succ_t hz h165)) rfl) (.cons rfl (rc_same rfl (.inl rfl)) (.cons rfl (rc_same rfl (.inl rfl)) (.cons rfl (rc_same rfl (.inl rfl)) (.nil)))))))))))))) (.keep (rfl) rfl (.keep (rfl) rfl (.keep (rfl) rfl (.keep (rfl) rfl (.nil))))) (fun i h => by cases h)⟩
                  | exact ⟨j + 1, by omega, by omega, weak_to (.cons rfl (rc_same rfl (.inl rfl)) (.cons rfl (rc_same rfl (.inl rfl)) (.cons rfl (rc_same rfl (.inl rfl)) (.cons rfl (rc_same rfl (.inl rfl)) (.cons rfl (rc_same rfl (.inl rfl)) (.cons rfl (rc_same rfl (.inl rfl)) (.cons rfl (rc_same rfl (.inl rfl)) (.cons rfl (rc_same rfl (.inl rfl)) (.cons rfl (rc_same rfl (.inl rfl)) (.cons rfl (rc_eq (congrArg AV.bool (mem_succ hz h165)) rfl) (.cons rfl (rc_same rfl (.inl rfl)) (.cons rfl (rc_same rfl (.inl rfl)) (.cons rfl (rc_same rfl (.inl rfl)) (.nil)))))))))))))) (.keep (rfl) rfl (.keep (rfl) rfl (.keep (rfl) rfl (.keep (rfl) rfl (.nil))))) (fun i h => by cases h)⟩
            · first | replace h162 := of_decide_eq_false h162 | skip
              refine aw_exit ?_
              refine th_e ?_
              refine th_e ?_
              refine in_hit ?_
              refine th_n ?_
              refine aw_seq ?_
              refine aw_reg ?_
              refine rs_mv rfl rfl ?_
              refine rs_mv rfl rfl ?_
              refine rs_beq_f (by rw [show j = (pathS m).length by omega, List.take_length]) rfl rfl rfl ?_
              refine rs_nil fun _ => ?_
              refine th_n ?_
              refine aw_cond rfl (fun h => by cases h) (fun _ => ?_)
              refine aw_skip ?_
              refine in_n ?_
              refine th_n ?_
              refine aw_reg ?_
              first | refine rs_add rfl rfl rfl (by omega) ?_ | refine rs_addw rfl rfl rfl rfl ?_
              refine rs_mv rfl rfl ?_
              refine rs_nil fun _ => ?_
              refine th_n ?_
              exact ⟨k + 1, by omega, by omega, weak_to (.cons rfl (rc_same rfl (.inl rfl)) (.cons rfl (rc_same rfl (.inl rfl)) (.cons rfl (rc_same rfl (.inl rfl)) (.cons rfl (rc_same rfl (.inl rfl)) (.cons rfl (rc_same rfl (.inl rfl)) (.cons rfl (rc_same rfl (.inl rfl)) (.cons rfl (rc_same rfl (.inl rfl)) (.nil)))))))) (.keep (rfl) rfl (.keep (rfl) rfl (.keep (rfl) rfl (.nil)))) (fun i h => by cases h)⟩
        · skip
          refine rs_pick rfl rfl rfl ?_
          refine rs_mv rfl rfl ?_
          refine rs_skip rfl ?_
          refine rs_skip rfl ?_
          refine rs_skip rfl ?_
          refine rs_skip rfl ?_
          refine rs_pick rfl rfl rfl ?_
          refine rs_mv rfl rfl ?_
          refine rs_skip rfl ?_
          refine rs_skip rfl ?_
          refine rs_skip rfl ?_
          refine rs_skip rfl ?_
          refine rs_pick rfl rfl rfl ?_
          refine rs_mv rfl rfl ?_
          refine rs_nil ⟨by kernel_rfl, fun _ => ?_⟩
          refine th_n ?_
          refine aw_seq ?_
          refine aw_weak (F0 := [(5, .bool true), (6, .ptr 6 0 0), (7, .rs 3 ((pathS m).map cV)), (9, .ptr 9 0 0), (80, .sl 80 0 2), (81, iv 2), (82, iv (((k) : Nat) : Int)), (15, .ptr 15 0 0), (16, .bool (decide (add m.fr w ∈ pathS m)))]) (H0 := [(6, .cells 28 11 [cM m] true), (9, .cells 26 3 [cV (dS m)] true), (80, .cells 26 3 (([yV y0 y1 y2, ⟨(primV (dS m)).x * (y0.tmod 41 - 20).tmod 5, (primV (dS m)).y * (y0.tmod 41 - 20).tmod 5, (primV (dS m)).z * (y0.tmod 41 - 20).tmod 5⟩] : List V3).map cV) true), (15, .cells 26 3 [cV (add m.fr w)] true)]) (weak_to (.cons rfl (rc_same rfl (.inl rfl)) (.cons rfl (rc_same rfl (.inl rfl)) (.cons rfl (rc_same rfl (.inl rfl)) (.cons rfl (rc_same rfl (.inl rfl)) (.cons rfl (rc_same rfl (.inl rfl)) (.cons rfl (rc_same rfl (.inl rfl)) (.cons rfl (rc_same rfl (.inl rfl)) (.cons rfl (rc_same rfl (.inl rfl)) (.cons rfl (rc_eq (congrArg AV.bool (by first | exact (decide_eq_true ((on_arc hc hk (add m.fr w)).1 ⟨h138, h145, h151, h157⟩)).symm | exact (decide_eq_false (fun hx => h157 ((on_arc hc hk (add m.fr w)).2 hx).2.2.2)).symm | exact (decide_eq_false (fun hx => h151 ((on_arc hc hk (add m.fr w)).2 hx).2.2.1)).symm | exact (decide_eq_false (fun hx => h145 ((on_arc hc hk (add m.fr w)).2 hx).2.1)).symm | exact (decide_eq_false (fun hx => h138 ((on_arc hc hk (add m.fr w)).2 hx).1)).symm)) rfl) (.nil)))))))))) (.keep (rfl) rfl (.keep (rfl) rfl (.keep (rfl) rfl (.keep (rfl) rfl (.nil))))) (fun i h => by cases h)) ?_
          refine aw_reg ?_
          refine rs_mv rfl rfl ?_
          refine rs_nil fun _ => ?_
          refine th_n ?_
          refine aw_seq ?_
          refine aw_seq ?_
          refine aw_reg ?_
          refine rs_mv rfl rfl ?_
          first | refine rs_len_m rfl rfl ?_ | refine rs_len_s rfl rfl ?_ | refine rs_len_n rfl rfl ?_ | refine rs_len_r rfl rfl rfl ?_
          refine rs_mv rfl rfl ?_
          refine rs_nil fun _ => ?_
          refine th_n ?_
          refine aw_block ?_
          refine aw_fam (α := Nat) (fun j => (pathS m).length - j) (fun j => [(5, .bool true), (6, .ptr 6 0 0), (7, .rs 3 ((pathS m).map cV)), (9, .ptr 9 0 0), (80, .sl 80 0 2), (81, iv 2), (82, iv (((k) : Nat) : Int)), (15, .ptr 15 0 0), (16, .bool (decide (add m.fr w ∈ pathS m))), (21, .bool (decide (add m.fr w ∈ (pathS m).take (j)))), (159, .rs 3 ((pathS m).map cV)), (160, iv ((pathS m).length : Int)), (161, iv (((j) : Nat) : Int))]) (fun j => [(6, .cells 28 11 [cM m] true), (9, .cells 26 3 [cV (dS m)] true), (80, .cells 26 3 (([yV y0 y1 y2, ⟨(primV (dS m)).x * (y0.tmod 41 - 20).tmod 5, (primV (dS m)).y * (y0.tmod 41 - 20).tmod 5, (primV (dS m)).z * (y0.tmod 41 - 20).tmod 5⟩] : List V3).map cV) true), (15, .cells 26 3 [cV (add m.fr w)] true)]) (fun j => j ≤ (pathS m).length) 0 (by omega)
            (weak_to (.cons rfl (rc_same rfl (.inl rfl)) (.cons rfl (rc_same rfl (.inl rfl)) (.cons rfl (rc_same rfl (.inl rfl)) (.cons rfl (rc_same rfl (.inl rfl)) (.cons rfl (rc_same rfl (.inl rfl)) (.cons rfl (rc_same rfl (.inl rfl)) (.cons rfl (rc_same rfl (.inl rfl)) (.cons rfl (rc_same rfl (.inl rfl)) (.cons rfl (rc_same rfl (.inl rfl)) (.cons rfl (rc_eq (by simp) rfl) (.cons rfl (rc_same rfl (.inl rfl)) (.cons rfl (rc_same rfl (.inl rfl)) (.cons rfl (rc_same rfl (.inl rfl)) (.nil)))))))))))))) (.keep (rfl) rfl (.keep (rfl) rfl (.keep (rfl) rfl (.keep (rfl) rfl (.nil))))) (fun i h => by cases h)) ?_
          intro j hj
          refine aw_seq ?_
          refine aw_reg ?_
          refine rs_lss rfl rfl rfl ?_
          refine rs_nil fun _ => ?_
          refine th_n ?_
          refine aw_seq ?_
          refine aw_cond rfl (fun h162 => ?_) (fun h162 => ?_)
          · first | replace h162 := of_decide_eq_true h162 | skip
            refine aw_skip ?_
            refine th_n ?_
            refine aw_seq ?_
            refine aw_block ?_
            refine aw_seq ?_
            refine aw_reg ?_
            obtain ⟨z, hz, _⟩ := at_some (L := pathS m) (k := j) (by omega)
            refine rs_ix_g rfl rfl rfl (by omega) hz ?_
            refine rs_ld_ra rfl rfl (Nat.le_of_ble_eq_true rfl) rfl ?_
            refine rs_alloc rfl rfl rfl ?_
            refine rs_st rfl rfl rfl rfl rfl rfl rfl (Nat.le_of_ble_eq_true rfl) rfl rfl ?_
            refine rs_nil fun _ => ?_
            refine th_n ?_
            refine aw_reg ?_
            refine rs_mv rfl rfl ?_
            cases h165 : decide (add m.fr w ∈ (pathS m).take j)
            · skip
              refine rs_mv rfl rfl ?_
              first | refine rs_ld_pa rfl rfl rfl rfl (Nat.le_of_ble_eq_true rfl) rfl ?_ | refine rs_ld_ra rfl rfl (Nat.le_of_ble_eq_true rfl) rfl ?_ | refine rs_ld_ma rfl rfl rfl (by omega) (Nat.le_of_ble_eq_true rfl) rfl ?_
              first | refine rs_ld_pa rfl rfl rfl rfl (Nat.le_of_ble_eq_true rfl) rfl ?_ | refine rs_ld_ra rfl rfl (Nat.le_of_ble_eq_true rfl) rfl ?_ | refine rs_ld_ma rfl rfl rfl (by omega) (Nat.le_of_ble_eq_true rfl) rfl ?_
              refine rs_aeqv (u := z) (v := add m.fr w) rfl rfl rfl ?_
              refine rs_pick rfl rfl rfl ?_
              refine rs_mv rfl rfl ?_
              refine rs_nil fun _ => ?_
              refine in_n ?_
              refine th_n ?_
              refine aw_reg ?_
              first | refine rs_add rfl rfl rfl (by omega) ?_ | refine rs_addw rfl rfl rfl rfl ?_
              refine rs_mv rfl rfl ?_
              refine rs_nil fun _ => ?_
              refine th_n ?_
              first
                | exact ⟨j + 1, by omega, by omega, weak_to (.cons rfl (rc_same rfl (.inl rfl)) (.cons rfl (rc_same rfl (.inl rfl)) (.cons rfl (rc_same rfl (.inl rfl)) (.cons rfl (rc_same rfl (.inl rfl)) (.cons rfl (rc_same rfl (.inl rfl)) (.cons rfl (rc_same rfl (.inl rfl)) (.cons rfl (rc_same rfl (.inl rfl)) (.cons rfl (rc_same rfl (.inl rfl)) (.cons rfl (rc_same rfl (.inl rfl)) (.cons rfl (rc_eq (congrArg AV.bool (mem_succ_t hz h165)) rfl) (.cons rfl (rc_same rfl (.inl rfl)) (.cons rfl (rc_same rfl (.inl rfl)) (.cons rfl (rc_same rfl (.inl rfl)) (.nil)))))))))))))) (.keep (rfl) rfl (.keep (rfl) rfl (.keep (rfl) rfl (.keep (rfl) rfl (.nil))))) (fun i h => by cases h)⟩
                | exact ⟨j + 1, by omega, by omega, weak_to (.cons rfl (rc_same rfl (.inl rfl)) (.cons rfl (rc_same rfl (.inl rfl)) (.cons rfl (rc_same rfl (.inl rfl)) (.cons rfl (rc_same rfl (.inl rfl)) (.cons rfl (rc_same rfl (.inl rfl)) (.cons rfl (rc_same rfl (.inl rfl)) (.cons rfl (rc_same rfl (.inl rfl)) (.cons rfl (rc_same rfl (.inl rfl)) (.cons rfl (rc_same rfl (.inl rfl)) (.cons rfl (rc_eq (congrArg AV.bool (mem_succ hz h165)) rfl) (.cons rfl (rc_same rfl (.inl rfl)) (.cons rfl (rc_same rfl (.inl rfl)) (.cons rfl (rc_same rfl (.inl rfl)) (.nil)))))))))))))) (.keep (rfl) rfl (.keep (rfl) rfl (.keep (rfl) rfl (.keep (rfl) rfl (.nil))))) (fun i h => by cases h)⟩
            · skip
              refine rs_mv rfl rfl ?_
              refine rs_skip rfl ?_
              refine rs_skip rfl ?_
              refine rs_skip rfl ?_
              refine rs_pick rfl rfl rfl ?_
              refine rs_mv rfl rfl ?_
              refine rs_nil fun _ => ?_
              refine in_n ?_
              refine th_n ?_
              refine aw_reg ?_
              first | refine rs_add rfl rfl rfl (by omega) ?_ | refine rs_addw rfl rfl rfl rfl ?_
              refine rs_mv rfl rfl ?_
              refine rs_nil fun _ => ?_
              refine th_n ?_
              first
                | exact ⟨j + 1, by omega, by omega, weak_to (.cons rfl (rc_same rfl (.inl rfl)) (.cons rfl (rc_same rfl (.inl rfl)) (.cons rfl (rc_same rfl (.inl rfl)) (.cons rfl (rc_same rfl (.inl rfl)) (.cons rfl (rc_same rfl (.inl rfl)) (.cons rfl (rc_same rfl (.inl rfl)) (.cons rfl (rc_same rfl (.inl rfl)) (.cons rfl (rc_same rfl (.inl rfl)) (.cons rfl (rc_same rfl (.inl rfl)) (.cons rfl (rc_eq (congrArg AV.bool (mem_succ_t hz h165)) rfl) (.cons rfl (rc_same rfl (.inl rfl)) (.cons rfl (rc_same rfl (.inl rfl)) (.cons rfl (rc_same rfl (.inl rfl)) (.nil)))))))))))))) (.keep (rfl) rfl (.keep (rfl) rfl (.keep (rfl) rfl (.keep (rfl) rfl (.nil))))) (fun i h => by cases h)⟩
                | exact ⟨j + 1, by omega, by omega, weak_to (.cons rfl (rc_same rfl (.inl rfl)) (.cons rfl (rc_same rfl (.inl rfl)) (.cons rfl (rc_same rfl (.inl rfl)) (.cons rfl (rc_same rfl (.inl rfl)) (.cons rfl (rc_same rfl (.inl rfl)) (.cons rfl (rc_same rfl (.inl rfl)) (.cons rfl (rc_same rfl (.inl rfl)) (.cons rfl (rc_same rfl (.inl rfl)) (.cons rfl (rc_same rfl (.inl rfl)) (.cons rfl (rc_eq (congrArg AV.bool (mem_succ hz h165)) rfl) (.cons rfl (rc_same rfl (.inl rfl)) (.cons rfl (rc_same rfl (.inl rfl)) (.cons rfl (rc_same rfl (.inl rfl)) (.nil)))))))))))))) (.keep (rfl) rfl (.keep (rfl) rfl (.keep (rfl) rfl (.keep (rfl) rfl (.nil))))) (fun i h => by cases h)⟩
          · first | replace h162 := of_decide_eq_false h162 | skip
            refine aw_exit ?_
            refine th_e ?_
            refine th_e ?_
            refine in_hit ?_
            refine th_n ?_
            refine aw_seq ?_
            refine aw_reg ?_
            refine rs_mv rfl rfl ?_
            refine rs_mv rfl rfl ?_
            refine rs_beq_f (by rw [show j = (pathS m).length by omega, List.take_length]) rfl rfl rfl ?_
            refine rs_nil fun _ => ?_
            refine th_n ?_
            refine aw_cond rfl (fun h => by cases h) (fun _ => ?_)
            refine aw_skip ?_
            refine in_n ?_
            refine th_n ?_
            refine aw_reg ?_
            first | refine rs_add rfl rfl rfl (by omega) ?_ | refine rs_addw rfl rfl rfl rfl ?_
            refine rs_mv rfl rfl ?_
            refine rs_nil fun _ => ?_
            refine th_n ?_
            exact ⟨k + 1, by omega, by omega, weak_to (.cons rfl (rc_same rfl (.inl rfl)) (.cons rfl (rc_same rfl (.inl rfl)) (.cons rfl (rc_same rfl (.inl rfl)) (.cons rfl (rc_same rfl (.inl rfl)) (.cons rfl (rc_same rfl (.inl rfl)) (.cons rfl (rc_same rfl (.inl rfl)) (.cons rfl (rc_same rfl (.inl rfl)) (.nil)))))))) (.keep (rfl) rfl (.keep (rfl) rfl (.keep (rfl) rfl (.nil)))) (fun i h => by cases h)⟩
      · skip
        refine rs_mv rfl rfl ?_
        refine rs_skip rfl ?_
        refine rs_skip rfl ?_
        refine rs_skip rfl ?_
        refine rs_skip rfl ?_
        refine rs_skip rfl ?_
        refine rs_skip rfl ?_
        refine rs_pick rfl rfl rfl ?_
        refine rs_mv rfl rfl ?_
        refine rs_skip rfl ?_
        refine rs_skip rfl ?_
        refine rs_skip rfl ?_
        refine rs_skip rfl ?_
        refine rs_pick rfl rfl rfl ?_
        refine rs_mv rfl rfl ?_
        refine rs_skip rfl ?_
        refine rs_skip rfl ?_
        refine rs_skip rfl ?_
        refine rs_skip rfl ?_
        refine rs_pick rfl rfl rfl ?_
        refine rs_mv rfl rfl ?_
        refine rs_nil ⟨by kernel_rfl, fun _ => ?_⟩
        refine th_n ?_
        refine aw_seq ?_
        refine aw_weak (F0 := [(5, .bool true), (6, .ptr 6 0 0), (7, .rs 3 ((pathS m).map cV)), (9, .ptr 9 0 0), (80, .sl 80 0 2), (81, iv 2), (82, iv (((k) : Nat) : Int)), (15, .ptr 15 0 0), (16, .bool (decide (add m.fr w ∈ pathS m)))]) (H0 := [(6, .cells 28 11 [cM m] true), (9, .cells 26 3 [cV (dS m)] true), (80, .cells 26 3 (([yV y0 y1 y2, ⟨(primV (dS m)).x * (y0.tmod 41 - 20).tmod 5, (primV (dS m)).y * (y0.tmod 41 - 20).tmod 5, (primV (dS m)).z * (y0.tmod 41 - 20).tmod 5⟩] : List V3).map cV) true), (15, .cells 26 3 [cV (add m.fr w)] true)]) (weak_to (.cons rfl (rc_same rfl (.inl rfl)) (.cons rfl (rc_same rfl (.inl rfl)) (.cons rfl (rc_same rfl (.inl rfl)) (.cons rfl (rc_same rfl (.inl rfl)) (.cons rfl (rc_same rfl (.inl rfl)) (.cons rfl (rc_same rfl (.inl rfl)) (.cons rfl (rc_same rfl (.inl rfl)) (.cons rfl (rc_same rfl (.inl rfl)) (.cons rfl (rc_eq (congrArg AV.bool (by first | exact (decide_eq_true ((on_arc hc hk (add m.fr w)).1 ⟨h138, h145, h151, h157⟩)).symm | exact (decide_eq_false (fun hx => h157 ((on_arc hc hk (add m.fr w)).2 hx).2.2.2)).symm | exact (decide_eq_false (fun hx => h151 ((on_arc hc hk (add m.fr w)).2 hx).2.2.1)).symm | exact (decide_eq_false (fun hx => h145 ((on_arc hc hk (add m.fr w)).2 hx).2.1)).symm | exact (decide_eq_false (fun hx => h138 ((on_arc hc hk (add m.fr w)).2 hx).1)).symm)) rfl) (.nil)))))))))) (.keep (rfl) rfl (.keep (rfl) rfl (.keep (rfl) rfl (.keep (rfl) rfl (.nil))))) (fun i h => by cases h)) ?_
        refine aw_reg ?_
        refine rs_mv rfl rfl ?_
        refine rs_nil fun _ => ?_
        refine th_n ?_
        refine aw_seq ?_
        refine aw_seq ?_
        refine aw_reg ?_
        refine rs_mv rfl rfl ?_
        first | refine rs_len_m rfl rfl ?_ | refine rs_len_s rfl rfl ?_ | refine rs_len_n rfl rfl ?_ | refine rs_len_r rfl rfl rfl ?_
        refine rs_mv rfl rfl ?_
        refine rs_nil fun _ => ?_
        refine th_n ?_
        refine aw_block ?_
        refine aw_fam (α := Nat) (fun j => (pathS m).length - j) (fun j => [(5, .bool true), (6, .ptr 6 0 0), (7, .rs 3 ((pathS m).map cV)), (9, .ptr 9 0 0), (80, .sl 80 0 2), (81, iv 2), (82, iv (((k) : Nat) : Int)), (15, .ptr 15 0 0), (16, .bool (decide (add m.fr w ∈ pathS m))), (21, .bool (decide (add m.fr w ∈ (pathS m).take (j)))), (159, .rs 3 ((pathS m).map cV)), (160, iv ((pathS m).length : Int)), (161, iv (((j) : Nat) : Int))]) (fun j => [(6, .cells 28 11 [cM m] true), (9, .cells 26 3 [cV (dS m)] true), (80, .cells 26 3 (([yV y0 y1 y2, ⟨(primV (dS m)).x * (y0.tmod 41 - 20).tmod 5, (primV (dS m)).y * (y0.tmod 41 - 20).tmod 5, (primV (dS m)).z * (y0.tmod 41 - 20).tmod 5⟩] : List V3).map cV) true), (15, .cells 26 3 [cV (add m.fr w)] true)]) (fun j => j ≤ (pathS m).length) 0 (by omega)
          (weak_to (.cons rfl (rc_same rfl (.inl rfl)) (.cons rfl (rc_same rfl (.inl rfl)) (.cons rfl (rc_same rfl (.inl rfl)) (.cons rfl (rc_same rfl (.inl rfl)) (.cons rfl (rc_same rfl (.inl rfl)) (.cons rfl (rc_same rfl (.inl rfl)) (.cons rfl (rc_same rfl (.inl rfl)) (.cons rfl (rc_same rfl (.inl rfl)) (.cons rfl (rc_same rfl (.inl rfl)) (.cons rfl (rc_eq (by simp) rfl) (.cons rfl (rc_same rfl (.inl rfl)) (.cons rfl (rc_same rfl (.inl rfl)) (.cons rfl (rc_same rfl (.inl rfl)) (.nil)))))))))))))) (.keep (rfl) rfl (.keep (rfl) rfl (.keep (rfl) rfl (.keep (rfl) rfl (.nil))))) (fun i h => by cases h)) ?_
        intro j hj
        refine aw_seq ?_
        refine aw_reg ?_
        refine rs_lss rfl rfl rfl ?_
        refine rs_nil fun _ => ?_
        refine th_n ?_
        refine aw_seq ?_
        refine aw_cond rfl (fun h162 => ?_) (fun h162 => ?_)
        · first | replace h162 := of_decide_eq_true h162 | skip
          refine aw_skip ?_
          refine th_n ?_
          refine aw_seq ?_
          refine aw_block ?_
          refine aw_seq ?_
          refine aw_reg ?_
          obtain ⟨z, hz, _⟩ := at_some (L := pathS m) (k := j) (by omega)
          refine rs_ix_g rfl rfl rfl (by omega) hz ?_
          refine rs_ld_ra rfl rfl (Nat.le_of_ble_eq_true rfl) rfl ?_
          refine rs_alloc rfl rfl rfl ?_
          refine rs_st rfl rfl rfl rfl rfl rfl rfl (Nat.le_of_ble_eq_true rfl) rfl rfl ?_
          refine rs_nil fun _ => ?_
          refine th_n ?_
          refine aw_reg ?_
          refine rs_mv rfl rfl ?_
          cases h165 : decide (add m.fr w ∈ (pathS m).take j)
          · skip
            refine rs_mv rfl rfl ?_
            first | refine rs_ld_pa rfl rfl rfl rfl (Nat.le_of_ble_eq_true rfl) rfl ?_ | refine rs_ld_ra rfl rfl (Nat.le_of_ble_eq_true rfl) rfl ?_ | refine rs_ld_ma rfl rfl rfl (by omega) (Nat.le_of_ble_eq_true rfl) rfl ?_
            first | refine rs_ld_pa rfl rfl rfl rfl (Nat.le_of_ble_eq_true rfl) rfl ?_ | refine rs_ld_ra rfl rfl (Nat.le_of_ble_eq_true rfl) rfl ?_ | refine rs_ld_ma rfl rfl rfl (by omega) (Nat.le_of_ble_eq_true rfl) rfl ?_
            refine rs_aeqv (u := z) (v := add m.fr w) rfl rfl rfl ?_
            refine rs_pick rfl rfl rfl ?_
            refine rs_mv rfl rfl ?_
            refine rs_nil fun _ => ?_
            refine in_n ?_
            refine th_n ?_
            refine aw_reg ?_
            first | refine rs_add rfl rfl rfl (by omega) ?_ | refine rs_addw rfl rfl rfl rfl ?_
            refine rs_mv rfl rfl ?_
            refine rs_nil fun _ => ?_
            refine th_n ?_
            first
              | exact ⟨j + 1, by omega, by omega, weak_to (.cons rfl (rc_same rfl (.inl rfl)) (.cons rfl (rc_same rfl (.inl rfl)) (.cons rfl (rc_same rfl (.inl rfl)) (.cons rfl (rc_same rfl (.inl rfl)) (.cons rfl (rc_same rfl (.inl rfl)) (.cons rfl (rc_same rfl (.inl rfl)) (.cons rfl (rc_same rfl (.inl rfl)) (.cons rfl (rc_same rfl (.inl rfl)) (.cons rfl (rc_same rfl (.inl rfl)) (.cons rfl (rc_eq (congrArg AV.bool (mem_succ_t hz h165)) rfl) (.cons rfl (rc_same rfl (.inl rfl)) (.cons rfl (rc_same rfl (.inl rfl)) (.cons rfl (rc_same rfl (.inl rfl)) (.nil)))))))))))))) (.keep (rfl) rfl (.keep (rfl) rfl (.keep (rfl) rfl (.keep (rfl) rfl (.nil))))) (fun i h => by cases h)⟩
              | exact ⟨j + 1, by omega, by omega, weak_to (.cons rfl (rc_same rfl (.inl rfl)) (.cons rfl (rc_same rfl (.inl rfl)) (.cons rfl (rc_same rfl (.inl rfl)) (.cons rfl (rc_same rfl (.inl rfl)) (.cons rfl (rc_same rfl (.inl rfl)) (.cons rfl (rc_same rfl (.inl rfl)) (.cons rfl (rc_same rfl (.inl rfl)) (.cons rfl (rc_same rfl (.inl rfl)) (.cons rfl (rc_same rfl (.inl rfl)) (.cons rfl (rc_eq (congrArg AV.bool (mem_succ hz h165)) rfl) (.cons rfl (rc_same rfl (.inl rfl)) (.cons rfl (rc_same rfl (.inl rfl)) (.cons rfl (rc_same rfl (.inl rfl)) (.nil)))))))))))))) (.keep (rfl) rfl (.keep (rfl) rfl (.keep (rfl) rfl (.keep (rfl) rfl (.nil))))) (fun i h => by cases h)⟩
          · skip
            refine rs_mv rfl rfl ?_
            refine rs_skip rfl ?_
            refine rs_skip rfl ?_
            refine rs_skip rfl ?_
            refine rs_pick rfl rfl rfl ?_
            refine rs_mv rfl rfl ?_
            refine rs_nil fun _ => ?_
            refine in_n ?_
            refine th_n ?_
            refine aw_reg ?_
            first | refine rs_add rfl rfl rfl (by omega) ?_ | refine rs_addw rfl rfl rfl rfl ?_
            refine rs_mv rfl rfl ?_
            refine rs_nil fun _ => ?_
            refine th_n ?_
            first
              | exact ⟨j + 1, by omega, by omega, weak_to (.cons rfl (rc_same rfl (.inl rfl)) (.cons rfl (rc_same rfl (.inl rfl)) (.cons rfl (rc_same rfl (.inl rfl)) (.cons rfl (rc_same rfl (.inl rfl)) (.cons rfl (rc_same rfl (.inl rfl)) (.cons rfl (rc_same rfl (.inl rfl)) (.cons rfl (rc_same rfl (.inl rfl)) (.cons rfl (rc_same rfl (.inl rfl)) (.cons rfl (rc_same rfl (.inl rfl)) (.cons rfl (rc_eq (congrArg AV.bool (mem_succ_t hz h165)) rfl) (.cons rfl (rc_same rfl (.inl rfl)) (.cons rfl (rc_same rfl (.inl rfl)) (.cons rfl (rc_same rfl (.inl rfl)) (.nil)))))))))))))) (.keep (rfl) rfl (.keep (rfl) rfl (.keep (rfl) rfl (.keep (rfl) rfl (.nil))))) (fun i h => by cases h)⟩
              | exact ⟨j + 1, by omega, by omega, weak_to (.cons rfl (rc_same rfl (.inl rfl)) (.cons rfl (rc_same rfl (.inl rfl)) (.cons rfl (rc_same rfl (.inl rfl)) (.cons rfl (rc_same rfl (.inl rfl)) (.cons rfl (rc_same rfl (.inl rfl)) (.cons rfl (rc_same rfl (.inl rfl)) (.cons rfl (rc_same rfl (.inl rfl)) (.cons rfl (rc_same rfl (.inl rfl)) (.cons rfl (rc_same rfl (.inl rfl)) (.cons rfl (rc_eq (congrArg AV.bool (mem_succ hz h165)) rfl) (.cons rfl (rc_same rfl (.inl rfl)) (.cons rfl (rc_same rfl (.inl rfl)) (.cons rfl (rc_same rfl (.inl rfl)) (.nil)))))))))))))) (.keep (rfl) rfl (.keep (rfl) rfl (.keep (rfl) rfl (.keep (rfl) rfl (.nil))))) (fun i h => by cases h)⟩
        · first | replace h162 := of_decide_eq_false h162 | skip
          refine aw_exit ?_
          refine th_e ?_
          refine th_e ?_
          refine in_hit ?_
          refine th_n ?_
          refine aw_seq ?_
          refine aw_reg ?_
          refine rs_mv rfl rfl ?_
          refine rs_mv rfl rfl ?_
          refine rs_beq_f (by rw [show j = (pathS m).length by omega, List.take_length]) rfl rfl rfl ?_
          refine rs_nil fun _ => ?_
          refine th_n ?_
          refine aw_cond rfl (fun h => by cases h) (fun _ => ?_)
          refine aw_skip ?_
          refine in_n ?_
          refine th_n ?_
          refine aw_reg ?_
          first | refine rs_add rfl rfl rfl (by omega) ?_ | refine rs_addw rfl rfl rfl rfl ?_
          refine rs_mv rfl rfl ?_
          refine rs_nil fun _ => ?_
          refine th_n ?_
          exact ⟨k + 1, by omega, by omega, weak_to (.cons rfl (rc_same rfl (.inl rfl)) (.cons rfl (rc_same rfl (.inl rfl)) (.cons rfl (rc_same rfl (.inl rfl)) (.cons rfl (rc_same rfl (.inl rfl)) (.cons rfl (rc_same rfl (.inl rfl)) (.cons rfl (rc_same rfl (.inl rfl)) (.cons rfl (rc_same rfl (.inl rfl)) (.nil)))))))) (.keep (rfl) rfl (.keep (rfl) rfl (.keep (rfl) rfl (.nil)))) (fun i h => by cases h)⟩
  · first | replace h83 := of_decide_eq_false h83 | skip
    refine aw_exit ?_
    refine th_e ?_
    refine th_e ?_
    refine in_hit ?_
    refine th_n ?_
    refine aw_seq ?_
    refine aw_reg ?_
    refine rs_mv rfl rfl ?_
    refine rs_mv rfl rfl ?_
    refine rs_nil fun _ => ?_
    refine th_n ?_
    refine aw_ret ?_
    exact ret_pure rfl rfl rfl (.inr rfl)

end Go.Proofs.Yteommcdafifckaa

/-! Walks: M10. -/
namespace Go.Proofs.Yteommcdafifckaa
open Go.RowKit


theorem fc7 (l : List Int) (hl : l.length ≤ 4611686018427387904) (y0 y1 y2 : Int) (hy0 : 0 ≤ y0 ∧ y0 < 256) (hy1 : 0 ≤ y1 ∧ y1 < 256) (hy2 : 0 ≤ y2 ∧ y2 < 256) : FC Try.prog 7 [ints l, .agg [.int .u8 y0, .int .u8 y1, .int .u8 y2]] [] (.bool true) [] false := by
  by_cases hk : (madeS l).kind = 3
  · exact fc7_a l hl y0 y1 y2 hy0 hy1 hy2 hk
  · exact fc7_l l hl y0 y1 y2 hy0 hy1 hy2 hk

end Go.Proofs.Yteommcdafifckaa

/-! The arguments of the laws of move, as they are read. -/
namespace Go.Proofs.Yteommcdafifckaa
open Go.RowKit Go.WideShapes Go.ChangeShapes Go.ChangeAt
set_option maxRecDepth 100000

theorem own_knob : ownKnob Try.prog.godebug = none := by kernel_rfl
theorem laid_out : laidOutB Try.prog = true := by kernel_rfl

theorem rd_i {H : Type} (d : DataW H) (h : Gd (.int .i64) d) : ∃ n : Int, True ∧ avD (.int .i64) d = ci n := by
  obtain ⟨n, _, e⟩ := rd_int d h
  exact ⟨n, trivial, e⟩
theorem rd_u8 {H : Type} (d : DataW H) (h : Gd (.int .u8) d) : ∃ n : Int, (0 ≤ n ∧ n < 256) ∧ avD (.int .u8) d = cu8 n := by
  obtain ⟨n, hw, e⟩ := rd_int d h
  have := bounds_u8 hw
  exact ⟨n, by omega, e⟩
abbrev shV : Sh := .st [.int .i64, .int .i64, .int .i64]
abbrev shM : Sh := .st [.int .i64, shV, shV, shV, .int .i64]
theorem rd_vec {H : Type} (d : DataW H) (h : Gd shV d) : ∃ v : V3, True ∧ avD shV d = cV v := by
  obtain ⟨ps, g, e⟩ := rd_st d h
  obtain ⟨d0, r0, g0, g, e0⟩ := rd_cons ps g
  obtain ⟨d1, r1, g1, g, e1⟩ := rd_cons r0 g
  obtain ⟨d2, r2, g2, g, e2⟩ := rd_cons r1 g
  obtain ⟨n0, _, a0⟩ := rd_i d0 g0
  obtain ⟨n1, _, a1⟩ := rd_i d1 g1
  obtain ⟨n2, _, a2⟩ := rd_i d2 g2
  exact ⟨⟨n0, n1, n2⟩, trivial, by rw [e, e0, e1, e2, rd_nil r2 g, a0, a1, a2]; rfl⟩
theorem rd_mv {H : Type} (d : DataW H) (h : Gd shM d) : ∃ m : Mv, True ∧ argA shM d = aM m := by
  obtain ⟨ps, g, e⟩ := rd_st d h
  obtain ⟨d0, r0, g0, g, e0⟩ := rd_cons ps g
  obtain ⟨d1, r1, g1, g, e1⟩ := rd_cons r0 g
  obtain ⟨d2, r2, g2, g, e2⟩ := rd_cons r1 g
  obtain ⟨d3, r3, g3, g, e3⟩ := rd_cons r2 g
  obtain ⟨d4, r4, g4, g, e4⟩ := rd_cons r3 g
  obtain ⟨n0, _, a0⟩ := rd_i d0 g0
  obtain ⟨v1, _, a1⟩ := rd_vec d1 g1
  obtain ⟨v2, _, a2⟩ := rd_vec d2 g2
  obtain ⟨v3, _, a3⟩ := rd_vec d3 g3
  obtain ⟨n4, _, a4⟩ := rd_i d4 g4
  exact ⟨⟨n0, v1, v2, v3, n4⟩, trivial, by simp only [argA]; rw [e, e0, e1, e2, e3, e4, rd_nil r4 g, a0, a1, a2, a3, a4]; rfl⟩
theorem rd_q {H : Type} (d : DataW H) (h : Gd (.arr 2 (.arr 3 (.int .i64))) d) : ∃ a0 a1 a2 b0 b1 b2 : Int, argA (.arr 2 (.arr 3 (.int .i64))) d = .agg [iv a0, iv a1, iv a2, iv b0, iv b1, iv b2] := by
  obtain ⟨q, ⟨hq, hr⟩, e⟩ := rd_arr (fun L : List Int => L.length = 3) (fun L => L.flatMap ci) (fun d h => by
    obtain ⟨xs, ⟨h1, _⟩, e⟩ := rd_arr (fun _ => True) ci rd_i d h
    exact ⟨xs, h1, e⟩) d h
  match q, hq with
  | [x, y], _ =>
    match x, y, hr x (by simp), hr y (by simp) with
    | [a0, a1, a2], [b0, b1, b2], _, _ => exact ⟨a0, a1, a2, b0, b1, b2, by simp only [argA]; rw [e]; rfl⟩
end Go.Proofs.Yteommcdafifckaa
namespace Go.Proofs.Yteommcdafifckaa
open Go.RowKit Go.WideShapes Go.ChangeShapes Go.ChangeAt
set_option maxRecDepth 100000

abbrev shs7 : List Sh := [.sl 1 (.int .i64), .arr 3 (.int .u8)]

theorem lifted7 (os : Os) (started : os.Started) (H : Type) (enc : TypeId × Value → H) :
    ReturnsInHanded {} Try.checked os 7 .any (Rows.moveBetweenSpec.pre6 enc Try.prog Try.f7 Rows.moveBetweenRow.domain false) (Rows.moveBetweenSpec.post enc Try.prog Try.f7 false true false false) := by
  refine law_row (C := Try.checked) own_knob started (by kernel_rfl) Try.func7 laid_out rfl (tb := 4) rfl Try.underlying4 shs7 (by kernel_rfl) (fun ds h => ?_)
    (ChangeSpec.witness6 (enc := enc) (C := Try.checked) false ⟨#[], #[.slice none 0 0, .agg #[.int .u8 0, .int .u8 0, .int .u8 0]], []⟩ 8 (by kernel_rfl) (by kernel_rfl) (by kernel_rfl) (by kernel_rfl)) fun ds hg => ⟨false, ?_⟩
  · match ds, h with
    | [_, _], _ => rfl
  · simp only [shs7, GdFs] at hg
    obtain ⟨d0, _, rfl, g0, d1, _, rfl, g1, rfl⟩ := hg
    obtain ⟨l, ⟨hl_l, hr_l⟩, e0⟩ := rd_sl _ ci rd_i d0 g0
    obtain ⟨q1, ⟨hq1, hr1⟩, e1⟩ := rd_arr _ cu8 rd_u8 d1 g1
    match q1, hq1 with
    | [y0, y1, y2], _ =>
      have e : argAs shs7 [d0, d1] = [.rs 1 (l.map ci), .agg [.int .u8 y0, .int .u8 y1, .int .u8 y2]] := by
        simp only [argAs, shs7]
        simp only [argA]
        rw [e0, e1]
        rfl
      rw [e]
      exact fc7 l (Nat.le_trans hl_l (by decide)) y0 y1 y2 (hr1 y0 (by simp)) (hr1 y1 (by simp)) (hr1 y2 (by simp))

theorem over7 : Rows.moveBetweenRow.holds Try.pinned (OpenSpec.ofChange Rows.moveBetweenSpec) :=
  OpenClaim.holds_of_wide 7 Try.f7 rfl rfl rfl rfl rfl rfl rfl ⟨rfl, rfl, rfl, rfl, rfl⟩ rfl rfl rfl rfl rfl (by kernel_rfl) Try.func7 (by kernel_rfl)
    (of_decide_eq_true (by kernel_rfl)) (by unfold Func.isWrapper; rw [if_neg (of_decide_eq_false (by kernel_rfl))]; exact ⟨rfl, rfl⟩)
    (fun os started H enc _ => lifted7 os started H enc)

theorem moveBetween_holds : Rows.MoveBetweenSaid := over7
#print axioms moveBetween_holds
end Go.Proofs.Yteommcdafifckaa
