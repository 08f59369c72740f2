/-
  Walks: A9.
-/
import Derived.Test.YtadjdnhnbkcakaaA8
namespace Go.Proofs.Ytadjdnhnbkcakaa
open Go.RowKit

theorem and_i64 (a : Nat) (ha : a < 256) (b : Nat) (hb : b < 256) : bits .and .i64 (a : Int) (b : Int) = ((a &&& b : Nat) : Int) := by
  have h : a &&& b < 256 := Nat.lt_of_le_of_lt Nat.and_le_left ha
  unfold bits
  simp only [BitVec.toNat_and]
  rw [show (BitVec.ofInt IntKind.i64.bits (a : Int)).toNat = a by rw [BitVec.ofInt_natCast]; simp [IntKind.bits]; omega, show (BitVec.ofInt IntKind.i64.bits (b : Int)).toNat = b by rw [BitVec.ofInt_natCast]; simp [IntKind.bits]; omega, IntKind.wrap_i64]
  omega

def mc22 : MC := (.seq (.reg [⟨(some 8), (.mv (.c .nils)), none, []⟩, ⟨(some 9), (.mv (.c .nils)), none, [0]⟩, ⟨(some 10), (.mv (.c (.int .i64 0))), none, [1]⟩] false) (.seq (.reg [⟨(some 20), (.mv (.t 0)), none, []⟩, ⟨(some 21), (.mv (.t 1)), none, []⟩, ⟨(some 22), (.mv (.t 2)), none, []⟩, ⟨(some 23), (.mv (.t 3)), none, []⟩, ⟨(some 24), (.call 20 [(.t 20), (.t 21), (.t 22), (.t 23)]), none, [0, 1, 2, 3]⟩, ⟨(some 11), (.mv (.t 24)), none, [4, 4, 0, 1, 2, 3, 4]⟩] false) (.seq (.seq (.reg [⟨(some 25), (.mv (.t 11)), none, []⟩, ⟨(some 26), (.bin .neq (.t 25) (.c (.int .i64 0))), none, [0]⟩] false) (.cond (.t 26) (.seq (.reg [⟨(some 27), (.mv (.t 11)), none, []⟩, ⟨(some 8), (.mv (.c .nils)), none, []⟩, ⟨(some 9), (.mv (.c .nils)), none, [1, 1]⟩, ⟨(some 10), (.mv (.t 27)), none, [0, 2, 0, 1, 2]⟩] false) .ret) .skip)) (.seq (.reg [⟨(some 28), (.bslice 3 1 [(.int .i64 0)] 0 []), none, []⟩, ⟨(some 29), (.mv (.t 2)), none, []⟩, ⟨(some 30), (.app 3 1 8 [(.int .i64 0)] (.t 28) (.t 29)), none, [0, 1]⟩, ⟨(some 12), (.mv (.t 30)), none, [2, 2, 0, 1, 2]⟩] false) (.seq (.reg [⟨(some 31), (.bslice 3 1 [(.int .i64 0)] 0 []), none, []⟩, ⟨(some 32), (.mv (.t 1)), none, []⟩, ⟨(some 33), (.app 3 1 8 [(.int .i64 0)] (.t 31) (.t 32)), none, [0, 1]⟩, ⟨(some 13), (.mv (.t 33)), none, [2, 2, 0, 1, 2]⟩] false) (.seq (.reg [⟨(some 14), (.mv (.c (.bool false))), none, []⟩] false) (.seq (.seq (.reg [⟨(some 15), (.mv (.c (.int .i64 0))), none, []⟩] false) (.block 0 (.loop (.seq (.seq (.reg [⟨(some 34), (.mv (.t 15)), none, []⟩, ⟨(some 35), (.bin .lss (.t 34) (.c (.int .i64 256))), none, [0]⟩] false) (.cond (.t 35) .skip (.exit 0))) (.seq (.block 1 (.seq (.reg [⟨(some 39), (.mv (.t 0)), none, []⟩, ⟨(some 40), (.mv (.t 1)), none, []⟩, ⟨(some 41), (.mv (.t 2)), none, []⟩, ⟨(some 42), (.mv (.t 15)), none, []⟩, ⟨(some 43), (.call 52 [(.t 39), (.t 40), (.t 41), (.t 42)]), none, [0, 1, 2, 3]⟩, ⟨(some 38), (.mv (.t 43)), none, [4]⟩, ⟨(some 44), (.ext (.t 38) 0), none, [5]⟩, ⟨(some 45), (.ext (.t 38) 1), none, [5]⟩, ⟨(some 46), (.ext (.t 38) 2), none, [5]⟩, ⟨(some 16), (.mv (.t 44)), none, [6, 4, 0, 1, 2, 3, 4, 5, 6]⟩, ⟨(some 17), (.mv (.t 45)), none, [7, 9, 0, 1, 2, 3, 4, 5, 6, 7, 9]⟩, ⟨(some 18), (.mv (.t 46)), none, [8, 10, 0, 1, 2, 3, 4, 5, 6, 7, 8, 9, 10]⟩] false) (.seq (.seq (.reg [⟨(some 47), (.mv (.t 15)), none, []⟩, ⟨(some 48), (.call 53 [(.t 47)]), none, [0]⟩, ⟨(some 49), (.mv (.t 3)), none, []⟩, ⟨(some 50), (.bin .gtr (.t 48) (.t 49)), none, [1, 2]⟩, ⟨(some 51), (.mv (.t 50)), none, [3, 1]⟩, ⟨(some 52), (.mv (.t 18)), (some (51, false)), [4]⟩, ⟨(some 53), (.un .not (.t 52)), (some (51, false)), [5, 4]⟩, ⟨(some 54), (.pick (.t 51) (.c (.bool true)) (.t 53)), none, [4, 6]⟩] false) (.cond (.t 54) (.exit 1) .skip)) (.seq (.reg [⟨(some 14), (.mv (.c (.bool true))), none, []⟩] false) (.seq (.reg [⟨(some 19), (.mv (.c (.int .i64 0))), none, []⟩] false) (.block 2 (.loop (.seq (.seq (.reg [⟨(some 55), (.mv (.t 19)), none, []⟩, ⟨(some 56), (.mv (.t 1)), none, []⟩, ⟨(some 57), (.len (.t 56)), none, [1]⟩, ⟨(some 58), (.bin .lss (.t 55) (.t 57)), none, [0, 2]⟩] false) (.cond (.t 58) .skip (.exit 2))) (.seq (.block 3 (.seq (.reg [⟨(some 61), (.mv (.t 12)), none, []⟩, ⟨(some 62), (.mv (.t 19)), none, []⟩, ⟨(some 63), (.mv (.t 12)), none, []⟩, ⟨(some 64), (.mv (.t 19)), none, []⟩, ⟨(some 65), (.ixsl 1 (.t 63) (.t 64)), none, [2, 3]⟩, ⟨(some 66), (.ld false 1 (.t 65)), none, [4]⟩, ⟨(some 67), (.mv (.t 16)), none, []⟩, ⟨(some 68), (.mv (.t 19)), none, []⟩, ⟨(some 69), (.ixsl 1 (.t 67) (.t 68)), none, [6, 7]⟩, ⟨(some 70), (.ld false 1 (.t 69)), none, [8]⟩, ⟨(some 71), (.mn (.t 66) (.t 70)), none, [5, 9]⟩, ⟨(some 72), (.ixsl 1 (.t 61) (.t 62)), none, [0, 1, 0, 1, 2, 3, 4, 5, 6, 7, 8, 9, 10]⟩, ⟨none, (.st 1 (.t 72) (.t 71)), none, [11, 10, 0, 1, 2, 3, 4, 5, 6, 7, 8, 9, 10]⟩] true) (.reg [⟨(some 73), (.mv (.t 13)), none, []⟩, ⟨(some 74), (.mv (.t 19)), none, []⟩, ⟨(some 75), (.mv (.t 13)), none, []⟩, ⟨(some 76), (.mv (.t 19)), none, []⟩, ⟨(some 77), (.ixsl 1 (.t 75) (.t 76)), none, [2, 3]⟩, ⟨(some 78), (.ld false 1 (.t 77)), none, [4]⟩, ⟨(some 79), (.mv (.t 17)), none, []⟩, ⟨(some 80), (.mv (.t 19)), none, []⟩, ⟨(some 81), (.ixsl 1 (.t 79) (.t 80)), none, [6, 7]⟩, ⟨(some 82), (.ld false 1 (.t 81)), none, [8]⟩, ⟨(some 83), (.mx (.t 78) (.t 82)), none, [5, 9]⟩, ⟨(some 84), (.ixsl 1 (.t 73) (.t 74)), none, [0, 1, 0, 1, 2, 3, 4, 5, 6, 7, 8, 9, 10]⟩, ⟨none, (.st 1 (.t 84) (.t 83)), none, [11, 10, 0, 1, 2, 3, 4, 5, 6, 7, 8, 9, 10]⟩] true))) (.reg [⟨(some 59), (.mv (.t 19)), none, []⟩, ⟨(some 60), (.bin .add (.t 59) (.c (.int .i64 1))), none, [0]⟩, ⟨(some 19), (.mv (.t 60)), none, [1, 0, 1]⟩] false)))))))))) (.reg [⟨(some 36), (.mv (.t 15)), none, []⟩, ⟨(some 37), (.bin .add (.t 36) (.c (.int .i64 1))), none, [0]⟩, ⟨(some 15), (.mv (.t 37)), none, [1, 0, 1]⟩] false)))))) (.seq (.seq (.reg [⟨(some 85), (.mv (.t 14)), none, []⟩, ⟨(some 86), (.un .not (.t 85)), none, [0]⟩] false) (.cond (.t 86) (.seq (.reg [⟨(some 8), (.mv (.c .nils)), none, []⟩, ⟨(some 9), (.mv (.c .nils)), none, [0, 0]⟩, ⟨(some 10), (.mv (.c (.int .i64 21))), none, [1, 0, 1]⟩] false) .ret) .skip)) (.seq (.reg [⟨(some 87), (.mv (.t 12)), none, []⟩, ⟨(some 88), (.mv (.t 13)), none, []⟩, ⟨(some 8), (.mv (.t 87)), none, [0, 0]⟩, ⟨(some 9), (.mv (.t 88)), none, [1, 2, 0, 1, 2]⟩, ⟨(some 10), (.mv (.c (.int .i64 0))), none, [3, 0, 1, 2, 3]⟩] false) .ret)))))))))
theorem mcOk22 : (match Try.f22.body with | some c => compC Try.prog 89 c | none => none) = some mc22 := by kernel_rfl

theorem fc22 (l : List Rd) (lo hi : List Int) (lies : Int) : FC Try.prog 22 [.rs 4 (l.map cR), ints lo, ints hi, .int .i64 lies] [] (.tup [.sl 30 0 (narrowA l lo hi lies).length, .sl 33 0 (narrowB l lo hi lies).length, iv (narrowE l lo hi lies)]) [(30, .cells 3 1 ((narrowA l lo hi lies).map ci) true), (33, .cells 3 1 ((narrowB l lo hi lies).map ci) true)] false := by
  refine fc_run (nt := 89) Try.func22 rfl rfl mcOk22 (Nat.le_of_ble_eq_true rfl) ?_
  delta mc22
  refine aw_seq ?_
  refine aw_reg ?_
  refine rs_mv rfl rfl ?_
  refine rs_mv rfl rfl ?_
  refine rs_mv rfl rfl ?_
  refine rs_nil fun _ => ?_
  refine th_n ?_
  refine aw_seq ?_
  refine aw_reg ?_
  refine rs_mv rfl rfl ?_
  refine rs_mv rfl rfl ?_
  refine rs_mv rfl rfl ?_
  refine rs_mv rfl rfl ?_
  refine rs_calln [] rfl rfl (fc20 l lo hi lies) (.cons (hv_same rfl) (.cons (hv_same rfl) (.cons (hv_same rfl) (.cons (hv_same rfl) (.nil))))) rfl ?_
  refine rs_mv rfl rfl ?_
  refine rs_nil fun _ => ?_
  refine th_n ?_
  refine aw_seq ?_
  refine aw_seq ?_
  refine aw_reg ?_
  refine rs_mv rfl rfl ?_
  refine rs_neq rfl rfl rfl ?_
  refine rs_nil fun _ => ?_
  refine th_n ?_
  refine aw_cond rfl (fun h26 => ?_) (fun h26 => ?_)
  · first | replace h26 := of_decide_eq_true h26 | skip
    refine aw_seq ?_
    refine aw_reg ?_
    refine rs_mv rfl rfl ?_
    refine rs_mv rfl rfl ?_
    refine rs_mv rfl rfl ?_
    refine rs_mv rfl rfl ?_
    refine rs_nil fun _ => ?_
    refine th_n ?_
    first | refine aw_weak (F0 := [(8, .nils), (9, .nils), (10, iv (checkS l lo hi lies))]) (H0 := []) (weak_to (.cons rfl (rc_same rfl (.inl rfl)) (.cons rfl (rc_same rfl (.inl rfl)) (.cons rfl (rc_same rfl (.inl rfl)) (.nil)))) .nil (fun i h => by cases h)) ?_ | refine aw_weak (F0 := [(8, .nils), (9, .nils), (10, iv 21)]) (H0 := []) (weak_to (.cons rfl (rc_same rfl (.inl rfl)) (.cons rfl (rc_same rfl (.inl rfl)) (.cons rfl (rc_same rfl (.inl rfl)) (.nil)))) .nil (fun i h => by cases h)) ?_ | skip
    refine aw_ret ?_
    refine th_r ?_
    first
      | (obtain ⟨e1, e2, e3⟩ := narrow_1 h26
         rw [e1, e2, e3]
         exact ret_new rfl (rc_tup (.cons (rc_virt rfl rfl) (.cons (rc_virt rfl rfl) (.cons (rc_same rfl (.inr rfl)) .nil)))) (.virt rfl (.virt rfl .nil)))
      | (obtain rfl : k = 256 := by omega
         have hcnt : (ex51 l lo hi lies).2 = 0 := by simpa [ex51] using h86
         obtain ⟨e1, e2, e3⟩ := narrow_2 (l := l) (lo := lo) (hi := hi) (lies := lies) h0 hcnt
         rw [e1, e2, e3]
         exact ret_new rfl (rc_tup (.cons (rc_virt rfl rfl) (.cons (rc_virt rfl rfl) (.cons (rc_same rfl (.inr rfl)) .nil)))) (.virt rfl (.virt rfl .nil)))
      | (obtain rfl : k = 256 := by omega
         have hcnt : (ex51 l lo hi lies).2 ≠ 0 := by simpa [ex51] using h86
         obtain ⟨e1, e2, e3⟩ := narrow_3 (l := l) (lo := lo) (hi := hi) (lies := lies) h0 hcnt
         have e4 := ex51_len (l := l) (lies := lies) h2
         rw [e1, e2, e3, e4.1, e4.2]
         exact ret_new rfl (rc_same rfl (.inr rfl)) (.keep rfl rfl (noROE_map (fun _ => rfl) _) (.keep rfl rfl (noROE_map (fun _ => rfl) _) .nil)))
  · first | replace h26 := of_decide_eq_false h26 | skip
    refine aw_skip ?_
    refine th_n ?_
    refine aw_seq ?_
    refine aw_reg ?_
    have h0 : checkS l lo hi lies = 0 := by omega
    obtain ⟨hl, h2, h6, hls, hr⟩ := check_ok h0
    refine rs_bslice rfl rfl rfl rfl rfl rfl ?_
    refine rs_mv rfl rfl ?_
    refine rs_app_e (ys := hi) (n := lo.length) (f := ci) (rd := []) rfl rfl rfl rfl rfl rfl rfl (by simp) (fun _ => rfl) h2 (by omega) (by omega) flat_ci ?_
    refine rs_mv rfl rfl ?_
    refine rs_nil fun _ => ?_
    refine th_n ?_
    refine aw_seq ?_
    refine aw_reg ?_
    refine rs_bslice rfl rfl rfl rfl rfl rfl ?_
    refine rs_mv rfl rfl ?_
    refine rs_app_e (ys := lo) (n := lo.length) (f := ci) (rd := []) rfl rfl rfl rfl rfl rfl rfl (by simp) (fun _ => rfl) rfl (by omega) (by omega) flat_ci ?_
    refine rs_mv rfl rfl ?_
    refine rs_nil fun _ => ?_
    refine th_n ?_
    refine aw_seq ?_
    refine aw_reg ?_
    refine rs_mv rfl rfl ?_
    refine rs_nil fun _ => ?_
    refine th_n ?_
    refine aw_seq ?_
    refine aw_seq ?_
    refine aw_reg ?_
    refine rs_mv rfl rfl ?_
    refine rs_nil fun _ => ?_
    refine th_n ?_
    refine aw_block ?_
    refine aw_fam (α := Nat) (fun k => 256 - k) (fun k => [(0, .rs 4 (l.map cR)), (1, ints lo), (2, ints hi), (3, .int .i64 lies), (12, .sl 30 0 lo.length), (13, .sl 33 0 lo.length), (14, .bool (decide ((exK l (ofS lo hi) lies lo.length (f51 lo.length) (hi, lo) (k)).2 ≠ 0))), (15, iv (((k) : Nat) : Int))]) (fun k => [(30, .cells 3 1 ((exK l (ofS lo hi) lies lo.length (f51 lo.length) (hi, lo) (k)).1.1.map ci) true), (33, .cells 3 1 ((exK l (ofS lo hi) lies lo.length (f51 lo.length) (hi, lo) (k)).1.2.map ci) true)]) (fun k => k ≤ 256) 0 (by omega)
      (weak_to (.cons rfl (rc_same rfl (.inl rfl)) (.cons rfl (rc_same rfl (.inl rfl)) (.cons rfl (rc_same rfl (.inl rfl)) (.cons rfl (rc_same rfl (.inl rfl)) (.cons rfl (rc_same rfl (.inl rfl)) (.cons rfl (rc_same rfl (.inl rfl)) (.cons rfl (rc_same rfl (.inl rfl)) (.cons rfl (rc_same rfl (.inl rfl)) (.nil))))))))) (.keep (rfl) rfl (.keep (rfl) rfl (.nil))) (fun i h => by cases h)) ?_
    intro k hk
    have hi51 := exK_inv l (ofS lo hi) lies lo.length (f51 lo.length) (hi, lo) k (fun s => s.1.length = lo.length ∧ s.2.length = lo.length) ⟨h2, rfl⟩ (fun s k y h _ => ⟨by simp [f51, minK, h.1], by simp [f51, maxK, h.2]⟩) hk
    have hlc : (lowL (withoutS l k (ofS lo hi)) lo.length).length = lo.length := by simp [lowL]
    have hld : (highL (withoutS l k (ofS lo hi)) lo.length).length = lo.length := by simp [highL]
    refine aw_seq ?_
    refine aw_seq ?_
    refine aw_reg ?_
    refine rs_mv rfl rfl ?_
    refine rs_lss rfl rfl rfl ?_
    refine rs_nil fun _ => ?_
    refine th_n ?_
    refine aw_cond rfl (fun h35 => ?_) (fun h35 => ?_)
    · first | replace h35 := of_decide_eq_true h35 | skip
      refine aw_skip ?_
      refine th_n ?_
      refine aw_seq ?_
      refine aw_block ?_
      refine aw_seq ?_
      refine aw_reg ?_
      refine rs_mv rfl rfl ?_
      refine rs_mv rfl rfl ?_
      refine rs_mv rfl rfl ?_
      refine rs_mv rfl rfl ?_
      refine rs_calln [] rfl rfl (fc52 l lo hi k lo.length rfl h2 h6 (by omega) (by omega) hr) (.cons (hv_same rfl) (.cons (hv_same rfl) (.cons (hv_same rfl) (.cons (hv_same rfl) (.nil))))) rfl ?_
      refine rs_mv rfl rfl ?_
      refine rs_ext rfl rfl rfl ?_
      refine rs_ext rfl rfl rfl ?_
      refine rs_ext rfl rfl rfl ?_
      refine rs_mv rfl rfl ?_
      refine rs_mv rfl rfl ?_
      refine rs_mv rfl rfl ?_
      refine rs_nil fun _ => ?_
      refine th_n ?_
      refine aw_seq ?_
      refine aw_seq ?_
      refine aw_reg ?_
      refine rs_mv rfl rfl ?_
      refine rs_calln [] rfl rfl (fc53 k (by omega)) (.cons (hv_same rfl) (.nil)) rfl ?_
      refine rs_mv rfl rfl ?_
      refine rs_cmp rfl rfl rfl rfl (fun h50 => ?_) (fun h50 => ?_)
      · skip
        refine rs_mv rfl rfl ?_
        refine rs_skip rfl ?_
        refine rs_skip rfl ?_
        refine rs_pick rfl rfl rfl ?_
        refine rs_nil fun _ => ?_
        refine th_n ?_
        refine aw_cond rfl (fun _ => ?_) (fun h => by cases h)
        refine aw_exit ?_
        refine th_e ?_
        refine in_hit ?_
        refine th_n ?_
        refine aw_reg ?_
        refine rs_mv rfl rfl ?_
        first | refine rs_add rfl rfl rfl (by omega) ?_ | refine rs_addw rfl rfl rfl rfl ?_
        refine rs_mv rfl rfl ?_
        refine rs_nil fun _ => ?_
        refine th_n ?_
        first
          | (have hs := exK_f1 l (ofS lo hi) lies lo.length (f51 lo.length) (hi, lo) k (by omega); exact ⟨k + 1, by omega, by omega, weak_to (.cons rfl (rc_same rfl (.inl rfl)) (.cons rfl (rc_same rfl (.inl rfl)) (.cons rfl (rc_same rfl (.inl rfl)) (.cons rfl (rc_same rfl (.inl rfl)) (.cons rfl (rc_same rfl (.inl rfl)) (.cons rfl (rc_same rfl (.inl rfl)) (.cons rfl (rc_eq (by (rw [hs]) <;> simp) rfl) (.cons rfl (rc_same rfl (.inl rfl)) (.nil))))))))) (.keep ((by (rw [hs]) <;> rfl)) rfl (.keep ((by (rw [hs]) <;> rfl)) rfl (.nil))) (fun i h => by cases h)⟩)
          | (have hs := exK_f2 l (ofS lo hi) lies lo.length (f51 lo.length) (hi, lo) k (by simpa using h54); exact ⟨k + 1, by omega, by omega, weak_to (.cons rfl (rc_same rfl (.inl rfl)) (.cons rfl (rc_same rfl (.inl rfl)) (.cons rfl (rc_same rfl (.inl rfl)) (.cons rfl (rc_same rfl (.inl rfl)) (.cons rfl (rc_same rfl (.inl rfl)) (.cons rfl (rc_same rfl (.inl rfl)) (.cons rfl (rc_eq (by (rw [hs]) <;> simp) rfl) (.cons rfl (rc_same rfl (.inl rfl)) (.nil))))))))) (.keep ((by (rw [hs]) <;> rfl)) rfl (.keep ((by (rw [hs]) <;> rfl)) rfl (.nil))) (fun i h => by cases h)⟩)
          | (obtain rfl : q = lo.length := by omega
             have hs := exK_t l (ofS lo hi) lies lo.length (f51 lo.length) (hi, lo) k (by omega) (by simpa using h54)
             exact ⟨k + 1, by omega, by omega, weak_to (.cons rfl (rc_same rfl (.inl rfl)) (.cons rfl (rc_same rfl (.inl rfl)) (.cons rfl (rc_same rfl (.inl rfl)) (.cons rfl (rc_same rfl (.inl rfl)) (.cons rfl (rc_same rfl (.inl rfl)) (.cons rfl (rc_same rfl (.inl rfl)) (.cons rfl (rc_eq (by (rw [hs]) <;> simp) rfl) (.cons rfl (rc_same rfl (.inl rfl)) (.nil))))))))) (.keep ((by (rw [hs]) <;> rfl)) rfl (.keep ((by (rw [hs]) <;> rfl)) rfl (.nil))) (fun i h => by cases h)⟩)
      · skip
        refine rs_mv rfl rfl ?_
        refine rs_mv rfl rfl ?_
        refine rs_not rfl rfl ?_
        refine rs_pick rfl rfl rfl ?_
        refine rs_nil fun _ => ?_
        refine th_n ?_
        refine aw_cond rfl (fun h54 => ?_) (fun h54 => ?_)
        · first | replace h54 := of_decide_eq_true h54 | skip
          refine aw_exit ?_
          refine th_e ?_
          refine in_hit ?_
          refine th_n ?_
          refine aw_reg ?_
          refine rs_mv rfl rfl ?_
          first | refine rs_add rfl rfl rfl (by omega) ?_ | refine rs_addw rfl rfl rfl rfl ?_
          refine rs_mv rfl rfl ?_
          refine rs_nil fun _ => ?_
          refine th_n ?_
          first
            | (have hs := exK_f1 l (ofS lo hi) lies lo.length (f51 lo.length) (hi, lo) k (by omega); exact ⟨k + 1, by omega, by omega, weak_to (.cons rfl (rc_same rfl (.inl rfl)) (.cons rfl (rc_same rfl (.inl rfl)) (.cons rfl (rc_same rfl (.inl rfl)) (.cons rfl (rc_same rfl (.inl rfl)) (.cons rfl (rc_same rfl (.inl rfl)) (.cons rfl (rc_same rfl (.inl rfl)) (.cons rfl (rc_eq (by (rw [hs]) <;> simp) rfl) (.cons rfl (rc_same rfl (.inl rfl)) (.nil))))))))) (.keep ((by (rw [hs]) <;> rfl)) rfl (.keep ((by (rw [hs]) <;> rfl)) rfl (.nil))) (fun i h => by cases h)⟩)
            | (have hs := exK_f2 l (ofS lo hi) lies lo.length (f51 lo.length) (hi, lo) k (by simpa using h54); exact ⟨k + 1, by omega, by omega, weak_to (.cons rfl (rc_same rfl (.inl rfl)) (.cons rfl (rc_same rfl (.inl rfl)) (.cons rfl (rc_same rfl (.inl rfl)) (.cons rfl (rc_same rfl (.inl rfl)) (.cons rfl (rc_same rfl (.inl rfl)) (.cons rfl (rc_same rfl (.inl rfl)) (.cons rfl (rc_eq (by (rw [hs]) <;> simp) rfl) (.cons rfl (rc_same rfl (.inl rfl)) (.nil))))))))) (.keep ((by (rw [hs]) <;> rfl)) rfl (.keep ((by (rw [hs]) <;> rfl)) rfl (.nil))) (fun i h => by cases h)⟩)
            | (obtain rfl : q = lo.length := by omega
               have hs := exK_t l (ofS lo hi) lies lo.length (f51 lo.length) (hi, lo) k (by omega) (by simpa using h54)
               exact ⟨k + 1, by omega, by omega, weak_to (.cons rfl (rc_same rfl (.inl rfl)) (.cons rfl (rc_same rfl (.inl rfl)) (.cons rfl (rc_same rfl (.inl rfl)) (.cons rfl (rc_same rfl (.inl rfl)) (.cons rfl (rc_same rfl (.inl rfl)) (.cons rfl (rc_same rfl (.inl rfl)) (.cons rfl (rc_eq (by (rw [hs]) <;> simp) rfl) (.cons rfl (rc_same rfl (.inl rfl)) (.nil))))))))) (.keep ((by (rw [hs]) <;> rfl)) rfl (.keep ((by (rw [hs]) <;> rfl)) rfl (.nil))) (fun i h => by cases h)⟩)
        · first | replace h54 := of_decide_eq_false h54 | skip
          refine aw_skip ?_
          refine th_n ?_
          refine aw_seq ?_
          refine aw_reg ?_
          refine rs_mv rfl rfl ?_
          refine rs_nil fun _ => ?_
          refine th_n ?_
          refine aw_seq ?_
          refine aw_reg ?_
          refine rs_mv rfl rfl ?_
          refine rs_nil fun _ => ?_
          refine th_n ?_
          refine aw_block ?_
          have hem : emptyS (withoutS l k (ofS lo hi)) lo.length = false := by simpa using h54
          have hlow : lowR (withoutS l k (ofS lo hi)) lo.length = lowL (withoutS l k (ofS lo hi)) lo.length := by simp [lowR, hem]
          have hhigh : highR (withoutS l k (ofS lo hi)) lo.length = highL (withoutS l k (ofS lo hi)) lo.length := by simp [highR, hem]
          refine aw_fam (α := Nat) (fun q => lo.length - q) (fun q => [(0, .rs 4 (l.map cR)), (1, ints lo), (2, ints hi), (3, .int .i64 lies), (12, .sl 30 0 lo.length), (13, .sl 33 0 lo.length), (14, .bool true), (15, iv (k : Int)), (16, .sl 17 0 lo.length), (17, .sl 20 0 lo.length), (19, iv (((q) : Nat) : Int))]) (fun q => [(30, .cells 3 1 ((minK (exK l (ofS lo hi) lies lo.length (f51 lo.length) (hi, lo) (k)).1.1 (withoutS l k (ofS lo hi)) (q)).map ci) true), (33, .cells 3 1 ((maxK (exK l (ofS lo hi) lies lo.length (f51 lo.length) (hi, lo) (k)).1.2 (withoutS l k (ofS lo hi)) (q)).map ci) true), (17, .cells 3 1 ((lowL (withoutS l k (ofS lo hi)) lo.length).map ci) true), (20, .cells 3 1 ((highL (withoutS l k (ofS lo hi)) lo.length).map ci) true)]) (fun q => q ≤ lo.length) 0 (by omega)
            (weak_to (.cons rfl (rc_same rfl (.inl rfl)) (.cons rfl (rc_same rfl (.inl rfl)) (.cons rfl (rc_same rfl (.inl rfl)) (.cons rfl (rc_same rfl (.inl rfl)) (.cons rfl (rc_same rfl (.inl rfl)) (.cons rfl (rc_same rfl (.inl rfl)) (.cons rfl (rc_same rfl (.inl rfl)) (.cons rfl (rc_same rfl (.inl rfl)) (.cons rfl (rc_eq (by rw [hlow, hlc]) rfl) (.cons rfl (rc_eq (by rw [hhigh, hld]) rfl) (.cons rfl (rc_same rfl (.inl rfl)) (.nil)))))))))))) (.keep ((by (rw [minK_0]) <;> rfl)) rfl (.keep ((by (rw [maxK_0]) <;> rfl)) rfl (.keep ((by (rw [← hlow]) <;> rfl)) rfl (.keep ((by (rw [← hhigh]) <;> rfl)) rfl (.nil))))) (fun i h => by cases h)) ?_
          intro q hq
          have hla : (minK (exK l (ofS lo hi) lies lo.length (f51 lo.length) (hi, lo) (k)).1.1 (withoutS l k (ofS lo hi)) q).length = lo.length := by simp [minK, hi51.1]
          have hlb : (maxK (exK l (ofS lo hi) lies lo.length (f51 lo.length) (hi, lo) (k)).1.2 (withoutS l k (ofS lo hi)) q).length = lo.length := by simp [maxK, hi51.2]
          refine aw_seq ?_
          refine aw_seq ?_
          refine aw_reg ?_
          refine rs_mv rfl rfl ?_
          refine rs_mv rfl rfl ?_
          first | refine rs_len_m rfl rfl ?_ | refine rs_len_s rfl rfl ?_ | refine rs_len_n rfl rfl ?_ | refine rs_len_r rfl rfl rfl ?_
          refine rs_lss rfl rfl rfl ?_
          refine rs_nil fun _ => ?_
          refine th_n ?_
          refine aw_cond rfl (fun h58 => ?_) (fun h58 => ?_)
          · first | replace h58 := of_decide_eq_true h58 | skip
            refine aw_skip ?_
            refine th_n ?_
            refine aw_seq ?_
            refine aw_block ?_
            refine aw_seq ?_
            refine aw_draw hmix ?_
            refine rs_mv rfl rfl ?_
            refine rs_mv rfl rfl ?_
            refine rs_mv rfl rfl ?_
            refine rs_mv rfl rfl ?_
            have ea : (lowL (withoutS l k (ofS lo hi)) lo.length)[q]'(by rw [hlc]; omega) = (withoutS l k (ofS lo hi)).getD q 0 := by simp [lowL]
            have eb : (highL (withoutS l k (ofS lo hi)) lo.length)[q]'(by rw [hld]; omega) = (withoutS l k (ofS lo hi)).getD (6 + q) 0 := by simp [highL]
            refine rs_ix_sm (t := q) rfl rfl rfl rfl (by omega) ?_
            refine rs_ld_m rfl rfl rfl (by rw [hla]; omega) rfl ?_
            refine rs_mv rfl rfl ?_
            refine rs_mv rfl rfl ?_
            refine rs_ix_sm (t := q) rfl rfl rfl rfl (by omega) ?_
            refine rs_ld_m rfl rfl rfl (by rw [hlc]; omega) rfl ?_
            refine rs_mn rfl rfl rfl rfl ?_
            refine rs_ix_sm (t := q) rfl rfl rfl rfl (by omega) ?_
            refine rs_st_m (fl' := true) rfl rfl rfl rfl (by rw [hla]; omega) rfl rfl (Nat.le_of_ble_eq_true rfl) rfl rfl ?_
            refine rs_nil ⟨by kernel_rfl, fun _ => ?_⟩
            refine th_n ?_
            refine aw_draw hmix ?_
            refine rs_mv rfl rfl ?_
            refine rs_mv rfl rfl ?_
            refine rs_mv rfl rfl ?_
            refine rs_mv rfl rfl ?_
            refine rs_ix_sm (t := q) rfl rfl rfl rfl (by omega) ?_
            refine rs_ld_m rfl rfl rfl (by rw [hlb]; omega) rfl ?_
            refine rs_mv rfl rfl ?_
            refine rs_mv rfl rfl ?_
            refine rs_ix_sm (t := q) rfl rfl rfl rfl (by omega) ?_
            refine rs_ld_m rfl rfl rfl (by rw [hld]; omega) rfl ?_
            refine rs_mx rfl rfl rfl rfl ?_
            refine rs_ix_sm (t := q) rfl rfl rfl rfl (by omega) ?_
            refine rs_st_m (fl' := true) rfl rfl rfl rfl (by rw [hlb]; omega) rfl rfl (Nat.le_of_ble_eq_true rfl) rfl rfl ?_
            refine rs_nil ⟨by kernel_rfl, fun _ => ?_⟩
            refine in_n ?_
            refine th_n ?_
            refine aw_reg ?_
            refine rs_mv rfl rfl ?_
            first | refine rs_add rfl rfl rfl (by omega) ?_ | refine rs_addw rfl rfl rfl rfl ?_
            refine rs_mv rfl rfl ?_
            refine rs_nil fun _ => ?_
            refine th_n ?_
            refine ⟨q + 1, by omega, by omega, ?_⟩
            exact weak_to (.cons rfl (rc_same rfl (.inl rfl)) (.cons rfl (rc_same rfl (.inl rfl)) (.cons rfl (rc_same rfl (.inl rfl)) (.cons rfl (rc_same rfl (.inl rfl)) (.cons rfl (rc_same rfl (.inl rfl)) (.cons rfl (rc_same rfl (.inl rfl)) (.cons rfl (rc_same rfl (.inl rfl)) (.cons rfl (rc_same rfl (.inl rfl)) (.cons rfl (rc_same rfl (.inl rfl)) (.cons rfl (rc_same rfl (.inl rfl)) (.cons rfl (rc_same rfl (.inl rfl)) (.nil)))))))))))) (.keep ((by (rw [← minK_set _ _ q (by omega), ← ea]) <;> rfl)) rfl (.keep ((by (rw [← maxK_set _ _ q (by omega), ← eb]) <;> rfl)) rfl (.keep (rfl) rfl (.keep (rfl) rfl (.nil))))) (fun i h => by cases h)
          · first | replace h58 := of_decide_eq_false h58 | skip
            refine aw_exit ?_
            refine th_e ?_
            refine th_e ?_
            refine in_hit ?_
            refine in_n ?_
            refine th_n ?_
            refine aw_reg ?_
            refine rs_mv rfl rfl ?_
            first | refine rs_add rfl rfl rfl (by omega) ?_ | refine rs_addw rfl rfl rfl rfl ?_
            refine rs_mv rfl rfl ?_
            refine rs_nil fun _ => ?_
            refine th_n ?_
            first
              | (have hs := exK_f1 l (ofS lo hi) lies lo.length (f51 lo.length) (hi, lo) k (by omega); exact ⟨k + 1, by omega, by omega, weak_to (.cons rfl (rc_same rfl (.inl rfl)) (.cons rfl (rc_same rfl (.inl rfl)) (.cons rfl (rc_same rfl (.inl rfl)) (.cons rfl (rc_same rfl (.inl rfl)) (.cons rfl (rc_same rfl (.inl rfl)) (.cons rfl (rc_same rfl (.inl rfl)) (.cons rfl (rc_eq (by (rw [hs]) <;> simp) rfl) (.cons rfl (rc_same rfl (.inl rfl)) (.nil))))))))) (.keep ((by (rw [hs]) <;> rfl)) rfl (.keep ((by (rw [hs]) <;> rfl)) rfl (.nil))) (fun i h => by cases h)⟩)
              | (have hs := exK_f2 l (ofS lo hi) lies lo.length (f51 lo.length) (hi, lo) k (by simpa using h54); exact ⟨k + 1, by omega, by omega, weak_to (.cons rfl (rc_same rfl (.inl rfl)) (.cons rfl (rc_same rfl (.inl rfl)) (.cons rfl (rc_same rfl (.inl rfl)) (.cons rfl (rc_same rfl (.inl rfl)) (.cons rfl (rc_same rfl (.inl rfl)) (.cons rfl (rc_same rfl (.inl rfl)) (.cons rfl (rc_eq (by (rw [hs]) <;> simp) rfl) (.cons rfl (rc_same rfl (.inl rfl)) (.nil))))))))) (.keep ((by (rw [hs]) <;> rfl)) rfl (.keep ((by (rw [hs]) <;> rfl)) rfl (.nil))) (fun i h => by cases h)⟩)
              | (obtain rfl : q = lo.length := by omega
                 have hs := exK_t l (ofS lo hi) lies lo.length (f51 lo.length) (hi, lo) k (by omega) (by simpa using h54)
                 exact ⟨k + 1, by omega, by omega, weak_to (.cons rfl (rc_same rfl (.inl rfl)) (.cons rfl (rc_same rfl (.inl rfl)) (.cons rfl (rc_same rfl (.inl rfl)) (.cons rfl (rc_same rfl (.inl rfl)) (.cons rfl (rc_same rfl (.inl rfl)) (.cons rfl (rc_same rfl (.inl rfl)) (.cons rfl (rc_eq (by (rw [hs]) <;> simp) rfl) (.cons rfl (rc_same rfl (.inl rfl)) (.nil))))))))) (.keep ((by (rw [hs]) <;> rfl)) rfl (.keep ((by (rw [hs]) <;> rfl)) rfl (.nil))) (fun i h => by cases h)⟩)
    · first | replace h35 := of_decide_eq_false h35 | skip
      refine aw_exit ?_
      refine th_e ?_
      refine th_e ?_
      refine in_hit ?_
      refine th_n ?_
      refine aw_seq ?_
      refine aw_seq ?_
      refine aw_reg ?_
      refine rs_mv rfl rfl ?_
      refine rs_not rfl rfl ?_
      refine rs_nil fun _ => ?_
      refine th_n ?_
      refine aw_cond rfl (fun h86 => ?_) (fun h86 => ?_)
      · first | replace h86 := of_decide_eq_true h86 | skip
        refine aw_seq ?_
        refine aw_reg ?_
        refine rs_mv rfl rfl ?_
        refine rs_mv rfl rfl ?_
        refine rs_mv rfl rfl ?_
        refine rs_nil fun _ => ?_
        refine th_n ?_
        first | refine aw_weak (F0 := [(8, .nils), (9, .nils), (10, iv (checkS l lo hi lies))]) (H0 := []) (weak_to (.cons rfl (rc_same rfl (.inl rfl)) (.cons rfl (rc_same rfl (.inl rfl)) (.cons rfl (rc_same rfl (.inl rfl)) (.nil)))) .nil (fun i h => by cases h)) ?_ | refine aw_weak (F0 := [(8, .nils), (9, .nils), (10, iv 21)]) (H0 := []) (weak_to (.cons rfl (rc_same rfl (.inl rfl)) (.cons rfl (rc_same rfl (.inl rfl)) (.cons rfl (rc_same rfl (.inl rfl)) (.nil)))) .nil (fun i h => by cases h)) ?_ | skip
        refine aw_ret ?_
        refine th_r ?_
        first
          | (obtain ⟨e1, e2, e3⟩ := narrow_1 h26
             rw [e1, e2, e3]
             exact ret_new rfl (rc_tup (.cons (rc_virt rfl rfl) (.cons (rc_virt rfl rfl) (.cons (rc_same rfl (.inr rfl)) .nil)))) (.virt rfl (.virt rfl .nil)))
          | (obtain rfl : k = 256 := by omega
             have hcnt : (ex51 l lo hi lies).2 = 0 := by simpa [ex51] using h86
             obtain ⟨e1, e2, e3⟩ := narrow_2 (l := l) (lo := lo) (hi := hi) (lies := lies) h0 hcnt
             rw [e1, e2, e3]
             exact ret_new rfl (rc_tup (.cons (rc_virt rfl rfl) (.cons (rc_virt rfl rfl) (.cons (rc_same rfl (.inr rfl)) .nil)))) (.virt rfl (.virt rfl .nil)))
          | (obtain rfl : k = 256 := by omega
             have hcnt : (ex51 l lo hi lies).2 ≠ 0 := by simpa [ex51] using h86
             obtain ⟨e1, e2, e3⟩ := narrow_3 (l := l) (lo := lo) (hi := hi) (lies := lies) h0 hcnt
             have e4 := ex51_len (l := l) (lies := lies) h2
             rw [e1, e2, e3, e4.1, e4.2]
             exact ret_new rfl (rc_same rfl (.inr rfl)) (.keep rfl rfl (noROE_map (fun _ => rfl) _) (.keep rfl rfl (noROE_map (fun _ => rfl) _) .nil)))
      · first | replace h86 := of_decide_eq_false h86 | skip
        refine aw_skip ?_
        refine th_n ?_
        refine aw_seq ?_
        refine aw_reg ?_
        refine rs_mv rfl rfl ?_
        refine rs_mv rfl rfl ?_
        refine rs_mv rfl rfl ?_
        refine rs_mv rfl rfl ?_
        refine rs_mv rfl rfl ?_
        refine rs_nil fun _ => ?_
        refine th_n ?_
        first | refine aw_weak (F0 := [(8, .nils), (9, .nils), (10, iv (checkS l lo hi lies))]) (H0 := []) (weak_to (.cons rfl (rc_same rfl (.inl rfl)) (.cons rfl (rc_same rfl (.inl rfl)) (.cons rfl (rc_same rfl (.inl rfl)) (.nil)))) .nil (fun i h => by cases h)) ?_ | refine aw_weak (F0 := [(8, .nils), (9, .nils), (10, iv 21)]) (H0 := []) (weak_to (.cons rfl (rc_same rfl (.inl rfl)) (.cons rfl (rc_same rfl (.inl rfl)) (.cons rfl (rc_same rfl (.inl rfl)) (.nil)))) .nil (fun i h => by cases h)) ?_ | skip
        refine aw_ret ?_
        first
          | (obtain ⟨e1, e2, e3⟩ := narrow_1 h26
             rw [e1, e2, e3]
             exact ret_new rfl (rc_tup (.cons (rc_virt rfl rfl) (.cons (rc_virt rfl rfl) (.cons (rc_same rfl (.inr rfl)) .nil)))) (.virt rfl (.virt rfl .nil)))
          | (obtain rfl : k = 256 := by omega
             have hcnt : (ex51 l lo hi lies).2 = 0 := by simpa [ex51] using h86
             obtain ⟨e1, e2, e3⟩ := narrow_2 (l := l) (lo := lo) (hi := hi) (lies := lies) h0 hcnt
             rw [e1, e2, e3]
             exact ret_new rfl (rc_tup (.cons (rc_virt rfl rfl) (.cons (rc_virt rfl rfl) (.cons (rc_same rfl (.inr rfl)) .nil)))) (.virt rfl (.virt rfl .nil)))
          | (obtain rfl : k = 256 := by omega
             have hcnt : (ex51 l lo hi lies).2 ≠ 0 := by simpa [ex51] using h86
             obtain ⟨e1, e2, e3⟩ := narrow_3 (l := l) (lo := lo) (hi := hi) (lies := lies) h0 hcnt
             have e4 := ex51_len (l := l) (lies := lies) h2
             rw [e1, e2, e3, e4.1, e4.2]
             exact ret_new rfl (rc_same rfl (.inr rfl)) (.keep rfl rfl (noROE_map (fun _ => rfl) _) (.keep rfl rfl (noROE_map (fun _ => rfl) _) .nil)))

def mc25 : MC := (.seq (.reg [⟨(some 8), (.mv (.c .nils)), none, []⟩, ⟨(some 9), (.mv (.c (.int .i64 0))), none, [0]⟩] false) (.seq (.reg [⟨(some 19), (.mv (.t 0)), none, []⟩, ⟨(some 20), (.mv (.t 1)), none, []⟩, ⟨(some 21), (.mv (.t 2)), none, []⟩, ⟨(some 22), (.mv (.t 3)), none, []⟩, ⟨(some 23), (.call 20 [(.t 19), (.t 20), (.t 21), (.t 22)]), none, [0, 1, 2, 3]⟩, ⟨(some 10), (.mv (.t 23)), none, [4, 4, 0, 1, 2, 3, 4]⟩] false) (.seq (.seq (.reg [⟨(some 24), (.mv (.t 10)), none, []⟩, ⟨(some 25), (.bin .neq (.t 24) (.c (.int .i64 0))), none, [0]⟩] false) (.cond (.t 25) (.seq (.reg [⟨(some 26), (.mv (.t 10)), none, []⟩, ⟨(some 8), (.mv (.c .nils)), none, []⟩, ⟨(some 9), (.mv (.t 26)), none, [0, 1, 0, 1]⟩] false) .ret) .skip)) (.seq (.reg [⟨(some 11), (.mv (.c (.int .i64 255))), none, []⟩] false) (.seq (.reg [⟨(some 12), (.mv (.c (.bool false))), none, []⟩] false) (.seq (.seq (.reg [⟨(some 13), (.mv (.c (.int .i64 0))), none, []⟩] false) (.block 0 (.loop (.seq (.seq (.reg [⟨(some 27), (.mv (.t 13)), none, []⟩, ⟨(some 28), (.bin .lss (.t 27) (.c (.int .i64 256))), none, [0]⟩] false) (.cond (.t 28) .skip (.exit 0))) (.seq (.block 1 (.seq (.reg [⟨(some 32), (.mv (.t 0)), none, []⟩, ⟨(some 33), (.mv (.t 1)), none, []⟩, ⟨(some 34), (.mv (.t 2)), none, []⟩, ⟨(some 35), (.mv (.t 13)), none, []⟩, ⟨(some 36), (.call 52 [(.t 32), (.t 33), (.t 34), (.t 35)]), none, [0, 1, 2, 3]⟩, ⟨(some 31), (.mv (.t 36)), none, [4]⟩, ⟨(some 37), (.ext (.t 31) 0), none, [5]⟩, ⟨(some 38), (.ext (.t 31) 1), none, [5]⟩, ⟨(some 39), (.ext (.t 31) 2), none, [5]⟩, ⟨(some 14), (.mv (.t 37)), none, [6, 4, 0, 1, 2, 3, 4, 5, 6]⟩, ⟨(some 15), (.mv (.t 38)), none, [7, 9, 0, 1, 2, 3, 4, 5, 6, 7, 9]⟩, ⟨(some 16), (.mv (.t 39)), none, [8, 10, 0, 1, 2, 3, 4, 5, 6, 7, 8, 9, 10]⟩] false) (.seq (.reg [⟨(some 40), (.mv (.t 13)), none, []⟩, ⟨(some 41), (.call 53 [(.t 40)]), none, [0]⟩, ⟨(some 42), (.mv (.t 3)), none, []⟩, ⟨(some 43), (.bin .leq (.t 41) (.t 42)), none, [1, 2]⟩, ⟨(some 44), (.mv (.t 43)), none, [3, 1]⟩, ⟨(some 45), (.mv (.t 16)), (some (44, true)), [4]⟩, ⟨(some 46), (.pick (.t 44) (.t 45) (.c (.bool false))), none, [4, 5]⟩] false) (.cond (.t 46) (.seq (.reg [⟨(some 12), (.mv (.c (.bool true))), none, []⟩] false) (.reg [⟨(some 47), (.mv (.t 11)), none, []⟩, ⟨(some 48), (.mv (.t 13)), none, []⟩, ⟨(some 49), (.bin .and (.t 47) (.t 48)), none, [0, 1]⟩, ⟨(some 11), (.mv (.t 49)), none, [2, 0, 1, 2]⟩] false)) .skip)))) (.reg [⟨(some 29), (.mv (.t 13)), none, []⟩, ⟨(some 30), (.bin .add (.t 29) (.c (.int .i64 1))), none, [0]⟩, ⟨(some 13), (.mv (.t 30)), none, [1, 0, 1]⟩] false)))))) (.seq (.seq (.reg [⟨(some 50), (.mv (.t 12)), none, []⟩, ⟨(some 51), (.un .not (.t 50)), none, [0]⟩] false) (.cond (.t 51) (.seq (.reg [⟨(some 8), (.mv (.c .nils)), none, []⟩, ⟨(some 9), (.mv (.c (.int .i64 21))), none, [0, 0]⟩] false) .ret) .skip)) (.seq (.reg [⟨(some 17), (.mv (.c .nils)), none, []⟩] false) (.seq (.seq (.reg [⟨(some 18), (.mv (.c (.int .i64 0))), none, []⟩] false) (.block 2 (.loop (.seq (.seq (.reg [⟨(some 52), (.mv (.t 18)), none, []⟩, ⟨(some 53), (.bin .lss (.t 52) (.c (.int .i64 8))), none, [0]⟩] false) (.cond (.t 53) .skip (.exit 2))) (.seq (.block 3 (.seq (.reg [⟨(some 56), (.mv (.t 11)), none, []⟩, ⟨(some 57), (.mv (.t 18)), none, []⟩, ⟨(some 58), (.call 55 [(.t 56), (.t 57)]), none, [0, 1]⟩] false) (.cond (.t 58) (.reg [⟨(some 59), (.mv (.t 17)), none, []⟩, ⟨(some 60), (.mv (.t 18)), none, []⟩, ⟨(some 61), (.bslice 3 1 [(.int .i64 0)] 1 [(0, (.t 60))]), none, [1]⟩, ⟨(some 62), (.app 3 1 8 [(.int .i64 0)] (.t 59) (.t 61)), none, [0, 2]⟩, ⟨(some 17), (.mv (.t 62)), none, [3, 3, 0, 1, 2, 3]⟩] false) .skip))) (.reg [⟨(some 54), (.mv (.t 18)), none, []⟩, ⟨(some 55), (.bin .add (.t 54) (.c (.int .i64 1))), none, [0]⟩, ⟨(some 18), (.mv (.t 55)), none, [1, 0, 1]⟩] false)))))) (.seq (.reg [⟨(some 63), (.mv (.t 17)), none, []⟩, ⟨(some 8), (.mv (.t 63)), none, [0, 0]⟩, ⟨(some 9), (.mv (.c (.int .i64 0))), none, [1, 0, 1]⟩] false) .ret))))))))))
theorem mcOk25 : (match Try.f25.body with | some c => compC Try.prog 64 c | none => none) = some mc25 := by kernel_rfl

theorem fc25 (l : List Rd) (lo hi : List Int) (lies : Int) : FC Try.prog 25 [.rs 4 (l.map cR), ints lo, ints hi, .int .i64 lies] [] (.tup [.sl 1012 0 (liarsL l lo hi lies).length, iv (liarsE l lo hi lies)]) [(1012, .cells 3 1 ((liarsL l lo hi lies).map ci) true)] false := by
  refine fc_run (nt := 64) Try.func25 rfl rfl mcOk25 (Nat.le_of_ble_eq_true rfl) ?_
  delta mc25
  refine aw_seq ?_
  refine aw_reg ?_
  refine rs_mv rfl rfl ?_
  refine rs_mv rfl rfl ?_
  refine rs_nil fun _ => ?_
  refine th_n ?_
  refine aw_seq ?_
  refine aw_reg ?_
  refine rs_mv rfl rfl ?_
  refine rs_mv rfl rfl ?_
  refine rs_mv rfl rfl ?_
  refine rs_mv rfl rfl ?_
  refine rs_calln [] rfl rfl (fc20 l lo hi lies) (.cons (hv_same rfl) (.cons (hv_same rfl) (.cons (hv_same rfl) (.cons (hv_same rfl) (.nil))))) rfl ?_
  refine rs_mv rfl rfl ?_
  refine rs_nil fun _ => ?_
  refine th_n ?_
  refine aw_seq ?_
  refine aw_seq ?_
  refine aw_reg ?_
  refine rs_mv rfl rfl ?_
  refine rs_neq rfl rfl rfl ?_
  refine rs_nil fun _ => ?_
  refine th_n ?_
  refine aw_cond rfl (fun h25 => ?_) (fun h25 => ?_)
  · first | replace h25 := of_decide_eq_true h25 | skip
    refine aw_seq ?_
    refine aw_reg ?_
    refine rs_mv rfl rfl ?_
    refine rs_mv rfl rfl ?_
    refine rs_mv rfl rfl ?_
    refine rs_nil fun _ => ?_
    refine th_n ?_
    refine aw_ret ?_
    refine th_r ?_
    first
      | (obtain ⟨e1, e2⟩ := liars_1 h25
         rw [e1, e2]
         exact ret_new rfl (rc_tup (.cons (rc_virt rfl rfl) (.cons (rc_same rfl (.inr rfl)) .nil))) (.virt rfl .nil))
      | (have hcnt : (ex54 l lo hi lies).2 = 0 := by
           obtain rfl : k = 256 := by omega
           simpa [ex54] using h51
         obtain ⟨e1, e2⟩ := liars_2 (l := l) (lo := lo) (hi := hi) (lies := lies) h0 hcnt
         rw [e1, e2]
         exact ret_new rfl (rc_tup (.cons (rc_virt rfl rfl) (.cons (rc_same rfl (.inr rfl)) .nil))) (.virt rfl .nil))
      | (obtain ⟨e1, e2⟩ := liars_3 (l := l) (lo := lo) (hi := hi) (lies := lies) h0 hcnt
         obtain rfl : q = 8 := by omega
         rw [e1, e2]
         exact ret_new rfl (rc_same rfl (.inr rfl)) (.keep rfl rfl (noROE_map (fun _ => rfl) _) .nil))
  · first | replace h25 := of_decide_eq_false h25 | skip
    refine aw_skip ?_
    refine th_n ?_
    refine aw_seq ?_
    refine aw_reg ?_
    
    refine rs_mv rfl rfl ?_
    refine rs_nil fun _ => ?_
    refine th_n ?_
    refine aw_seq ?_
    refine aw_reg ?_
    refine rs_mv rfl rfl ?_
    refine rs_nil fun _ => ?_
    refine th_n ?_
    refine aw_seq ?_
    refine aw_seq ?_
    refine aw_reg ?_
    refine rs_mv rfl rfl ?_
    refine rs_nil fun _ => ?_
    refine th_n ?_
    refine aw_block ?_
    have h0 : checkS l lo hi lies = 0 := by omega
    obtain ⟨hl, h2, h6, hls, hr⟩ := check_ok h0
    refine aw_fam (α := Nat) (fun k => 256 - k) (fun k => [(0, .rs 4 (l.map cR)), (1, ints lo), (2, ints hi), (3, .int .i64 lies), (11, iv (((exK l (ofS lo hi) lies lo.length f54 255 (k)).1 : Nat) : Int)), (12, .bool (decide ((exK l (ofS lo hi) lies lo.length f54 255 (k)).2 ≠ 0))), (13, iv (((k) : Nat) : Int))]) (fun k => []) (fun k => k ≤ 256) 0 (by omega)
      (weak_to (.cons rfl (rc_same rfl (.inl rfl)) (.cons rfl (rc_same rfl (.inl rfl)) (.cons rfl (rc_same rfl (.inl rfl)) (.cons rfl (rc_same rfl (.inl rfl)) (.cons rfl (rc_same rfl (.inl rfl)) (.cons rfl (rc_same rfl (.inl rfl)) (.cons rfl (rc_same rfl (.inl rfl)) (.nil)))))))) (.nil) (fun i h => by cases h)) ?_
    intro k hk
    have hi54 := exK_inv l (ofS lo hi) lies lo.length f54 255 k (fun s => s < 256) (by decide) (fun s k y h _ => Nat.lt_of_le_of_lt Nat.and_le_left h) hk
    refine aw_seq ?_
    refine aw_seq ?_
    refine aw_reg ?_
    
    refine rs_mv rfl rfl ?_
    refine rs_lss rfl rfl rfl ?_
    refine rs_nil fun _ => ?_
    refine th_n ?_
    refine aw_cond rfl (fun h28 => ?_) (fun h28 => ?_)
    · first | replace h28 := of_decide_eq_true h28 | skip
      refine aw_skip ?_
      refine th_n ?_
      refine aw_seq ?_
      refine aw_block ?_
      refine aw_seq ?_
      refine aw_reg ?_
      refine rs_mv rfl rfl ?_
      refine rs_mv rfl rfl ?_
      refine rs_mv rfl rfl ?_
      refine rs_mv rfl rfl ?_
      refine rs_calln [] rfl rfl (fc52 l lo hi k lo.length rfl h2 h6 (by omega) (by omega) hr) (.cons (hv_same rfl) (.cons (hv_same rfl) (.cons (hv_same rfl) (.cons (hv_same rfl) (.nil))))) rfl ?_
      refine rs_mv rfl rfl ?_
      refine rs_ext rfl rfl rfl ?_
      refine rs_ext rfl rfl rfl ?_
      refine rs_ext rfl rfl rfl ?_
      refine rs_mv rfl rfl ?_
      refine rs_mv rfl rfl ?_
      refine rs_mv rfl rfl ?_
      refine rs_nil fun _ => ?_
      refine th_n ?_
      refine aw_seq ?_
      refine aw_reg ?_
      refine rs_mv rfl rfl ?_
      refine rs_calln [] rfl rfl (fc53 k (by omega)) (.cons (hv_same rfl) (.nil)) rfl ?_
      refine rs_mv rfl rfl ?_
      refine rs_cmp rfl rfl rfl rfl (fun h43 => ?_) (fun h43 => ?_)
      · skip
        refine rs_mv rfl rfl ?_
        refine rs_mv rfl rfl ?_
        refine rs_pick rfl rfl rfl ?_
        refine rs_nil fun _ => ?_
        refine th_n ?_
        refine aw_cond rfl (fun h46 => ?_) (fun h46 => ?_)
        · first | replace h46 := of_decide_eq_true h46 | skip
          refine aw_seq ?_
          refine aw_reg ?_
          refine rs_mv rfl rfl ?_
          refine rs_nil fun _ => ?_
          refine th_n ?_
          refine aw_reg ?_
          refine rs_mv rfl rfl ?_
          refine rs_mv rfl rfl ?_
          refine rs_and rfl rfl rfl (and_i64 _ hi54 k (by omega)) ?_
          
          refine rs_mv rfl rfl ?_
          refine rs_nil fun _ => ?_
          refine in_n ?_
          refine th_n ?_
          refine aw_reg ?_
          refine rs_mv rfl rfl ?_
          first | refine rs_add rfl rfl rfl (by omega) ?_ | refine rs_addw rfl rfl rfl rfl ?_
          refine rs_mv rfl rfl ?_
          refine rs_nil fun _ => ?_
          refine th_n ?_
          first
            | (have hs := exK_f1 l (ofS lo hi) lies lo.length f54 255 k (by omega); exact ⟨k + 1, by omega, by omega, weak_to (.cons rfl (rc_same rfl (.inl rfl)) (.cons rfl (rc_same rfl (.inl rfl)) (.cons rfl (rc_same rfl (.inl rfl)) (.cons rfl (rc_same rfl (.inl rfl)) (.cons rfl (rc_int (by (rw [hs]) <;> rfl)) (.cons rfl (rc_eq (by (rw [hs]) <;> simp) rfl) (.cons rfl (rc_same rfl (.inl rfl)) (.nil)))))))) (.nil) (fun i h => by cases h)⟩)
            | (have hs := exK_f2 l (ofS lo hi) lies lo.length f54 255 k (by simpa using h46); exact ⟨k + 1, by omega, by omega, weak_to (.cons rfl (rc_same rfl (.inl rfl)) (.cons rfl (rc_same rfl (.inl rfl)) (.cons rfl (rc_same rfl (.inl rfl)) (.cons rfl (rc_same rfl (.inl rfl)) (.cons rfl (rc_int (by (rw [hs]) <;> rfl)) (.cons rfl (rc_eq (by (rw [hs]) <;> simp) rfl) (.cons rfl (rc_same rfl (.inl rfl)) (.nil)))))))) (.nil) (fun i h => by cases h)⟩)
            | (have hs := exK_t l (ofS lo hi) lies lo.length f54 255 k (by omega) (by simpa using h46); exact ⟨k + 1, by omega, by omega, weak_to (.cons rfl (rc_same rfl (.inl rfl)) (.cons rfl (rc_same rfl (.inl rfl)) (.cons rfl (rc_same rfl (.inl rfl)) (.cons rfl (rc_same rfl (.inl rfl)) (.cons rfl (rc_int (by (rw [hs]) <;> rfl)) (.cons rfl (rc_eq (by (rw [hs]) <;> simp) rfl) (.cons rfl (rc_same rfl (.inl rfl)) (.nil)))))))) (.nil) (fun i h => by cases h)⟩)
        · first | replace h46 := of_decide_eq_false h46 | skip
          refine aw_skip ?_
          refine in_n ?_
          refine th_n ?_
          refine aw_reg ?_
          refine rs_mv rfl rfl ?_
          first | refine rs_add rfl rfl rfl (by omega) ?_ | refine rs_addw rfl rfl rfl rfl ?_
          refine rs_mv rfl rfl ?_
          refine rs_nil fun _ => ?_
          refine th_n ?_
          first
            | (have hs := exK_f1 l (ofS lo hi) lies lo.length f54 255 k (by omega); exact ⟨k + 1, by omega, by omega, weak_to (.cons rfl (rc_same rfl (.inl rfl)) (.cons rfl (rc_same rfl (.inl rfl)) (.cons rfl (rc_same rfl (.inl rfl)) (.cons rfl (rc_same rfl (.inl rfl)) (.cons rfl (rc_int (by (rw [hs]) <;> rfl)) (.cons rfl (rc_eq (by (rw [hs]) <;> simp) rfl) (.cons rfl (rc_same rfl (.inl rfl)) (.nil)))))))) (.nil) (fun i h => by cases h)⟩)
            | (have hs := exK_f2 l (ofS lo hi) lies lo.length f54 255 k (by simpa using h46); exact ⟨k + 1, by omega, by omega, weak_to (.cons rfl (rc_same rfl (.inl rfl)) (.cons rfl (rc_same rfl (.inl rfl)) (.cons rfl (rc_same rfl (.inl rfl)) (.cons rfl (rc_same rfl (.inl rfl)) (.cons rfl (rc_int (by (rw [hs]) <;> rfl)) (.cons rfl (rc_eq (by (rw [hs]) <;> simp) rfl) (.cons rfl (rc_same rfl (.inl rfl)) (.nil)))))))) (.nil) (fun i h => by cases h)⟩)
            | (have hs := exK_t l (ofS lo hi) lies lo.length f54 255 k (by omega) (by simpa using h46); exact ⟨k + 1, by omega, by omega, weak_to (.cons rfl (rc_same rfl (.inl rfl)) (.cons rfl (rc_same rfl (.inl rfl)) (.cons rfl (rc_same rfl (.inl rfl)) (.cons rfl (rc_same rfl (.inl rfl)) (.cons rfl (rc_int (by (rw [hs]) <;> rfl)) (.cons rfl (rc_eq (by (rw [hs]) <;> simp) rfl) (.cons rfl (rc_same rfl (.inl rfl)) (.nil)))))))) (.nil) (fun i h => by cases h)⟩)
      · skip
        refine rs_mv rfl rfl ?_
        refine rs_skip rfl ?_
        refine rs_pick rfl rfl rfl ?_
        refine rs_nil fun _ => ?_
        refine th_n ?_
        refine aw_cond rfl (fun h => by cases h) (fun _ => ?_)
        refine aw_skip ?_
        refine in_n ?_
        refine th_n ?_
        refine aw_reg ?_
        refine rs_mv rfl rfl ?_
        first | refine rs_add rfl rfl rfl (by omega) ?_ | refine rs_addw rfl rfl rfl rfl ?_
        refine rs_mv rfl rfl ?_
        refine rs_nil fun _ => ?_
        refine th_n ?_
        first
          | (have hs := exK_f1 l (ofS lo hi) lies lo.length f54 255 k (by omega); exact ⟨k + 1, by omega, by omega, weak_to (.cons rfl (rc_same rfl (.inl rfl)) (.cons rfl (rc_same rfl (.inl rfl)) (.cons rfl (rc_same rfl (.inl rfl)) (.cons rfl (rc_same rfl (.inl rfl)) (.cons rfl (rc_int (by (rw [hs]) <;> rfl)) (.cons rfl (rc_eq (by (rw [hs]) <;> simp) rfl) (.cons rfl (rc_same rfl (.inl rfl)) (.nil)))))))) (.nil) (fun i h => by cases h)⟩)
          | (have hs := exK_f2 l (ofS lo hi) lies lo.length f54 255 k (by simpa using h46); exact ⟨k + 1, by omega, by omega, weak_to (.cons rfl (rc_same rfl (.inl rfl)) (.cons rfl (rc_same rfl (.inl rfl)) (.cons rfl (rc_same rfl (.inl rfl)) (.cons rfl (rc_same rfl (.inl rfl)) (.cons rfl (rc_int (by (rw [hs]) <;> rfl)) (.cons rfl (rc_eq (by (rw [hs]) <;> simp) rfl) (.cons rfl (rc_same rfl (.inl rfl)) (.nil)))))))) (.nil) (fun i h => by cases h)⟩)
          | (have hs := exK_t l (ofS lo hi) lies lo.length f54 255 k (by omega) (by simpa using h46); exact ⟨k + 1, by omega, by omega, weak_to (.cons rfl (rc_same rfl (.inl rfl)) (.cons rfl (rc_same rfl (.inl rfl)) (.cons rfl (rc_same rfl (.inl rfl)) (.cons rfl (rc_same rfl (.inl rfl)) (.cons rfl (rc_int (by (rw [hs]) <;> rfl)) (.cons rfl (rc_eq (by (rw [hs]) <;> simp) rfl) (.cons rfl (rc_same rfl (.inl rfl)) (.nil)))))))) (.nil) (fun i h => by cases h)⟩)
    · first | replace h28 := of_decide_eq_false h28 | skip
      refine aw_exit ?_
      refine th_e ?_
      refine th_e ?_
      refine in_hit ?_
      refine th_n ?_
      refine aw_seq ?_
      refine aw_seq ?_
      refine aw_reg ?_
      refine rs_mv rfl rfl ?_
      refine rs_not rfl rfl ?_
      refine rs_nil fun _ => ?_
      refine th_n ?_
      refine aw_cond rfl (fun h51 => ?_) (fun h51 => ?_)
      · first | replace h51 := of_decide_eq_true h51 | skip
        
        refine aw_seq ?_
        refine aw_reg ?_
        refine rs_mv rfl rfl ?_
        refine rs_mv rfl rfl ?_
        refine rs_nil fun _ => ?_
        refine th_n ?_
        refine aw_ret ?_
        refine th_r ?_
        first
          | (obtain ⟨e1, e2⟩ := liars_1 h25
             rw [e1, e2]
             exact ret_new rfl (rc_tup (.cons (rc_virt rfl rfl) (.cons (rc_same rfl (.inr rfl)) .nil))) (.virt rfl .nil))
          | (have hcnt : (ex54 l lo hi lies).2 = 0 := by
               obtain rfl : k = 256 := by omega
               simpa [ex54] using h51
             obtain ⟨e1, e2⟩ := liars_2 (l := l) (lo := lo) (hi := hi) (lies := lies) h0 hcnt
             rw [e1, e2]
             exact ret_new rfl (rc_tup (.cons (rc_virt rfl rfl) (.cons (rc_same rfl (.inr rfl)) .nil))) (.virt rfl .nil))
          | (obtain ⟨e1, e2⟩ := liars_3 (l := l) (lo := lo) (hi := hi) (lies := lies) h0 hcnt
             obtain rfl : q = 8 := by omega
             rw [e1, e2]
             exact ret_new rfl (rc_same rfl (.inr rfl)) (.keep rfl rfl (noROE_map (fun _ => rfl) _) .nil))
      · first | replace h51 := of_decide_eq_false h51 | skip
        obtain rfl : k = 256 := by omega
        have hcnt : (ex54 l lo hi lies).2 ≠ 0 := by simpa [ex54] using h51
        refine aw_skip ?_
        refine th_n ?_
        refine aw_seq ?_
        refine aw_reg ?_
        refine rs_mv rfl rfl ?_
        refine rs_nil fun _ => ?_
        refine th_n ?_
        refine aw_seq ?_
        refine aw_seq ?_
        refine aw_reg ?_
        refine rs_mv rfl rfl ?_
        refine rs_nil fun _ => ?_
        refine th_n ?_
        refine aw_block ?_
        refine aw_fam (α := Nat) (fun q => 8 - q) (fun q => [(11, iv (((ex54 l lo hi lies).1 : Nat) : Int)), (17, .sl 1012 0 (outK (ex54 l lo hi lies).1 (q)).length), (18, iv (((q) : Nat) : Int))]) (fun q => [(1012, .cells 3 1 ((outK (ex54 l lo hi lies).1 (q)).map ci) true)]) (fun q => q ≤ 8) 0 (by omega)
          (weak_to (.cons rfl (rc_same rfl (.inl rfl)) (.cons rfl (rc_virt rfl rfl) (.cons rfl (rc_same rfl (.inl rfl)) (.nil)))) (.virt rfl (.nil)) (fun i h => by cases h)) ?_
        intro q hq
        have hol := outK_le (ex54 l lo hi lies).1 q
        refine aw_seq ?_
        refine aw_seq ?_
        refine aw_reg ?_
        refine rs_mv rfl rfl ?_
        refine rs_lss rfl rfl rfl ?_
        refine rs_nil fun _ => ?_
        refine th_n ?_
        refine aw_cond rfl (fun h53 => ?_) (fun h53 => ?_)
        · first | replace h53 := of_decide_eq_true h53 | skip
          refine aw_skip ?_
          refine th_n ?_
          refine aw_seq ?_
          refine aw_block ?_
          refine aw_seq ?_
          refine aw_reg ?_
          refine rs_mv rfl rfl ?_
          refine rs_mv rfl rfl ?_
          refine rs_calln [] rfl rfl (fc55 (ex54 l lo hi lies).1 q ex54_lt (by omega)) (.cons (hv_same rfl) (.cons (hv_same rfl) (.nil))) rfl ?_
          refine rs_nil fun _ => ?_
          refine th_n ?_
          refine aw_cond rfl (fun h58 => ?_) (fun h58 => ?_)
          · first | replace h58 := of_decide_eq_true h58 | skip
            refine aw_reg ?_
            refine rs_mv rfl rfl ?_
            refine rs_mv rfl rfl ?_
            refine rs_bslice rfl rfl rfl rfl rfl rfl ?_
            refine rs_app_m (y := (q : Int)) rfl rfl rfl rfl (by rfl) rfl rfl rfl (by decide) rfl (by omega) (by omega) rfl ?_
            refine rs_mv rfl rfl ?_
            refine rs_nil fun _ => ?_
            refine in_n ?_
            refine th_n ?_
            refine aw_reg ?_
            refine rs_mv rfl rfl ?_
            first | refine rs_add rfl rfl rfl (by omega) ?_ | refine rs_addw rfl rfl rfl rfl ?_
            refine rs_mv rfl rfl ?_
            refine rs_nil fun _ => ?_
            refine th_n ?_
            refine ⟨q + 1, by omega, by omega, ?_⟩
            first
              | (have ho := outK_t (ex54 l lo hi lies).1 q h58; exact weak_to_ren (i := 62) (i' := 1012) (F1 := [(11, iv (((ex54 l lo hi lies).1 : Nat) : Int)), (17, .sl 62 0 (outK (ex54 l lo hi lies).1 (q + 1)).length), (18, iv (((q + 1) : Nat) : Int))]) (H1 := [(62, .cells 3 1 ((outK (ex54 l lo hi lies).1 (q + 1)).map ci) true)]) (.cons rfl (rc_same rfl (.inl rfl)) (.cons rfl (rc_eq (by rw [ho]; simp) rfl) (.cons rfl (rc_same rfl (.inl rfl)) (.nil)))) (.keep ((by (rw [ho]) <;> rfl)) rfl (.nil)) (fun i h => by cases h) rfl rfl (.cons rfl (.same _) (.cons rfl (.sl _ _) (.cons rfl (.same _) (.nil)))) (.cons rfl (rc_same rfl (.inl rfl)) (.cons rfl (rc_same rfl (.inl rfl)) (.cons rfl (rc_same rfl (.inl rfl)) (.nil)))) (.keep (rfl) rfl (.nil)) (fun i h => by cases h))
              | (have ho := outK_f (ex54 l lo hi lies).1 q h58; exact weak_to (.cons rfl (rc_same rfl (.inl rfl)) (.cons rfl (rc_eq (by rw [ho]) rfl) (.cons rfl (rc_same rfl (.inl rfl)) (.nil)))) (.keep ((by (rw [ho]) <;> rfl)) rfl (.nil)) (fun i h => by cases h))
          · first | replace h58 := of_decide_eq_false h58 | skip
            refine aw_skip ?_
            refine in_n ?_
            refine th_n ?_
            refine aw_reg ?_
            refine rs_mv rfl rfl ?_
            first | refine rs_add rfl rfl rfl (by omega) ?_ | refine rs_addw rfl rfl rfl rfl ?_
            refine rs_mv rfl rfl ?_
            refine rs_nil fun _ => ?_
            refine th_n ?_
            refine ⟨q + 1, by omega, by omega, ?_⟩
            first
              | (have ho := outK_t (ex54 l lo hi lies).1 q h58; exact weak_to_ren (i := 62) (i' := 1012) (F1 := [(11, iv (((ex54 l lo hi lies).1 : Nat) : Int)), (17, .sl 62 0 (outK (ex54 l lo hi lies).1 (q + 1)).length), (18, iv (((q + 1) : Nat) : Int))]) (H1 := [(62, .cells 3 1 ((outK (ex54 l lo hi lies).1 (q + 1)).map ci) true)]) (.cons rfl (rc_same rfl (.inl rfl)) (.cons rfl (rc_eq (by rw [ho]; simp) rfl) (.cons rfl (rc_same rfl (.inl rfl)) (.nil)))) (.keep ((by (rw [ho]) <;> rfl)) rfl (.nil)) (fun i h => by cases h) rfl rfl (.cons rfl (.same _) (.cons rfl (.sl _ _) (.cons rfl (.same _) (.nil)))) (.cons rfl (rc_same rfl (.inl rfl)) (.cons rfl (rc_same rfl (.inl rfl)) (.cons rfl (rc_same rfl (.inl rfl)) (.nil)))) (.keep (rfl) rfl (.nil)) (fun i h => by cases h))
              | (have ho := outK_f (ex54 l lo hi lies).1 q h58; exact weak_to (.cons rfl (rc_same rfl (.inl rfl)) (.cons rfl (rc_eq (by rw [ho]) rfl) (.cons rfl (rc_same rfl (.inl rfl)) (.nil)))) (.keep ((by (rw [ho]) <;> rfl)) rfl (.nil)) (fun i h => by cases h))
        · first | replace h53 := of_decide_eq_false h53 | skip
          refine aw_exit ?_
          refine th_e ?_
          refine th_e ?_
          refine in_hit ?_
          refine th_n ?_
          refine aw_seq ?_
          refine aw_reg ?_
          refine rs_mv rfl rfl ?_
          refine rs_mv rfl rfl ?_
          refine rs_mv rfl rfl ?_
          refine rs_nil fun _ => ?_
          refine th_n ?_
          refine aw_ret ?_
          first
            | (obtain ⟨e1, e2⟩ := liars_1 h25
               rw [e1, e2]
               exact ret_new rfl (rc_tup (.cons (rc_virt rfl rfl) (.cons (rc_same rfl (.inr rfl)) .nil))) (.virt rfl .nil))
            | (have hcnt : (ex54 l lo hi lies).2 = 0 := by
                 obtain rfl : k = 256 := by omega
                 simpa [ex54] using h51
               obtain ⟨e1, e2⟩ := liars_2 (l := l) (lo := lo) (hi := hi) (lies := lies) h0 hcnt
               rw [e1, e2]
               exact ret_new rfl (rc_tup (.cons (rc_virt rfl rfl) (.cons (rc_same rfl (.inr rfl)) .nil))) (.virt rfl .nil))
            | (obtain ⟨e1, e2⟩ := liars_3 (l := l) (lo := lo) (hi := hi) (lies := lies) h0 hcnt
               obtain rfl : q = 8 := by omega
               rw [e1, e2]
               exact ret_new rfl (rc_same rfl (.inr rfl)) (.keep rfl rfl (noROE_map (fun _ => rfl) _) .nil))

end Go.Proofs.Ytadjdnhnbkcakaa
