/-
  Parts of the proof: VM VN VO VP VQ W0 VR VS.
-/
import Derived.Test.YthfhaoogcpfboaaGreatK4
import Derived.Shelf.Spec.SlicesGrow
set_option linter.unusedVariables false
set_option linter.unusedSimpArgs false

/-! Walks: VM. -/
namespace Go.Proofs.YthfhaoogcpfboaaGreat
open Go.RowKit
set_option maxRecDepth 100000
set_option linter.unusedVariables false
def mcv186 : MC := (.seq (.reg [oN 1 (.box 215 12 (.t 0)) [], oN 2 (.alloc 174 4 [(.int .i64 0), (.int .i64 0), (.int .i64 0), (.int .i64 0)]) [], oN 3 (.mv (.c (.bool false))) []] false) (.seq (.reg [oN 4 (.alloc 88 3 [(.int .i64 0), (.int .i64 0), (.int .i64 0)]) []] false) (.seq (.reg [oN 5 (.mv (.c (.int .i64 0))) []] false) (.seq (.seq (.reg [oN 10 (.ld true 12 (.t 1)) [], oN 11 (.mv (.c (.int .i64 0))) []] false) (.block 0 (.loop (.seq (.reg [oN 12 (.bin .lss (.t 11) (.c (.int .i64 3))) []] false) (.seq (.cond (.t 12) .skip (.exit 0)) (.seq (.block 1 (.seq (.reg [oN 13 (.mv (.t 11)) [], oN 14 (.ixval 3 4 true (.t 10) (.t 11)) [], oN 7 (.alloc 90 4 [(.int .i64 0), (.int .i64 0), (.int .i64 0), (.int .i64 0)]) [], oN 6 (.mv (.t 13)) [0, 0, 1, 2], ⟨none, (.st 4 (.t 7) (.t 14)), none, [2, 1, 3, 0, 1, 2, 3]⟩] false) (.seq (.reg [oN 15 (.mv (.t 6)) [], oN 16 (.bin .add (.t 15) (.c (.int .i64 1))) [0], oN 17 (.bin .rem (.t 16) (.c (.int .i64 3))) [1], oN 18 (.ixarr 3 4 (.t 1) (.t 17)) [2], oN 19 (.fa 0 (.t 18)) [3], oN 20 (.ld true 3 (.t 19)) [4], oN 21 (.mv (.t 6)) [], oN 22 (.bin .add (.t 21) (.c (.int .i64 2))) [6], oN 23 (.bin .rem (.t 22) (.c (.int .i64 3))) [7], oN 24 (.ixarr 3 4 (.t 1) (.t 23)) [8], oN 25 (.fa 0 (.t 24)) [9], oN 26 (.ld true 3 (.t 25)) [10], oN 27 (.call 209 [(.t 20), (.t 26)]) [5, 11], oN 8 (.alloc 88 3 [(.int .i64 0), (.int .i64 0), (.int .i64 0)]) [], ⟨none, (.st 3 (.t 8) (.t 27)), none, [13, 12, 12, 0, 1, 2, 3, 4, 5, 6, 7, 8, 9, 10, 11, 12, 13]⟩] true) (.seq (.reg [oN 28 (.fa 0 (.t 7)) [], oN 29 (.ld true 3 (.t 28)) [0], oN 30 (.ld true 3 (.t 8)) [], oN 31 (.call 190 [(.t 29), (.t 30)]) [1, 2], oN 5 (.mv (.t 31)) [3, 3, 0, 1, 2, 3]] false) (.reg [oN 32 (.ld true 3 (.t 4)) [], oN 33 (.ld true 3 (.t 8)) [], oN 34 (.fa 3 (.t 7)) [], oN 35 (.ld false 1 (.t 34)) [2], oN 36 (.call 211 [(.t 33), (.t 35)]) [1, 3], oN 37 (.call 210 [(.t 32), (.t 36)]) [0, 4, 4], ⟨none, (.st 3 (.t 4) (.t 37)), none, [5, 5, 0, 1, 2, 3, 4, 5]⟩] true))))) (.reg [oN 38 (.bin .add (.t 11) (.c (.int .i64 1))) [], oN 11 (.mv (.t 38)) [0]] false))))))) (.seq (.seq (.reg [oN 39 (.mv (.t 5)) [], oN 40 (.bin .eql (.t 39) (.c (.int .i64 0))) [0]] false) (.cond (.t 40) (.seq (.reg [oN 41 (.build [(.int .i64 0), (.int .i64 0), (.int .i64 0), (.int .i64 0)] []) [], ⟨none, (.st 4 (.t 2) (.t 41)), none, [0, 0]⟩, oN 3 (.mv (.c (.bool false))) [1, 0, 1]] false) .ret) .skip)) (.seq (.reg [oN 42 (.fa 0 (.t 4)) [], oN 43 (.ld false 1 (.t 42)) [0], oN 44 (.fa 1 (.t 4)) [], oN 45 (.ld false 1 (.t 44)) [2], oN 46 (.fa 2 (.t 4)) [], oN 47 (.ld false 1 (.t 46)) [4], oN 48 (.mv (.t 5)) [], oN 49 (.bslice 3 1 [(.int .i64 0)] 4 [(0, (.t 43)), (1, (.t 45)), (2, (.t 47)), (3, (.t 48))]) [1, 3, 5, 6], oN 50 (.call 212 [(.t 49)]) [7], oN 9 (.mv (.t 50)) [8, 8, 0, 1, 2, 3, 4, 5, 6, 7, 8]] false) (.seq (.seq (.reg [oN 51 (.mv (.t 5)) [], oN 52 (.bin .lss (.t 51) (.c (.int .i64 0))) [0]] false) (.cond (.t 52) (.reg [oN 53 (.mv (.t 9)) [], oN 54 (.un .neg (.t 53)) [0], oN 9 (.mv (.t 54)) [1, 0, 1]] false) .skip)) (.seq (.reg [oN 55 (.fa 0 (.t 4)) [], oN 56 (.ld false 1 (.t 55)) [0], oN 57 (.mv (.t 9)) [], oN 58 (.bin .quo (.t 56) (.t 57)) [1, 2], oN 59 (.fa 1 (.t 4)) [], oN 60 (.ld false 1 (.t 59)) [4], oN 61 (.mv (.t 9)) [], oN 62 (.bin .quo (.t 60) (.t 61)) [5, 6], oN 63 (.fa 2 (.t 4)) [], oN 64 (.ld false 1 (.t 63)) [8], oN 65 (.mv (.t 9)) [], oN 66 (.bin .quo (.t 64) (.t 65)) [9, 10], oN 67 (.mv (.t 5)) [], oN 68 (.mv (.t 9)) [], oN 69 (.bin .quo (.t 67) (.t 68)) [12, 13], oN 70 (.build [(.int .i64 0), (.int .i64 0), (.int .i64 0), (.int .i64 0)] [(0, (1, (.t 58))), (1, (1, (.t 62))), (2, (1, (.t 66))), (3, (1, (.t 69)))]) [3, 7, 11, 14], ⟨none, (.st 4 (.t 2) (.t 70)), none, [15, 0, 1, 2, 3, 4, 5, 6, 7, 8, 9, 10, 11, 12, 13, 14, 15]⟩, oN 3 (.mv (.c (.bool true))) [16, 0, 1, 2, 3, 4, 5, 6, 7, 8, 9, 10, 11, 12, 13, 14, 15, 16]] true) .ret))))))))
theorem mcOkv186 : (match Tryz.f186.body with | some c => compC Tryz.prog 71 c | none => none) = some mcv186 := by kernel_rfl
theorem vc186_n (p q r : Pl) (h0 : wd3 p q r = 0) : FC Tryz.prog 186 [.agg (c12 p q r)] [] (.tup [.agg [iv 0, iv 0, iv 0, iv 0], .bool false]) [] false := by
  refine fc_run (nt := 71) Tryz.func186 rfl rfl mcOkv186 (Nat.le_of_ble_eq_true rfl) ?_
  delta mcv186
  refine aw_seq (aw_reg (rs_box rfl rfl rfl rfl rfl rfl ?_))
  refine rs_alloc rfl rfl rfl ?_
  refine rs_mv rfl rfl ?_
  refine rs_nil fun _ => (th_n (aw_seq (aw_reg (rs_alloc rfl rfl rfl ?_))))
  refine rs_nil fun _ => (th_n (aw_seq (aw_reg (rs_mv rfl rfl ?_))))
  refine rs_nil fun _ => (th_n (aw_seq (aw_seq (aw_reg (rs_ld_pa rfl rfl rfl rfl (Nat.le_of_ble_eq_true rfl) rfl ?_)))))
  refine rs_mv rfl rfl ?_
  refine rs_nil fun _ => (th_n (aw_block ?_))
  refine aw_fam (α := Nat) (fun k => 3 - k) (fun k => [(1, .ptr 1 0 0), (2, .ptr 2 0 0), (3, .bool false), (4, .ptr 4 0 0), (5, iv (wdS p q r (k))), (10, .agg (c12 p q r)), (11, iv (((k) : Nat) : Int))]) (fun k => [(1, .cells 215 12 [c12 p q r] true), (2, .cells 174 4 [[iv 0, iv 0, iv 0, iv 0]] true), (4, .cells 88 3 [cV (sumS p q r (k))] true)]) (fun k => k ≤ 3) 0 (by omega)
    (weak_to (.cons rfl sm (.cons rfl sm (.cons rfl sm (.cons rfl sm (.cons rfl sm (.cons rfl sm (.cons rfl sm (.nil)))))))) (.keep (rfl) rfl (.keep (rfl) rfl (.keep (rfl) rfl (.nil)))) (fun i h => by cases h)) ?_
  intro k hk
  refine aw_seq (aw_reg (rs_lss rfl rfl rfl ?_))
  refine rs_nil fun _ => (th_n (aw_seq (aw_cond rfl (fun h12 => ?_) (fun h12 => ?_))))
  · replace h12 := of_decide_eq_true h12
    refine aw_skip (th_n (aw_seq (aw_block (aw_seq (aw_reg ?_)))))
    obtain rfl | rfl | rfl : k = 0 ∨ k = 1 ∨ k = 2 := by omega
    · skip
      refine rs_mv rfl rfl ?_
      refine rs_ixvala rfl rfl rfl (by omega) (by omega) (Nat.le_of_ble_eq_true rfl) rfl ?_
      refine rs_alloc rfl rfl rfl ?_
      refine rs_mv rfl rfl ?_
      refine rs_st rfl rfl rfl rfl rfl rfl rfl (Nat.le_of_ble_eq_true rfl) rfl rfl ?_
      refine rs_nil fun _ => (th_n (aw_seq (aw_draw hmix ?_)))
      refine rs_mv rfl rfl ?_
      refine rs_add rfl rfl rfl (by omega) ?_
      refine rs_rem rfl rfl rfl (by decide) rfl ?_
      refine rs_ixarr_p rfl rfl rfl (by decide) (by decide) ?_
      refine rs_fa_p rfl rfl ?_
      refine rs_ld_pa rfl rfl rfl rfl (Nat.le_of_ble_eq_true rfl) rfl ?_
      refine rs_mv rfl rfl ?_
      refine rs_add rfl rfl rfl (by omega) ?_
      refine rs_rem rfl rfl rfl (by decide) rfl ?_
      refine rs_ixarr_p rfl rfl rfl (by decide) (by decide) ?_
      refine rs_fa_p rfl rfl ?_
      refine rs_ld_pa rfl rfl rfl rfl (Nat.le_of_ble_eq_true rfl) rfl ?_
      refine rs_calln [] rfl rfl (fc31 q.n r.n) (.cons (hv_same rfl) (.cons (hv_same rfl) (.nil))) rfl ?_
      refine rs_alloc rfl rfl rfl ?_
      refine rs_st rfl rfl rfl rfl rfl rfl rfl (Nat.le_of_ble_eq_true rfl) rfl rfl ?_
      refine rs_nil ⟨by kernel_rfl, fun _ => ?_⟩
      refine th_n (aw_seq (aw_reg (rs_fa_p rfl rfl ?_)))
      refine rs_ld_pa rfl rfl rfl rfl (Nat.le_of_ble_eq_true rfl) rfl ?_
      refine rs_ld_pa rfl rfl rfl rfl (Nat.le_of_ble_eq_true rfl) rfl ?_
      refine rs_calln [] rfl rfl (fc30 p.n (crossW q.n r.n)) (.cons (hv_same rfl) (.cons (hv_same rfl) (.nil))) rfl ?_
      refine rs_mv rfl rfl ?_
      refine rs_nil fun _ => (th_n (aw_draw hmix ?_))
      refine rs_ld_pa rfl rfl rfl rfl (Nat.le_of_ble_eq_true rfl) rfl ?_
      refine rs_ld_pa rfl rfl rfl rfl (Nat.le_of_ble_eq_true rfl) rfl ?_
      refine rs_fa_p rfl rfl ?_
      refine rs_ld_p rfl rfl rfl rfl rfl ?_
      refine rs_calln [] rfl rfl (vc211 (crossW q.n r.n) p.b) (.cons (hv_same rfl) (.cons (hv_same rfl) (.nil))) rfl ?_
      refine rs_calln [] rfl rfl (fc28 (sumS p q r 0) (timesW (crossW q.n r.n) p.b)) (.cons (hv_same rfl) (.cons (hv_same rfl) (.nil))) rfl ?_
      refine rs_st rfl rfl rfl rfl rfl rfl rfl (Nat.le_of_ble_eq_true rfl) rfl rfl ?_
      refine rs_nil ⟨by kernel_rfl, fun _ => ?_⟩
      refine in_n (th_n (aw_reg (rs_add rfl rfl rfl (by omega) ?_)))
      refine rs_mv rfl rfl ?_
      refine rs_nil fun _ => (th_n ?_)
      exact ⟨0 + 1, by omega, by omega, weak_to (.cons rfl sm (.cons rfl sm (.cons rfl sm (.cons rfl sm (.cons rfl sm (.cons rfl sm (.cons rfl sm (.nil)))))))) (.keep (rfl) rfl (.keep (rfl) rfl (.keep (rfl) rfl (.nil)))) (fun i h => by cases h)⟩
    · skip
      refine rs_mv rfl rfl ?_
      refine rs_ixvala rfl rfl rfl (by omega) (by omega) (Nat.le_of_ble_eq_true rfl) rfl ?_
      refine rs_alloc rfl rfl rfl ?_
      refine rs_mv rfl rfl ?_
      refine rs_st rfl rfl rfl rfl rfl rfl rfl (Nat.le_of_ble_eq_true rfl) rfl rfl ?_
      refine rs_nil fun _ => (th_n (aw_seq (aw_draw hmix ?_)))
      refine rs_mv rfl rfl ?_
      refine rs_add rfl rfl rfl (by omega) ?_
      refine rs_rem rfl rfl rfl (by decide) rfl ?_
      refine rs_ixarr_p rfl rfl rfl (by decide) (by decide) ?_
      refine rs_fa_p rfl rfl ?_
      refine rs_ld_pa rfl rfl rfl rfl (Nat.le_of_ble_eq_true rfl) rfl ?_
      refine rs_mv rfl rfl ?_
      refine rs_add rfl rfl rfl (by omega) ?_
      refine rs_rem rfl rfl rfl (by decide) rfl ?_
      refine rs_ixarr_p rfl rfl rfl (by decide) (by decide) ?_
      refine rs_fa_p rfl rfl ?_
      refine rs_ld_pa rfl rfl rfl rfl (Nat.le_of_ble_eq_true rfl) rfl ?_
      refine rs_calln [] rfl rfl (fc31 r.n p.n) (.cons (hv_same rfl) (.cons (hv_same rfl) (.nil))) rfl ?_
      refine rs_alloc rfl rfl rfl ?_
      refine rs_st rfl rfl rfl rfl rfl rfl rfl (Nat.le_of_ble_eq_true rfl) rfl rfl ?_
      refine rs_nil ⟨by kernel_rfl, fun _ => ?_⟩
      refine th_n (aw_seq (aw_reg (rs_fa_p rfl rfl ?_)))
      refine rs_ld_pa rfl rfl rfl rfl (Nat.le_of_ble_eq_true rfl) rfl ?_
      refine rs_ld_pa rfl rfl rfl rfl (Nat.le_of_ble_eq_true rfl) rfl ?_
      refine rs_calln [] rfl rfl (fc30 q.n (crossW r.n p.n)) (.cons (hv_same rfl) (.cons (hv_same rfl) (.nil))) rfl ?_
      refine rs_mv rfl rfl ?_
      refine rs_nil fun _ => (th_n (aw_draw hmix ?_))
      refine rs_ld_pa rfl rfl rfl rfl (Nat.le_of_ble_eq_true rfl) rfl ?_
      refine rs_ld_pa rfl rfl rfl rfl (Nat.le_of_ble_eq_true rfl) rfl ?_
      refine rs_fa_p rfl rfl ?_
      refine rs_ld_p rfl rfl rfl rfl rfl ?_
      refine rs_calln [] rfl rfl (vc211 (crossW r.n p.n) q.b) (.cons (hv_same rfl) (.cons (hv_same rfl) (.nil))) rfl ?_
      refine rs_calln [] rfl rfl (fc28 (sumS p q r 1) (timesW (crossW r.n p.n) q.b)) (.cons (hv_same rfl) (.cons (hv_same rfl) (.nil))) rfl ?_
      refine rs_st rfl rfl rfl rfl rfl rfl rfl (Nat.le_of_ble_eq_true rfl) rfl rfl ?_
      refine rs_nil ⟨by kernel_rfl, fun _ => ?_⟩
      refine in_n (th_n (aw_reg (rs_add rfl rfl rfl (by omega) ?_)))
      refine rs_mv rfl rfl ?_
      refine rs_nil fun _ => (th_n ?_)
      exact ⟨1 + 1, by omega, by omega, weak_to (.cons rfl sm (.cons rfl sm (.cons rfl sm (.cons rfl sm (.cons rfl sm (.cons rfl sm (.cons rfl sm (.nil)))))))) (.keep (rfl) rfl (.keep (rfl) rfl (.keep (rfl) rfl (.nil)))) (fun i h => by cases h)⟩
    · skip
      refine rs_mv rfl rfl ?_
      refine rs_ixvala rfl rfl rfl (by omega) (by omega) (Nat.le_of_ble_eq_true rfl) rfl ?_
      refine rs_alloc rfl rfl rfl ?_
      refine rs_mv rfl rfl ?_
      refine rs_st rfl rfl rfl rfl rfl rfl rfl (Nat.le_of_ble_eq_true rfl) rfl rfl ?_
      refine rs_nil fun _ => (th_n (aw_seq (aw_draw hmix ?_)))
      refine rs_mv rfl rfl ?_
      refine rs_add rfl rfl rfl (by omega) ?_
      refine rs_rem rfl rfl rfl (by decide) rfl ?_
      refine rs_ixarr_p rfl rfl rfl (by decide) (by decide) ?_
      refine rs_fa_p rfl rfl ?_
      refine rs_ld_pa rfl rfl rfl rfl (Nat.le_of_ble_eq_true rfl) rfl ?_
      refine rs_mv rfl rfl ?_
      refine rs_add rfl rfl rfl (by omega) ?_
      refine rs_rem rfl rfl rfl (by decide) rfl ?_
      refine rs_ixarr_p rfl rfl rfl (by decide) (by decide) ?_
      refine rs_fa_p rfl rfl ?_
      refine rs_ld_pa rfl rfl rfl rfl (Nat.le_of_ble_eq_true rfl) rfl ?_
      refine rs_calln [] rfl rfl (fc31 p.n q.n) (.cons (hv_same rfl) (.cons (hv_same rfl) (.nil))) rfl ?_
      refine rs_alloc rfl rfl rfl ?_
      refine rs_st rfl rfl rfl rfl rfl rfl rfl (Nat.le_of_ble_eq_true rfl) rfl rfl ?_
      refine rs_nil ⟨by kernel_rfl, fun _ => ?_⟩
      refine th_n (aw_seq (aw_reg (rs_fa_p rfl rfl ?_)))
      refine rs_ld_pa rfl rfl rfl rfl (Nat.le_of_ble_eq_true rfl) rfl ?_
      refine rs_ld_pa rfl rfl rfl rfl (Nat.le_of_ble_eq_true rfl) rfl ?_
      refine rs_calln [] rfl rfl (fc30 r.n (crossW p.n q.n)) (.cons (hv_same rfl) (.cons (hv_same rfl) (.nil))) rfl ?_
      refine rs_mv rfl rfl ?_
      refine rs_nil fun _ => (th_n (aw_draw hmix ?_))
      refine rs_ld_pa rfl rfl rfl rfl (Nat.le_of_ble_eq_true rfl) rfl ?_
      refine rs_ld_pa rfl rfl rfl rfl (Nat.le_of_ble_eq_true rfl) rfl ?_
      refine rs_fa_p rfl rfl ?_
      refine rs_ld_p rfl rfl rfl rfl rfl ?_
      refine rs_calln [] rfl rfl (vc211 (crossW p.n q.n) r.b) (.cons (hv_same rfl) (.cons (hv_same rfl) (.nil))) rfl ?_
      refine rs_calln [] rfl rfl (fc28 (sumS p q r 2) (timesW (crossW p.n q.n) r.b)) (.cons (hv_same rfl) (.cons (hv_same rfl) (.nil))) rfl ?_
      refine rs_st rfl rfl rfl rfl rfl rfl rfl (Nat.le_of_ble_eq_true rfl) rfl rfl ?_
      refine rs_nil ⟨by kernel_rfl, fun _ => ?_⟩
      refine in_n (th_n (aw_reg (rs_add rfl rfl rfl (by omega) ?_)))
      refine rs_mv rfl rfl ?_
      refine rs_nil fun _ => (th_n ?_)
      exact ⟨2 + 1, by omega, by omega, weak_to (.cons rfl sm (.cons rfl sm (.cons rfl sm (.cons rfl sm (.cons rfl sm (.cons rfl sm (.cons rfl sm (.nil)))))))) (.keep (rfl) rfl (.keep (rfl) rfl (.keep (rfl) rfl (.nil)))) (fun i h => by cases h)⟩
  · replace h12 := of_decide_eq_false h12
    refine aw_exit ?_
    refine th_e ?_
    refine th_e ?_
    refine in_hit ?_
    refine th_n (aw_seq (aw_seq ?_))
    obtain rfl : k = 3 := by omega
    refine aw_reg (rs_mv rfl rfl ?_)
    refine rs_cmp_t rfl rfl rfl rfl h0 ?_
    refine rs_nil fun _ => (th_n (aw_cond rfl (fun _ => ?_) (fun h => by cases h)))
    refine aw_seq (aw_reg (rs_build rfl rfl ?_))
    refine rs_st rfl rfl rfl rfl rfl rfl rfl (Nat.le_of_ble_eq_true rfl) rfl rfl ?_
    refine rs_mv rfl rfl ?_
    refine rs_nil fun _ => (th_n (aw_ret (th_r ?_)))
    exact ret_new rfl (rc_tup (.cons (rc_same rfl (.inr rfl)) (.cons (rc_same rfl (.inr rfl)) .nil))) .nil
theorem vc186_s (p q r : Pl) (h0 : wd3 p q r ≠ 0) (hok : okT p q r = true) : FC Tryz.prog 186 [.agg (c12 p q r)] [] (.tup [.agg (cPt (mtP p q r)), .bool true]) [] false := by
  refine fc_run (nt := 71) Tryz.func186 rfl rfl mcOkv186 (Nat.le_of_ble_eq_true rfl) ?_
  delta mcv186
  refine aw_seq (aw_reg (rs_box rfl rfl rfl rfl rfl rfl ?_))
  refine rs_alloc rfl rfl rfl ?_
  refine rs_mv rfl rfl ?_
  refine rs_nil fun _ => (th_n (aw_seq (aw_reg (rs_alloc rfl rfl rfl ?_))))
  refine rs_nil fun _ => (th_n (aw_seq (aw_reg (rs_mv rfl rfl ?_))))
  refine rs_nil fun _ => (th_n (aw_seq (aw_seq (aw_reg (rs_ld_pa rfl rfl rfl rfl (Nat.le_of_ble_eq_true rfl) rfl ?_)))))
  refine rs_mv rfl rfl ?_
  refine rs_nil fun _ => (th_n (aw_block ?_))
  refine aw_fam (α := Nat) (fun k => 3 - k) (fun k => [(1, .ptr 1 0 0), (2, .ptr 2 0 0), (3, .bool false), (4, .ptr 4 0 0), (5, iv (wdS p q r (k))), (10, .agg (c12 p q r)), (11, iv (((k) : Nat) : Int))]) (fun k => [(1, .cells 215 12 [c12 p q r] true), (2, .cells 174 4 [[iv 0, iv 0, iv 0, iv 0]] true), (4, .cells 88 3 [cV (sumS p q r (k))] true)]) (fun k => k ≤ 3) 0 (by omega)
    (weak_to (.cons rfl sm (.cons rfl sm (.cons rfl sm (.cons rfl sm (.cons rfl sm (.cons rfl sm (.cons rfl sm (.nil)))))))) (.keep (rfl) rfl (.keep (rfl) rfl (.keep (rfl) rfl (.nil)))) (fun i h => by cases h)) ?_
  intro k hk
  refine aw_seq (aw_reg (rs_lss rfl rfl rfl ?_))
  refine rs_nil fun _ => (th_n (aw_seq (aw_cond rfl (fun h12 => ?_) (fun h12 => ?_))))
  · replace h12 := of_decide_eq_true h12
    refine aw_skip (th_n (aw_seq (aw_block (aw_seq (aw_reg ?_)))))
    obtain rfl | rfl | rfl : k = 0 ∨ k = 1 ∨ k = 2 := by omega
    · skip
      refine rs_mv rfl rfl ?_
      refine rs_ixvala rfl rfl rfl (by omega) (by omega) (Nat.le_of_ble_eq_true rfl) rfl ?_
      refine rs_alloc rfl rfl rfl ?_
      refine rs_mv rfl rfl ?_
      refine rs_st rfl rfl rfl rfl rfl rfl rfl (Nat.le_of_ble_eq_true rfl) rfl rfl ?_
      refine rs_nil fun _ => (th_n (aw_seq (aw_draw hmix ?_)))
      refine rs_mv rfl rfl ?_
      refine rs_add rfl rfl rfl (by omega) ?_
      refine rs_rem rfl rfl rfl (by decide) rfl ?_
      refine rs_ixarr_p rfl rfl rfl (by decide) (by decide) ?_
      refine rs_fa_p rfl rfl ?_
      refine rs_ld_pa rfl rfl rfl rfl (Nat.le_of_ble_eq_true rfl) rfl ?_
      refine rs_mv rfl rfl ?_
      refine rs_add rfl rfl rfl (by omega) ?_
      refine rs_rem rfl rfl rfl (by decide) rfl ?_
      refine rs_ixarr_p rfl rfl rfl (by decide) (by decide) ?_
      refine rs_fa_p rfl rfl ?_
      refine rs_ld_pa rfl rfl rfl rfl (Nat.le_of_ble_eq_true rfl) rfl ?_
      refine rs_calln [] rfl rfl (fc31 q.n r.n) (.cons (hv_same rfl) (.cons (hv_same rfl) (.nil))) rfl ?_
      refine rs_alloc rfl rfl rfl ?_
      refine rs_st rfl rfl rfl rfl rfl rfl rfl (Nat.le_of_ble_eq_true rfl) rfl rfl ?_
      refine rs_nil ⟨by kernel_rfl, fun _ => ?_⟩
      refine th_n (aw_seq (aw_reg (rs_fa_p rfl rfl ?_)))
      refine rs_ld_pa rfl rfl rfl rfl (Nat.le_of_ble_eq_true rfl) rfl ?_
      refine rs_ld_pa rfl rfl rfl rfl (Nat.le_of_ble_eq_true rfl) rfl ?_
      refine rs_calln [] rfl rfl (fc30 p.n (crossW q.n r.n)) (.cons (hv_same rfl) (.cons (hv_same rfl) (.nil))) rfl ?_
      refine rs_mv rfl rfl ?_
      refine rs_nil fun _ => (th_n (aw_draw hmix ?_))
      refine rs_ld_pa rfl rfl rfl rfl (Nat.le_of_ble_eq_true rfl) rfl ?_
      refine rs_ld_pa rfl rfl rfl rfl (Nat.le_of_ble_eq_true rfl) rfl ?_
      refine rs_fa_p rfl rfl ?_
      refine rs_ld_p rfl rfl rfl rfl rfl ?_
      refine rs_calln [] rfl rfl (vc211 (crossW q.n r.n) p.b) (.cons (hv_same rfl) (.cons (hv_same rfl) (.nil))) rfl ?_
      refine rs_calln [] rfl rfl (fc28 (sumS p q r 0) (timesW (crossW q.n r.n) p.b)) (.cons (hv_same rfl) (.cons (hv_same rfl) (.nil))) rfl ?_
      refine rs_st rfl rfl rfl rfl rfl rfl rfl (Nat.le_of_ble_eq_true rfl) rfl rfl ?_
      refine rs_nil ⟨by kernel_rfl, fun _ => ?_⟩
      refine in_n (th_n (aw_reg (rs_add rfl rfl rfl (by omega) ?_)))
      refine rs_mv rfl rfl ?_
      refine rs_nil fun _ => (th_n ?_)
      exact ⟨0 + 1, by omega, by omega, weak_to (.cons rfl sm (.cons rfl sm (.cons rfl sm (.cons rfl sm (.cons rfl sm (.cons rfl sm (.cons rfl sm (.nil)))))))) (.keep (rfl) rfl (.keep (rfl) rfl (.keep (rfl) rfl (.nil)))) (fun i h => by cases h)⟩
    · skip
      refine rs_mv rfl rfl ?_
      refine rs_ixvala rfl rfl rfl (by omega) (by omega) (Nat.le_of_ble_eq_true rfl) rfl ?_
      refine rs_alloc rfl rfl rfl ?_
      refine rs_mv rfl rfl ?_
      refine rs_st rfl rfl rfl rfl rfl rfl rfl (Nat.le_of_ble_eq_true rfl) rfl rfl ?_
      refine rs_nil fun _ => (th_n (aw_seq (aw_draw hmix ?_)))
      refine rs_mv rfl rfl ?_
      refine rs_add rfl rfl rfl (by omega) ?_
      refine rs_rem rfl rfl rfl (by decide) rfl ?_
      refine rs_ixarr_p rfl rfl rfl (by decide) (by decide) ?_
      refine rs_fa_p rfl rfl ?_
      refine rs_ld_pa rfl rfl rfl rfl (Nat.le_of_ble_eq_true rfl) rfl ?_
      refine rs_mv rfl rfl ?_
      refine rs_add rfl rfl rfl (by omega) ?_
      refine rs_rem rfl rfl rfl (by decide) rfl ?_
      refine rs_ixarr_p rfl rfl rfl (by decide) (by decide) ?_
      refine rs_fa_p rfl rfl ?_
      refine rs_ld_pa rfl rfl rfl rfl (Nat.le_of_ble_eq_true rfl) rfl ?_
      refine rs_calln [] rfl rfl (fc31 r.n p.n) (.cons (hv_same rfl) (.cons (hv_same rfl) (.nil))) rfl ?_
      refine rs_alloc rfl rfl rfl ?_
      refine rs_st rfl rfl rfl rfl rfl rfl rfl (Nat.le_of_ble_eq_true rfl) rfl rfl ?_
      refine rs_nil ⟨by kernel_rfl, fun _ => ?_⟩
      refine th_n (aw_seq (aw_reg (rs_fa_p rfl rfl ?_)))
      refine rs_ld_pa rfl rfl rfl rfl (Nat.le_of_ble_eq_true rfl) rfl ?_
      refine rs_ld_pa rfl rfl rfl rfl (Nat.le_of_ble_eq_true rfl) rfl ?_
      refine rs_calln [] rfl rfl (fc30 q.n (crossW r.n p.n)) (.cons (hv_same rfl) (.cons (hv_same rfl) (.nil))) rfl ?_
      refine rs_mv rfl rfl ?_
      refine rs_nil fun _ => (th_n (aw_draw hmix ?_))
      refine rs_ld_pa rfl rfl rfl rfl (Nat.le_of_ble_eq_true rfl) rfl ?_
      refine rs_ld_pa rfl rfl rfl rfl (Nat.le_of_ble_eq_true rfl) rfl ?_
      refine rs_fa_p rfl rfl ?_
      refine rs_ld_p rfl rfl rfl rfl rfl ?_
      refine rs_calln [] rfl rfl (vc211 (crossW r.n p.n) q.b) (.cons (hv_same rfl) (.cons (hv_same rfl) (.nil))) rfl ?_
      refine rs_calln [] rfl rfl (fc28 (sumS p q r 1) (timesW (crossW r.n p.n) q.b)) (.cons (hv_same rfl) (.cons (hv_same rfl) (.nil))) rfl ?_
      refine rs_st rfl rfl rfl rfl rfl rfl rfl (Nat.le_of_ble_eq_true rfl) rfl rfl ?_
      refine rs_nil ⟨by kernel_rfl, fun _ => ?_⟩
      refine in_n (th_n (aw_reg (rs_add rfl rfl rfl (by omega) ?_)))
      refine rs_mv rfl rfl ?_
      refine rs_nil fun _ => (th_n ?_)
      exact ⟨1 + 1, by omega, by omega, weak_to (.cons rfl sm (.cons rfl sm (.cons rfl sm (.cons rfl sm (.cons rfl sm (.cons rfl sm (.cons rfl sm (.nil)))))))) (.keep (rfl) rfl (.keep (rfl) rfl (.keep (rfl) rfl (.nil)))) (fun i h => by cases h)⟩
    · skip
      refine rs_mv rfl rfl ?_
      refine rs_ixvala rfl rfl rfl (by omega) (by omega) (Nat.le_of_ble_eq_true rfl) rfl ?_
      refine rs_alloc rfl rfl rfl ?_
      refine rs_mv rfl rfl ?_
      refine rs_st rfl rfl rfl rfl rfl rfl rfl (Nat.le_of_ble_eq_true rfl) rfl rfl ?_
      refine rs_nil fun _ => (th_n (aw_seq (aw_draw hmix ?_)))
      refine rs_mv rfl rfl ?_
      refine rs_add rfl rfl rfl (by omega) ?_
      refine rs_rem rfl rfl rfl (by decide) rfl ?_
      refine rs_ixarr_p rfl rfl rfl (by decide) (by decide) ?_
      refine rs_fa_p rfl rfl ?_
      refine rs_ld_pa rfl rfl rfl rfl (Nat.le_of_ble_eq_true rfl) rfl ?_
      refine rs_mv rfl rfl ?_
      refine rs_add rfl rfl rfl (by omega) ?_
      refine rs_rem rfl rfl rfl (by decide) rfl ?_
      refine rs_ixarr_p rfl rfl rfl (by decide) (by decide) ?_
      refine rs_fa_p rfl rfl ?_
      refine rs_ld_pa rfl rfl rfl rfl (Nat.le_of_ble_eq_true rfl) rfl ?_
      refine rs_calln [] rfl rfl (fc31 p.n q.n) (.cons (hv_same rfl) (.cons (hv_same rfl) (.nil))) rfl ?_
      refine rs_alloc rfl rfl rfl ?_
      refine rs_st rfl rfl rfl rfl rfl rfl rfl (Nat.le_of_ble_eq_true rfl) rfl rfl ?_
      refine rs_nil ⟨by kernel_rfl, fun _ => ?_⟩
      refine th_n (aw_seq (aw_reg (rs_fa_p rfl rfl ?_)))
      refine rs_ld_pa rfl rfl rfl rfl (Nat.le_of_ble_eq_true rfl) rfl ?_
      refine rs_ld_pa rfl rfl rfl rfl (Nat.le_of_ble_eq_true rfl) rfl ?_
      refine rs_calln [] rfl rfl (fc30 r.n (crossW p.n q.n)) (.cons (hv_same rfl) (.cons (hv_same rfl) (.nil))) rfl ?_
      refine rs_mv rfl rfl ?_
      refine rs_nil fun _ => (th_n (aw_draw hmix ?_))
      refine rs_ld_pa rfl rfl rfl rfl (Nat.le_of_ble_eq_true rfl) rfl ?_
      refine rs_ld_pa rfl rfl rfl rfl (Nat.le_of_ble_eq_true rfl) rfl ?_
      refine rs_fa_p rfl rfl ?_
      refine rs_ld_p rfl rfl rfl rfl rfl ?_
      refine rs_calln [] rfl rfl (vc211 (crossW p.n q.n) r.b) (.cons (hv_same rfl) (.cons (hv_same rfl) (.nil))) rfl ?_
      refine rs_calln [] rfl rfl (fc28 (sumS p q r 2) (timesW (crossW p.n q.n) r.b)) (.cons (hv_same rfl) (.cons (hv_same rfl) (.nil))) rfl ?_
      refine rs_st rfl rfl rfl rfl rfl rfl rfl (Nat.le_of_ble_eq_true rfl) rfl rfl ?_
      refine rs_nil ⟨by kernel_rfl, fun _ => ?_⟩
      refine in_n (th_n (aw_reg (rs_add rfl rfl rfl (by omega) ?_)))
      refine rs_mv rfl rfl ?_
      refine rs_nil fun _ => (th_n ?_)
      exact ⟨2 + 1, by omega, by omega, weak_to (.cons rfl sm (.cons rfl sm (.cons rfl sm (.cons rfl sm (.cons rfl sm (.cons rfl sm (.cons rfl sm (.nil)))))))) (.keep (rfl) rfl (.keep (rfl) rfl (.keep (rfl) rfl (.nil)))) (fun i h => by cases h)⟩
  · replace h12 := of_decide_eq_false h12
    refine aw_exit ?_
    refine th_e ?_
    refine th_e ?_
    refine in_hit ?_
    refine th_n (aw_seq (aw_seq ?_))
    obtain rfl : k = 3 := by omega
    refine aw_reg (rs_mv rfl rfl ?_)
    refine rs_cmp_f rfl rfl rfl rfl h0 ?_
    refine rs_nil fun _ => (th_n (aw_cond rfl (fun h => by cases h) (fun _ => ?_)))
    refine aw_skip (th_n (aw_seq ?_))
    have hgp : 0 < gL [(sum3 p q r).x, (sum3 p q r).y, (sum3 p q r).z, wd3 p q r] := gL_pos (x := wd3 p q r) (by simp) h0
    have hgl : gL [(sum3 p q r).x, (sum3 p q r).y, (sum3 p q r).z, wd3 p q r] ≤ 1000000000000000 := gL_le (x := wd3 p q r) (by simp) h0 (by have := okT_all hok (wd3 p q r) (by simp); omega)
    refine aw_reg (rs_fa_p rfl rfl ?_)
    refine rs_ld_p rfl rfl rfl rfl rfl ?_
    refine rs_fa_p rfl rfl ?_
    refine rs_ld_p rfl rfl rfl rfl rfl ?_
    refine rs_fa_p rfl rfl ?_
    refine rs_ld_p rfl rfl rfl rfl rfl ?_
    refine rs_mv rfl rfl ?_
    refine rs_bslice (l := (([(sum3 p q r).x, (sum3 p q r).y, (sum3 p q r).z, wd3 p q r] : List Int)).flatMap ci) (els := (([(sum3 p q r).x, (sum3 p q r).y, (sum3 p q r).z, wd3 p q r] : List Int)).map ci) (fl := true) rfl (by kernel_rfl) rfl rfl (by kernel_rfl) (by kernel_rfl) ?_
    refine rs_calln [49] rfl rfl (vc212 [(sum3 p q r).x, (sum3 p q r).y, (sum3 p q r).z, wd3 p q r] (okT_all hok) (by simp)) (.cons (hv_slm (f := ci) (xs := [(sum3 p q r).x, (sum3 p q r).y, (sum3 p q r).z, wd3 p q r]) (by simp) rfl rfl) (.nil)) rfl ?_
    refine rs_mv rfl rfl ?_
    refine rs_nil fun _ => (th_n (aw_seq (aw_seq (aw_reg (rs_mv rfl rfl ?_)))))
    refine rs_lss rfl rfl rfl ?_
    refine rs_nil fun _ => (th_n (aw_cond rfl (fun h52 => ?_) (fun h52 => ?_)))
    · replace h52 := of_decide_eq_true h52
      refine aw_reg (rs_mv rfl rfl ?_)
      refine rs_neg rfl rfl (by omega) ?_
      refine rs_mv rfl rfl ?_
      refine rs_nil fun _ => (th_n (aw_seq ?_))
      have hg3 : -(gL [(sum3 p q r).x, (sum3 p q r).y, (sum3 p q r).z, wd3 p q r] : Int) = g3 p q r := (if_pos h52).symm
      have hg0 : g3 p q r ≠ 0 := by rw [← hg3]; omega
      rw [hg3]
      refine aw_draw hmix ?_
      refine rs_fa_p rfl rfl ?_
      refine rs_ld_p rfl rfl rfl rfl rfl ?_
      refine rs_mv rfl rfl ?_
      refine rs_quow rfl rfl rfl hg0 rfl ?_
      refine rs_fa_p rfl rfl ?_
      refine rs_ld_p rfl rfl rfl rfl rfl ?_
      refine rs_mv rfl rfl ?_
      refine rs_quow rfl rfl rfl hg0 rfl ?_
      refine rs_fa_p rfl rfl ?_
      refine rs_ld_p rfl rfl rfl rfl rfl ?_
      refine rs_mv rfl rfl ?_
      refine rs_quow rfl rfl rfl hg0 rfl ?_
      refine rs_mv rfl rfl ?_
      refine rs_mv rfl rfl ?_
      refine rs_quow rfl rfl rfl hg0 rfl ?_
      refine rs_build rfl rfl ?_
      refine rs_st rfl rfl rfl rfl rfl rfl rfl (Nat.le_of_ble_eq_true rfl) rfl rfl ?_
      refine rs_mv rfl rfl ?_
      refine rs_nil ⟨by kernel_rfl, fun _ => ?_⟩
      refine th_n (aw_ret ?_)
      exact ret_new rfl (rc_tup (.cons (rc_same rfl (.inr rfl)) (.cons (rc_same rfl (.inr rfl)) .nil))) .nil
    · replace h52 := of_decide_eq_false h52
      refine aw_skip (th_n (aw_seq ?_))
      have hg3 : (gL [(sum3 p q r).x, (sum3 p q r).y, (sum3 p q r).z, wd3 p q r] : Int) = g3 p q r := (if_neg h52).symm
      have hg0 : g3 p q r ≠ 0 := by rw [← hg3]; omega
      rw [hg3]
      refine aw_draw hmix ?_
      refine rs_fa_p rfl rfl ?_
      refine rs_ld_p rfl rfl rfl rfl rfl ?_
      refine rs_mv rfl rfl ?_
      refine rs_quow rfl rfl rfl hg0 rfl ?_
      refine rs_fa_p rfl rfl ?_
      refine rs_ld_p rfl rfl rfl rfl rfl ?_
      refine rs_mv rfl rfl ?_
      refine rs_quow rfl rfl rfl hg0 rfl ?_
      refine rs_fa_p rfl rfl ?_
      refine rs_ld_p rfl rfl rfl rfl rfl ?_
      refine rs_mv rfl rfl ?_
      refine rs_quow rfl rfl rfl hg0 rfl ?_
      refine rs_mv rfl rfl ?_
      refine rs_mv rfl rfl ?_
      refine rs_quow rfl rfl rfl hg0 rfl ?_
      refine rs_build rfl rfl ?_
      refine rs_st rfl rfl rfl rfl rfl rfl rfl (Nat.le_of_ble_eq_true rfl) rfl rfl ?_
      refine rs_mv rfl rfl ?_
      refine rs_nil ⟨by kernel_rfl, fun _ => ?_⟩
      refine th_n (aw_ret ?_)
      exact ret_new rfl (rc_tup (.cons (rc_same rfl (.inr rfl)) (.cons (rc_same rfl (.inr rfl)) .nil))) .nil
def mcv185 : MC := (.seq (.reg [oN 1 (.box 167 1 (.t 0)) [], oN 2 (.mv (.c .nilf)) []] false) (.seq (.reg [oN 3 (.mkfn (.func 208) [(.t 1)]) [], oN 2 (.mv (.t 3)) [0, 0]] false) .ret))
theorem mcOkv185 : (match Tryz.f185.body with | some c => compC Tryz.prog 4 c | none => none) = some mcv185 := by kernel_rfl
theorem vc185 (r : List Pl) : FC Tryz.prog 185 [.rs 4 (r.map cPl)] [] (.fn (.func 208) [.rp [.rs 4 (r.map cPl)]]) [] true := by
  refine fc_run (nt := 4) Tryz.func185 rfl rfl mcOkv185 (Nat.le_of_ble_eq_true rfl) ?_
  delta mcv185
  refine aw_seq (aw_reg (rs_box rfl rfl rfl rfl rfl rfl ?_))
  refine rs_mv rfl rfl ?_
  refine rs_nil fun _ => (th_n (aw_seq (aw_reg (rs_mkfn rfl rfl ?_))))
  refine rs_mv rfl rfl ?_
  refine rs_nil fun _ => (th_n (aw_ret ?_))
  exact ret_new rfl (rc_fnr (.cons (rc_pfrz rfl rfl (.inl rfl)) .nil)) .nil
end Go.Proofs.YthfhaoogcpfboaaGreat

/-! Walks: VN. -/
namespace Go.Proofs.YthfhaoogcpfboaaGreat
open Go.RowKit
set_option maxRecDepth 100000
set_option linter.unusedVariables false
abbrev ptK (x : Pt) : List Int := [x.x, x.y, x.z, x.w]
theorem ptK_len (l : List Pt) : ∀ q ∈ l.map ptK, q.length = 4 := fun q hq => by
  obtain ⟨x, _, rfl⟩ := List.mem_map.1 hq; rfl
/-- The vertices of a region, triple by triple. -/
def accS (r : List Pl) (l : List Pt) (p q s : Pl) : List Pt := if wd3 p q s = 0 then l else if ptK (mtP p q s) ∈ l.map ptK then l else if withS r (mtP p q s) = true then l ++ [mtP p q s] else l
def innS (r : List Pl) (p q : Pl) : List Pt → List Pl → List Pt
  | l, [] => l
  | l, s :: t => innS r p q (accS r l p q s) t
def midS (r : List Pl) (p : Pl) : List Pt → List Pl → List Pt
  | l, [] => l
  | l, q :: t => midS r p (innS r p q l t) t
def topS (r : List Pl) : List Pt → List Pl → List Pt
  | l, [] => l
  | l, p :: t => topS r (midS r p l t) t
def cornS (r : List Pl) : List Pt := topS r [] r
def okMid (p : Pl) : List Pl → Bool
  | [] => true
  | q :: t => t.all (okT p q) && okMid p t
def okTop : List Pl → Bool
  | [] => true
  | p :: t => okMid p t && okTop t
theorem okTop_at : ∀ {r : List Pl} {i : Nat} {p : Pl}, okTop r = true → r[i]? = some p → okMid p (r.drop (i + 1)) = true
  | [], i, p, _, h => by simp at h
  | a :: r, 0, p, h, hp => by
    simp at hp; subst hp
    simp only [okTop, Bool.and_eq_true] at h
    exact h.1
  | a :: r, i + 1, p, h, hp => by
    simp only [okTop, Bool.and_eq_true] at h
    exact okTop_at (r := r) (i := i) h.2 (by simpa using hp)
theorem okMid_at : ∀ {p : Pl} {t : List Pl} {j : Nat} {q : Pl}, okMid p t = true → t[j]? = some q → (t.drop (j + 1)).all (okT p q) = true
  | p, [], j, q, _, h => by simp at h
  | p, a :: t, 0, q, h, hq => by
    simp at hq; subst hq
    simp only [okMid, Bool.and_eq_true] at h
    exact h.1
  | p, a :: t, j + 1, q, h, hq => by
    simp only [okMid, Bool.and_eq_true] at h
    exact okMid_at (t := t) (j := j) h.2 (by simpa using hq)
theorem drop_at {α : Type} {l : List α} {k : Nat} {x : α} (h : l[k]? = some x) : l.drop k = x :: l.drop (k + 1) := by
  obtain ⟨hk, e⟩ := List.getElem?_eq_some_iff.1 h
  rw [List.drop_eq_getElem_cons hk, e]
theorem topS_at {r : List Pl} {l : List Pt} {k : Nat} {p : Pl} (h : r[k]? = some p) : topS r l (r.drop k) = topS r (midS r p l (r.drop (k + 1))) (r.drop (k + 1)) := by rw [drop_at h]; rfl
theorem midS_at {r t : List Pl} {p : Pl} {l : List Pt} {k : Nat} {q : Pl} (h : t[k]? = some q) : midS r p l (t.drop k) = midS r p (innS r p q l (t.drop (k + 1))) (t.drop (k + 1)) := by rw [drop_at h]; rfl
theorem innS_at {r t : List Pl} {p q : Pl} {l : List Pt} {k : Nat} {s : Pl} (h : t[k]? = some s) : innS r p q l (t.drop k) = innS r p q (accS r l p q s) (t.drop (k + 1)) := by rw [drop_at h]; rfl
theorem accS_len (r : List Pl) (l : List Pt) (p q s : Pl) : (accS r l p q s).length ≤ l.length + 1 := by
  unfold accS
  split
  · omega
  · split
    · omega
    · split
      · rw [len_snoc]; omega
      · omega
theorem slc_drop (r : List Pl) (m : Nat) {l : Int} (h : l = (m : Int)) : (((r.map cPl).drop l.toNat).take ((((r.map cPl).length : Nat) : Int).toNat - l.toNat)) = (r.drop m).map cPl := by
  subst h
  rw [← List.map_drop, List.take_of_length_le (by simp)]; rfl
theorem map_snocK (l : List Pt) (x : Pt) : (l ++ [x]).map ptK = l.map ptK ++ [ptK x] := by simp
theorem acc_1 {r : List Pl} {l : List Pt} {p q s : Pl} (h : wd3 p q s = 0) : accS r l p q s = l := if_pos h
theorem acc_2 {r : List Pl} {l : List Pt} {p q s : Pl} (h : wd3 p q s ≠ 0) (h2 : decide (ptK (mtP p q s) ∈ l.map ptK) = true) : accS r l p q s = l := by unfold accS; rw [if_neg h, if_pos (of_decide_eq_true h2)]
theorem acc_3 {r : List Pl} {l : List Pt} {p q s : Pl} (h : wd3 p q s ≠ 0) (h2 : decide (ptK (mtP p q s) ∈ l.map ptK) = false) (h3 : withS r (mtP p q s) = true) : accS r l p q s = l ++ [mtP p q s] := by unfold accS; rw [if_neg h, if_neg (of_decide_eq_false h2), if_pos h3]
theorem acc_4 {r : List Pl} {l : List Pt} {p q s : Pl} (h : wd3 p q s ≠ 0) (h2 : decide (ptK (mtP p q s) ∈ l.map ptK) = false) (h3 : withS r (mtP p q s) = false) : accS r l p q s = l := by unfold accS; rw [if_neg h, if_neg (of_decide_eq_false h2), if_neg (by rw [h3]; decide)]
def as161 : MC := (.reg [oN 5 (.alloc 215 12 [(.int .i64 0), (.int .i64 0), (.int .i64 0), (.int .i64 0), (.int .i64 0), (.int .i64 0), (.int .i64 0), (.int .i64 0), (.int .i64 0), (.int .i64 0), (.int .i64 0), (.int .i64 0)]) [], ⟨none, (.st 12 (.t 5) (.t 11)), none, [0, 0]⟩] false)
def bd161 : MC := (.block 1 (.seq (.reg [oN 13 (.ld true 12 (.t 5)) [], oN 14 (.call 186 [(.t 13)]) [0], oN 12 (.mv (.t 14)) [1], oN 15 (.ext (.t 12) 0) [2], oN 16 (.ext (.t 12) 1) [2], oN 6 (.alloc 174 4 [(.int .i64 0), (.int .i64 0), (.int .i64 0), (.int .i64 0)]) [], ⟨none, (.st 4 (.t 6) (.t 15)), none, [5, 3, 1, 0, 1, 2, 3, 5]⟩, oN 7 (.mv (.t 16)) [4, 6, 0, 1, 2, 3, 4, 5, 6]] false) (.seq (.reg [oN 17 (.mv (.t 7)) [], oN 18 (.mv (.t 17)) [0], oG 19 (.ld false 1 (.t 4)) 18 true [1], oG 20 (.ld true 4 (.t 6)) 18 true [1], oG 21 (.mhas 4 (.t 19) (.t 20)) 18 true [2, 3, 1], oG 22 (.un .not (.t 21)) 18 true [4, 1], oN 23 (.pick (.t 18) (.t 22) (.c (.bool false))) [1, 5], oN 24 (.mv (.t 23)) [6, 1], oG 25 (.ld false 1 (.t 1)) 24 true [7], oG 26 (.ld true 4 (.t 6)) 24 true [7], oG 27 (.call 187 [(.t 25), (.t 26)]) 24 true [8, 9, 7, 7], oN 28 (.pick (.t 24) (.t 27) (.c (.bool false))) [7, 10]] false) (.cond (.t 28) (.seq (.reg [oN 29 (.ld false 1 (.t 4)) [], oN 30 (.ld true 4 (.t 6)) [], ⟨none, (.mapadd 4 (.t 29) (.t 30) (.c (.bool true))), none, [0, 1, 0, 1]⟩] false) (.reg [oN 31 (.ld false 1 (.t 3)) [], oN 32 (.ld true 4 (.t 6)) [], oN 33 (.bslice 174 4 [(.int .i64 0), (.int .i64 0), (.int .i64 0), (.int .i64 0)] 1 [(0, (.t 32))]) [1], oN 34 (.app 174 4 32 [(.int .i64 0), (.int .i64 0), (.int .i64 0), (.int .i64 0)] (.t 31) (.t 33)) [0, 2], ⟨none, (.st 1 (.t 3) (.t 34)), none, [3, 3, 0, 1, 2, 3]⟩] false)) .skip))))
theorem as161w (r : List Pl) (hr : r.length ≤ 110) (p q s : Pl) (hok : okT p q s = true) (l : List Pt) (hl : l.length ≤ 2000000) (o : Loop) (lb : Nat) : AW Tryz.prog 36 [900, 1003, 903, 1004, 1008] (some lb) as161 (fun e F' H' => e = .normal ∧ Weak 36 [900, 1003, 903, 1004, 1008] F' H' [(5, .ptr 5 0 0), (1, .rp [.rs 4 (r.map cPl)]), (3, .ptr 1003 0 0), (4, .ptr 1004 0 0)] [(900, .lp o [(10, .fn (.func 208) [.rp [.rs 4 (r.map cPl)]]), (1, .rp [.rs 4 (r.map cPl)]), (3, .ptr 1003 0 0), (4, .ptr 1004 0 0)]), (1003, .cells 170 1 [[.sl 903 0 (l).length]] false), (903, .cells 174 4 ((l).map cPt) true), (1004, .cells 211 1 [[.mp 1008]] false), (1008, .mset ((l).map ptK)), (5, .cells 215 12 [c12 p q s] true)]) [(11, .agg (c12 p q s)), (10, .fn (.func 208) [.rp [.rs 4 (r.map cPl)]]), (1, .rp [.rs 4 (r.map cPl)]), (3, .ptr 1003 0 0), (4, .ptr 1004 0 0)] [(900, .lp o [(10, .fn (.func 208) [.rp [.rs 4 (r.map cPl)]]), (1, .rp [.rs 4 (r.map cPl)]), (3, .ptr 1003 0 0), (4, .ptr 1004 0 0)]), (1003, .cells 170 1 [[.sl 903 0 (l).length]] false), (903, .cells 174 4 ((l).map cPt) true), (1004, .cells 211 1 [[.mp 1008]] false), (1008, .mset ((l).map ptK))] := by
  delta as161
  refine aw_reg ?_
  refine rs_alloc rfl rfl rfl ?_
  refine rs_st rfl rfl rfl rfl rfl rfl rfl (Nat.le_of_ble_eq_true rfl) rfl rfl ?_
  refine rs_nil fun _ => ?_
  exact ⟨rfl, weak_to (.cons rfl sm (.cons rfl sm (.cons rfl sm (.cons rfl sm (.nil))))) (.keep (rfl) rfl (.keep (rfl) rfl (.keep (rfl) rfl (.keep (rfl) rfl (.keep (rfl) rfl (.keep (rfl) rfl (.nil))))))) (fun i hi => by simp [keysOf] at hi ⊢; omega)⟩
theorem bd161w (r : List Pl) (hr : r.length ≤ 110) (p q s : Pl) (hok : okT p q s = true) (l : List Pt) (hl : l.length ≤ 2000000) (o : Loop) (lb : Nat) : AW Tryz.prog 36 [900, 1003, 903, 1004, 1008] (some lb) bd161 (fun e F' H' => e = .normal ∧ Weak 36 [900, 1003, 903, 1004, 1008] F' H' [] [(900, .lp o [(10, .fn (.func 208) [.rp [.rs 4 (r.map cPl)]]), (1, .rp [.rs 4 (r.map cPl)]), (3, .ptr 1003 0 0), (4, .ptr 1004 0 0)]), (1003, .cells 170 1 [[.sl 904 0 (accS r l p q s).length]] false), (904, .cells 174 4 ((accS r l p q s).map cPt) true), (1004, .cells 211 1 [[.mp 1008]] false), (1008, .mset ((accS r l p q s).map ptK)), (903, .dead)]) [(5, .ptr 5 0 0), (1, .rp [.rs 4 (r.map cPl)]), (3, .ptr 1003 0 0), (4, .ptr 1004 0 0)] [(900, .lp o [(10, .fn (.func 208) [.rp [.rs 4 (r.map cPl)]]), (1, .rp [.rs 4 (r.map cPl)]), (3, .ptr 1003 0 0), (4, .ptr 1004 0 0)]), (1003, .cells 170 1 [[.sl 903 0 (l).length]] false), (903, .cells 174 4 ((l).map cPt) true), (1004, .cells 211 1 [[.mp 1008]] false), (1008, .mset ((l).map ptK)), (5, .cells 215 12 [c12 p q s] true)] := by
  delta bd161
  refine aw_block ?_
  refine aw_seq ?_
  refine aw_reg ?_
  refine rs_ld_pa rfl rfl rfl rfl (Nat.le_of_ble_eq_true rfl) rfl ?_
  by_cases h0 : wd3 p q s = 0
  · skip
    refine rs_calln [] rfl rfl (vc186_n p q s h0) (.cons (hv_same rfl) (.nil)) rfl ?_
    refine rs_mv rfl rfl ?_
    refine rs_ext rfl rfl rfl ?_
    refine rs_ext rfl rfl rfl ?_
    refine rs_alloc rfl rfl rfl ?_
    refine rs_st rfl rfl rfl rfl rfl rfl rfl (Nat.le_of_ble_eq_true rfl) rfl rfl ?_
    refine rs_mv rfl rfl ?_
    refine rs_nil fun _ => ?_
    refine th_n ?_
    refine aw_seq ?_
    refine aw_reg ?_
    refine rs_mv rfl rfl ?_
    refine rs_mv rfl rfl ?_
    refine rs_skip rfl ?_
    refine rs_skip rfl ?_
    refine rs_skip rfl ?_
    refine rs_skip rfl ?_
    refine rs_pick rfl rfl rfl ?_
    refine rs_mv rfl rfl ?_
    refine rs_skip rfl ?_
    refine rs_skip rfl ?_
    refine rs_skip rfl ?_
    refine rs_pick rfl rfl rfl ?_
    refine rs_nil fun _ => ?_
    refine th_n ?_
    refine aw_cond rfl (fun h => by cases h) (fun _ => ?_)
    refine aw_skip ?_
    refine in_n ?_
    rw [acc_1 h0]
    exact ⟨rfl, (Weak.trans (F1 := []) (H1 := [(900, .lp o [(10, .fn (.func 208) [.rp [.rs 4 (r.map cPl)]]), (1, .rp [.rs 4 (r.map cPl)]), (3, .ptr 1003 0 0), (4, .ptr 1004 0 0)]), (1003, .cells 170 1 [[.sl 903 0 (l).length]] false), (903, .cells 174 4 ((l).map cPt) true), (1004, .cells 211 1 [[.mp 1008]] false), (1008, .mset ((l).map ptK))]) (weak_to (.nil) (.keep (rfl) rfl (.keep (rfl) rfl (.keep (rfl) rfl (.keep (rfl) rfl (.keep (rfl) rfl (.nil)))))) (fun i hi => by simp [keysOf] at hi ⊢; omega)) (Weak.trans (F1 := []) (weak_ren_cell (i := 903) (i' := 904) (k := 1003) rfl rfl (.nil) (by decide) rfl (.sl _ _)) (weak_to (.nil) (.keep (rfl) rfl (.keep (rfl) rfl (.keep (rfl) rfl (.keep (rfl) rfl (.keep (rfl) rfl (.keep (rfl) rfl (.nil))))))) (fun i hi => by simp [keysOf] at hi ⊢; omega))))⟩
  · skip
    refine rs_calln [] rfl rfl (vc186_s p q s h0 hok) (.cons (hv_same rfl) (.nil)) rfl ?_
    refine rs_mv rfl rfl ?_
    refine rs_ext rfl rfl rfl ?_
    refine rs_ext rfl rfl rfl ?_
    refine rs_alloc rfl rfl rfl ?_
    refine rs_st rfl rfl rfl rfl rfl rfl rfl (Nat.le_of_ble_eq_true rfl) rfl rfl ?_
    refine rs_mv rfl rfl ?_
    refine rs_nil fun _ => ?_
    refine th_n ?_
    refine aw_seq ?_
    refine aw_reg ?_
    refine rs_mv rfl rfl ?_
    refine rs_mv rfl rfl ?_
    refine rs_ld_p rfl rfl rfl rfl rfl ?_
    refine rs_ld_pa rfl rfl rfl rfl (Nat.le_of_ble_eq_true rfl) rfl ?_
    refine rs_mhas (l := ptK (mtP p q s)) rfl rfl rfl rfl rfl rfl (ptK_len l) ?_
    cases h21 : decide (ptK (mtP p q s) ∈ l.map ptK)
    · skip
      refine rs_not rfl rfl ?_
      refine rs_pick rfl rfl rfl ?_
      refine rs_mv rfl rfl ?_
      refine rs_ld_r rfl rfl rfl ?_
      refine rs_ld_pa rfl rfl rfl rfl (Nat.le_of_ble_eq_true rfl) rfl ?_
      refine rs_calln [] rfl rfl (vc187 r (mtP p q s) (by omega)) (.cons (hv_same rfl) (.cons (hv_same rfl) (.nil))) rfl ?_
      cases h27 : withS r (mtP p q s)
      · skip
        refine rs_pick rfl rfl rfl ?_
        refine rs_nil fun _ => ?_
        refine th_n ?_
        refine aw_cond rfl (fun h => by cases h) (fun _ => ?_)
        refine aw_skip ?_
        refine in_n ?_
        rw [acc_4 h0 h21 h27]
        exact ⟨rfl, (Weak.trans (F1 := []) (H1 := [(900, .lp o [(10, .fn (.func 208) [.rp [.rs 4 (r.map cPl)]]), (1, .rp [.rs 4 (r.map cPl)]), (3, .ptr 1003 0 0), (4, .ptr 1004 0 0)]), (1003, .cells 170 1 [[.sl 903 0 (l).length]] false), (903, .cells 174 4 ((l).map cPt) true), (1004, .cells 211 1 [[.mp 1008]] false), (1008, .mset ((l).map ptK))]) (weak_to (.nil) (.keep (rfl) rfl (.keep (rfl) rfl (.keep (rfl) rfl (.keep (rfl) rfl (.keep (rfl) rfl (.nil)))))) (fun i hi => by simp [keysOf] at hi ⊢; omega)) (Weak.trans (F1 := []) (weak_ren_cell (i := 903) (i' := 904) (k := 1003) rfl rfl (.nil) (by decide) rfl (.sl _ _)) (weak_to (.nil) (.keep (rfl) rfl (.keep (rfl) rfl (.keep (rfl) rfl (.keep (rfl) rfl (.keep (rfl) rfl (.keep (rfl) rfl (.nil))))))) (fun i hi => by simp [keysOf] at hi ⊢; omega))))⟩
      · skip
        refine rs_pick rfl rfl rfl ?_
        refine rs_nil fun _ => ?_
        refine th_n ?_
        refine aw_cond rfl (fun _ => ?_) (fun h => by cases h)
        refine aw_seq ?_
        refine aw_reg ?_
        refine rs_ld_p rfl rfl rfl rfl rfl ?_
        refine rs_ld_pa rfl rfl rfl rfl (Nat.le_of_ble_eq_true rfl) rfl ?_
        refine rs_mapadd (l := ptK (mtP p q s)) rfl rfl rfl rfl rfl rfl rfl (ptK_len l) (of_decide_eq_false h21) ?_
        refine rs_nil fun _ => ?_
        refine th_n ?_
        refine aw_reg ?_
        refine rs_ld_p rfl rfl rfl rfl rfl ?_
        refine rs_ld_pa rfl rfl rfl rfl (Nat.le_of_ble_eq_true rfl) rfl ?_
        refine rs_bslice (l := (([mtP p q s] : List Pt)).flatMap cPt) (els := (([mtP p q s] : List Pt)).map cPt) (fl := true) rfl (by kernel_rfl) rfl rfl (by kernel_rfl) (by kernel_rfl) ?_
        refine rs_app_m (f := cPt) (xs := l) (y := mtP p q s) (fl' := true) rfl rfl rfl rfl (rfl) rfl rfl rfl (by decide) rfl (by omega) (by omega) rfl ?_
        refine rs_st rfl rfl rfl rfl rfl rfl rfl (Nat.le_of_ble_eq_true rfl) rfl rfl ?_
        refine rs_nil fun _ => ?_
        refine in_n ?_
        rw [acc_3 h0 h21 h27]
        exact ⟨rfl, (Weak.trans (F1 := []) (H1 := [(900, .lp o [(10, .fn (.func 208) [.rp [.rs 4 (r.map cPl)]]), (1, .rp [.rs 4 (r.map cPl)]), (3, .ptr 1003 0 0), (4, .ptr 1004 0 0)]), (1003, .cells 170 1 [[.sl 34 0 (l ++ [mtP p q s]).length]] false), (34, .cells 174 4 ((l ++ [mtP p q s]).map cPt) true), (1004, .cells 211 1 [[.mp 1008]] false), (1008, .mset ((l ++ [mtP p q s]).map ptK)), (903, .dead)]) (weak_to (.nil) (.keep (rfl) rfl (.keep (by rw [len_snoc]; rfl) rfl (.keep (rfl) rfl (.keep (rfl) rfl (.keep (by rw [map_snocK]; rfl) rfl (.keep (rfl) rfl (.nil))))))) (fun i hi => by simp [keysOf] at hi ⊢; omega)) (Weak.trans (F1 := []) (weak_ren_cell (i := 34) (i' := 904) (k := 1003) rfl rfl (.nil) (by decide) rfl (.sl _ _)) (weak_to (.nil) (.keep (rfl) rfl (.keep (rfl) rfl (.keep (rfl) rfl (.keep (rfl) rfl (.keep (rfl) rfl (.keep (rfl) rfl (.nil))))))) (fun i hi => by simp [keysOf] at hi ⊢; omega))))⟩
    · skip
      refine rs_not rfl rfl ?_
      refine rs_pick rfl rfl rfl ?_
      refine rs_mv rfl rfl ?_
      refine rs_skip rfl ?_
      refine rs_skip rfl ?_
      refine rs_skip rfl ?_
      refine rs_pick rfl rfl rfl ?_
      refine rs_nil fun _ => ?_
      refine th_n ?_
      refine aw_cond rfl (fun h => by cases h) (fun _ => ?_)
      refine aw_skip ?_
      refine in_n ?_
      rw [acc_2 h0 h21]
      exact ⟨rfl, (Weak.trans (F1 := []) (H1 := [(900, .lp o [(10, .fn (.func 208) [.rp [.rs 4 (r.map cPl)]]), (1, .rp [.rs 4 (r.map cPl)]), (3, .ptr 1003 0 0), (4, .ptr 1004 0 0)]), (1003, .cells 170 1 [[.sl 903 0 (l).length]] false), (903, .cells 174 4 ((l).map cPt) true), (1004, .cells 211 1 [[.mp 1008]] false), (1008, .mset ((l).map ptK))]) (weak_to (.nil) (.keep (rfl) rfl (.keep (rfl) rfl (.keep (rfl) rfl (.keep (rfl) rfl (.keep (rfl) rfl (.nil)))))) (fun i hi => by simp [keysOf] at hi ⊢; omega)) (Weak.trans (F1 := []) (weak_ren_cell (i := 903) (i' := 904) (k := 1003) rfl rfl (.nil) (by decide) rfl (.sl _ _)) (weak_to (.nil) (.keep (rfl) rfl (.keep (rfl) rfl (.keep (rfl) rfl (.keep (rfl) rfl (.keep (rfl) rfl (.keep (rfl) rfl (.nil))))))) (fun i hi => by simp [keysOf] at hi ⊢; omega))))⟩
theorem y161 (r : List Pl) (hr : r.length ≤ 110) (p q s : Pl) (hok : okT p q s = true) (l : List Pt) (hl : l.length ≤ 2000000) (r0 : Loop) (h : Rec0 Tryz.prog 36 [11] as161 bd161 r0) :
    FCg (yieldSem Tryz.prog) [.yl 900, .agg (c12 p q s)] [(900, .lp r0 [(10, .fn (.func 208) [.rp [.rs 4 (r.map cPl)]]), (1, .rp [.rs 4 (r.map cPl)]), (3, .ptr 1003 0 0), (4, .ptr 1004 0 0)]), (1003, .cells 170 1 [[.sl 903 0 (l).length]] false), (903, .cells 174 4 ((l).map cPt) true), (1004, .cells 211 1 [[.mp 1008]] false), (1008, .mset ((l).map ptK))] (.bool true) [(900, .lp r0 [(10, .fn (.func 208) [.rp [.rs 4 (r.map cPl)]]), (1, .rp [.rs 4 (r.map cPl)]), (3, .ptr 1003 0 0), (4, .ptr 1004 0 0)]), (1003, .cells 170 1 [[.sl 904 0 (accS r l p q s).length]] false), (904, .cells 174 4 ((accS r l p q s).map cPt) true), (1004, .cells 211 1 [[.mp 1008]] false), (1008, .mset ((accS r l p q s).map ptK)), (903, .dead)] true := by
  have := round_yield (P := Tryz.prog) (F := [(10, .fn (.func 208) [.rp [.rs 4 (r.map cPl)]]), (1, .rp [.rs 4 (r.map cPl)]), (3, .ptr 1003 0 0), (4, .ptr 1004 0 0)]) (N := 36) (x := as161) (y := bd161) h.ca h.cb (li := 900) (ps := [11]) (vs := [.agg (c12 p q s)]) (J := [(1003, .cells 170 1 [[.sl 903 0 (l).length]] false), (903, .cells 174 4 ((l).map cPt) true), (1004, .cells 211 1 [[.mp 1008]] false), (1008, .mset ((l).map ptK))]) (J1 := [(1003, .cells 170 1 [[.sl 903 0 (l).length]] false), (903, .cells 174 4 ((l).map cPt) true), (1004, .cells 211 1 [[.mp 1008]] false), (1008, .mset ((l).map ptK)), (5, .cells 215 12 [c12 p q s] true)]) (J' := [(1003, .cells 170 1 [[.sl 904 0 (accS r l p q s).length]] false), (904, .cells 174 4 ((accS r l p q s).map cPt) true), (1004, .cells 211 1 [[.mp 1008]] false), (1008, .mset ((accS r l p q s).map ptK)), (903, .dead)]) (Fb := [(5, .ptr 5 0 0), (1, .rp [.rs 4 (r.map cPl)]), (3, .ptr 1003 0 0), (4, .ptr 1004 0 0)]) (Z0 := [900, 1003, 903, 1004, 1008]) .normal none (.inl ⟨rfl, rfl⟩)
    rfl rfl (fun i hi => mem_keys.1 hi) (by simp) (fun i h => mem_keys.2 h) (fun i hi => mem_keys.1 (by simp [keysOf] at hi ⊢; omega)) h.state h.params rfl rfl h.size (fun t v h => get_mem h) (fun lb o => as161w r hr p q s hok l hl o lb) (fun lb o => bd161w r hr p q s hok l hl o lb)
  rw [rec_same h.state h.pending] at this
  exact this
def mcv208 : MC := (.seq (.reg [oN 9 (.ld false 1 (.t 1)) [], oN 10 (.len (.t 9)) [0], oN 11 (.mv (.c (.int .i64 0))) []] false) (.block 0 (.loop (.seq (.reg [oN 12 (.bin .lss (.t 11) (.t 10)) []] false) (.seq (.cond (.t 12) .skip (.exit 0)) (.seq (.block 1 (.seq (.reg [oN 13 (.mv (.t 11)) [], oN 14 (.ixsl 4 (.t 9) (.t 11)) [], oN 15 (.ld true 4 (.t 14)) [1], oN 4 (.alloc 90 4 [(.int .i64 0), (.int .i64 0), (.int .i64 0), (.int .i64 0)]) [], oN 3 (.mv (.t 13)) [0, 0, 1, 2, 3], ⟨none, (.st 4 (.t 4) (.t 15)), none, [3, 2, 4, 0, 1, 2, 3, 4]⟩] false) (.seq (.reg [oN 16 (.ld false 1 (.t 1)) [], oN 17 (.mv (.t 3)) [], oN 18 (.bin .add (.t 17) (.c (.int .i64 1))) [1], oN 19 (.slc 4 (.t 16) (some (.t 18)) none) [0, 2], oN 20 (.len (.t 19)) [3], oN 21 (.mv (.c (.int .i64 0))) []] false) (.block 2 (.loop (.seq (.reg [oN 22 (.bin .lss (.t 21) (.t 20)) []] false) (.seq (.cond (.t 22) .skip (.exit 2)) (.seq (.block 3 (.seq (.reg [oN 23 (.mv (.t 21)) [], oN 24 (.ixsl 4 (.t 19) (.t 21)) [], oN 25 (.ld true 4 (.t 24)) [1], oN 6 (.alloc 90 4 [(.int .i64 0), (.int .i64 0), (.int .i64 0), (.int .i64 0)]) [], oN 5 (.mv (.t 23)) [0, 0, 1, 2, 3], ⟨none, (.st 4 (.t 6) (.t 25)), none, [3, 2, 4, 0, 1, 2, 3, 4]⟩] false) (.seq (.reg [oN 26 (.ld false 1 (.t 1)) [], oN 27 (.mv (.t 3)) [], oN 28 (.mv (.t 5)) [], oN 29 (.bin .add (.t 27) (.t 28)) [1, 2], oN 30 (.bin .add (.t 29) (.c (.int .i64 2))) [3], oN 31 (.slc 4 (.t 26) (some (.t 30)) none) [0, 4], oN 32 (.len (.t 31)) [5], oN 33 (.mv (.c (.int .i64 0))) []] false) (.block 4 (.loop (.seq (.reg [oN 34 (.bin .lss (.t 33) (.t 32)) []] false) (.seq (.cond (.t 34) .skip (.exit 4)) (.seq (.block 5 (.seq (.reg [oN 35 (.ixsl 4 (.t 31) (.t 33)) [], oN 36 (.ld true 4 (.t 35)) [0], oN 8 (.alloc 90 4 [(.int .i64 0), (.int .i64 0), (.int .i64 0), (.int .i64 0)]) [], ⟨none, (.st 4 (.t 8) (.t 36)), none, [2, 1, 0, 1, 2]⟩] false) (.seq (.reg [oN 37 (.mv (.t 0)) [], oN 38 (.ld true 4 (.t 4)) [], oN 39 (.ld true 4 (.t 6)) [], oN 40 (.ld true 4 (.t 8)) [], oN 41 (.build [(.int .i64 0), (.int .i64 0), (.int .i64 0), (.int .i64 0), (.int .i64 0), (.int .i64 0), (.int .i64 0), (.int .i64 0), (.int .i64 0), (.int .i64 0), (.int .i64 0), (.int .i64 0)] [(0, (4, (.t 38))), (4, (4, (.t 39))), (8, (4, (.t 40)))]) [1, 2, 3], oN 42 (.callv (.t 37) [(.t 41)]) [0, 4], oN 43 (.un .not (.t 42)) [5]] false) (.cond (.t 43) .ret .skip)))) (.reg [oN 44 (.bin .add (.t 33) (.c (.int .i64 1))) [], oN 33 (.mv (.t 44)) [0]] false))))))))) (.reg [oN 45 (.bin .add (.t 21) (.c (.int .i64 1))) [], oN 21 (.mv (.t 45)) [0]] false))))))))) (.reg [oN 46 (.bin .add (.t 11) (.c (.int .i64 1))) [], oN 11 (.mv (.t 46)) [0]] false)))))))
theorem mcOkv208 : (match Tryz.f208.body with | some c => compC Tryz.prog 47 c | none => none) = some mcv208 := by kernel_rfl
theorem vc208 (r : List Pl) (hr : r.length ≤ 110) (hok : okTop r = true) (r0 : Loop) (h : Rec0 Tryz.prog 36 [11] as161 bd161 r0) : FC Tryz.prog 208 [.yl 900, .rp [.rs 4 (r.map cPl)]] [(900, .lp r0 [(10, .fn (.func 208) [.rp [.rs 4 (r.map cPl)]]), (1, .rp [.rs 4 (r.map cPl)]), (3, .ptr 1003 0 0), (4, .ptr 1004 0 0)]), (1003, .cells 170 1 [[.sl 901 0 (([] : List Pt)).length]] false), (901, .cells 174 4 ((([] : List Pt)).map cPt) true), (1004, .cells 211 1 [[.mp 1008]] false), (1008, .mset ((([] : List Pt)).map ptK))] (.tup []) [(900, .lp r0 [(10, .fn (.func 208) [.rp [.rs 4 (r.map cPl)]]), (1, .rp [.rs 4 (r.map cPl)]), (3, .ptr 1003 0 0), (4, .ptr 1004 0 0)]), (1003, .cells 170 1 [[.sl 903 0 (cornS r).length]] false), (903, .cells 174 4 ((cornS r).map cPt) true), (1004, .cells 211 1 [[.mp 1008]] false), (1008, .mset ((cornS r).map ptK)), (901, .dead)] true := by
  refine fc_run (nt := 47) Tryz.func208 rfl rfl mcOkv208 (Nat.le_of_ble_eq_true rfl) ?_
  delta mcv208
  refine aw_seq (aw_reg (rs_ld_r rfl rfl rfl ?_))
  refine rs_len_m rfl rfl ?_
  refine rs_mv rfl rfl ?_
  refine rs_nil fun _ => (th_n (aw_block ?_))
  refine aw_fam (α := Nat × List Pt) (fun u => r.length - u.1) (fun u => [(0, .yl 900), (1, .rp [.rs 4 (r.map cPl)]), (9, .rs 4 (r.map cPl)), (10, iv (r.length : Int)), (11, iv (((u.1) : Nat) : Int))]) (fun u => [(900, .lp r0 [(10, .fn (.func 208) [.rp [.rs 4 (r.map cPl)]]), (1, .rp [.rs 4 (r.map cPl)]), (3, .ptr 1003 0 0), (4, .ptr 1004 0 0)]), (1003, .cells 170 1 [[.sl 903 0 (u.2).length]] false), (903, .cells 174 4 ((u.2).map cPt) true), (1004, .cells 211 1 [[.mp 1008]] false), (1008, .mset ((u.2).map ptK)), (901, .dead)]) (fun u => u.1 ≤ r.length ∧ topS r u.2 (r.drop u.1) = cornS r ∧ u.2.length ≤ u.1 * 12100) (0, []) (⟨by omega, rfl, by simp⟩)
    ((Weak.trans (F1 := [(0, .yl 900), (1, .rp [.rs 4 (r.map cPl)]), (9, .rs 4 (r.map cPl)), (10, iv (r.length : Int)), (11, iv (((0) : Nat) : Int))]) (H1 := [(900, .lp r0 [(10, .fn (.func 208) [.rp [.rs 4 (r.map cPl)]]), (1, .rp [.rs 4 (r.map cPl)]), (3, .ptr 1003 0 0), (4, .ptr 1004 0 0)]), (1003, .cells 170 1 [[.sl 901 0 (([] : List Pt)).length]] false), (901, .cells 174 4 ((([] : List Pt)).map cPt) true), (1004, .cells 211 1 [[.mp 1008]] false), (1008, .mset ((([] : List Pt)).map ptK))]) (weak_to (.cons rfl sm (.cons rfl sm (.cons rfl sm (.cons rfl sm (.cons rfl sm (.nil)))))) (.keep (rfl) rfl (.keep (rfl) rfl (.keep (rfl) rfl (.keep (rfl) rfl (.keep (rfl) rfl (.nil)))))) (fun i hi => by simp [keysOf] at hi ⊢; omega)) (Weak.trans (F1 := [(0, .yl 900), (1, .rp [.rs 4 (r.map cPl)]), (9, .rs 4 (r.map cPl)), (10, iv (r.length : Int)), (11, iv (((0) : Nat) : Int))]) (weak_ren_cell (i := 901) (i' := 903) (k := 1003) rfl rfl (.cons rfl (.same _) (.cons rfl (.same _) (.cons rfl (.same _) (.cons rfl (.same _) (.cons rfl (.same _) (.nil)))))) (by decide) rfl (.sl _ _)) (weak_to (.cons rfl sm (.cons rfl sm (.cons rfl sm (.cons rfl sm (.cons rfl sm (.nil)))))) (.keep (rfl) rfl (.keep (rfl) rfl (.keep (rfl) rfl (.keep (rfl) rfl (.keep (rfl) rfl (.keep (rfl) rfl (.nil))))))) (fun i hi => by simp [keysOf] at hi ⊢; omega))))) ?_
  rintro ⟨i, l⟩ ⟨hi, hinv, hll⟩
  dsimp only at hi hinv hll ⊢
  refine aw_seq (aw_reg (rs_lss rfl rfl rfl ?_))
  refine rs_nil fun _ => (th_n (aw_seq (aw_cond rfl (fun h12 => ?_) (fun h12 => ?_))))
  · replace h12 := of_decide_eq_true h12
    refine aw_skip (th_n (aw_seq (aw_block (aw_seq (aw_reg (rs_mv rfl rfl ?_))))))
    obtain ⟨p, hp, hpm⟩ := at_some (L := r) (k := i) (by omega)
    rw [topS_at hp] at hinv
    have hok1 := okTop_at hok hp
    have hl1 : (r.drop (i + 1)).length = r.length - (i + 1) := List.length_drop
    refine rs_ix_g (f := cPl) (y := p) rfl rfl rfl (by omega) hp ?_
    refine rs_ld_ra (cs := cPl p) rfl rfl (Nat.le_of_ble_eq_true rfl) rfl ?_
    refine rs_alloc rfl rfl rfl ?_
    refine rs_mv rfl rfl ?_
    refine rs_st rfl rfl rfl rfl rfl rfl rfl (Nat.le_of_ble_eq_true rfl) rfl rfl ?_
    refine rs_nil fun _ => (th_n (aw_seq (aw_reg (rs_ld_r rfl rfl rfl ?_))))
    refine rs_mv rfl rfl ?_
    refine rs_add rfl rfl rfl (by omega) ?_
    refine rs_slc_r (l := (i : Int) + 1) (q := ((r.map cPl).length : Nat)) (els' := (r.drop (i + 1)).map cPl) rfl rfl rfl rfl rfl (by omega) (by simp; omega) (Int.le_refl _) (slc_drop r (i + 1) (by omega)) ?_
    refine rs_len_m rfl rfl ?_
    refine rs_mv rfl rfl ?_
    refine rs_nil fun _ => (th_n (aw_block ?_))
    refine aw_fam (α := Nat × List Pt) (fun u => (r.drop (i + 1)).length - u.1) (fun u => [(0, .yl 900), (1, .rp [.rs 4 (r.map cPl)]), (9, .rs 4 (r.map cPl)), (10, iv (r.length : Int)), (11, iv (((i) : Nat) : Int)), (3, iv (((i) : Nat) : Int)), (4, .ptr 4 0 0), (19, .rs 4 ((r.drop (i + 1)).map cPl)), (20, iv ((r.drop (i + 1)).length : Int)), (21, iv (((u.1) : Nat) : Int))]) (fun u => [(900, .lp r0 [(10, .fn (.func 208) [.rp [.rs 4 (r.map cPl)]]), (1, .rp [.rs 4 (r.map cPl)]), (3, .ptr 1003 0 0), (4, .ptr 1004 0 0)]), (1003, .cells 170 1 [[.sl 903 0 (u.2).length]] false), (903, .cells 174 4 ((u.2).map cPt) true), (1004, .cells 211 1 [[.mp 1008]] false), (1008, .mset ((u.2).map ptK)), (901, .dead), (4, .cells 90 4 [cPl p] true)]) (fun u => u.1 ≤ (r.drop (i + 1)).length ∧ midS r p u.2 ((r.drop (i + 1)).drop u.1) = midS r p l (r.drop (i + 1)) ∧ u.2.length ≤ i * 12100 + u.1 * 110) (0, l) (⟨by omega, rfl, by omega⟩)
      (weak_to (.cons rfl sm (.cons rfl sm (.cons rfl sm (.cons rfl sm (.cons rfl sm (.cons rfl sm (.cons rfl sm (.cons rfl sm (.cons rfl sm (.cons rfl sm (.nil))))))))))) (.keep (rfl) rfl (.keep (rfl) rfl (.keep (rfl) rfl (.keep (rfl) rfl (.keep (rfl) rfl (.keep (rfl) rfl (.keep (rfl) rfl (.nil)))))))) (fun i hi => by simp [keysOf] at hi ⊢; omega)) ?_
    rintro ⟨j, m⟩ ⟨hj, hinv2, hml⟩
    dsimp only at hj hinv2 hml ⊢
    refine aw_seq (aw_reg (rs_lss rfl rfl rfl ?_))
    refine rs_nil fun _ => (th_n (aw_seq (aw_cond rfl (fun h22 => ?_) (fun h22 => ?_))))
    · replace h22 := of_decide_eq_true h22
      refine aw_skip (th_n (aw_seq (aw_block (aw_seq (aw_reg (rs_mv rfl rfl ?_))))))
      obtain ⟨q, hq, hqm⟩ := at_some (L := r.drop (i + 1)) (k := j) (by omega)
      rw [midS_at hq] at hinv2
      have hok2 := okMid_at hok1 hq
      have hl2 : ((r.drop (i + 1)).drop (j + 1)).length = (r.drop (i + 1)).length - (j + 1) := List.length_drop
      refine rs_ix_g (f := cPl) (y := q) rfl rfl rfl (by omega) hq ?_
      refine rs_ld_ra (cs := cPl q) rfl rfl (Nat.le_of_ble_eq_true rfl) rfl ?_
      refine rs_alloc rfl rfl rfl ?_
      refine rs_mv rfl rfl ?_
      refine rs_st rfl rfl rfl rfl rfl rfl rfl (Nat.le_of_ble_eq_true rfl) rfl rfl ?_
      refine rs_nil fun _ => (th_n (aw_seq (aw_reg (rs_ld_r rfl rfl rfl ?_))))
      refine rs_mv rfl rfl ?_
      refine rs_mv rfl rfl ?_
      refine rs_add rfl rfl rfl (by omega) ?_
      refine rs_add rfl rfl rfl (by omega) ?_
      refine rs_slc_r (l := (i : Int) + (j : Int) + 2) (q := ((r.map cPl).length : Nat)) (els' := ((r.drop (i + 1)).drop (j + 1)).map cPl) rfl rfl rfl rfl rfl (by omega) (by simp; omega) (Int.le_refl _) (by rw [List.drop_drop]; exact slc_drop r _ (by omega)) ?_
      refine rs_len_m rfl rfl ?_
      refine rs_mv rfl rfl ?_
      refine rs_nil fun _ => (th_n (aw_block ?_))
      refine aw_fam (α := Nat × List Pt) (fun u => ((r.drop (i + 1)).drop (j + 1)).length - u.1) (fun u => [(0, .yl 900), (1, .rp [.rs 4 (r.map cPl)]), (9, .rs 4 (r.map cPl)), (10, iv (r.length : Int)), (11, iv (((i) : Nat) : Int)), (3, iv (((i) : Nat) : Int)), (4, .ptr 4 0 0), (19, .rs 4 ((r.drop (i + 1)).map cPl)), (20, iv ((r.drop (i + 1)).length : Int)), (21, iv (((j) : Nat) : Int)), (5, iv (((j) : Nat) : Int)), (6, .ptr 6 0 0), (31, .rs 4 (((r.drop (i + 1)).drop (j + 1)).map cPl)), (32, iv (((r.drop (i + 1)).drop (j + 1)).length : Int)), (33, iv (((u.1) : Nat) : Int))]) (fun u => [(900, .lp r0 [(10, .fn (.func 208) [.rp [.rs 4 (r.map cPl)]]), (1, .rp [.rs 4 (r.map cPl)]), (3, .ptr 1003 0 0), (4, .ptr 1004 0 0)]), (1003, .cells 170 1 [[.sl 903 0 (u.2).length]] false), (903, .cells 174 4 ((u.2).map cPt) true), (1004, .cells 211 1 [[.mp 1008]] false), (1008, .mset ((u.2).map ptK)), (901, .dead), (4, .cells 90 4 [cPl p] true), (6, .cells 90 4 [cPl q] true)]) (fun u => u.1 ≤ ((r.drop (i + 1)).drop (j + 1)).length ∧ innS r p q u.2 (((r.drop (i + 1)).drop (j + 1)).drop u.1) = innS r p q m ((r.drop (i + 1)).drop (j + 1)) ∧ u.2.length ≤ i * 12100 + j * 110 + u.1) (0, m) (⟨by omega, rfl, by omega⟩)
        (weak_to (.cons rfl sm (.cons rfl sm (.cons rfl sm (.cons rfl sm (.cons rfl sm (.cons rfl sm (.cons rfl sm (.cons rfl sm (.cons rfl sm (.cons rfl sm (.cons rfl sm (.cons rfl sm (.cons rfl sm (.cons rfl sm (.cons rfl sm (.nil)))))))))))))))) (.keep (rfl) rfl (.keep (rfl) rfl (.keep (rfl) rfl (.keep (rfl) rfl (.keep (rfl) rfl (.keep (rfl) rfl (.keep (rfl) rfl (.keep (rfl) rfl (.nil))))))))) (fun i hi => by simp [keysOf] at hi ⊢; omega)) ?_
      rintro ⟨k, n⟩ ⟨hk, hinv3, hnl⟩
      dsimp only at hk hinv3 hnl ⊢
      refine aw_seq (aw_reg (rs_lss rfl rfl rfl ?_))
      refine rs_nil fun _ => (th_n (aw_seq (aw_cond rfl (fun h34 => ?_) (fun h34 => ?_))))
      · replace h34 := of_decide_eq_true h34
        refine aw_skip (th_n (aw_seq (aw_block (aw_seq (aw_reg ?_)))))
        obtain ⟨s, hs, hsm⟩ := at_some (L := (r.drop (i + 1)).drop (j + 1)) (k := k) (by omega)
        rw [innS_at hs] at hinv3
        have hokt := List.all_eq_true.1 hok2 s hsm
        have hal := accS_len r n p q s
        refine rs_ix_g (f := cPl) (y := s) rfl rfl rfl (by omega) hs ?_
        refine rs_ld_ra (cs := cPl s) rfl rfl (Nat.le_of_ble_eq_true rfl) rfl ?_
        refine rs_alloc rfl rfl rfl ?_
        refine rs_st rfl rfl rfl rfl rfl rfl rfl (Nat.le_of_ble_eq_true rfl) rfl rfl ?_
        refine rs_nil fun _ => (th_n (aw_seq (aw_reg (rs_mv rfl rfl ?_))))
        refine rs_ld_pa rfl rfl rfl rfl (Nat.le_of_ble_eq_true rfl) rfl ?_
        refine rs_ld_pa rfl rfl rfl rfl (Nat.le_of_ble_eq_true rfl) rfl ?_
        refine rs_ld_pa rfl rfl rfl rfl (Nat.le_of_ble_eq_true rfl) rfl ?_
        refine rs_build rfl rfl ?_
        refine rs_yield [(900, .lp r0 [(10, .fn (.func 208) [.rp [.rs 4 (r.map cPl)]]), (1, .rp [.rs 4 (r.map cPl)]), (3, .ptr 1003 0 0), (4, .ptr 1004 0 0)]), (1003, .cells 170 1 [[.sl 903 0 (n).length]] false), (903, .cells 174 4 ((n).map cPt) true), (1004, .cells 211 1 [[.mp 1008]] false), (1008, .mset ((n).map ptK))] rfl rfl rfl (y161 r hr p q s hokt n (by omega) r0 h) (.cons (hv_same rfl) (.cons (hv_same rfl) (.nil))) (.cons rfl (.cons rfl (.cons rfl (.cons rfl (.cons rfl (.nil)))))) rfl rfl rfl ?_
        refine rs_not rfl rfl ?_
        refine rs_nil fun _ => (th_n (aw_cond rfl (fun h => by cases h) (fun _ => ?_)))
        refine aw_skip (in_n (th_n (aw_reg (rs_add rfl rfl rfl (by omega) ?_))))
        refine rs_mv rfl rfl ?_
        refine rs_nil fun _ => (th_n ?_)
        exact ⟨(k + 1, accS r n p q s), ⟨by show k + 1 ≤ _; omega, hinv3, by show (accS r n p q s).length ≤ i * 12100 + j * 110 + (k + 1); omega⟩, by show _ - (k + 1) < _; omega, (Weak.trans (F1 := [(0, .yl 900), (1, .rp [.rs 4 (r.map cPl)]), (9, .rs 4 (r.map cPl)), (10, iv (r.length : Int)), (11, iv (((i) : Nat) : Int)), (3, iv (((i) : Nat) : Int)), (4, .ptr 4 0 0), (19, .rs 4 ((r.drop (i + 1)).map cPl)), (20, iv ((r.drop (i + 1)).length : Int)), (21, iv (((j) : Nat) : Int)), (5, iv (((j) : Nat) : Int)), (6, .ptr 6 0 0), (31, .rs 4 (((r.drop (i + 1)).drop (j + 1)).map cPl)), (32, iv (((r.drop (i + 1)).drop (j + 1)).length : Int)), (33, iv (((k + 1) : Nat) : Int))]) (H1 := [(900, .lp r0 [(10, .fn (.func 208) [.rp [.rs 4 (r.map cPl)]]), (1, .rp [.rs 4 (r.map cPl)]), (3, .ptr 1003 0 0), (4, .ptr 1004 0 0)]), (1003, .cells 170 1 [[.sl 904 0 (accS r n p q s).length]] false), (904, .cells 174 4 ((accS r n p q s).map cPt) true), (1004, .cells 211 1 [[.mp 1008]] false), (1008, .mset ((accS r n p q s).map ptK)), (901, .dead), (4, .cells 90 4 [cPl p] true), (6, .cells 90 4 [cPl q] true)]) (weak_to (.cons rfl sm (.cons rfl sm (.cons rfl sm (.cons rfl sm (.cons rfl sm (.cons rfl sm (.cons rfl sm (.cons rfl sm (.cons rfl sm (.cons rfl sm (.cons rfl sm (.cons rfl sm (.cons rfl sm (.cons rfl sm (.cons rfl sm (.nil)))))))))))))))) (.keep (rfl) rfl (.keep (rfl) rfl (.keep (rfl) rfl (.keep (rfl) rfl (.keep (rfl) rfl (.keep (rfl) rfl (.keep (rfl) rfl (.keep (rfl) rfl (.nil))))))))) (fun i hi => by simp [keysOf] at hi ⊢; omega)) (Weak.trans (F1 := [(0, .yl 900), (1, .rp [.rs 4 (r.map cPl)]), (9, .rs 4 (r.map cPl)), (10, iv (r.length : Int)), (11, iv (((i) : Nat) : Int)), (3, iv (((i) : Nat) : Int)), (4, .ptr 4 0 0), (19, .rs 4 ((r.drop (i + 1)).map cPl)), (20, iv ((r.drop (i + 1)).length : Int)), (21, iv (((j) : Nat) : Int)), (5, iv (((j) : Nat) : Int)), (6, .ptr 6 0 0), (31, .rs 4 (((r.drop (i + 1)).drop (j + 1)).map cPl)), (32, iv (((r.drop (i + 1)).drop (j + 1)).length : Int)), (33, iv (((k + 1) : Nat) : Int))]) (weak_ren_cell (i := 904) (i' := 903) (k := 1003) rfl rfl (.cons rfl (.same _) (.cons rfl (.same _) (.cons rfl (.same _) (.cons rfl (.same _) (.cons rfl (.same _) (.cons rfl (.same _) (.cons rfl (.same _) (.cons rfl (.same _) (.cons rfl (.same _) (.cons rfl (.same _) (.cons rfl (.same _) (.cons rfl (.same _) (.cons rfl (.same _) (.cons rfl (.same _) (.cons rfl (.same _) (.nil)))))))))))))))) (by decide) rfl (.sl _ _)) (weak_to (.cons rfl sm (.cons rfl sm (.cons rfl sm (.cons rfl sm (.cons rfl sm (.cons rfl sm (.cons rfl sm (.cons rfl sm (.cons rfl sm (.cons rfl sm (.cons rfl sm (.cons rfl sm (.cons rfl sm (.cons rfl sm (.cons rfl sm (.nil)))))))))))))))) (.keep (rfl) rfl (.keep (rfl) rfl (.keep (rfl) rfl (.keep (rfl) rfl (.keep (rfl) rfl (.keep (rfl) rfl (.keep (rfl) rfl (.keep (rfl) rfl (.nil))))))))) (fun i hi => by simp [keysOf] at hi ⊢; omega))))⟩
      · replace h34 := of_decide_eq_false h34
        refine aw_exit ?_
        refine th_e ?_
        refine th_e ?_
        refine in_hit ?_
        refine in_n (th_n (aw_reg (rs_add rfl rfl rfl (by omega) ?_)))
        refine rs_mv rfl rfl ?_
        refine rs_nil fun _ => (th_n ?_)
        have e : n = innS r p q m ((r.drop (i + 1)).drop (j + 1)) := by rw [← hinv3, List.drop_eq_nil_of_le (by omega)]; rfl
        exact ⟨(j + 1, n), ⟨by show j + 1 ≤ _; omega, by rw [← hinv2, ← e], by show n.length ≤ i * 12100 + (j + 1) * 110; omega⟩, by show _ - (j + 1) < _; omega, weak_to (.cons rfl sm (.cons rfl sm (.cons rfl sm (.cons rfl sm (.cons rfl sm (.cons rfl sm (.cons rfl sm (.cons rfl sm (.cons rfl sm (.cons rfl sm (.nil))))))))))) (.keep (rfl) rfl (.keep (rfl) rfl (.keep (rfl) rfl (.keep (rfl) rfl (.keep (rfl) rfl (.keep (rfl) rfl (.keep (rfl) rfl (.nil)))))))) (fun i hi => by simp [keysOf] at hi ⊢; omega)⟩
    · replace h22 := of_decide_eq_false h22
      refine aw_exit ?_
      refine th_e ?_
      refine th_e ?_
      refine in_hit ?_
      refine in_n (th_n (aw_reg (rs_add rfl rfl rfl (by omega) ?_)))
      refine rs_mv rfl rfl ?_
      refine rs_nil fun _ => (th_n ?_)
      have e : m = midS r p l (r.drop (i + 1)) := by rw [← hinv2, List.drop_eq_nil_of_le (by omega)]; rfl
      exact ⟨(i + 1, m), ⟨by show i + 1 ≤ _; omega, by rw [← hinv, ← e], by show m.length ≤ (i + 1) * 12100; omega⟩, by show _ - (i + 1) < _; omega, weak_to (.cons rfl sm (.cons rfl sm (.cons rfl sm (.cons rfl sm (.cons rfl sm (.nil)))))) (.keep (rfl) rfl (.keep (rfl) rfl (.keep (rfl) rfl (.keep (rfl) rfl (.keep (rfl) rfl (.keep (rfl) rfl (.nil))))))) (fun i hi => by simp [keysOf] at hi ⊢; omega)⟩
  · replace h12 := of_decide_eq_false h12
    refine aw_exit ?_
    refine th_e ?_
    refine th_e ?_
    refine in_hit ?_
    have e : l = cornS r := by rw [← hinv, List.drop_eq_nil_of_le (by omega)]; rfl
    subst e
    exact ret_own_e (by first | exact .inl rfl | exact .inr rfl) rfl sm (.keep (rfl) rfl (.keep (rfl) rfl (.keep (rfl) rfl (.keep (rfl) rfl (.keep (rfl) rfl (.keep (rfl) rfl (.nil))))))) (.cons rfl rfl rfl (.cons rfl rfl rfl (.dead rfl rfl (.cons rfl rfl rfl (.cons rfl rfl rfl (.nil))))))
end Go.Proofs.YthfhaoogcpfboaaGreat

/-! Walks: VO. -/
namespace Go.Proofs.YthfhaoogcpfboaaGreat
open Go.RowKit
set_option maxRecDepth 100000
set_option linter.unusedVariables false
theorem innS_len (r : List Pl) (p q : Pl) : ∀ (t : List Pl) (l : List Pt), (innS r p q l t).length ≤ l.length + t.length
  | [], l => Nat.le_refl _
  | s :: t, l => by
    have h1 := innS_len r p q t (accS r l p q s)
    have h2 := accS_len r l p q s
    show (innS r p q (accS r l p q s) t).length ≤ _
    rw [List.length_cons]; omega
theorem midS_len (r : List Pl) (p : Pl) (N : Nat) : ∀ (t : List Pl) (l : List Pt), t.length ≤ N → (midS r p l t).length ≤ l.length + t.length * N
  | [], l, _ => Nat.le_add_right _ _
  | q :: t, l, h => by
    have h1 := midS_len r p N t (innS r p q l t) (by rw [List.length_cons] at h; omega)
    have h2 := innS_len r p q t l
    show (midS r p (innS r p q l t) t).length ≤ _
    rw [List.length_cons] at h ⊢
    rw [Nat.succ_mul]; omega
theorem topS_len (r : List Pl) (N : Nat) : ∀ (t : List Pl) (l : List Pt), t.length ≤ N → (topS r l t).length ≤ l.length + t.length * (N * N)
  | [], l, _ => Nat.le_add_right _ _
  | p :: t, l, h => by
    have h1 := topS_len r N t (midS r p l t) (by rw [List.length_cons] at h; omega)
    have h2 := midS_len r p N t l (by rw [List.length_cons] at h; omega)
    have h3 : t.length * N ≤ N * N := Nat.mul_le_mul_right _ (by rw [List.length_cons] at h; omega)
    show (topS r (midS r p l t) t).length ≤ _
    rw [List.length_cons, Nat.succ_mul]; omega
theorem corn_len {r : List Pl} (h : r.length ≤ 110) : (cornS r).length ≤ 1331000 := by
  have h1 := topS_len r 110 r [] h
  unfold cornS
  simp only [List.length_nil] at h1
  omega
def nonS (l : List Pt) (p : Pl) : Bool := !l.any (inB p)
/-- Has a region an interior? -/
def fullS (r : List Pl) : Bool := !r.any (nonS (cornS r))
def mcv161 : MC := (.seq (.reg [oN 1 (.box 167 1 (.t 0)) [], oN 2 (.mv (.c .nils)) []] false) (.seq (.reg [oN 3 (.alloc 170 1 [.nils]) []] false) (.seq (.reg [⟨(some 8), .mkmap, none, []⟩, oN 4 (.alloc 211 1 [.nilm]) [], ⟨none, (.st 1 (.t 4) (.t 8)), none, [1, 0, 0, 1]⟩] false) (.seq (.seq (.reg [oN 9 (.ld false 1 (.t 1)) [], oN 10 (.call 185 [(.t 9)]) [0]] false) (.block 0 (.rfunc (.t 10) [11] (.reg [oN 5 (.alloc 215 12 [(.int .i64 0), (.int .i64 0), (.int .i64 0), (.int .i64 0), (.int .i64 0), (.int .i64 0), (.int .i64 0), (.int .i64 0), (.int .i64 0), (.int .i64 0), (.int .i64 0), (.int .i64 0)]) [], ⟨none, (.st 12 (.t 5) (.t 11)), none, [0, 0]⟩] false) (.block 1 (.seq (.reg [oN 13 (.ld true 12 (.t 5)) [], oN 14 (.call 186 [(.t 13)]) [0], oN 12 (.mv (.t 14)) [1], oN 15 (.ext (.t 12) 0) [2], oN 16 (.ext (.t 12) 1) [2], oN 6 (.alloc 174 4 [(.int .i64 0), (.int .i64 0), (.int .i64 0), (.int .i64 0)]) [], ⟨none, (.st 4 (.t 6) (.t 15)), none, [5, 3, 1, 0, 1, 2, 3, 5]⟩, oN 7 (.mv (.t 16)) [4, 6, 0, 1, 2, 3, 4, 5, 6]] false) (.seq (.reg [oN 17 (.mv (.t 7)) [], oN 18 (.mv (.t 17)) [0], oG 19 (.ld false 1 (.t 4)) 18 true [1], oG 20 (.ld true 4 (.t 6)) 18 true [1], oG 21 (.mhas 4 (.t 19) (.t 20)) 18 true [2, 3, 1], oG 22 (.un .not (.t 21)) 18 true [4, 1], oN 23 (.pick (.t 18) (.t 22) (.c (.bool false))) [1, 5], oN 24 (.mv (.t 23)) [6, 1], oG 25 (.ld false 1 (.t 1)) 24 true [7], oG 26 (.ld true 4 (.t 6)) 24 true [7], oG 27 (.call 187 [(.t 25), (.t 26)]) 24 true [8, 9, 7, 7], oN 28 (.pick (.t 24) (.t 27) (.c (.bool false))) [7, 10]] false) (.cond (.t 28) (.seq (.reg [oN 29 (.ld false 1 (.t 4)) [], oN 30 (.ld true 4 (.t 6)) [], ⟨none, (.mapadd 4 (.t 29) (.t 30) (.c (.bool true))), none, [0, 1, 0, 1]⟩] false) (.reg [oN 31 (.ld false 1 (.t 3)) [], oN 32 (.ld true 4 (.t 6)) [], oN 33 (.bslice 174 4 [(.int .i64 0), (.int .i64 0), (.int .i64 0), (.int .i64 0)] 1 [(0, (.t 32))]) [1], oN 34 (.app 174 4 32 [(.int .i64 0), (.int .i64 0), (.int .i64 0), (.int .i64 0)] (.t 31) (.t 33)) [0, 2], ⟨none, (.st 1 (.t 3) (.t 34)), none, [3, 3, 0, 1, 2, 3]⟩] false)) .skip))))))) (.seq (.reg [oN 35 (.ld false 1 (.t 3)) [], oN 2 (.mv (.t 35)) [0, 0]] false) .ret)))))
theorem mcOkv161 : (match Tryz.f161.body with | some c => compC Tryz.prog 36 c | none => none) = some mcv161 := by kernel_rfl
theorem vc161 (r : List Pl) (hr : r.length ≤ 110) (hok : okTop r = true) : FC Tryz.prog 161 [.rs 4 (r.map cPl)] [] (.rs 4 ((cornS r).map cPt)) [] false := by
  refine fc_run (nt := 36) Tryz.func161 rfl rfl mcOkv161 (Nat.le_of_ble_eq_true rfl) ?_
  delta mcv161
  refine aw_seq (aw_reg (rs_box rfl rfl rfl rfl rfl rfl ?_))
  refine rs_mv rfl rfl ?_
  refine rs_nil fun _ => (th_n (aw_seq (aw_reg (rs_alloc rfl rfl rfl ?_))))
  refine rs_nil fun _ => (th_n (aw_seq (aw_reg (rs_mkmap rfl rfl ?_))))
  refine rs_alloc rfl rfl rfl ?_
  refine rs_st rfl rfl rfl rfl rfl rfl rfl (Nat.le_of_ble_eq_true rfl) rfl rfl ?_
  refine rs_nil fun _ => (th_n (aw_seq (aw_seq (aw_reg (rs_ld_p rfl rfl rfl rfl rfl ?_)))))
  refine rs_callo [] rfl rfl (vc185 r) (.cons (hv_same rfl) .nil) .nil rfl rfl rfl ?_
  refine rs_nil fun _ => (th_n (aw_block (aw_weak (F0 := [(10, .fn (.func 208) [.rp [.rs 4 (r.map cPl)]]), (1, .rp [.rs 4 (r.map cPl)]), (3, .ptr 1003 0 0), (4, .ptr 1004 0 0)]) (H0 := [(1003, .cells 170 1 [[.sl 901 0 (([] : List Pt)).length]] false), (901, .cells 174 4 ((([] : List Pt)).map cPt) true), (1004, .cells 211 1 [[.mp 1008]] false), (1008, .mset ((([] : List Pt)).map ptK))]) (Weak.trans (F1 := [(10, .fn (.func 208) [.rp [.rs 4 (r.map cPl)]]), (1, .rp [.rs 4 (r.map cPl)]), (3, .ptr 3 0 0), (4, .ptr 4 0 0)]) (H1 := [(3, .cells 170 1 [[.nils]] true), (4, .cells 211 1 [[.mp 8]] false), (8, .mset [])]) (weak_to (.cons rfl sm (.cons rfl (rc_pfrz rfl rfl (.inl rfl)) (.cons rfl sm (.cons rfl sm (.nil))))) (.keep (rfl) rfl (.keep (rfl) rfl (.keep (rfl) rfl (.nil)))) (fun i h => by cases h)) (Weak.trans (F1 := [(10, .fn (.func 208) [.rp [.rs 4 (r.map cPl)]]), (1, .rp [.rs 4 (r.map cPl)]), (3, .ptr 3 0 0), (4, .ptr 4 0 0)]) (H1 := [(3, .cells 170 1 [[.nils]] true), (4, .cells 211 1 [[.mp 1008]] false), (1008, .mset [])]) (Weak.trans (F1 := [(10, .fn (.func 208) [.rp [.rs 4 (r.map cPl)]]), (1, .rp [.rs 4 (r.map cPl)]), (3, .ptr 3 0 0), (4, .ptr 4 0 0)]) (weak_ren_cell (i := 8) (i' := 1008) (k := 4) rfl rfl (.cons rfl (.same _) (.cons rfl (.same _) (.cons rfl (.same _) (.cons rfl (.same _) (.nil))))) (by decide) rfl .mp) (weak_to (.cons rfl sm (.cons rfl sm (.cons rfl sm (.cons rfl sm (.nil))))) (.keep (rfl) rfl (.keep (rfl) rfl (.keep (rfl) rfl (.nil)))) (fun i h => by cases h))) (Weak.trans (F1 := [(10, .fn (.func 208) [.rp [.rs 4 (r.map cPl)]]), (1, .rp [.rs 4 (r.map cPl)]), (3, .ptr 1003 0 0), (4, .ptr 1004 0 0)]) (H1 := [(1003, .cells 170 1 [[.nils]] true), (1004, .cells 211 1 [[.mp 1008]] false), (1008, .mset [])]) (Weak.trans (F1 := [(10, .fn (.func 208) [.rp [.rs 4 (r.map cPl)]]), (1, .rp [.rs 4 (r.map cPl)]), (3, .ptr 1003 0 0), (4, .ptr 4 0 0)]) (H1 := [(1003, .cells 170 1 [[.nils]] true), (4, .cells 211 1 [[.mp 1008]] false), (1008, .mset [])]) (weak_to_ren (i := 3) (i' := 1003) (F1 := [(10, .fn (.func 208) [.rp [.rs 4 (r.map cPl)]]), (1, .rp [.rs 4 (r.map cPl)]), (3, .ptr 3 0 0), (4, .ptr 4 0 0)]) (H1 := [(3, .cells 170 1 [[.nils]] true), (4, .cells 211 1 [[.mp 1008]] false), (1008, .mset [])]) (.cons rfl sm (.cons rfl sm (.cons rfl sm (.cons rfl sm (.nil))))) (.keep (rfl) rfl (.keep (rfl) rfl (.keep (rfl) rfl (.nil)))) (fun i h => by cases h) rfl rfl (.cons rfl (.same _) (.cons rfl (.same _) (.cons rfl (.ptr _ _) (.cons rfl (.same _) (.nil))))) (.cons rfl sm (.cons rfl sm (.cons rfl sm (.cons rfl sm (.nil))))) (.keep (rfl) rfl (.keep (rfl) rfl (.keep (rfl) rfl (.nil)))) (fun i h => by cases h)) (weak_to_ren (i := 4) (i' := 1004) (F1 := [(10, .fn (.func 208) [.rp [.rs 4 (r.map cPl)]]), (1, .rp [.rs 4 (r.map cPl)]), (3, .ptr 1003 0 0), (4, .ptr 4 0 0)]) (H1 := [(1003, .cells 170 1 [[.nils]] true), (4, .cells 211 1 [[.mp 1008]] false), (1008, .mset [])]) (.cons rfl sm (.cons rfl sm (.cons rfl sm (.cons rfl sm (.nil))))) (.keep (rfl) rfl (.keep (rfl) rfl (.keep (rfl) rfl (.nil)))) (fun i h => by cases h) rfl rfl (.cons rfl (.same _) (.cons rfl (.same _) (.cons rfl (.same _) (.cons rfl (.ptr _ _) (.nil))))) (.cons rfl sm (.cons rfl sm (.cons rfl sm (.cons rfl sm (.nil))))) (.keep (rfl) rfl (.keep (rfl) rfl (.keep (rfl) rfl (.nil)))) (fun i h => by cases h))) (Weak.trans (F1 := [(10, .fn (.func 208) [.rp [.rs 4 (r.map cPl)]]), (1, .rp [.rs 4 (r.map cPl)]), (3, .ptr 1003 0 0), (4, .ptr 1004 0 0)]) (weak_seed (i := 901) (k := 1003) (e := 170) (z := 1) (e2 := 174) (z2 := 4) (fl := true) (fl2 := true) rfl rfl) (weak_to (.cons rfl sm (.cons rfl sm (.cons rfl sm (.cons rfl sm (.nil))))) (.keep (rfl) rfl (.keep (rfl) rfl (.keep (rfl) rfl (.keep (rfl) rfl (.nil))))) (fun i h => by cases h)))))) ?_)))
  refine aw_rfunc 900 [(1003, .cells 170 1 [[.sl 901 0 (([] : List Pt)).length]] false), (901, .cells 174 4 ((([] : List Pt)).map cPt) true), (1004, .cells 211 1 [[.mp 1008]] false), (1008, .mset ((([] : List Pt)).map ptK))] [(1003, .cells 170 1 [[.sl 903 0 (cornS r).length]] false), (903, .cells 174 4 ((cornS r).map cPt) true), (1004, .cells 211 1 [[.mp 1008]] false), (1008, .mset ((cornS r).map ptK)), (901, .dead)] (.inl ⟨rfl, rfl⟩) rfl (by kernel_rfl) rfl rfl rfl (.cons rfl (.cons rfl (.cons rfl (.cons rfl (.nil))))) rfl rfl rfl rfl (fun r0 hrec => ⟨r0, (by rw [hrec.state]; intro h; cases h), hrec.pending, vc208 r hr hok r0 hrec⟩) ?_
  refine in_n (th_n (aw_seq (aw_reg (rs_ld_p rfl rfl rfl rfl rfl ?_))))
  refine rs_mv rfl rfl ?_
  refine rs_nil fun _ => (th_n (aw_ret ?_))
  exact ret_new rfl (rc_frz (f := cPt) (xs := cornS r) rfl rfl rfl (fun _ => rfl)) .nil
def mcv163 : MC := (.seq (.reg [oN 2 (.box 90 4 (.t 0)) [], oN 3 (.mv (.c (.bool false))) []] false) (.seq (.reg [oN 4 (.ld false 1 (.t 1)) [], oN 5 (.mkfn (.func 165) [(.t 2)]) [], oN 6 (.call 164 [(.t 4), (.t 5)]) [0, 1], oN 7 (.un .not (.t 6)) [2], oN 3 (.mv (.t 7)) [3, 2, 0, 1, 2, 3]] false) .ret))
theorem mcOkv163 : (match Tryz.f163.body with | some c => compC Tryz.prog 8 c | none => none) = some mcv163 := by kernel_rfl
theorem vc163 (l : List Pt) (hl : l.length ≤ 2000000) (p : Pl) : FC Tryz.prog 163 [.agg (cPl p), .rp [.rs 4 (l.map cPt)]] [] (.bool (nonS l p)) [] false := by
  refine fc_run (nt := 8) Tryz.func163 rfl rfl mcOkv163 (Nat.le_of_ble_eq_true rfl) ?_
  delta mcv163
  refine aw_seq (aw_reg (rs_box rfl rfl rfl rfl rfl rfl ?_))
  refine rs_mv rfl rfl ?_
  refine rs_nil fun _ => (th_n (aw_seq (aw_weak (F0 := [(1, .rp [.rs 4 (l.map cPt)]), (2, .rp (cPl p))]) (H0 := []) (weak_to (.cons rfl sm (.cons rfl (rc_pfrz rfl rfl (.inl rfl)) (.nil))) (.nil) (fun i h => by cases h)) ?_)))
  refine aw_reg (rs_ld_r rfl rfl rfl ?_)
  refine rs_mkfn rfl rfl ?_
  refine rs_calln [] rfl rfl (vcC_ins p l (by omega)) (.cons (hv_same rfl) (.cons (hv_same rfl) (.nil))) rfl ?_
  refine rs_not rfl rfl ?_
  refine rs_mv rfl rfl ?_
  refine rs_nil fun _ => (th_n (aw_ret ?_))
  exact ret_pure rfl rfl rfl (.inr rfl)
def mcv188 : MC := (.seq (.reg [oN 4 (.mv (.c (.int .i64 0))) []] false) (.seq (.seq (.reg [oN 6 (.mv (.t 0)) [], oN 7 (.len (.t 6)) [0], oN 8 (.mv (.c (.int .i64 0))) []] false) (.block 0 (.loop (.seq (.reg [oN 9 (.bin .lss (.t 8) (.t 7)) []] false) (.seq (.cond (.t 9) .skip (.exit 0)) (.seq (.block 1 (.seq (.reg [oN 10 (.mv (.t 8)) [], oN 5 (.mv (.t 10)) [0, 0]] false) (.seq (.reg [oN 11 (.mv (.t 1)) [], oN 12 (.mv (.t 0)) [], oN 13 (.mv (.t 5)) [], oN 14 (.ixsl 4 (.t 12) (.t 13)) [1, 2], oN 15 (.ld true 4 (.t 14)) [3], oN 16 (.callv (.t 11) [(.t 15)]) [0, 4]] false) (.cond (.t 16) (.seq (.reg [oN 17 (.mv (.t 5)) [], oN 4 (.mv (.t 17)) [0, 0]] false) .ret) .skip)))) (.reg [oN 18 (.bin .add (.t 8) (.c (.int .i64 1))) [], oN 8 (.mv (.t 18)) [0]] false))))))) (.seq (.reg [oN 4 (.mv (.c (.int .i64 (-1)))) []] false) .ret)))
theorem mcOkv188 : (match Tryz.f188.body with | some c => compC Tryz.prog 19 c | none => none) = some mcv188 := by kernel_rfl
theorem vcI_non (l : List Pt) (hl : l.length ≤ 2000000) (xs : List Pl) (hxn : xs.length ≤ 4611686018427387904) : FC Tryz.prog 188 [.rs 4 (xs.map cPl), (.fn (.func 163) [.rp [.rs 4 (l.map cPt)]])] [] (.int .i64 (idxS (nonS l) xs 0)) [] false := by
  refine fc_run (nt := 19) Tryz.func188 rfl rfl mcOkv188 (Nat.le_of_ble_eq_true rfl) ?_
  delta mcv188
  refine aw_seq (aw_reg (rs_mv rfl rfl ?_))
  refine rs_nil fun _ => (th_n (aw_seq (aw_seq (aw_reg (rs_mv rfl rfl ?_)))))
  refine rs_len_m rfl rfl ?_
  refine rs_mv rfl rfl ?_
  refine rs_nil fun _ => (th_n (aw_block ?_))
  refine aw_fam (α := Nat) (fun k => xs.length - k) (fun k => [(0, .rs 4 (xs.map cPl)), (1, (.fn (.func 163) [.rp [.rs 4 (l.map cPt)]])), (6, .rs 4 (xs.map cPl)), (7, iv (xs.length : Int)), (8, iv (((k) : Nat) : Int))]) (fun k => []) (fun k => k ≤ xs.length ∧ idxS (nonS l) (xs.drop k) k = idxS (nonS l) xs 0) 0 (⟨by omega, rfl⟩)
    (weak_to (.cons rfl sm (.cons rfl sm (.cons rfl sm (.cons rfl sm (.cons rfl sm (.nil)))))) (.nil) (fun i h => by cases h)) ?_
  rintro k ⟨hk, hinv⟩
  refine aw_seq (aw_reg (rs_lss rfl rfl rfl ?_))
  refine rs_nil fun _ => (th_n (aw_seq (aw_cond rfl (fun h9 => ?_) (fun h9 => ?_))))
  · replace h9 := of_decide_eq_true h9
    refine aw_skip (th_n (aw_seq (aw_block (aw_seq (aw_reg (rs_mv rfl rfl ?_))))))
    refine rs_mv rfl rfl ?_
    refine rs_nil fun _ => (th_n (aw_seq (aw_reg (rs_mv rfl rfl ?_))))
    refine rs_mv rfl rfl ?_
    refine rs_mv rfl rfl ?_
    obtain ⟨x, hxk, hxm⟩ := at_some (L := xs) (k := k) (by omega)
    rw [idxS_at hxk] at hinv
    
    refine rs_ix_g (f := cPl) (y := x) rfl rfl rfl (by omega) hxk ?_
    refine rs_ld_ra (cs := cPl x) rfl rfl (Nat.le_of_ble_eq_true rfl) rfl ?_
    refine rs_callvo [] rfl rfl (by kernel_rfl) rfl (fc_up (vc163 l hl x)) (.cons (hv_same rfl) (.cons (hv_same rfl) (.nil))) .nil rfl rfl rfl ?_
    cases h16 : (nonS l) x
    · skip
      refine rs_nil fun _ => (th_n (aw_cond rfl (fun h => by cases h) (fun _ => ?_)))
      refine aw_skip (in_n (th_n (aw_reg (rs_add rfl rfl rfl (by omega) ?_))))
      refine rs_mv rfl rfl ?_
      refine rs_nil fun _ => (th_n ?_)
      rw [h16] at hinv
      exact ⟨k + 1, ⟨by omega, hinv⟩, by omega, weak_to (.cons rfl sm (.cons rfl sm (.cons rfl sm (.cons rfl sm (.cons rfl sm (.nil)))))) (.nil) (fun i h => by cases h)⟩
    · skip
      refine rs_nil fun _ => (th_n (aw_cond rfl (fun _ => ?_) (fun h => by cases h)))
      refine aw_seq (aw_reg (rs_mv rfl rfl ?_))
      refine rs_mv rfl rfl ?_
      refine rs_nil fun _ => (th_n (aw_ret (in_r (th_r (th_r (in_r (th_r ?_)))))))
      rw [h16] at hinv
      rw [← hinv]
      exact ret_pure rfl rfl rfl (.inr rfl)
  · replace h9 := of_decide_eq_false h9
    refine aw_exit ?_
    refine th_e ?_
    refine th_e ?_
    refine in_hit ?_
    refine th_n (aw_seq (aw_reg (rs_mv rfl rfl ?_)))
    refine rs_nil fun _ => (th_n (aw_ret ?_))
    rw [idxS_end (by omega)] at hinv
    rw [← hinv]
    exact ret_pure rfl rfl rfl (.inr rfl)
def mcv162 : MC := (.seq (.reg [oN 4 (.mv (.c (.bool false))) []] false) (.seq (.reg [oN 5 (.mv (.t 0)) [], oN 6 (.mv (.t 1)) [], oN 7 (.call 188 [(.t 5), (.t 6)]) [0, 1], oN 8 (.bin .geq (.t 7) (.c (.int .i64 0))) [2], oN 4 (.mv (.t 8)) [3, 2, 0, 1, 2, 3]] false) .ret))
theorem mcOkv162 : (match Tryz.f162.body with | some c => compC Tryz.prog 9 c | none => none) = some mcv162 := by kernel_rfl
theorem vcC_non (l : List Pt) (hl : l.length ≤ 2000000) (xs : List Pl) (hxn : xs.length ≤ 4611686018427387904) : FC Tryz.prog 162 [.rs 4 (xs.map cPl), (.fn (.func 163) [.rp [.rs 4 (l.map cPt)]])] [] (.bool (xs.any (nonS l))) [] false := by
  refine fc_run (nt := 9) Tryz.func162 rfl rfl mcOkv162 (Nat.le_of_ble_eq_true rfl) ?_
  delta mcv162
  refine aw_seq (aw_reg (rs_mv rfl rfl ?_))
  refine rs_nil fun _ => (th_n (aw_seq (aw_reg (rs_mv rfl rfl ?_))))
  refine rs_mv rfl rfl ?_
  refine rs_calln [] rfl rfl (vcI_non l hl xs hxn) (.cons (hv_same rfl) (.cons (hv_same rfl) (.nil))) rfl ?_
  refine rs_geq rfl rfl rfl ?_
  refine rs_mv rfl rfl ?_
  refine rs_nil fun _ => (th_n (aw_ret ?_))
  rw [← idxS_cond]
  exact ret_pure rfl rfl rfl (.inr rfl)
def mcv135 : MC := (.seq (.reg [oN 2 (.mv (.c (.bool false))) []] false) (.seq (.reg [oN 4 (.mv (.t 0)) [], oN 5 (.call 161 [(.t 4)]) [0], oN 3 (.alloc 170 1 [.nils]) [], ⟨none, (.st 1 (.t 3) (.t 5)), none, [2, 1, 1, 0, 1, 2]⟩] false) (.seq (.reg [oN 6 (.mv (.t 0)) [], oN 7 (.mkfn (.func 163) [(.t 3)]) [], oN 8 (.call 162 [(.t 6), (.t 7)]) [0, 1], oN 9 (.un .not (.t 8)) [2], oN 2 (.mv (.t 9)) [3, 2, 0, 1, 2, 3]] false) .ret)))
theorem mcOkv135 : (match Tryz.f135.body with | some c => compC Tryz.prog 10 c | none => none) = some mcv135 := by kernel_rfl
theorem vc135 (r : List Pl) (hr : r.length ≤ 110) (hok : okTop r = true) : FC Tryz.prog 135 [.rs 4 (r.map cPl)] [] (.bool (fullS r)) [] false := by
  have hcl := corn_len hr
  refine fc_run (nt := 10) Tryz.func135 rfl rfl mcOkv135 (Nat.le_of_ble_eq_true rfl) ?_
  delta mcv135
  refine aw_seq (aw_reg (rs_mv rfl rfl ?_))
  refine rs_nil fun _ => (th_n (aw_seq (aw_reg (rs_mv rfl rfl ?_))))
  refine rs_calln [] rfl rfl (vc161 r hr hok) (.cons (hv_same rfl) (.nil)) rfl ?_
  refine rs_alloc rfl rfl rfl ?_
  refine rs_st rfl rfl rfl rfl rfl rfl rfl (Nat.le_of_ble_eq_true rfl) rfl rfl ?_
  refine rs_nil fun _ => (th_n (aw_seq (aw_weak (F0 := [(0, .rs 4 (r.map cPl)), (3, .rp [.rs 4 ((cornS r).map cPt)])]) (H0 := []) (weak_to (.cons rfl sm (.cons rfl (rc_pfrz rfl rfl (.inl rfl)) (.nil))) (.nil) (fun i h => by cases h)) ?_)))
  refine aw_reg (rs_mv rfl rfl ?_)
  refine rs_mkfn rfl rfl ?_
  refine rs_calln [] rfl rfl (vcC_non (cornS r) (by omega) r (by omega)) (.cons (hv_same rfl) (.cons (hv_same rfl) (.nil))) rfl ?_
  refine rs_not rfl rfl ?_
  refine rs_mv rfl rfl ?_
  refine rs_nil fun _ => (th_n (aw_ret ?_))
  exact ret_pure rfl rfl rfl (.inr rfl)
end Go.Proofs.YthfhaoogcpfboaaGreat

/-! Walks: VP. -/
namespace Go.Proofs.YthfhaoogcpfboaaGreat
open Go.RowKit
set_option maxRecDepth 100000
set_option linter.unusedVariables false
open Go.Shelf Go.Lib
def renGr : Go.Shelf.Ren := { f := fun _ => 184, t := fun n => if n = 22 then 85 else if n = 25 then 90 else n, g := fun n => n }
theorem laysGr : Lays8.n4 Tryz.prog renGr := by
  constructor
  case f4 => exact ⟨Tryz.f184.name, by kernel_rfl, by kernel_rfl⟩
  all_goals first | kernel_rfl | (intro _; kernel_rfl)
theorem ty90 : ∃ i z, Tryz.prog.info? 90 = some i ∧ i.zero = some z ∧ i.size = 4 ∧ i.bytes = 32 ∧ z.cells.size = 4 := by
  have h : (match Tryz.prog.info? 90 with | some i => (match i.zero with | some z => decide (i.size = 4 ∧ i.bytes = 32 ∧ z.cells.size = 4) | none => false) | none => false) = true := by kernel_rfl
  split at h
  · rename_i i hi
    split at h
    · rename_i z hz
      have h := of_decide_eq_true h
      exact ⟨i, z, hi, hz, h.1, h.2.1, h.2.2⟩
    · cases h
  · cases h
/-- Room for a list to come. -/
theorem vc184 (n : Nat) (hn : 1 ≤ n ∧ n ≤ 1000) : FC Tryz.prog 184 [.nils, iv (n : Int)] [] (.sl 1005 0 0) [(1005, .cells 90 4 [] true)] false := fun w S ρ cargs hH hv => by
  obtain ⟨i0, z0, hi, hz, h1, h2, h3⟩ := ty90
  have e : cargs = #[.slice none 0 0, .int .i64 (n : Int)] := by
    obtain ⟨L⟩ := cargs
    have h1 := hv.1
    have hv0 := hv.2 0 _ rfl
    have hv1 := hv.2 1 _ rfl
    match L, h1, hv0, hv1 with
    | [x, y], _, hv0, hv1 =>
      have e0 : x = .slice none 0 0 := VR.nils_inv hv0
      have e1 : y = .int .i64 (n : Int) := VR.int_inv hv1
      rw [e0, e1]
  rw [e]
  have hb : (0 + n) * i0.bytes ≤ 140737488355328 := by rw [h2]; omega
  have hg := Any8.slices_Grow_grow laysGr i0 z0 hi hz (by omega) none 0 0 n [] w (Nat.le_refl _) (by omega) hb (by omega) (by simp) (fun _ => rfl) (fun a h => by cases h)
  refine hg.mono fun en w' ⟨he, hw⟩ => ?_
  have hge := grownCap_ge w (0 + n) 0 90
  have hle := grownCap_le_maxLen w (0 + n) 0 90 (by unfold maxLen; omega)
  replace he : en = .returned (.slice (some ⟨w.heap.size, 0, none⟩) 0 (grownCap w (0 + n) 0 90)) := he
  replace hw : w' = w.drew.alloc (.cells (([] : List Value).toArray ++ Builtin.zeroCells z0.cells (0 + n - 0) ++ Builtin.zeroCells z0.cells (grownCap w (0 + n) 0 90 - (0 + n))) 90) := hw
  generalize grownCap w (0 + n) 0 90 = G at he hw hge hle
  have hsz : (([] : List Value).toArray ++ Builtin.zeroCells z0.cells (0 + n - 0) ++ Builtin.zeroCells z0.cells (G - (0 + n))).size = G * 4 := by
    simp only [Array.size_append, size_zeroCells, h3, List.size_toArray, List.length_nil]; omega
  generalize (([] : List Value).toArray ++ Builtin.zeroCells z0.cells (0 + n - 0) ++ Builtin.zeroCells z0.cells (G - (0 + n))) = C at hw hsz
  subst hw
  have hnew : (w.drew.alloc (.cells C 90)).heap[w.heap.size]? = some (.cells C 90 (0, 0)) := heap_alloc_new w.drew _
  have hsize : (w.drew.alloc (.cells C 90)).heap.size = w.heap.size + 1 := by show (w.heap.push _).size = _; simp
  have hget : ∀ i, i ≠ 1005 → get ([(1005, .cells 90 4 [] true)] : Hp) i = none := fun i hi => by simp only [get]; rw [if_neg (Ne.symm hi)]
  refine ⟨_, fun _ => False, fun i => if i = 1005 then some (some w.heap.size, 4, G) else none, he, .sl 1005 0 0 w.heap.size 4 G G (if_pos rfl) (by omega) (Nat.zero_le _), ⟨fun b hb => hb.elim, fun i hi => ?_, ⟨fun i o _ ho => ?_, fun i j oi oj b z z' c c' _ _ hne hi hj => ?_⟩⟩, ⟨rfl, rfl, rfl, by rw [hsize]; omega, fun k hk _ => Below.heap_alloc w.drew _ k hk⟩, fun b hb => hb.elim, fun b hb => ?_, fun i hi => absurd rfl hi, fun i hi => absurd rfl hi⟩
  · by_cases h : i = 1005
    · subst h; simp [get] at hi
    · simp [h]
  · by_cases h : i = 1005
    · subst h
      simp [get] at ho
      subst ho
      exact ⟨some w.heap.size, 4, G, if_pos rfl, rfl, fun h => h, hle, C, hnew, hsz, Nat.zero_le _, fun j el h => by simp at h, fun j el o v h => by simp at h⟩
    · rw [hget i h] at ho; cases ho
  · have h1 : i = 1005 := Decidable.byContradiction fun h => by rw [hget i h] at hi; cases hi
    have h2 : j = 1005 := Decidable.byContradiction fun h => by rw [hget j h] at hj; cases hj
    exact absurd (h1.trans h2.symm) hne
  · obtain ⟨i, ob, z, cap, _, h1, _, h2⟩ := hb
    by_cases h : i = 1005
    · subst h; simp at h2; exact .inr (by omega)
    · rw [hget i h] at h1; cases h1
abbrev cR (c : List Pl) : List AV := [.rs 4 (c.map cPl)]
theorem flat_succ {ls : List (List Pl)} {k : Nat} {c : List Pl} (h : ls[k]? = some c) : (ls.take (k + 1)).flatten = (ls.take k).flatten ++ c := by rw [take_succ_at h]; simp
theorem flat_le {ls : List (List Pl)} (k : Nat) : ((ls.take k).flatten).length ≤ ls.flatten.length := by
  have : ls.flatten = (ls.take k).flatten ++ (ls.drop k).flatten := by rw [← List.flatten_append, List.take_append_drop]
  rw [this, List.length_append]; omega
theorem addNW2 {a b : Nat} (h : a + b ≤ 1000000) : W ((a : Int) + (b : Int)) = ((a + b : Nat) : Int) := by rw [W_eq (by omega)]; omega
def norms : List V3 := [⟨1, 0, 0⟩, ⟨-1, 0, 0⟩, ⟨0, 1, 0⟩, ⟨0, -1, 0⟩, ⟨0, 0, 1⟩, ⟨0, 0, -1⟩]
def wsP (v : V3) : Pl := ⟨v, 24⟩
/-- The region that cells have in common. -/
def ofS (ls : List (List Pl)) : List Pl := ls.flatten ++ norms.map wsP
theorem ws_succ {l : List Pl} {k : Nat} {v : V3} (h : norms[k]? = some v) : l ++ (norms.take (k + 1)).map wsP = (l ++ (norms.take k).map wsP) ++ [wsP v] := by rw [take_succ_at h]; simp
def mcv160 : MC := (.seq (.reg [oN 2 (.mv (.c .nils)) []] false) (.seq (.reg [oN 3 (.mv (.c (.int .i64 0))) []] false) (.seq (.seq (.reg [oN 9 (.mv (.t 0)) [], oN 10 (.len (.t 9)) [0], oN 11 (.mv (.c (.int .i64 0))) []] false) (.block 0 (.loop (.seq (.reg [oN 12 (.bin .lss (.t 11) (.t 10)) []] false) (.seq (.cond (.t 12) .skip (.exit 0)) (.seq (.block 1 (.seq (.reg [oN 13 (.ixsl 1 (.t 9) (.t 11)) [], oN 14 (.ld false 1 (.t 13)) [0], oN 5 (.mv (.t 14)) [1, 0, 1]] false) (.seq (.reg [oN 15 (.mv (.t 3)) [], oN 16 (.mv (.t 5)) [], oN 17 (.len (.t 16)) [1], oN 18 (.bin .add (.t 15) (.t 17)) [0, 2], oN 3 (.mv (.t 18)) [3, 0, 1, 2, 3]] false) (.seq (.reg [oN 19 (.mv (.t 3)) [], oN 20 (.bin .lss (.t 19) (.c (.int .i64 0))) [0]] false) (.cond (.t 20) (.reg [oN 21 (.mkif 9 (.c (.str (strN [108, 101, 110, 32, 111, 117, 116, 32, 111, 102, 32, 114, 97, 110, 103, 101])))) [], ⟨none, .bot, none, [0]⟩] false) .skip))))) (.reg [oN 22 (.bin .add (.t 11) (.c (.int .i64 1))) [], oN 11 (.mv (.t 22)) [0]] false))))))) (.seq (.reg [oN 23 (.mv (.t 3)) [], oN 24 (.call 184 [(.c .nils), (.t 23)]) [0], oN 6 (.mv (.t 24)) [1, 1, 0, 1]] false) (.seq (.seq (.reg [oN 25 (.mv (.t 0)) [], oN 26 (.len (.t 25)) [0], oN 27 (.mv (.c (.int .i64 0))) []] false) (.block 2 (.loop (.seq (.reg [oN 28 (.bin .lss (.t 27) (.t 26)) []] false) (.seq (.cond (.t 28) .skip (.exit 2)) (.seq (.block 3 (.seq (.reg [oN 29 (.ixsl 1 (.t 25) (.t 27)) [], oN 30 (.ld false 1 (.t 29)) [0], oN 8 (.mv (.t 30)) [1, 0, 1]] false) (.reg [oN 31 (.mv (.t 6)) [], oN 32 (.mv (.t 8)) [], oN 33 (.app 90 4 32 [(.int .i64 0), (.int .i64 0), (.int .i64 0), (.int .i64 0)] (.t 31) (.t 32)) [0, 1], oN 6 (.mv (.t 33)) [2, 2, 0, 1, 2]] false))) (.reg [oN 34 (.bin .add (.t 27) (.c (.int .i64 1))) [], oN 27 (.mv (.t 34)) [0]] false))))))) (.seq (.reg [oN 35 (.mv (.t 6)) [], oN 2 (.mv (.t 35)) [0, 0]] false) .ret))))))
theorem mcOkv160 : (match Tryz.f160.body with | some c => compC Tryz.prog 36 c | none => none) = some mcv160 := by kernel_rfl
theorem vc160 (ls : List (List Pl)) (hn : 1 ≤ ls.flatten.length ∧ ls.flatten.length ≤ 1000) (hl : ls.length ≤ 100) : FC Tryz.prog 160 [.rs 1 (ls.map cR)] [] (.sl 1005 0 ls.flatten.length) [(1005, .cells 90 4 (ls.flatten.map cPl) true)] false := by
  refine fc_run (nt := 36) Tryz.func160 rfl rfl mcOkv160 (Nat.le_of_ble_eq_true rfl) ?_
  delta mcv160
  refine aw_seq (aw_reg (rs_mv rfl rfl ?_))
  refine rs_nil fun _ => (th_n (aw_seq (aw_reg (rs_mv rfl rfl ?_))))
  refine rs_nil fun _ => (th_n (aw_seq (aw_seq (aw_reg (rs_mv rfl rfl ?_)))))
  refine rs_len_m rfl rfl ?_
  refine rs_mv rfl rfl ?_
  refine rs_nil fun _ => (th_n (aw_block ?_))
  refine aw_fam (α := Nat) (fun k => ls.length - k) (fun k => [(0, .rs 1 (ls.map cR)), (9, .rs 1 (ls.map cR)), (10, iv (ls.length : Int)), (11, iv (((k) : Nat) : Int)), (3, iv ((((ls.take (k)).flatten).length : Nat) : Int))]) (fun k => []) (fun k => k ≤ ls.length) 0 (by omega)
    (weak_to (.cons rfl sm (.cons rfl sm (.cons rfl sm (.cons rfl sm (.cons rfl sm (.nil)))))) (.nil) (fun i h => by cases h)) ?_
  intro k hk
  refine aw_seq (aw_reg (rs_lss rfl rfl rfl ?_))
  refine rs_nil fun _ => (th_n (aw_seq (aw_cond rfl (fun h12 => ?_) (fun h12 => ?_))))
  · replace h12 := of_decide_eq_true h12
    refine aw_skip (th_n (aw_seq (aw_block (aw_seq (aw_reg ?_)))))
    obtain ⟨c, hck, hcm⟩ := at_some (L := ls) (k := k) (by omega)
    have hfl := flat_le (ls := ls) (k + 1)
    have hfs : ((ls.take (k + 1)).flatten).length = ((ls.take k).flatten).length + c.length := by rw [flat_succ hck, List.length_append]
    refine rs_ix_g (f := cR) (y := c) rfl rfl rfl (by omega) hck ?_
    refine rs_ld_r rfl rfl rfl ?_
    refine rs_mv rfl rfl ?_
    refine rs_nil fun _ => (th_n (aw_seq (aw_reg (rs_mv rfl rfl ?_))))
    refine rs_mv rfl rfl ?_
    refine rs_len_m rfl rfl ?_
    refine rs_addw (c := ((((ls.take (k + 1)).flatten).length : Nat) : Int)) rfl rfl rfl (by rw [hfs]; exact addNW2 (by omega)) ?_
    refine rs_mv rfl rfl ?_
    refine rs_nil fun _ => (th_n (aw_seq (aw_reg (rs_mv rfl rfl ?_))))
    refine rs_cmp_f rfl rfl rfl rfl (by omega) ?_
    refine rs_nil fun _ => (th_n (aw_cond rfl (fun h => by cases h) (fun _ => ?_)))
    refine aw_skip (in_n (th_n (aw_reg (rs_add rfl rfl rfl (by omega) ?_))))
    refine rs_mv rfl rfl ?_
    refine rs_nil fun _ => (th_n ?_)
    exact ⟨k + 1, by omega, by omega, weak_to (.cons rfl sm (.cons rfl sm (.cons rfl sm (.cons rfl sm (.cons rfl sm (.nil)))))) (.nil) (fun i h => by cases h)⟩
  · replace h12 := of_decide_eq_false h12
    refine aw_exit ?_
    refine th_e ?_
    refine th_e ?_
    refine in_hit ?_
    refine th_n (aw_seq ?_)
    obtain rfl : k = ls.length := by omega
    have hfa : ls.take ls.length = ls := List.take_of_length_le (Nat.le_refl _)
    refine aw_reg (rs_mv rfl rfl ?_)
    rw [hfa]
    refine rs_calln [] rfl rfl (vc184 ls.flatten.length hn) (.cons (hv_same rfl) (.cons (hv_same rfl) (.nil))) rfl ?_
    refine rs_mv rfl rfl ?_
    refine rs_nil fun _ => (th_n (aw_seq (aw_seq (aw_reg (rs_mv rfl rfl ?_)))))
    refine rs_len_m rfl rfl ?_
    refine rs_mv rfl rfl ?_
    refine rs_nil fun _ => (th_n (aw_block ?_))
    refine aw_fam (α := Nat) (fun k => ls.length - k) (fun k => [(25, .rs 1 (ls.map cR)), (26, iv (ls.length : Int)), (27, iv (((k) : Nat) : Int)), (6, .sl 1005 0 ((ls.take (k)).flatten).length)]) (fun k => [(1005, .cells 90 4 (((ls.take (k)).flatten).map cPl) true)]) (fun k => k ≤ ls.length) 0 (by omega)
      (weak_to (.cons rfl sm (.cons rfl sm (.cons rfl sm (.cons rfl sm (.nil))))) (.keep (rfl) rfl (.nil)) (fun i h => by cases h)) ?_
    intro k hk
    refine aw_seq (aw_reg (rs_lss rfl rfl rfl ?_))
    refine rs_nil fun _ => (th_n (aw_seq (aw_cond rfl (fun h28 => ?_) (fun h28 => ?_))))
    · replace h28 := of_decide_eq_true h28
      refine aw_skip (th_n (aw_seq (aw_block (aw_seq (aw_reg ?_)))))
      obtain ⟨c, hck, hcm⟩ := at_some (L := ls) (k := k) (by omega)
      have hfl := flat_le (ls := ls) (k + 1)
      have hfs : ((ls.take (k + 1)).flatten).length = ((ls.take k).flatten).length + c.length := by rw [flat_succ hck, List.length_append]
      refine rs_ix_g (f := cR) (y := c) rfl rfl rfl (by omega) hck ?_
      refine rs_ld_r rfl rfl rfl ?_
      refine rs_mv rfl rfl ?_
      refine rs_nil fun _ => (th_n (aw_reg (rs_mv rfl rfl ?_)))
      refine rs_mv rfl rfl ?_
      refine rs_app_mm (f := cPl) (xs := (ls.take k).flatten) (ys := c) (m := c.length) (rd := []) rfl rfl rfl rfl rfl rfl rfl (by simp) (fun _ => rfl) rfl rfl (by omega) (by omega) (fun _ => rfl) ?_
      refine rs_mv rfl rfl ?_
      refine rs_nil fun _ => (in_n (th_n (aw_reg (rs_add rfl rfl rfl (by omega) ?_))))
      refine rs_mv rfl rfl ?_
      refine rs_nil fun _ => (th_n ?_)
      exact ⟨k + 1, by omega, by omega, by rw [hfs, flat_succ hck]; exact weak_to_ren (i := 33) (i' := 1005) (F1 := [(25, .rs 1 (ls.map cR)), (26, iv (ls.length : Int)), (27, iv (((k + 1) : Nat) : Int)), (6, .sl 33 0 (((ls.take k).flatten).length + c.length))]) (H1 := [(33, .cells 90 4 (((ls.take k).flatten ++ c).map cPl) true)]) (.cons rfl sm (.cons rfl sm (.cons rfl sm (.cons rfl sm (.nil))))) (.keep (rfl) rfl (.nil)) (fun i h => by cases h) rfl rfl (.cons rfl (.same _) (.cons rfl (.same _) (.cons rfl (.same _) (.cons rfl (.sl _ _) (.nil))))) (.cons rfl sm (.cons rfl sm (.cons rfl sm (.cons rfl sm (.nil))))) (.keep (rfl) rfl (.nil)) (fun i h => by cases h)⟩
    · replace h28 := of_decide_eq_false h28
      refine aw_exit ?_
      refine th_e ?_
      refine th_e ?_
      refine in_hit ?_
      refine th_n (aw_seq (aw_reg (rs_mv rfl rfl ?_)))
      refine rs_mv rfl rfl ?_
      refine rs_nil fun _ => (th_n (aw_ret ?_))
      obtain rfl : k = ls.length := by omega
      rw [List.take_of_length_le (Nat.le_refl _)]
      exact ret_new rfl (rc_same rfl (.inr rfl)) (.keep rfl rfl (noROE_map (fun _ => rfl) _) .nil)
def mcv134 : MC := (.seq (.reg [oN 2 (.mv (.c .nils)) []] false) (.seq (.reg [oN 6 (.mv (.t 0)) [], oN 7 (.call 160 [(.t 6)]) [0], oN 3 (.mv (.t 7)) [1, 1, 0, 1]] false) (.seq (.seq (.reg [oN 8 (.build [(.int .i64 0), (.int .i64 0), (.int .i64 0)] [(0, (1, (.c (.int .i64 1))))]) [], oN 9 (.build [(.int .i64 0), (.int .i64 0), (.int .i64 0)] [(0, (1, (.c (.int .i64 (-1)))))]) [], oN 10 (.build [(.int .i64 0), (.int .i64 0), (.int .i64 0)] [(1, (1, (.c (.int .i64 1))))]) [], oN 11 (.build [(.int .i64 0), (.int .i64 0), (.int .i64 0)] [(1, (1, (.c (.int .i64 (-1)))))]) [], oN 12 (.build [(.int .i64 0), (.int .i64 0), (.int .i64 0)] [(2, (1, (.c (.int .i64 1))))]) [], oN 13 (.build [(.int .i64 0), (.int .i64 0), (.int .i64 0)] [(2, (1, (.c (.int .i64 (-1)))))]) [], oN 14 (.bslice 88 3 [(.int .i64 0), (.int .i64 0), (.int .i64 0)] 6 [(0, (.t 8)), (1, (.t 9)), (2, (.t 10)), (3, (.t 11)), (4, (.t 12)), (5, (.t 13))]) [0, 1, 2, 3, 4, 5], oN 15 (.len (.t 14)) [6], oN 16 (.mv (.c (.int .i64 0))) []] false) (.block 0 (.loop (.seq (.reg [oN 17 (.bin .lss (.t 16) (.t 15)) []] false) (.seq (.cond (.t 17) .skip (.exit 0)) (.seq (.block 1 (.seq (.reg [oN 18 (.ixsl 3 (.t 14) (.t 16)) [], oN 19 (.ld true 3 (.t 18)) [0], oN 5 (.alloc 88 3 [(.int .i64 0), (.int .i64 0), (.int .i64 0)]) [], ⟨none, (.st 3 (.t 5) (.t 19)), none, [2, 1, 0, 1, 2]⟩] false) (.reg [oN 20 (.mv (.t 3)) [], oN 21 (.ld true 3 (.t 5)) [], oN 22 (.build [(.int .i64 0), (.int .i64 0), (.int .i64 0), (.int .i64 0)] [(0, (3, (.t 21))), (3, (1, (.c (.int .i64 24))))]) [1], oN 23 (.bslice 90 4 [(.int .i64 0), (.int .i64 0), (.int .i64 0), (.int .i64 0)] 1 [(0, (.t 22))]) [2], oN 24 (.app 90 4 32 [(.int .i64 0), (.int .i64 0), (.int .i64 0), (.int .i64 0)] (.t 20) (.t 23)) [0, 3], oN 3 (.mv (.t 24)) [4, 4, 0, 1, 2, 3, 4]] false))) (.reg [oN 25 (.bin .add (.t 16) (.c (.int .i64 1))) [], oN 16 (.mv (.t 25)) [0]] false))))))) (.seq (.reg [oN 26 (.mv (.t 3)) [], oN 2 (.mv (.t 26)) [0, 0]] false) .ret))))
theorem mcOkv134 : (match Tryz.f134.body with | some c => compC Tryz.prog 27 c | none => none) = some mcv134 := by kernel_rfl
theorem vc134 (ls : List (List Pl)) (hn : 1 ≤ ls.flatten.length ∧ ls.flatten.length ≤ 1000) (hl : ls.length ≤ 100) : FC Tryz.prog 134 [.rs 1 (ls.map cR)] [] (.rs 4 ((ofS ls).map cPl)) [] false := by
  refine fc_run (nt := 27) Tryz.func134 rfl rfl mcOkv134 (Nat.le_of_ble_eq_true rfl) ?_
  delta mcv134
  refine aw_seq (aw_reg (rs_mv rfl rfl ?_))
  refine rs_nil fun _ => (th_n (aw_seq (aw_reg (rs_mv rfl rfl ?_))))
  refine rs_calln [] rfl rfl (vc160 ls hn hl) (.cons (hv_same rfl) (.nil)) rfl ?_
  refine rs_mv rfl rfl ?_
  refine rs_nil fun _ => (th_n (aw_seq (aw_seq (aw_reg (rs_build rfl rfl ?_)))))
  refine rs_build rfl rfl ?_
  refine rs_build rfl rfl ?_
  refine rs_build rfl rfl ?_
  refine rs_build rfl rfl ?_
  refine rs_build rfl rfl ?_
  refine rs_bslice (l := (norms).flatMap cV) (els := (norms).map cV) (fl := true) rfl (by kernel_rfl) rfl rfl (by kernel_rfl) (by kernel_rfl) ?_
  refine rs_len_s rfl rfl ?_
  refine rs_mv rfl rfl ?_
  refine rs_nil fun _ => (th_n (aw_block ?_))
  refine aw_fam (α := Nat) (fun k => 6 - k) (fun k => [(3, .sl 1005 0 (ls.flatten.length + (k))), (14, .rs 3 (norms.map cV)), (15, iv ((6 : Nat) : Int)), (16, iv (((k) : Nat) : Int))]) (fun k => [(1005, .cells 90 4 ((ls.flatten ++ (norms.take (k)).map wsP).map cPl) true)]) (fun k => k ≤ 6) 0 (by omega)
    (weak_to (.cons rfl sm (.cons rfl (rc_frz (f := cV) (xs := norms) rfl rfl rfl (fun _ => rfl)) (.cons rfl sm (.cons rfl sm (.nil))))) (.keep (by simp [get]) rfl (.nil)) (fun i h => by cases h)) ?_
  intro k hk
  refine aw_seq (aw_reg (rs_lss rfl rfl rfl ?_))
  refine rs_nil fun _ => (th_n (aw_seq (aw_cond rfl (fun h17 => ?_) (fun h17 => ?_))))
  · replace h17 := of_decide_eq_true h17
    refine aw_skip (th_n (aw_seq (aw_block (aw_seq (aw_reg ?_)))))
    obtain ⟨v, hvk, hvm⟩ := at_some (L := norms) (k := k) (by show k < 6; omega)
    refine rs_ix_g (f := cV) (y := v) rfl rfl rfl (by omega) hvk ?_
    refine rs_ld_ra (cs := cV v) rfl rfl (Nat.le_of_ble_eq_true rfl) rfl ?_
    refine rs_alloc rfl rfl rfl ?_
    refine rs_st rfl rfl rfl rfl rfl rfl rfl (Nat.le_of_ble_eq_true rfl) rfl rfl ?_
    refine rs_nil fun _ => (th_n (aw_reg (rs_mv rfl rfl ?_)))
    refine rs_ld_pa rfl rfl rfl rfl (Nat.le_of_ble_eq_true rfl) rfl ?_
    refine rs_build rfl rfl ?_
    refine rs_bslice (l := (([wsP v] : List Pl)).flatMap cPl) (els := (([wsP v] : List Pl)).map cPl) (fl := true) rfl (by kernel_rfl) rfl rfl (by kernel_rfl) (by kernel_rfl) ?_
    refine rs_app_m (f := cPl) (xs := ls.flatten ++ (norms.take k).map wsP) (y := wsP v) (fl' := true) rfl rfl rfl rfl (by simp; rw [show norms.length = 6 from rfl]; omega) rfl rfl rfl (by decide) rfl (by omega) (by omega) rfl ?_
    refine rs_mv rfl rfl ?_
    refine rs_nil fun _ => (in_n (th_n (aw_reg (rs_add rfl rfl rfl (by omega) ?_))))
    refine rs_mv rfl rfl ?_
    refine rs_nil fun _ => (th_n ?_)
    exact ⟨k + 1, by omega, by omega, weak_to_ren (i := 24) (i' := 1005) (F1 := [(3, .sl 24 0 (ls.flatten.length + (k + 1))), (14, .rs 3 (norms.map cV)), (15, iv ((6 : Nat) : Int)), (16, iv (((k + 1) : Nat) : Int))]) (H1 := [(24, .cells 90 4 ((ls.flatten ++ (norms.take (k + 1)).map wsP).map cPl) true)]) (.cons rfl sm (.cons rfl sm (.cons rfl sm (.cons rfl sm (.nil))))) (.keep (by rw [ws_succ hvk]; rfl) rfl (.nil)) (fun i h => by cases h) rfl rfl (.cons rfl (.sl _ _) (.cons rfl (.same _) (.cons rfl (.same _) (.cons rfl (.same _) (.nil))))) (.cons rfl sm (.cons rfl sm (.cons rfl sm (.cons rfl sm (.nil))))) (.keep (rfl) rfl (.nil)) (fun i h => by cases h)⟩
  · replace h17 := of_decide_eq_false h17
    refine aw_exit ?_
    refine th_e ?_
    refine th_e ?_
    refine in_hit ?_
    refine th_n (aw_seq (aw_reg (rs_mv rfl rfl ?_)))
    refine rs_mv rfl rfl ?_
    refine rs_nil fun _ => (th_n (aw_ret ?_))
    obtain rfl : k = 6 := by omega
    exact ret_new rfl (rc_frz (f := cPl) (xs := ofS ls) rfl rfl (by simp [ofS, norms]) (fun _ => rfl)) .nil
end Go.Proofs.YthfhaoogcpfboaaGreat

/-! Walks: VQ. -/
namespace Go.Proofs.YthfhaoogcpfboaaGreat
open Go.RowKit
set_option maxRecDepth 100000
set_option linter.unusedVariables false
theorem all_at {α : Type} {p : α → Bool} {l : List α} {k : Nat} {x : α} (h : l[k]? = some x) : (l.drop k).all p = (p x && (l.drop (k + 1)).all p) := by rw [drop_at h]; rfl
theorem withinS_at {m : Int} {l : List Int} {k : Nat} {x : Int} (h : l[k]? = some x) : withinS m (l.drop k) = (decide (-m ≤ x ∧ x ≤ m) && withinS m (l.drop (k + 1))) := all_at h
def validP (p : Pl) : Bool := withinS 4608 [p.n.x, p.n.y, p.n.z] && decide ((gL [p.n.x, p.n.y, p.n.z] : Int) = 1) && withinS 2097152 [p.b]
def badP (p : Pl) : Bool := !validP p
/-- The error of a cell. -/
def ckS (c : List Pl) : Int := if c.length > 48 then 2 else if c.any badP = true then 12 else 0
def badC (c : List Pl) : Bool := decide (ckS c ≠ 0)
def validS (ls : List (List Pl)) : Bool := !ls.any badC
def cfullS (c : List Pl) : Bool := validS [c] && fullS (ofS [c])
def apartS (a b : List Pl) : Bool := !validS [a, b] || !fullS (ofS [a, b])
def meetB (c q : List Pl) : Bool := !apartS c q
def sapartS (c : List Pl) (s : List (List Pl)) : Bool := !s.any (meetB c)
theorem within_bd {m : Int} {l : List Int} (h : withinS m l = true) : ∀ x ∈ l, -m ≤ x ∧ x ≤ m := fun x hx => of_decide_eq_true (List.all_eq_true.1 h x hx)
theorem mulBd {a b A B : Int} (ha : -A ≤ a ∧ a ≤ A) (hb : -B ≤ b ∧ b ≤ B) : -(A * B) ≤ a * b ∧ a * b ≤ A * B := by
  have h1 : (a * b).natAbs ≤ A.toNat * B.toNat := by rw [Int.natAbs_mul]; exact Nat.mul_le_mul (by omega) (by omega)
  have h2 : ((A.toNat * B.toNat : Nat) : Int) = A * B := by rw [Int.natCast_mul, Int.toNat_of_nonneg (by omega), Int.toNat_of_nonneg (by omega)]
  omega
def VB (m : Int) (v : V3) : Prop := (-m ≤ v.x ∧ v.x ≤ m) ∧ (-m ≤ v.y ∧ v.y ≤ m) ∧ (-m ≤ v.z ∧ v.z ≤ m)
theorem crossW_b {a b : V3} (ha : VB 4608 a) (hb : VB 4608 b) : VB 42467328 (crossW a b) := by
  obtain ⟨ax, ay, az⟩ := ha
  obtain ⟨bx, by_, bz⟩ := hb
  have e1 := mulBd ay bz; have e2 := mulBd az by_; have e3 := mulBd az bx; have e4 := mulBd ax bz; have e5 := mulBd ax by_; have e6 := mulBd ay bx
  simp only [crossW]
  rw [W_eq (n := a.y * b.z) (by omega), W_eq (n := a.z * b.y) (by omega), W_eq (n := a.z * b.x) (by omega), W_eq (n := a.x * b.z) (by omega), W_eq (n := a.x * b.y) (by omega), W_eq (n := a.y * b.x) (by omega), W_eq (n := a.y * b.z - a.z * b.y) (by omega), W_eq (n := a.z * b.x - a.x * b.z) (by omega), W_eq (n := a.x * b.y - a.y * b.x) (by omega)]
  refine ⟨?_, ?_, ?_⟩ <;> dsimp only <;> omega
theorem timesW_b {v : V3} {n : Int} (hv : VB 42467328 v) (hn : -2097152 ≤ n ∧ n ≤ 2097152) : VB 89060441849856 (timesW v n) := by
  obtain ⟨ax, ay, az⟩ := hv
  have e1 := mulBd ax hn; have e2 := mulBd ay hn; have e3 := mulBd az hn
  simp only [timesW]
  rw [W_eq (n := v.x * n) (by omega), W_eq (n := v.y * n) (by omega), W_eq (n := v.z * n) (by omega)]
  refine ⟨?_, ?_, ?_⟩ <;> dsimp only <;> omega
theorem addW_b {a b : V3} {A B C : Int} (ha : VB A a) (hb : VB B b) (h : A + B ≤ C := by decide) (hC : C ≤ 1000000000000000 := by decide) : VB C (addW a b) := by
  obtain ⟨ax, ay, az⟩ := ha
  obtain ⟨bx, by_, bz⟩ := hb
  simp only [addW]
  rw [W_eq (n := a.x + b.x) (by omega), W_eq (n := a.y + b.y) (by omega), W_eq (n := a.z + b.z) (by omega)]
  refine ⟨?_, ?_, ?_⟩ <;> dsimp only <;> omega
theorem dotW_b {a b : V3} (ha : VB 4608 a) (hb : VB 42467328 b) : -1000000000000 ≤ dotW a b ∧ dotW a b ≤ 1000000000000 := by
  obtain ⟨ax, ay, az⟩ := ha
  obtain ⟨bx, by_, bz⟩ := hb
  have e1 := mulBd ax bx; have e2 := mulBd ay by_; have e3 := mulBd az bz
  unfold dotW
  rw [W_eq (n := a.x * b.x) (by omega), W_eq (n := a.y * b.y) (by omega), W_eq (n := a.z * b.z) (by omega), W_eq (n := a.x * b.x + a.y * b.y) (by omega), W_eq (by omega)]
  omega
theorem valid_b {p : Pl} (h : validP p = true) : VB 4608 p.n ∧ (-2097152 ≤ p.b ∧ p.b ≤ 2097152) := by
  simp only [validP, Bool.and_eq_true] at h
  have h1 := within_bd h.1.1
  exact ⟨⟨h1 _ (by simp), h1 _ (by simp), h1 _ (by simp)⟩, within_bd h.2 _ (by simp)⟩
theorem sum3_b {p q r : Pl} (hp : validP p = true) (hq : validP q = true) (hr : validP r = true) : VB 267181325549568 (sum3 p q r) ∧ (-1000000000000 ≤ wd3 p q r ∧ wd3 p q r ≤ 1000000000000) := by
  obtain ⟨p1, p2⟩ := valid_b hp
  obtain ⟨q1, q2⟩ := valid_b hq
  obtain ⟨r1, r2⟩ := valid_b hr
  refine ⟨?_, dotW_b r1 (crossW_b p1 q1)⟩
  have z : VB 0 (⟨0, 0, 0⟩ : V3) := ⟨by decide, by decide, by decide⟩
  exact addW_b (A := 178120883699712) (addW_b (A := 89060441849856) (addW_b z (timesW_b (crossW_b q1 r1) p2)) (timesW_b (crossW_b r1 p1) q2)) (timesW_b (crossW_b p1 q1) r2)
theorem okT_valid {p q r : Pl} (hp : validP p = true) (hq : validP q = true) (hr : validP r = true) : okT p q r = true := by
  obtain ⟨⟨h1, h2, h3⟩, h4⟩ := sum3_b hp hq hr
  refine List.all_eq_true.2 fun x hx => decide_eq_true ?_
  simp only [List.mem_cons, List.not_mem_nil, or_false] at hx
  rcases hx with rfl | rfl | rfl | rfl <;> omega
theorem okMid_valid {p : Pl} (hp : validP p = true) : ∀ {t : List Pl}, (∀ q ∈ t, validP q = true) → okMid p t = true
  | [], _ => rfl
  | q :: t, h => by
    simp only [okMid, Bool.and_eq_true]
    exact ⟨List.all_eq_true.2 fun s hs => okT_valid hp (h q (List.mem_cons_self ..)) (h s (List.mem_cons_of_mem _ hs)), okMid_valid hp fun s hs => h s (List.mem_cons_of_mem _ hs)⟩
theorem okTop_valid : ∀ {r : List Pl}, (∀ q ∈ r, validP q = true) → okTop r = true
  | [], _ => rfl
  | p :: t, h => by
    simp only [okTop, Bool.and_eq_true]
    exact ⟨okMid_valid (h p (List.mem_cons_self ..)) fun s hs => h s (List.mem_cons_of_mem _ hs), okTop_valid fun s hs => h s (List.mem_cons_of_mem _ hs)⟩
theorem ck_ok {c : List Pl} (h : badC c = false) : c.length ≤ 48 ∧ ∀ p ∈ c, validP p = true := by
  have h := of_decide_eq_false h
  unfold ckS at h
  split at h
  · exact absurd (by decide) h
  · rename_i h1
    split at h
    · exact absurd (by decide) h
    · rename_i h2
      refine ⟨by omega, fun p hp => ?_⟩
      cases hv : validP p with
      | true => rfl
      | false => exact absurd (List.any_eq_true.2 ⟨p, hp, by simp [badP, hv]⟩) h2
theorem valid_all {ls : List (List Pl)} (h : validS ls = true) : ∀ c ∈ ls, c.length ≤ 48 ∧ ∀ p ∈ c, validP p = true := fun c hc => by
  refine ck_ok ?_
  cases hb : badC c with
  | false => rfl
  | true =>
    unfold validS at h
    rw [List.any_eq_true.2 ⟨c, hc, hb⟩] at h; cases h
theorem norms_valid : ∀ p ∈ norms.map wsP, validP p = true := by decide +kernel
theorem ofS_valid {ls : List (List Pl)} (h : validS ls = true) : ∀ p ∈ ofS ls, validP p = true := fun p hp => by
  rcases List.mem_append.1 hp with hp | hp
  · obtain ⟨c, hc, hp⟩ := List.mem_flatten.1 hp
    exact (valid_all h c hc).2 p hp
  · exact norms_valid p hp
structure OkC (c : List Pl) : Prop where
  n : 1 ≤ c.length ∧ c.length ≤ 100
structure OkA (a b : List Pl) : Prop where
  n : 1 ≤ a.length ∧ a.length ≤ 100
  m : b.length ≤ 100
theorem OkA.fl {a b : List Pl} (h : OkA a b) : 1 ≤ [a, b].flatten.length ∧ [a, b].flatten.length ≤ 1000 := by
  have := h.n; have := h.m; simp; omega
theorem OkA.of {a b : List Pl} (h : validS [a, b] = true) : (ofS [a, b]).length ≤ 110 := by
  have h1 := (valid_all h a (by simp)).1; have h2 := (valid_all h b (by simp)).1; simp [ofS, norms]; omega
theorem OkC.fl {c : List Pl} (h : OkC c) : 1 ≤ [c].flatten.length ∧ [c].flatten.length ≤ 1000 := by
  have := h.n; simp; omega
theorem OkC.of {c : List Pl} (h : validS [c] = true) : (ofS [c]).length ≤ 110 := by
  have h1 := (valid_all h c (by simp)).1; simp [ofS, norms]; omega
def mcv182 : MC := (.seq (.reg [oN 4 (.mv (.c (.bool false))) []] false) (.seq (.seq (.reg [oN 7 (.mv (.t 1)) [], oN 8 (.len (.t 7)) [0], oN 9 (.mv (.c (.int .i64 0))) []] false) (.block 0 (.loop (.seq (.reg [oN 10 (.bin .lss (.t 9) (.t 8)) []] false) (.seq (.cond (.t 10) .skip (.exit 0)) (.seq (.block 1 (.seq (.reg [oN 11 (.ixsl 1 (.t 7) (.t 9)) [], oN 12 (.ld false 1 (.t 11)) [0], oN 6 (.mv (.t 12)) [1, 0, 1]] false) (.seq (.reg [oN 13 (.mv (.t 6)) [], oN 14 (.mv (.t 0)) [], oN 15 (.un .neg (.t 14)) [1], oN 16 (.bin .lss (.t 13) (.t 15)) [0, 2], oN 17 (.mv (.t 16)) [3], oG 18 (.mv (.t 6)) 17 false [4], oG 19 (.mv (.t 0)) 17 false [4], oG 20 (.bin .gtr (.t 18) (.t 19)) 17 false [5, 6, 4], oN 21 (.pick (.t 17) (.c (.bool true)) (.t 20)) [4, 7]] false) (.cond (.t 21) (.seq (.reg [oN 4 (.mv (.c (.bool false))) []] false) .ret) .skip)))) (.reg [oN 22 (.bin .add (.t 9) (.c (.int .i64 1))) [], oN 9 (.mv (.t 22)) [0]] false))))))) (.seq (.reg [oN 4 (.mv (.c (.bool true))) []] false) .ret)))
theorem mcOkv182 : (match Tryz.f182.body with | some c => compC Tryz.prog 23 c | none => none) = some mcv182 := by kernel_rfl
theorem vc182 (m : Int) (l : List Int) (hm : 0 ≤ m ∧ m ≤ 1000000000) (hn : l.length ≤ 1000) : FC Tryz.prog 182 [iv m, ints l] [] (.bool (withinS m l)) [] false := by
  refine fc_run (nt := 23) Tryz.func182 rfl rfl mcOkv182 (Nat.le_of_ble_eq_true rfl) ?_
  delta mcv182
  refine aw_seq (aw_reg (rs_mv rfl rfl ?_))
  refine rs_nil fun _ => (th_n (aw_seq (aw_seq (aw_reg (rs_mv rfl rfl ?_)))))
  refine rs_len_m rfl rfl ?_
  refine rs_mv rfl rfl ?_
  refine rs_nil fun _ => (th_n (aw_block ?_))
  refine aw_fam (α := Nat) (fun k => l.length - k) (fun k => [(0, iv m), (7, ints l), (8, iv (l.length : Int)), (9, iv (((k) : Nat) : Int))]) (fun k => []) (fun k => k ≤ l.length ∧ withinS m (l.drop k) = withinS m l) 0 (⟨by omega, rfl⟩)
    (weak_to (.cons rfl sm (.cons rfl sm (.cons rfl sm (.cons rfl sm (.nil))))) (.nil) (fun i h => by cases h)) ?_
  rintro k ⟨hk, hinv⟩
  refine aw_seq (aw_reg (rs_lss rfl rfl rfl ?_))
  refine rs_nil fun _ => (th_n (aw_seq (aw_cond rfl (fun h10 => ?_) (fun h10 => ?_))))
  · replace h10 := of_decide_eq_true h10
    refine aw_skip (th_n (aw_seq (aw_block (aw_seq (aw_reg ?_)))))
    obtain ⟨x, hxk, hxm⟩ := at_some (L := l) (k := k) (by omega)
    rw [withinS_at hxk] at hinv
    refine rs_ix_g (f := ci) (y := x) rfl rfl rfl (by omega) hxk ?_
    refine rs_ld_r rfl rfl rfl ?_
    refine rs_mv rfl rfl ?_
    refine rs_nil fun _ => (th_n (aw_seq (aw_reg (rs_mv rfl rfl ?_))))
    refine rs_mv rfl rfl ?_
    refine rs_neg rfl rfl (by omega) ?_
    refine rs_cmp rfl rfl rfl rfl (fun h16 => ?_) (fun h16 => ?_)
    · skip
      refine rs_mv rfl rfl ?_
      refine rs_skip rfl ?_
      refine rs_skip rfl ?_
      refine rs_skip rfl ?_
      refine rs_pick rfl rfl rfl ?_
      refine rs_nil fun _ => (th_n (aw_cond rfl (fun _ => ?_) (fun h => by cases h)))
      refine aw_seq (aw_reg (rs_mv rfl rfl ?_))
      refine rs_nil fun _ => (th_n (aw_ret (in_r (th_r (th_r (in_r (th_r ?_)))))))
      rw [decide_eq_false (show ¬ (-m ≤ x ∧ x ≤ m) by omega), Bool.false_and] at hinv
      rw [← hinv]
      exact ret_pure rfl rfl rfl (.inr rfl)
    · skip
      refine rs_mv rfl rfl ?_
      refine rs_mv rfl rfl ?_
      refine rs_mv rfl rfl ?_
      refine rs_cmp rfl rfl rfl rfl (fun h20 => ?_) (fun h20 => ?_)
      · skip
        refine rs_pick rfl rfl rfl ?_
        refine rs_nil fun _ => (th_n (aw_cond rfl (fun _ => ?_) (fun h => by cases h)))
        refine aw_seq (aw_reg (rs_mv rfl rfl ?_))
        refine rs_nil fun _ => (th_n (aw_ret (in_r (th_r (th_r (in_r (th_r ?_)))))))
        rw [decide_eq_false (show ¬ (-m ≤ x ∧ x ≤ m) by omega), Bool.false_and] at hinv
        rw [← hinv]
        exact ret_pure rfl rfl rfl (.inr rfl)
      · skip
        refine rs_pick rfl rfl rfl ?_
        refine rs_nil fun _ => (th_n (aw_cond rfl (fun h => by cases h) (fun _ => ?_)))
        refine aw_skip (in_n (th_n (aw_reg (rs_add rfl rfl rfl (by omega) ?_))))
        refine rs_mv rfl rfl ?_
        refine rs_nil fun _ => (th_n ?_)
        rw [decide_eq_true (show -m ≤ x ∧ x ≤ m by omega), Bool.true_and] at hinv
        exact ⟨k + 1, ⟨by omega, hinv⟩, by omega, weak_to (.cons rfl sm (.cons rfl sm (.cons rfl sm (.cons rfl sm (.nil))))) (.nil) (fun i h => by cases h)⟩
  · replace h10 := of_decide_eq_false h10
    refine aw_exit ?_
    refine th_e ?_
    refine th_e ?_
    refine in_hit ?_
    refine th_n (aw_seq (aw_reg (rs_mv rfl rfl ?_)))
    refine rs_nil fun _ => (th_n (aw_ret ?_))
    rw [List.drop_eq_nil_of_le (by omega)] at hinv
    rw [← hinv]
    exact ret_pure rfl rfl rfl (.inr rfl)
def mcv157 : MC := (.seq (.reg [oN 1 (.box 90 4 (.t 0)) [], oN 2 (.mv (.c (.bool false))) []] false) (.seq (.reg [oN 3 (.fa 0 (.t 1)) [], oN 4 (.fa 0 (.t 3)) [0], oN 5 (.ld false 1 (.t 4)) [1], oN 6 (.fa 0 (.t 1)) [], oN 7 (.fa 1 (.t 6)) [3], oN 8 (.ld false 1 (.t 7)) [4], oN 9 (.fa 0 (.t 1)) [], oN 10 (.fa 2 (.t 9)) [6], oN 11 (.ld false 1 (.t 10)) [7], oN 12 (.bslice 3 1 [(.int .i64 0)] 3 [(0, (.t 5)), (1, (.t 8)), (2, (.t 11))]) [2, 5, 8], oN 13 (.call 182 [(.c (.int .i64 4608)), (.t 12)]) [9], oN 14 (.mv (.t 13)) [10, 10], oG 15 (.fa 0 (.t 1)) 14 true [11], oG 16 (.fa 0 (.t 15)) 14 true [12, 11], oG 17 (.ld false 1 (.t 16)) 14 true [13, 11], oG 18 (.fa 0 (.t 1)) 14 true [11], oG 19 (.fa 1 (.t 18)) 14 true [15, 11], oG 20 (.ld false 1 (.t 19)) 14 true [16, 11], oG 21 (.fa 0 (.t 1)) 14 true [11], oG 22 (.fa 2 (.t 21)) 14 true [18, 11], oG 23 (.ld false 1 (.t 22)) 14 true [19, 11], oG 24 (.bslice 3 1 [(.int .i64 0)] 3 [(0, (.t 17)), (1, (.t 20)), (2, (.t 23))]) 14 true [14, 17, 20, 11], oG 25 (.call 183 [(.t 24)]) 14 true [21, 11, 11], oG 26 (.bin .eql (.t 25) (.c (.int .i64 1))) 14 true [22, 11], oN 27 (.pick (.t 14) (.t 26) (.c (.bool false))) [11, 23], oN 28 (.mv (.t 27)) [24, 22], oG 29 (.fa 3 (.t 1)) 28 true [25], oG 30 (.ld false 1 (.t 29)) 28 true [26, 25], oG 31 (.bslice 3 1 [(.int .i64 0)] 1 [(0, (.t 30))]) 28 true [27, 25], oG 32 (.call 182 [(.c (.int .i64 2097152)), (.t 31)]) 28 true [28, 25, 25], oN 33 (.pick (.t 28) (.t 32) (.c (.bool false))) [25, 29], oN 2 (.mv (.t 33)) [30, 29, 0, 1, 2, 3, 4, 5, 6, 7, 8, 9, 10, 11, 12, 13, 14, 15, 16, 17, 18, 19, 20, 21, 22, 23, 24, 25, 26, 27, 28, 29, 30]] false) .ret))
theorem mcOkv157 : (match Tryz.f157.body with | some c => compC Tryz.prog 34 c | none => none) = some mcv157 := by kernel_rfl
theorem vc157 (p : Pl) : FC Tryz.prog 157 [.agg (cPl p)] [] (.bool (validP p)) [] false := by
  refine fc_run (nt := 34) Tryz.func157 rfl rfl mcOkv157 (Nat.le_of_ble_eq_true rfl) ?_
  delta mcv157
  refine aw_seq (aw_reg (rs_box rfl rfl rfl rfl rfl rfl ?_))
  refine rs_mv rfl rfl ?_
  refine rs_nil fun _ => (th_n (aw_seq (aw_reg (rs_fa_p rfl rfl ?_))))
  refine rs_fa_p rfl rfl ?_
  refine rs_ld_p rfl rfl rfl rfl rfl ?_
  refine rs_fa_p rfl rfl ?_
  refine rs_fa_p rfl rfl ?_
  refine rs_ld_p rfl rfl rfl rfl rfl ?_
  refine rs_fa_p rfl rfl ?_
  refine rs_fa_p rfl rfl ?_
  refine rs_ld_p rfl rfl rfl rfl rfl ?_
  refine rs_bslice (l := (([p.n.x, p.n.y, p.n.z] : List Int)).flatMap ci) (els := (([p.n.x, p.n.y, p.n.z] : List Int)).map ci) (fl := true) rfl (by kernel_rfl) rfl rfl (by kernel_rfl) (by kernel_rfl) ?_
  refine rs_calln [12] rfl rfl (vc182 4608 [p.n.x, p.n.y, p.n.z] (by decide) (by simp)) (.cons (hv_same rfl) (.cons (hv_slm (f := ci) (xs := [p.n.x, p.n.y, p.n.z]) (by simp) rfl rfl) (.nil))) rfl ?_
  cases h13 : withinS 4608 [p.n.x, p.n.y, p.n.z]
  · skip
    refine rs_mv rfl rfl ?_
    refine rs_skip rfl ?_
    refine rs_skip rfl ?_
    refine rs_skip rfl ?_
    refine rs_skip rfl ?_
    refine rs_skip rfl ?_
    refine rs_skip rfl ?_
    refine rs_skip rfl ?_
    refine rs_skip rfl ?_
    refine rs_skip rfl ?_
    refine rs_skip rfl ?_
    refine rs_skip rfl ?_
    refine rs_skip rfl ?_
    refine rs_pick rfl rfl rfl ?_
    refine rs_mv rfl rfl ?_
    refine rs_skip rfl ?_
    refine rs_skip rfl ?_
    refine rs_skip rfl ?_
    refine rs_skip rfl ?_
    refine rs_pick rfl rfl rfl ?_
    refine rs_mv rfl rfl ?_
    refine rs_nil fun _ => (th_n (aw_ret ?_))
    rw [show validP p = false from by unfold validP; rw [h13]; rfl]
    exact ret_pure rfl rfl rfl (.inr rfl)
  · skip
    refine rs_mv rfl rfl ?_
    refine rs_fa_p rfl rfl ?_
    refine rs_fa_p rfl rfl ?_
    refine rs_ld_p rfl rfl rfl rfl rfl ?_
    refine rs_fa_p rfl rfl ?_
    refine rs_fa_p rfl rfl ?_
    refine rs_ld_p rfl rfl rfl rfl rfl ?_
    refine rs_fa_p rfl rfl ?_
    refine rs_fa_p rfl rfl ?_
    refine rs_ld_p rfl rfl rfl rfl rfl ?_
    refine rs_bslice (l := (([p.n.x, p.n.y, p.n.z] : List Int)).flatMap ci) (els := (([p.n.x, p.n.y, p.n.z] : List Int)).map ci) (fl := true) rfl (by kernel_rfl) rfl rfl (by kernel_rfl) (by kernel_rfl) ?_
    refine rs_calln [24] rfl rfl (fc46 [p.n.x, p.n.y, p.n.z] (fun x hx => by have := within_bd h13 x hx; omega) (by simp)) (.cons (hv_slm (f := ci) (xs := [p.n.x, p.n.y, p.n.z]) (by simp) rfl rfl) (.nil)) rfl ?_
    refine rs_cmp rfl rfl rfl rfl (fun h26 => ?_) (fun h26 => ?_)
    · skip
      refine rs_pick rfl rfl rfl ?_
      refine rs_mv rfl rfl ?_
      refine rs_fa_p rfl rfl ?_
      refine rs_ld_p rfl rfl rfl rfl rfl ?_
      refine rs_bslice (l := (([p.b] : List Int)).flatMap ci) (els := (([p.b] : List Int)).map ci) (fl := true) rfl (by kernel_rfl) rfl rfl (by kernel_rfl) (by kernel_rfl) ?_
      refine rs_calln [31] rfl rfl (vc182 2097152 [p.b] (by decide) (by simp)) (.cons (hv_same rfl) (.cons (hv_slm (f := ci) (xs := [p.b]) (by simp) rfl rfl) (.nil))) rfl ?_
      cases h32 : withinS 2097152 [p.b]
      · skip
        refine rs_pick rfl rfl rfl ?_
        refine rs_mv rfl rfl ?_
        refine rs_nil fun _ => (th_n (aw_ret ?_))
        rw [show validP p = false from by unfold validP; rw [h13, decide_eq_true h26, h32]; rfl]
        exact ret_pure rfl rfl rfl (.inr rfl)
      · skip
        refine rs_pick rfl rfl rfl ?_
        refine rs_mv rfl rfl ?_
        refine rs_nil fun _ => (th_n (aw_ret ?_))
        rw [show validP p = true from by unfold validP; rw [h13, decide_eq_true h26, h32]; rfl]
        exact ret_pure rfl rfl rfl (.inr rfl)
    · skip
      refine rs_pick rfl rfl rfl ?_
      refine rs_mv rfl rfl ?_
      refine rs_skip rfl ?_
      refine rs_skip rfl ?_
      refine rs_skip rfl ?_
      refine rs_skip rfl ?_
      refine rs_pick rfl rfl rfl ?_
      refine rs_mv rfl rfl ?_
      refine rs_nil fun _ => (th_n (aw_ret ?_))
      rw [show validP p = false from by unfold validP; rw [h13, decide_eq_false h26]; rfl]
      exact ret_pure rfl rfl rfl (.inr rfl)
def mcv156 : MC := (.seq (.reg [oN 1 (.box 90 4 (.t 0)) [], oN 2 (.mv (.c (.bool false))) []] false) (.seq (.reg [oN 3 (.ld true 4 (.t 1)) [], oN 4 (.call 157 [(.t 3)]) [0], oN 5 (.un .not (.t 4)) [1], oN 2 (.mv (.t 5)) [2, 1, 0, 1, 2]] false) .ret))
theorem mcOkv156 : (match Tryz.f156.body with | some c => compC Tryz.prog 6 c | none => none) = some mcv156 := by kernel_rfl
theorem vc156 (p : Pl) : FC Tryz.prog 156 [.agg (cPl p)] [] (.bool (badP p)) [] false := by
  refine fc_run (nt := 6) Tryz.func156 rfl rfl mcOkv156 (Nat.le_of_ble_eq_true rfl) ?_
  delta mcv156
  refine aw_seq (aw_reg (rs_box rfl rfl rfl rfl rfl rfl ?_))
  refine rs_mv rfl rfl ?_
  refine rs_nil fun _ => (th_n (aw_seq (aw_reg (rs_ld_pa rfl rfl rfl rfl (Nat.le_of_ble_eq_true rfl) rfl ?_))))
  refine rs_calln [] rfl rfl (vc157 p) (.cons (hv_same rfl) (.nil)) rfl ?_
  refine rs_not rfl rfl ?_
  refine rs_mv rfl rfl ?_
  refine rs_nil fun _ => (th_n (aw_ret ?_))
  exact ret_pure rfl rfl rfl (.inr rfl)
theorem vcI_bad (xs : List Pl) (hxn : xs.length ≤ 4611686018427387904) : FC Tryz.prog 181 [.rs 4 (xs.map cPl), (.fn (.func 156) [])] [] (.int .i64 (idxS badP xs 0)) [] false := by
  refine fc_run (nt := 19) Tryz.func181 rfl rfl mcOkv181 (Nat.le_of_ble_eq_true rfl) ?_
  delta mcv181
  refine aw_seq (aw_reg (rs_mv rfl rfl ?_))
  refine rs_nil fun _ => (th_n (aw_seq (aw_seq (aw_reg (rs_mv rfl rfl ?_)))))
  refine rs_len_m rfl rfl ?_
  refine rs_mv rfl rfl ?_
  refine rs_nil fun _ => (th_n (aw_block ?_))
  refine aw_fam (α := Nat) (fun k => xs.length - k) (fun k => [(0, .rs 4 (xs.map cPl)), (1, (.fn (.func 156) [])), (6, .rs 4 (xs.map cPl)), (7, iv (xs.length : Int)), (8, iv (((k) : Nat) : Int))]) (fun k => []) (fun k => k ≤ xs.length ∧ idxS badP (xs.drop k) k = idxS badP xs 0) 0 (⟨by omega, rfl⟩)
    (weak_to (.cons rfl sm (.cons rfl sm (.cons rfl sm (.cons rfl sm (.cons rfl sm (.nil)))))) (.nil) (fun i h => by cases h)) ?_
  rintro k ⟨hk, hinv⟩
  refine aw_seq (aw_reg (rs_lss rfl rfl rfl ?_))
  refine rs_nil fun _ => (th_n (aw_seq (aw_cond rfl (fun h9 => ?_) (fun h9 => ?_))))
  · replace h9 := of_decide_eq_true h9
    refine aw_skip (th_n (aw_seq (aw_block (aw_seq (aw_reg (rs_mv rfl rfl ?_))))))
    refine rs_mv rfl rfl ?_
    refine rs_nil fun _ => (th_n (aw_seq (aw_reg (rs_mv rfl rfl ?_))))
    refine rs_mv rfl rfl ?_
    refine rs_mv rfl rfl ?_
    obtain ⟨x, hxk, hxm⟩ := at_some (L := xs) (k := k) (by omega)
    rw [idxS_at hxk] at hinv
    
    refine rs_ix_g (f := cPl) (y := x) rfl rfl rfl (by omega) hxk ?_
    refine rs_ld_ra (cs := cPl x) rfl rfl (Nat.le_of_ble_eq_true rfl) rfl ?_
    refine rs_callvo [] rfl rfl (by kernel_rfl) rfl (fc_up (vc156 x)) (.cons (hv_same rfl) (.nil)) .nil rfl rfl rfl ?_
    cases h16 : badP x
    · skip
      refine rs_nil fun _ => (th_n (aw_cond rfl (fun h => by cases h) (fun _ => ?_)))
      refine aw_skip (in_n (th_n (aw_reg (rs_add rfl rfl rfl (by omega) ?_))))
      refine rs_mv rfl rfl ?_
      refine rs_nil fun _ => (th_n ?_)
      rw [h16] at hinv
      exact ⟨k + 1, ⟨by omega, hinv⟩, by omega, weak_to (.cons rfl sm (.cons rfl sm (.cons rfl sm (.cons rfl sm (.cons rfl sm (.nil)))))) (.nil) (fun i h => by cases h)⟩
    · skip
      refine rs_nil fun _ => (th_n (aw_cond rfl (fun _ => ?_) (fun h => by cases h)))
      refine aw_seq (aw_reg (rs_mv rfl rfl ?_))
      refine rs_mv rfl rfl ?_
      refine rs_nil fun _ => (th_n (aw_ret (in_r (th_r (th_r (in_r (th_r ?_)))))))
      rw [h16] at hinv
      rw [← hinv]
      exact ret_pure rfl rfl rfl (.inr rfl)
  · replace h9 := of_decide_eq_false h9
    refine aw_exit ?_
    refine th_e ?_
    refine th_e ?_
    refine in_hit ?_
    refine th_n (aw_seq (aw_reg (rs_mv rfl rfl ?_)))
    refine rs_nil fun _ => (th_n (aw_ret ?_))
    rw [idxS_end (by omega)] at hinv
    rw [← hinv]
    exact ret_pure rfl rfl rfl (.inr rfl)
theorem vcC_bad (xs : List Pl) (hxn : xs.length ≤ 4611686018427387904) : FC Tryz.prog 155 [.rs 4 (xs.map cPl), (.fn (.func 156) [])] [] (.bool (xs.any badP)) [] false := by
  refine fc_run (nt := 9) Tryz.func155 rfl rfl mcOkv155 (Nat.le_of_ble_eq_true rfl) ?_
  delta mcv155
  refine aw_seq (aw_reg (rs_mv rfl rfl ?_))
  refine rs_nil fun _ => (th_n (aw_seq (aw_reg (rs_mv rfl rfl ?_))))
  refine rs_mv rfl rfl ?_
  refine rs_calln [] rfl rfl (vcI_bad xs hxn) (.cons (hv_same rfl) (.cons (hv_same rfl) (.nil))) rfl ?_
  refine rs_geq rfl rfl rfl ?_
  refine rs_mv rfl rfl ?_
  refine rs_nil fun _ => (th_n (aw_ret ?_))
  rw [← idxS_cond]
  exact ret_pure rfl rfl rfl (.inr rfl)
def mcv128 : MC := (.seq (.reg [oN 2 (.mv (.c (.int .i64 0))) []] false) (.seq (.block 0 (.seq (.reg [oN 4 (.mv (.t 0)) [], oN 5 (.len (.t 4)) [0], oN 6 (.bin .gtr (.t 5) (.c (.int .i64 48))) [1], oN 3 (.mv (.t 6)) [2]] false) (.cond (.t 3) (.seq (.reg [oN 2 (.mv (.c (.int .i64 2))) []] false) .ret) (.seq (.reg [oN 8 (.mv (.t 0)) [], oN 9 (.call 155 [(.t 8), (.c (.fn (.func 156) []))]) [0], oN 7 (.mv (.t 9)) [1, 1]] false) (.cond (.t 7) (.seq (.reg [oN 2 (.mv (.c (.int .i64 12))) []] false) .ret) .skip))))) (.seq (.reg [oN 2 (.mv (.c (.int .i64 0))) []] false) .ret)))
theorem mcOkv128 : (match Tryz.f128.body with | some c => compC Tryz.prog 10 c | none => none) = some mcv128 := by kernel_rfl
theorem vc128 (c : List Pl) (hc : c.length ≤ 1000) : FC Tryz.prog 128 [.rs 4 (c.map cPl)] [] (iv (ckS c)) [] false := by
  refine fc_run (nt := 10) Tryz.func128 rfl rfl mcOkv128 (Nat.le_of_ble_eq_true rfl) ?_
  delta mcv128
  refine aw_seq (aw_reg (rs_mv rfl rfl ?_))
  refine rs_nil fun _ => (th_n (aw_seq (aw_block (aw_seq (aw_reg (rs_mv rfl rfl ?_))))))
  refine rs_len_m rfl rfl ?_
  refine rs_gtr rfl rfl rfl ?_
  refine rs_mv rfl rfl ?_
  refine rs_nil fun _ => (th_n (aw_cond rfl (fun h3 => ?_) (fun h3 => ?_)))
  · replace h3 := of_decide_eq_true h3
    refine aw_seq (aw_reg (rs_mv rfl rfl ?_))
    refine rs_nil fun _ => (th_n (aw_ret (in_r (th_r ?_))))
    rw [show ckS c = 2 from if_pos (by omega)]
    exact ret_pure rfl rfl rfl (.inr rfl)
  · replace h3 := of_decide_eq_false h3
    refine aw_seq (aw_reg (rs_mv rfl rfl ?_))
    refine rs_calln [] rfl rfl (vcC_bad c (by omega)) (.cons (hv_same rfl) (.cons (hv_same rfl) (.nil))) rfl ?_
    cases h9 : c.any badP
    · skip
      refine rs_mv rfl rfl ?_
      refine rs_nil fun _ => (th_n (aw_cond rfl (fun h => by cases h) (fun _ => ?_)))
      refine aw_skip (in_n (th_n (aw_seq (aw_reg (rs_mv rfl rfl ?_)))))
      refine rs_nil fun _ => (th_n (aw_ret ?_))
      rw [show ckS c = 0 from by unfold ckS; rw [if_neg (by omega), h9]; rfl]
      exact ret_pure rfl rfl rfl (.inr rfl)
    · skip
      refine rs_mv rfl rfl ?_
      refine rs_nil fun _ => (th_n (aw_cond rfl (fun _ => ?_) (fun h => by cases h)))
      refine aw_seq (aw_reg (rs_mv rfl rfl ?_))
      refine rs_nil fun _ => (th_n (aw_ret (in_r (th_r ?_))))
      rw [show ckS c = 12 from by unfold ckS; rw [if_neg (by omega), h9]; rfl]
      exact ret_pure rfl rfl rfl (.inr rfl)
def mcv159 : MC := (.seq (.reg [oN 2 (.mv (.c (.bool false))) []] false) (.seq (.reg [oN 3 (.mv (.t 0)) [], oN 4 (.call 128 [(.t 3)]) [0], oN 5 (.bin .neq (.t 4) (.c (.int .i64 0))) [1], oN 2 (.mv (.t 5)) [2, 1, 0, 1, 2]] false) .ret))
theorem mcOkv159 : (match Tryz.f159.body with | some c => compC Tryz.prog 6 c | none => none) = some mcv159 := by kernel_rfl
theorem vc159 (c : List Pl) (hc : c.length ≤ 1000) : FC Tryz.prog 159 [.rs 4 (c.map cPl)] [] (.bool (badC c)) [] false := by
  refine fc_run (nt := 6) Tryz.func159 rfl rfl mcOkv159 (Nat.le_of_ble_eq_true rfl) ?_
  delta mcv159
  refine aw_seq (aw_reg (rs_mv rfl rfl ?_))
  refine rs_nil fun _ => (th_n (aw_seq (aw_reg (rs_mv rfl rfl ?_))))
  refine rs_calln [] rfl rfl (vc128 c hc) (.cons (hv_same rfl) (.nil)) rfl ?_
  refine rs_neq rfl rfl rfl ?_
  refine rs_mv rfl rfl ?_
  refine rs_nil fun _ => (th_n (aw_ret ?_))
  exact ret_pure rfl rfl rfl (.inr rfl)
def mcv158 : MC := (.seq (.reg [oN 4 (.mv (.c (.int .i64 0))) []] false) (.seq (.seq (.reg [oN 6 (.mv (.t 0)) [], oN 7 (.len (.t 6)) [0], oN 8 (.mv (.c (.int .i64 0))) []] false) (.block 0 (.loop (.seq (.reg [oN 9 (.bin .lss (.t 8) (.t 7)) []] false) (.seq (.cond (.t 9) .skip (.exit 0)) (.seq (.block 1 (.seq (.reg [oN 10 (.mv (.t 8)) [], oN 5 (.mv (.t 10)) [0, 0]] false) (.seq (.reg [oN 11 (.mv (.t 1)) [], oN 12 (.mv (.t 0)) [], oN 13 (.mv (.t 5)) [], oN 14 (.ixsl 1 (.t 12) (.t 13)) [1, 2], oN 15 (.ld false 1 (.t 14)) [3], oN 16 (.callv (.t 11) [(.t 15)]) [0, 4]] false) (.cond (.t 16) (.seq (.reg [oN 17 (.mv (.t 5)) [], oN 4 (.mv (.t 17)) [0, 0]] false) .ret) .skip)))) (.reg [oN 18 (.bin .add (.t 8) (.c (.int .i64 1))) [], oN 8 (.mv (.t 18)) [0]] false))))))) (.seq (.reg [oN 4 (.mv (.c (.int .i64 (-1)))) []] false) .ret)))
theorem mcOkv158 : (match Tryz.f158.body with | some c => compC Tryz.prog 19 c | none => none) = some mcv158 := by kernel_rfl
theorem vcI_badc (xs : List (List Pl)) (hx : ∀ x ∈ xs, x.length ≤ 1000) (hxn : xs.length ≤ 4611686018427387904) : FC Tryz.prog 158 [.rs 1 (xs.map cR), (.fn (.func 159) [])] [] (.int .i64 (idxS badC xs 0)) [] false := by
  refine fc_run (nt := 19) Tryz.func158 rfl rfl mcOkv158 (Nat.le_of_ble_eq_true rfl) ?_
  delta mcv158
  refine aw_seq (aw_reg (rs_mv rfl rfl ?_))
  refine rs_nil fun _ => (th_n (aw_seq (aw_seq (aw_reg (rs_mv rfl rfl ?_)))))
  refine rs_len_m rfl rfl ?_
  refine rs_mv rfl rfl ?_
  refine rs_nil fun _ => (th_n (aw_block ?_))
  refine aw_fam (α := Nat) (fun k => xs.length - k) (fun k => [(0, .rs 1 (xs.map cR)), (1, (.fn (.func 159) [])), (6, .rs 1 (xs.map cR)), (7, iv (xs.length : Int)), (8, iv (((k) : Nat) : Int))]) (fun k => []) (fun k => k ≤ xs.length ∧ idxS badC (xs.drop k) k = idxS badC xs 0) 0 (⟨by omega, rfl⟩)
    (weak_to (.cons rfl sm (.cons rfl sm (.cons rfl sm (.cons rfl sm (.cons rfl sm (.nil)))))) (.nil) (fun i h => by cases h)) ?_
  rintro k ⟨hk, hinv⟩
  refine aw_seq (aw_reg (rs_lss rfl rfl rfl ?_))
  refine rs_nil fun _ => (th_n (aw_seq (aw_cond rfl (fun h9 => ?_) (fun h9 => ?_))))
  · replace h9 := of_decide_eq_true h9
    refine aw_skip (th_n (aw_seq (aw_block (aw_seq (aw_reg (rs_mv rfl rfl ?_))))))
    refine rs_mv rfl rfl ?_
    refine rs_nil fun _ => (th_n (aw_seq (aw_reg (rs_mv rfl rfl ?_))))
    refine rs_mv rfl rfl ?_
    refine rs_mv rfl rfl ?_
    obtain ⟨x, hxk, hxm⟩ := at_some (L := xs) (k := k) (by omega)
    rw [idxS_at hxk] at hinv
    
    refine rs_ix_g (f := cR) (y := x) rfl rfl rfl (by omega) hxk ?_
    refine rs_ld_r rfl rfl rfl ?_
    refine rs_callvo [] rfl rfl (by kernel_rfl) rfl (fc_up (vc159 x (hx x hxm))) (.cons (hv_same rfl) (.nil)) .nil rfl rfl rfl ?_
    cases h16 : badC x
    · skip
      refine rs_nil fun _ => (th_n (aw_cond rfl (fun h => by cases h) (fun _ => ?_)))
      refine aw_skip (in_n (th_n (aw_reg (rs_add rfl rfl rfl (by omega) ?_))))
      refine rs_mv rfl rfl ?_
      refine rs_nil fun _ => (th_n ?_)
      rw [h16] at hinv
      exact ⟨k + 1, ⟨by omega, hinv⟩, by omega, weak_to (.cons rfl sm (.cons rfl sm (.cons rfl sm (.cons rfl sm (.cons rfl sm (.nil)))))) (.nil) (fun i h => by cases h)⟩
    · skip
      refine rs_nil fun _ => (th_n (aw_cond rfl (fun _ => ?_) (fun h => by cases h)))
      refine aw_seq (aw_reg (rs_mv rfl rfl ?_))
      refine rs_mv rfl rfl ?_
      refine rs_nil fun _ => (th_n (aw_ret (in_r (th_r (th_r (in_r (th_r ?_)))))))
      rw [h16] at hinv
      rw [← hinv]
      exact ret_pure rfl rfl rfl (.inr rfl)
  · replace h9 := of_decide_eq_false h9
    refine aw_exit ?_
    refine th_e ?_
    refine th_e ?_
    refine in_hit ?_
    refine th_n (aw_seq (aw_reg (rs_mv rfl rfl ?_)))
    refine rs_nil fun _ => (th_n (aw_ret ?_))
    rw [idxS_end (by omega)] at hinv
    rw [← hinv]
    exact ret_pure rfl rfl rfl (.inr rfl)
def mcv131 : MC := (.seq (.reg [oN 4 (.mv (.c (.bool false))) []] false) (.seq (.reg [oN 5 (.mv (.t 0)) [], oN 6 (.mv (.t 1)) [], oN 7 (.call 158 [(.t 5), (.t 6)]) [0, 1], oN 8 (.bin .geq (.t 7) (.c (.int .i64 0))) [2], oN 4 (.mv (.t 8)) [3, 2, 0, 1, 2, 3]] false) .ret))
theorem mcOkv131 : (match Tryz.f131.body with | some c => compC Tryz.prog 9 c | none => none) = some mcv131 := by kernel_rfl
theorem vcC_badc (xs : List (List Pl)) (hx : ∀ x ∈ xs, x.length ≤ 1000) (hxn : xs.length ≤ 4611686018427387904) : FC Tryz.prog 131 [.rs 1 (xs.map cR), (.fn (.func 159) [])] [] (.bool (xs.any badC)) [] false := by
  refine fc_run (nt := 9) Tryz.func131 rfl rfl mcOkv131 (Nat.le_of_ble_eq_true rfl) ?_
  delta mcv131
  refine aw_seq (aw_reg (rs_mv rfl rfl ?_))
  refine rs_nil fun _ => (th_n (aw_seq (aw_reg (rs_mv rfl rfl ?_))))
  refine rs_mv rfl rfl ?_
  refine rs_calln [] rfl rfl (vcI_badc xs hx hxn) (.cons (hv_same rfl) (.cons (hv_same rfl) (.nil))) rfl ?_
  refine rs_geq rfl rfl rfl ?_
  refine rs_mv rfl rfl ?_
  refine rs_nil fun _ => (th_n (aw_ret ?_))
  rw [← idxS_cond]
  exact ret_pure rfl rfl rfl (.inr rfl)
def mcv133 : MC := (.seq (.reg [oN 2 (.mv (.c (.bool false))) []] false) (.seq (.reg [oN 3 (.mv (.t 0)) [], oN 4 (.call 131 [(.t 3), (.c (.fn (.func 159) []))]) [0], oN 5 (.un .not (.t 4)) [1], oN 2 (.mv (.t 5)) [2, 1, 0, 1, 2]] false) .ret))
theorem mcOkv133 : (match Tryz.f133.body with | some c => compC Tryz.prog 6 c | none => none) = some mcv133 := by kernel_rfl
theorem vc133 (ls : List (List Pl)) (hx : ∀ x ∈ ls, x.length ≤ 1000) (hn : ls.length ≤ 1000) : FC Tryz.prog 133 [.rs 1 (ls.map cR)] [] (.bool (validS ls)) [] false := by
  refine fc_run (nt := 6) Tryz.func133 rfl rfl mcOkv133 (Nat.le_of_ble_eq_true rfl) ?_
  delta mcv133
  refine aw_seq (aw_reg (rs_mv rfl rfl ?_))
  refine rs_nil fun _ => (th_n (aw_seq (aw_reg (rs_mv rfl rfl ?_))))
  refine rs_calln [] rfl rfl (vcC_badc ls hx (by omega)) (.cons (hv_same rfl) (.cons (hv_same rfl) (.nil))) rfl ?_
  refine rs_not rfl rfl ?_
  refine rs_mv rfl rfl ?_
  refine rs_nil fun _ => (th_n (aw_ret ?_))
  exact ret_pure rfl rfl rfl (.inr rfl)
def mcv154 : MC := (.seq (.reg [oN 2 (.mv (.c (.bool false))) []] false) (.seq (.reg [oN 3 (.mv (.t 0)) [], oN 4 (.bslice 85 1 [.nils] 1 [(0, (.t 3))]) [0], oN 5 (.call 133 [(.t 4)]) [1], oN 6 (.mv (.t 5)) [2, 2], oG 7 (.mv (.t 0)) 6 true [3], oG 8 (.bslice 85 1 [.nils] 1 [(0, (.t 7))]) 6 true [4, 3], oG 9 (.call 134 [(.t 8)]) 6 true [5, 3, 3], oG 10 (.call 135 [(.t 9)]) 6 true [6, 6, 3], oN 11 (.pick (.t 6) (.t 10) (.c (.bool false))) [3, 7], oN 2 (.mv (.t 11)) [8, 7, 0, 1, 2, 3, 4, 5, 6, 7, 8]] false) .ret))
theorem mcOkv154 : (match Tryz.f154.body with | some c => compC Tryz.prog 12 c | none => none) = some mcv154 := by kernel_rfl
theorem vc154 (c : List Pl) (h : OkC c) : FC Tryz.prog 154 [.rs 4 (c.map cPl)] [] (.bool (cfullS c)) [] false := by
  have hcn := h.n
  refine fc_run (nt := 12) Tryz.func154 rfl rfl mcOkv154 (Nat.le_of_ble_eq_true rfl) ?_
  delta mcv154
  refine aw_seq (aw_reg (rs_mv rfl rfl ?_))
  refine rs_nil fun _ => (th_n (aw_seq (aw_reg (rs_mv rfl rfl ?_))))
  refine rs_bslice (l := (([c] : List (List Pl))).flatMap cR) (els := (([c] : List (List Pl))).map cR) (fl := true) rfl (by kernel_rfl) rfl rfl (by kernel_rfl) (by kernel_rfl) ?_
  refine rs_calln [4] rfl rfl (vc133 [c] (fun x hx => by rw [List.mem_singleton.1 hx]; omega) (by simp)) (.cons (hv_slm (f := cR) (xs := [c]) (by simp) rfl rfl) (.nil)) rfl ?_
  cases h5 : validS [c]
  · skip
    refine rs_mv rfl rfl ?_
    refine rs_skip rfl ?_
    refine rs_skip rfl ?_
    refine rs_skip rfl ?_
    refine rs_skip rfl ?_
    refine rs_pick rfl rfl rfl ?_
    refine rs_mv rfl rfl ?_
    refine rs_nil fun _ => (th_n (aw_ret ?_))
    rw [show cfullS c = false from by unfold cfullS; rw [h5]; rfl]
    exact ret_pure rfl rfl rfl (.inr rfl)
  · skip
    refine rs_mv rfl rfl ?_
    refine rs_mv rfl rfl ?_
    refine rs_bslice (l := (([c] : List (List Pl))).flatMap cR) (els := (([c] : List (List Pl))).map cR) (fl := true) rfl (by kernel_rfl) rfl rfl (by kernel_rfl) (by kernel_rfl) ?_
    refine rs_calln [8] rfl rfl (vc134 [c] h.fl (by simp)) (.cons (hv_slm (f := cR) (xs := [c]) (by simp) rfl rfl) (.nil)) rfl ?_
    refine rs_calln [] rfl rfl (vc135 (ofS [c]) (OkC.of h5) (okTop_valid (ofS_valid h5))) (.cons (hv_same rfl) (.nil)) rfl ?_
    refine rs_pick rfl rfl rfl ?_
    refine rs_mv rfl rfl ?_
    refine rs_nil fun _ => (th_n (aw_ret ?_))
    rw [show cfullS c = fullS (ofS [c]) from by unfold cfullS; rw [h5]; rfl]
    exact ret_pure rfl rfl rfl (.inr rfl)
def mcv89 : MC := (.seq (.reg [oN 4 (.mv (.c (.bool false))) []] false) (.seq (.reg [oN 5 (.mv (.t 0)) [], oN 6 (.mv (.t 1)) [], oN 7 (.bslice 85 1 [.nils] 2 [(0, (.t 5)), (1, (.t 6))]) [0, 1], oN 8 (.call 133 [(.t 7)]) [2], oN 9 (.un .not (.t 8)) [3], oN 10 (.mv (.t 9)) [4, 3], oG 11 (.mv (.t 0)) 10 false [5], oG 12 (.mv (.t 1)) 10 false [5], oG 13 (.bslice 85 1 [.nils] 2 [(0, (.t 11)), (1, (.t 12))]) 10 false [6, 7, 5], oG 14 (.call 134 [(.t 13)]) 10 false [8, 5, 5], oG 15 (.call 135 [(.t 14)]) 10 false [9, 9, 5], oG 16 (.un .not (.t 15)) 10 false [10, 5], oN 17 (.pick (.t 10) (.c (.bool true)) (.t 16)) [5, 11], oN 4 (.mv (.t 17)) [12, 10, 0, 1, 2, 3, 4, 5, 6, 7, 8, 9, 10, 11, 12]] false) .ret))
theorem mcOkv89 : (match Tryz.f89.body with | some c => compC Tryz.prog 18 c | none => none) = some mcv89 := by kernel_rfl
theorem vc89 (a b : List Pl) (h : OkA a b) : FC Tryz.prog 89 [.rs 4 (a.map cPl), .rs 4 (b.map cPl)] [] (.bool (apartS a b)) [] false := by
  have hcn := h.n
  have hcm := h.m
  refine fc_run (nt := 18) Tryz.func89 rfl rfl mcOkv89 (Nat.le_of_ble_eq_true rfl) ?_
  delta mcv89
  refine aw_seq (aw_reg (rs_mv rfl rfl ?_))
  refine rs_nil fun _ => (th_n (aw_seq (aw_reg (rs_mv rfl rfl ?_))))
  refine rs_mv rfl rfl ?_
  refine rs_bslice (l := (([a, b] : List (List Pl))).flatMap cR) (els := (([a, b] : List (List Pl))).map cR) (fl := true) rfl (by kernel_rfl) rfl rfl (by kernel_rfl) (by kernel_rfl) ?_
  refine rs_calln [7] rfl rfl (vc133 [a, b] (fun x hx => by simp only [List.mem_cons, List.not_mem_nil, or_false] at hx; rcases hx with e | e <;> rw [e] <;> omega) (by simp)) (.cons (hv_slm (f := cR) (xs := [a, b]) (by simp) rfl rfl) (.nil)) rfl ?_
  cases h8 : validS [a, b]
  · skip
    refine rs_not rfl rfl ?_
    refine rs_mv rfl rfl ?_
    refine rs_skip rfl ?_
    refine rs_skip rfl ?_
    refine rs_skip rfl ?_
    refine rs_skip rfl ?_
    refine rs_skip rfl ?_
    refine rs_skip rfl ?_
    refine rs_pick rfl rfl rfl ?_
    refine rs_mv rfl rfl ?_
    refine rs_nil fun _ => (th_n (aw_ret ?_))
    rw [show apartS a b = true from by unfold apartS; rw [h8]; rfl]
    exact ret_pure rfl rfl rfl (.inr rfl)
  · skip
    refine rs_not rfl rfl ?_
    refine rs_mv rfl rfl ?_
    refine rs_mv rfl rfl ?_
    refine rs_mv rfl rfl ?_
    refine rs_bslice (l := (([a, b] : List (List Pl))).flatMap cR) (els := (([a, b] : List (List Pl))).map cR) (fl := true) rfl (by kernel_rfl) rfl rfl (by kernel_rfl) (by kernel_rfl) ?_
    refine rs_calln [13] rfl rfl (vc134 [a, b] h.fl (by simp)) (.cons (hv_slm (f := cR) (xs := [a, b]) (by simp) rfl rfl) (.nil)) rfl ?_
    refine rs_calln [] rfl rfl (vc135 (ofS [a, b]) (OkA.of h8) (okTop_valid (ofS_valid h8))) (.cons (hv_same rfl) (.nil)) rfl ?_
    refine rs_not rfl rfl ?_
    refine rs_pick rfl rfl rfl ?_
    refine rs_mv rfl rfl ?_
    refine rs_nil fun _ => (th_n (aw_ret ?_))
    rw [show apartS a b = !fullS (ofS [a, b]) from by unfold apartS; rw [h8]; rfl]
    exact ret_pure rfl rfl rfl (.inr rfl)
def mcv132 : MC := (.seq (.reg [oN 3 (.mv (.c (.bool false))) []] false) (.seq (.reg [oN 4 (.ld false 1 (.t 1)) [], oN 5 (.mv (.t 0)) [], oN 6 (.call 89 [(.t 4), (.t 5)]) [0, 1], oN 7 (.un .not (.t 6)) [2], oN 3 (.mv (.t 7)) [3, 2, 0, 1, 2, 3]] false) .ret))
theorem mcOkv132 : (match Tryz.f132.body with | some c => compC Tryz.prog 8 c | none => none) = some mcv132 := by kernel_rfl
theorem vc132 (c q : List Pl) (h : OkA c q) : FC Tryz.prog 132 [.rs 4 (q.map cPl), .rp [.rs 4 (c.map cPl)]] [] (.bool (meetB c q)) [] false := by
  refine fc_run (nt := 8) Tryz.func132 rfl rfl mcOkv132 (Nat.le_of_ble_eq_true rfl) ?_
  delta mcv132
  refine aw_seq (aw_reg (rs_mv rfl rfl ?_))
  refine rs_nil fun _ => (th_n (aw_seq (aw_reg (rs_ld_r rfl rfl rfl ?_))))
  refine rs_mv rfl rfl ?_
  refine rs_calln [] rfl rfl (vc89 c q h) (.cons (hv_same rfl) (.cons (hv_same rfl) (.nil))) rfl ?_
  refine rs_not rfl rfl ?_
  refine rs_mv rfl rfl ?_
  refine rs_nil fun _ => (th_n (aw_ret ?_))
  exact ret_pure rfl rfl rfl (.inr rfl)
theorem vcI_apt (c : List Pl) (xs : List (List Pl)) (hx : ∀ x ∈ xs, OkA c x) (hxn : xs.length ≤ 4611686018427387904) : FC Tryz.prog 158 [.rs 1 (xs.map cR), (.fn (.func 132) [.rp [.rs 4 (c.map cPl)]])] [] (.int .i64 (idxS (meetB c) xs 0)) [] false := by
  refine fc_run (nt := 19) Tryz.func158 rfl rfl mcOkv158 (Nat.le_of_ble_eq_true rfl) ?_
  delta mcv158
  refine aw_seq (aw_reg (rs_mv rfl rfl ?_))
  refine rs_nil fun _ => (th_n (aw_seq (aw_seq (aw_reg (rs_mv rfl rfl ?_)))))
  refine rs_len_m rfl rfl ?_
  refine rs_mv rfl rfl ?_
  refine rs_nil fun _ => (th_n (aw_block ?_))
  refine aw_fam (α := Nat) (fun k => xs.length - k) (fun k => [(0, .rs 1 (xs.map cR)), (1, (.fn (.func 132) [.rp [.rs 4 (c.map cPl)]])), (6, .rs 1 (xs.map cR)), (7, iv (xs.length : Int)), (8, iv (((k) : Nat) : Int))]) (fun k => []) (fun k => k ≤ xs.length ∧ idxS (meetB c) (xs.drop k) k = idxS (meetB c) xs 0) 0 (⟨by omega, rfl⟩)
    (weak_to (.cons rfl sm (.cons rfl sm (.cons rfl sm (.cons rfl sm (.cons rfl sm (.nil)))))) (.nil) (fun i h => by cases h)) ?_
  rintro k ⟨hk, hinv⟩
  refine aw_seq (aw_reg (rs_lss rfl rfl rfl ?_))
  refine rs_nil fun _ => (th_n (aw_seq (aw_cond rfl (fun h9 => ?_) (fun h9 => ?_))))
  · replace h9 := of_decide_eq_true h9
    refine aw_skip (th_n (aw_seq (aw_block (aw_seq (aw_reg (rs_mv rfl rfl ?_))))))
    refine rs_mv rfl rfl ?_
    refine rs_nil fun _ => (th_n (aw_seq (aw_reg (rs_mv rfl rfl ?_))))
    refine rs_mv rfl rfl ?_
    refine rs_mv rfl rfl ?_
    obtain ⟨x, hxk, hxm⟩ := at_some (L := xs) (k := k) (by omega)
    rw [idxS_at hxk] at hinv
    
    refine rs_ix_g (f := cR) (y := x) rfl rfl rfl (by omega) hxk ?_
    refine rs_ld_r rfl rfl rfl ?_
    refine rs_callvo [] rfl rfl (by kernel_rfl) rfl (fc_up (vc132 c x (hx x hxm))) (.cons (hv_same rfl) (.cons (hv_same rfl) (.nil))) .nil rfl rfl rfl ?_
    cases h16 : (meetB c) x
    · skip
      refine rs_nil fun _ => (th_n (aw_cond rfl (fun h => by cases h) (fun _ => ?_)))
      refine aw_skip (in_n (th_n (aw_reg (rs_add rfl rfl rfl (by omega) ?_))))
      refine rs_mv rfl rfl ?_
      refine rs_nil fun _ => (th_n ?_)
      rw [h16] at hinv
      exact ⟨k + 1, ⟨by omega, hinv⟩, by omega, weak_to (.cons rfl sm (.cons rfl sm (.cons rfl sm (.cons rfl sm (.cons rfl sm (.nil)))))) (.nil) (fun i h => by cases h)⟩
    · skip
      refine rs_nil fun _ => (th_n (aw_cond rfl (fun _ => ?_) (fun h => by cases h)))
      refine aw_seq (aw_reg (rs_mv rfl rfl ?_))
      refine rs_mv rfl rfl ?_
      refine rs_nil fun _ => (th_n (aw_ret (in_r (th_r (th_r (in_r (th_r ?_)))))))
      rw [h16] at hinv
      rw [← hinv]
      exact ret_pure rfl rfl rfl (.inr rfl)
  · replace h9 := of_decide_eq_false h9
    refine aw_exit ?_
    refine th_e ?_
    refine th_e ?_
    refine in_hit ?_
    refine th_n (aw_seq (aw_reg (rs_mv rfl rfl ?_)))
    refine rs_nil fun _ => (th_n (aw_ret ?_))
    rw [idxS_end (by omega)] at hinv
    rw [← hinv]
    exact ret_pure rfl rfl rfl (.inr rfl)
theorem vcC_apt (c : List Pl) (xs : List (List Pl)) (hx : ∀ x ∈ xs, OkA c x) (hxn : xs.length ≤ 4611686018427387904) : FC Tryz.prog 131 [.rs 1 (xs.map cR), (.fn (.func 132) [.rp [.rs 4 (c.map cPl)]])] [] (.bool (xs.any (meetB c))) [] false := by
  refine fc_run (nt := 9) Tryz.func131 rfl rfl mcOkv131 (Nat.le_of_ble_eq_true rfl) ?_
  delta mcv131
  refine aw_seq (aw_reg (rs_mv rfl rfl ?_))
  refine rs_nil fun _ => (th_n (aw_seq (aw_reg (rs_mv rfl rfl ?_))))
  refine rs_mv rfl rfl ?_
  refine rs_calln [] rfl rfl (vcI_apt c xs hx hxn) (.cons (hv_same rfl) (.cons (hv_same rfl) (.nil))) rfl ?_
  refine rs_geq rfl rfl rfl ?_
  refine rs_mv rfl rfl ?_
  refine rs_nil fun _ => (th_n (aw_ret ?_))
  rw [← idxS_cond]
  exact ret_pure rfl rfl rfl (.inr rfl)
def mcv86 : MC := (.seq (.reg [oN 2 (.box 85 1 (.t 0)) [], oN 4 (.mv (.c (.bool false))) []] false) (.seq (.reg [oN 5 (.mv (.t 1)) [], oN 6 (.mkfn (.func 132) [(.t 2)]) [], oN 7 (.call 131 [(.t 5), (.t 6)]) [0, 1], oN 8 (.un .not (.t 7)) [2], oN 4 (.mv (.t 8)) [3, 2, 0, 1, 2, 3]] false) .ret))
theorem mcOkv86 : (match Tryz.f86.body with | some c => compC Tryz.prog 9 c | none => none) = some mcv86 := by kernel_rfl
theorem vc86 (c : List Pl) (s : List (List Pl)) (hx : ∀ x ∈ s, OkA c x) (hs : s.length ≤ 1000) : FC Tryz.prog 86 [.rs 4 (c.map cPl), .rs 1 (s.map cR)] [] (.bool (sapartS c s)) [] false := by
  refine fc_run (nt := 9) Tryz.func86 rfl rfl mcOkv86 (Nat.le_of_ble_eq_true rfl) ?_
  delta mcv86
  refine aw_seq (aw_reg (rs_box rfl rfl rfl rfl rfl rfl ?_))
  refine rs_mv rfl rfl ?_
  refine rs_nil fun _ => (th_n (aw_seq (aw_weak (F0 := [(1, .rs 1 (s.map cR)), (2, .rp [.rs 4 (c.map cPl)])]) (H0 := []) (weak_to (.cons rfl sm (.cons rfl (rc_pfrz rfl rfl (.inl rfl)) (.nil))) (.nil) (fun i h => by cases h)) ?_)))
  refine aw_reg (rs_mv rfl rfl ?_)
  refine rs_mkfn rfl rfl ?_
  refine rs_calln [] rfl rfl (vcC_apt c s hx (by omega)) (.cons (hv_same rfl) (.cons (hv_same rfl) (.nil))) rfl ?_
  refine rs_not rfl rfl ?_
  refine rs_mv rfl rfl ?_
  refine rs_nil fun _ => (th_n (aw_ret ?_))
  exact ret_pure rfl rfl rfl (.inr rfl)
end Go.Proofs.YthfhaoogcpfboaaGreat

/-! The tree of leaves, in plain words: what Show and RootOf say of it. -/
namespace Go.Proofs.YthfhaoogcpfboaaGreat
open Go.RowKit
set_option linter.unusedVariables false
theorem sel_some {ls : List Lf} {i : Int} (h0 : 0 ≤ i) (h1 : i < (ls.length : Int)) : ls[i.toNat]? = some (selF ls i) := by
  obtain ⟨x, hx, _⟩ := at_some (L := ls) (k := i.toNat) (by omega)
  rw [selF_at hx]; exact hx
theorem sel_ix {ls : List Lf} (h : LvsOK ls) {i : Int} (h0 : 0 ≤ i) (h1 : i < (ls.length : Int)) : (selF ls i).ix = i := by
  have := h.ix _ _ (sel_some h0 h1); omega
theorem ixsF_sel {ls : List Lf} (h : LvsOK ls) {w : List Int} (hw : ∀ x ∈ w, 0 ≤ x ∧ x < (ls.length : Int)) : ixsF (w.map (selF ls)) = w := by
  unfold ixsF
  rw [List.map_map]
  conv => rhs; rw [← List.map_id w]
  refine List.map_congr_left fun i hi => ?_
  exact sel_ix h (hw i hi).1 (hw i hi).2
theorem incF_ok {z : Int} : ∀ (l : List Int) (p : Int), (∀ x ∈ l, 0 ≤ x ∧ x < z) → (∀ (k : Nat) (a b : Int), l[k]? = some a → l[k + 1]? = some b → a < b) → (∀ x, l[0]? = some x → p < x) → incF z p l = true
  | [], _, _, _, _ => rfl
  | x :: l, p, h1, h2, h3 => by
    have hx := h1 x (List.mem_cons_self ..)
    have h4 := h3 x rfl
    have := incF_ok l x (fun y hy => h1 y (List.mem_cons_of_mem _ hy)) (fun k a b ha hb => h2 (k + 1) a b ha hb) (fun y hy => h2 0 x y rfl hy)
    simp only [incF, Bool.and_eq_true, decide_eq_true_eq]
    exact ⟨⟨⟨hx.1, hx.2⟩, h4⟩, this⟩
theorem IxOK.incF {n : Nat} {w : List Int} (h : IxOK n w) : incF (n : Int) (-1) w = true :=
  incF_ok w (-1) h.bd h.inc fun x hx => by have := h.bd x (mem_of_at hx); omega
theorem tree_len8 (ls : List Lf) : ∀ d b, (treeD (ofK ls) d b).length = 8
  | 0, b => by
    show ((ofK ls b 1).getD []).length = 8
    unfold ofK
    rw [if_neg (by decide)]
    split <;> exact (dg_ok _).2
  | d + 1, b => by
    rw [treeD_f (by rw [ofK_1 (by have := Nat.two_pow_pos d; rw [Nat.pow_succ]; omega)]; rfl)]
    exact (dg_ok _).2
theorem hidT_8 (ls : List Lf) (s : Nat × Nat) : (hidT ls s).length = 8 := tree_len8 ls _ _
theorem hidT_any (ls : List Lf) (l : List (Nat × Nat)) : (l.map (hidT ls)).any shortB = false := by
  rw [List.any_eq_false]
  intro d hd
  obtain ⟨s, _, rfl⟩ := List.mem_map.1 hd
  rw [show shortB (hidT ls s) = false from by unfold shortB; rw [hidT_8]; rfl]
  decide
/-- What is shown has the form. -/
theorem fm_show {ls : List Lf} (h : LvsOK ls) {w : List Int} (hw : IxOK ls.length w) : fmS (ls.length : Int) (w.map (selF ls)) ((hidA ls.length w).map (hidT ls)) = some (hidA ls.length w) := by
  have hn := h.n
  have e := ixsF_sel h hw.bd
  rw [fm_5 (by omega) (by rw [e]; exact hw.incF) (by rw [e, Int.toNat_natCast, List.length_map]; exact fun q => q rfl) (hidT_any ls _), e, Int.toNat_natCast]
theorem fill_fold {ls : List Lf} {b : Nat} : ∀ (lv l : List Lf), (∀ x ∈ lv, ls[x.ix.toNat]? = some x) → l.length = ls.length → (l[b]? = ls[b]? ∨ ∃ x ∈ lv, x.ix.toNat = b) → (lv.foldl (fun l x => l.set x.ix.toNat x) l)[b]? = ls[b]?
  | [], l, _, _, h => h.elim id fun ⟨x, hx, _⟩ => by cases hx
  | y :: lv, l, h1, h2, h3 => by
    rw [List.foldl_cons]
    refine fill_fold lv _ (fun x hx => h1 x (List.mem_cons_of_mem _ hx)) (by rw [List.length_set]; exact h2) ?_
    by_cases hy : y.ix.toNat = b
    · left
      have h4 := h1 y (List.mem_cons_self ..)
      have hlt := lt_of_at h4
      subst hy
      rw [List.getElem?_set_self (by omega), h4]
    · rw [List.getElem?_set_ne hy]
      rcases h3 with h3 | ⟨x, hx, e⟩
      · exact .inl h3
      · rcases List.mem_cons.1 hx with rfl | hx
        · exact absurd e hy
        · exact .inr ⟨x, hx, e⟩
theorem inSp1 {b : Nat} {k : Int} (h : inSp (b, 1) k = true) : k = (b : Int) := by
  simp only [inSp, Bool.and_eq_true, decide_eq_true_eq] at h
  omega
theorem fill_sel {ls : List Lf} (h : LvsOK ls) {w : List Int} (hw : ∀ x ∈ w, 0 ≤ x ∧ x < (ls.length : Int)) {b : Nat} (hb : w.any (inSp (b, 1)) = true) : (fillL ls.length (w.map (selF ls)))[b]? = ls[b]? := by
  refine fill_fold _ _ (fun x hx => ?_) (by simp) (.inr ?_)
  · obtain ⟨i, hi, rfl⟩ := List.mem_map.1 hx
    rw [sel_ix h (hw i hi).1 (hw i hi).2]
    exact sel_some (hw i hi).1 (hw i hi).2
  · obtain ⟨k, hk, hkb⟩ := List.any_eq_true.1 hb
    refine ⟨selF ls k, List.mem_map.2 ⟨k, hk, rfl⟩, ?_⟩
    rw [sel_ix h (hw k hk).1 (hw k hk).2, inSp1 hkb, Int.toNat_natCast]
theorem idxS_hit {α : Type} {p : α → Bool} : ∀ (l : List α) (k : Nat), 0 ≤ idxS p l k → ∃ x, l[(idxS p l k).toNat - k]? = some x ∧ p x = true ∧ (k : Int) ≤ idxS p l k
  | [], k, h => by exact absurd h (by show ¬ (0 : Int) ≤ -1; decide)
  | x :: l, k, h => by
    unfold idxS at h ⊢
    split at h
    · rename_i hp
      rw [if_pos hp]
      exact ⟨x, by rw [show ((k : Int).toNat - k) = 0 by omega]; rfl, hp, Int.le_refl _⟩
    · rename_i hp
      rw [if_neg hp]
      obtain ⟨y, h1, h2, h3⟩ := idxS_hit l (k + 1) h
      refine ⟨y, ?_, h2, by omega⟩
      rw [show (idxS p l (k + 1)).toNat - k = ((idxS p l (k + 1)).toNat - (k + 1)) + 1 by omega]
      exact h1
theorem knR_hit {sp : List (Nat × Nat)} {ls ls' : List Lf} {b m : Nat} (h : (b, m) ∈ sp) : knR sp (sp.map (hidT ls)) ls' b m = some (hidT ls (b, m)) := by
  have h0 : 0 ≤ idxS (spEq b m) sp 0 := by
    have := idxS_any (p := spEq b m) sp 0
    rw [show sp.any (spEq b m) = true from List.any_eq_true.2 ⟨_, h, by simp [spEq]⟩] at this
    exact of_decide_eq_true this
  obtain ⟨x, h1, h2, _⟩ := idxS_hit sp 0 h0
  have e : x = (b, m) := of_decide_eq_true h2
  subst e
  rw [Nat.sub_zero] at h1
  exact knR_t h0 (by rw [List.getElem?_map, h1]; rfl)
theorem knR_miss {sp : List (Nat × Nat)} {hd : List (List Int)} {ls' : List Lf} {b m : Nat} (h : (b, m) ∉ sp) : knR sp hd ls' b m = ofK ls' b m := by
  refine knR_f fun h0 => ?_
  obtain ⟨x, h1, h2, _⟩ := idxS_hit sp 0 h0
  have e : x = (b, m) := of_decide_eq_true h2
  subst e
  exact h (mem_of_at h1)
theorem ofK_one {ls : List Lf} {d b : Nat} : ofK ls b (2 ^ (d + 1)) = none := ofK_1 (by have := Nat.two_pow_pos d; rw [Nat.pow_succ]; omega)
theorem ofK_at {ls ls' : List Lf} {b m : Nat} (h : ls[b]? = ls'[b]?) : ofK ls b m = ofK ls' b m := by unfold ofK; rw [h]
/-- The tree that a Shown tells is that of the leaves. -/
theorem tree_eq {ls ls' : List Lf} {sp : List (Nat × Nat)} {w : List Int} (hn : ls'.length = ls.length) (hf : ∀ b, w.any (inSp (b, 1)) = true → ls'[b]? = ls[b]?) :
    ∀ d b, d ≤ 6 → (∀ s ∈ hidS ls.length w d b, s ∈ sp) → treeD (knR sp (sp.map (hidT ls)) ls') d b = treeD (ofK ls) d b := by
  have hit : ∀ d b, d ≤ 6 → (b, 2 ^ d) ∈ sp → treeD (knR sp (sp.map (hidT ls)) ls') d b = treeD (ofK ls) d b := fun d b hd hm => by
    rw [treeD_t (by rw [knR_hit hm]; rfl), knR_hit hm]
    show treeD (ofK ls) (lg (2 ^ d)) b = _
    rw [lg_pow hd]
  intro d
  induction d with
  | zero =>
    intro b hd hs
    by_cases hm : (b, 2 ^ 0) ∈ sp
    · exact hit 0 b hd hm
    · show ((knR sp _ ls' b 1).getD []) = ((ofK ls b 1).getD [])
      rw [knR_miss hm, ofK_at]
      by_cases hb : ls.length ≤ b
      · rw [List.getElem?_eq_none hb, List.getElem?_eq_none (by omega)]
      · refine hf b ?_
        cases hw : w.any (inSp (b, 1)) with
        | true => rfl
        | false => exact absurd (hs _ (by rw [hid_1 (d := 0) hb hw]; exact List.mem_singleton.2 rfl)) hm
  | succ d ih =>
    intro b hd hs
    by_cases hm : (b, 2 ^ (d + 1)) ∈ sp
    · exact hit (d + 1) b hd hm
    · rw [treeD_f (by rw [knR_miss hm, ofK_one]; rfl), treeD_f (kn := ofK ls) (by rw [ofK_one]; rfl)]
      have key : (∀ s ∈ hidS ls.length w d b, s ∈ sp) ∧ ∀ s ∈ hidS ls.length w d (b + 2 ^ d), s ∈ sp := by
        by_cases hb : ls.length ≤ b
        · rw [hid_0 hb, hid_0 (Nat.le_trans hb (Nat.le_add_right _ _))]
          exact ⟨fun s h => by (cases h), fun s h => by (cases h)⟩
        · cases hw : w.any (inSp (b, 2 ^ (d + 1))) with
          | false => exact absurd (hs _ (by rw [hid_1 hb hw]; exact List.mem_singleton.2 rfl)) hm
          | true =>
            rw [hid_3 hb hw] at hs
            exact ⟨fun s h => hs s (List.mem_append.2 (.inl h)), fun s h => hs s (List.mem_append.2 (.inr h))⟩
      rw [ih b (by omega) key.1, ih (b + 2 ^ d) (by omega) key.2]
theorem treeD_congr {kn kn' : Nat → Nat → Option (List Int)} : ∀ d b, (∀ c e, e ≤ d → b ≤ c → c + 2 ^ e ≤ b + 2 ^ d → kn c (2 ^ e) = kn' c (2 ^ e)) → treeD kn d b = treeD kn' d b
  | 0, b, h => by
    show (kn b (2 ^ 0)).getD [] = (kn' b (2 ^ 0)).getD []
    rw [h b 0 (Nat.le_refl _) (Nat.le_refl _) (Nat.le_refl _)]
  | d + 1, b, h => by
    have h0 := h b (d + 1) (Nat.le_refl _) (Nat.le_refl _) (Nat.le_refl _)
    have hp := pow2 d
    have h1 := treeD_congr (kn := kn) (kn' := kn') d b fun c e h1 h2 h3 => h c e (by omega) h2 (by omega)
    have h2 := treeD_congr (kn := kn) (kn' := kn') d (b + 2 ^ d) fun c e h1 h2 h3 => h c e (by omega) (by omega) (by omega)
    unfold treeD
    rw [h0, h1, h2]
def lvK (lv : List (List Int)) (b m : Nat) : Option (List Int) := if 1 < m then none else some (lv.getD b [])
theorem lvK_1 {lv : List (List Int)} {b d : Nat} : lvK lv b (2 ^ (d + 1)) = none := if_pos (by have := Nat.two_pow_pos d; rw [Nat.pow_succ]; omega)
theorem upS_at {lv : List (List Int)} {b : Nat} (h : b < lv.length / 2) : (upS lv).getD b [] = pr lv b := by
  unfold upS
  rw [List.getD_eq_getElem?_getD, List.getElem?_map, List.getElem?_range h]; rfl
theorem treeD_up (lv : List (List Int)) : ∀ d b, 2 * b + 2 ^ (d + 1) ≤ lv.length → treeD (lvK lv) (d + 1) (2 * b) = treeD (lvK (upS lv)) d b
  | 0, b, h => by
    rw [treeD_f (by rw [lvK_1]; rfl)]
    show innerS (lv.getD (2 * b) []) (lv.getD (2 * b + 1) []) = (upS lv).getD b []
    rw [upS_at (by simp at h; omega)]; rfl
  | d + 1, b, h => by
    have hp := pow2 d
    have hp2 := pow2 (d + 1)
    rw [treeD_f (d := d + 1) (by rw [lvK_1]; rfl), treeD_f (d := d) (kn := lvK (upS lv)) (by rw [lvK_1]; rfl), treeD_up lv d b (by omega), show 2 * b + 2 ^ (d + 1) = 2 * (b + 2 ^ d) by omega, treeD_up lv d (b + 2 ^ d) (by omega)]
theorem rootL_tree : ∀ (j : Nat) (lv : List (List Int)), LvOK j lv → rootL j lv = treeD (lvK lv) j 0
  | 0, lv, h => rfl
  | j + 1, lv, h => by
    show rootL j (upS lv) = _
    rw [rootL_tree j (upS lv) h.up, ← treeD_up lv j 0 (by rw [h.len]; omega)]
/-- The root of leaves is the digest of their whole tree. -/
theorem rootF_tree {ls : List Lf} (h : ls.length ≤ 64) : rootF ls = treeD (ofK ls) (lg ls.length) 0 := by
  unfold rootF rootS
  have ht : (ls.map textS).length = ls.length := List.length_map ..
  have hok := padS_ok (ls.map textS) (by omega)
  rw [rootL_tree _ _ hok, ht]
  refine treeD_congr _ _ fun c e he _ hc => ?_
  rw [Nat.zero_add] at hc
  cases e with
  | succ e => rw [lvK_1, ofK_one]
  | zero =>
    have hl := hok.len
    rw [ht] at hl
    show some ((padS (ls.map textS) (2 ^ lg ls.length - ls.length)).getD c []) = ofK ls c 1
    by_cases hb : ls.length ≤ c
    · rw [ofK_2 (by decide) hb]
      unfold padS
      rw [List.getD_eq_getElem?_getD, List.getElem?_append_right (by simp; exact hb), List.getElem?_replicate, if_pos (by simp at hc ⊢; omega)]; rfl
    · obtain ⟨x, hx, _⟩ := at_some (L := ls) (k := c) (by omega)
      rw [ofK_3 (by decide) hx]
      unfold padS
      rw [List.getD_eq_getElem?_getD, List.getElem?_append_left (by simp; omega), List.getElem?_map, List.getElem?_map, hx]; rfl
/-- RootOf of what is shown is the root. -/
theorem root_show {ls : List Lf} (h : LvsOK ls) {w : List Int} (hw : IxOK ls.length w) : rootOfS (ls.length : Int) (w.map (selF ls)) ((hidA ls.length w).map (hidT ls)) = some (rootF ls) := by
  have hn := h.n
  unfold rootOfS
  rw [fm_show h hw, Option.map_some, rootF_tree (by omega), Int.toNat_natCast]
  congr 1
  exact tree_eq (fill_len _ _) (fun b hb => fill_sel h hw.bd hb) _ _ (lg_6 _) fun s hs => hs
theorem hidS_free {n : Nat} {w : List Int} : ∀ {d b : Nat} {s : Nat × Nat}, s ∈ hidS n w d b → w.any (inSp s) = false
  | d, b, s, h => by
    by_cases hb : n ≤ b
    · rw [hid_0 hb] at h; cases h
    · cases hw : w.any (inSp (b, 2 ^ d)) with
      | false => rw [hid_1 hb hw, List.mem_singleton] at h; rw [h]; exact hw
      | true =>
        cases d with
        | zero => rw [hid_2 hb hw] at h; cases h
        | succ d =>
          rw [hid_3 hb hw] at h
          rcases List.mem_append.1 h with h | h
          · exact hidS_free h
          · exact hidS_free h
/-- The hidden digests do not tell of the shown leaves. -/
theorem hidT_same {ls ls' : List Lf} {w : List Int} {s : Nat × Nat} (hn : ls.length ≤ 16) (h : s ∈ hidA ls.length w) (hf : ∀ b, w.any (inSp (b, 1)) = false → ls'[b]? = ls[b]?) : hidT ls' s = hidT ls s := by
  have hfree := hidS_free h
  obtain ⟨c, e, rfl, he, hc, _⟩ := hidA_mem hn h
  show treeD (ofK ls') (lg (2 ^ e)) c = treeD (ofK ls) (lg (2 ^ e)) c
  rw [lg_pow he]
  refine treeD_congr _ _ fun b q hq h1 h2 => ofK_at (hf b ?_)
  rw [List.any_eq_false] at hfree ⊢
  intro k hk hkb
  refine hfree k hk ?_
  have := inSp1 hkb
  have hp := Nat.two_pow_pos q
  simp only [inSp, Bool.and_eq_true, decide_eq_true_eq]
  omega
end Go.Proofs.YthfhaoogcpfboaaGreat

/-! Walks: VR. -/
namespace Go.Proofs.YthfhaoogcpfboaaGreat
open Go.RowKit
set_option maxRecDepth 100000
set_option linter.unusedVariables false
theorem hv_agg {H Hs : Hp} {rd : List Nat} {al : Bool} {vs rs : List AV} (h : HVs H Hs rd al vs rs) : HV H Hs rd al (.agg vs) (.agg rs) := fun w S ρ c hh hv => by
  obtain ⟨C, rfl, hn, h1, h2⟩ := hv.agg_inv
  obtain ⟨e1, e2⟩ := h.at_
  refine .agg rs C (by rw [hn, e1]) (fun j r hj => ?_) fun j r hj => ?_
  · obtain ⟨v, g1, _⟩ := e2 j r hj
    exact h1 j v g1
  · obtain ⟨v, g1, g2⟩ := e2 j r hj
    exact g2 w S ρ _ hh (h2 j v g1)
/-- A part and a piece. -/
structure Pa where
  name : List Int
  cells : List (List Pl)
  want : List Int
structure Pc where
  sure : List Bool
  touched : List Bool
  cuts : List (List Pl)
abbrev cB (b : Bool) : List AV := [.bool b]
abbrev cPa (p : Pa) : List AV := [.str (strN p.name), .rs 1 (p.cells.map cR), .rs 1 (p.want.map civ)]
abbrev cPc (x : Pc) : List AV := [.rs 1 (x.sure.map cB), .rs 1 (x.touched.map cB), .rs 1 (x.cuts.map cR)]
abbrev cJ (p : Pa) (x : Pc) : List AV := [.str (strN p.name), .rs 1 (p.cells.map cR), .rs 1 (p.want.map civ), .rs 1 (x.sure.map cB), .rs 1 (x.touched.map cB), .rs 1 (x.cuts.map cR)]
def boxS (lo hi : V3) : List Pl := [⟨⟨1, 0, 0⟩, hi.x⟩, ⟨⟨-1, 0, 0⟩, -lo.x⟩, ⟨⟨0, 1, 0⟩, hi.y⟩, ⟨⟨0, -1, 0⟩, -lo.y⟩, ⟨⟨0, 0, 1⟩, hi.z⟩, ⟨⟨0, 0, -1⟩, -lo.z⟩]
def strangeB (w : Int) : Bool := decide (w < 1) || decide (w > 3)
def ckC : List (List Pl) → List (List Pl) → Int
  | _, [] => 0
  | pre, c :: l => if (cfullS c && sapartS c pre) = true then ckC (pre ++ [c]) l else 13
theorem ckC_at {l : List (List Pl)} {k : Nat} {c : List Pl} (h : l[k]? = some c) : ckC (l.take k) (l.drop k) = if (cfullS c && sapartS c (l.take k)) = true then ckC (l.take (k + 1)) (l.drop (k + 1)) else 13 := by
  rw [drop_at h, take_succ_at h]; rfl
theorem ckC_end {l pre : List (List Pl)} {k : Nat} (h : l.length ≤ k) : ckC pre (l.drop k) = 0 := by rw [List.drop_eq_nil_of_le h]; rfl
/-- The error of a part. -/
def ckP (p : Pa) : Int := if p.cells.length = 0 ∨ p.cells.length > 16 then 2 else if p.want.length ≠ p.cells.length ∨ p.want.any strangeB = true then 1 else ckC [] p.cells
def ckAll : List (List Pl) → Int
  | [] => 0
  | c :: l => if ckS c ≠ 0 then ckS c else ckAll l
theorem ckAll_at {l : List (List Pl)} {k : Nat} {c : List Pl} (h : l[k]? = some c) : ckAll (l.drop k) = if ckS c ≠ 0 then ckS c else ckAll (l.drop (k + 1)) := by rw [drop_at h]; rfl
/-- The error of a part and a piece. -/
def fitS (p : Pa) (x : Pc) : Int := if ckP p ≠ 0 then ckP p else if x.sure.length ≠ p.cells.length ∨ x.touched.length ≠ p.cells.length ∨ x.cuts.length > 24 ∨ ckAll x.cuts ≠ 0 then 4 else 0
structure PaOK (p : Pa) : Prop where
  n : p.cells.length ≤ 1000
  w : p.want.length ≤ 1000000
  c : ∀ c ∈ p.cells, 1 ≤ c.length ∧ c.length ≤ 100
structure PcOK (x : Pc) : Prop where
  n : x.cuts.length ≤ 1000
  c : ∀ c ∈ x.cuts, c.length ≤ 100
theorem ckP_3 {p : Pa} (h1 : ¬ ((p.cells.length : Int) = 0)) (h2 : ¬ ((p.cells.length : Int) > 16)) (h3 : ¬ ((p.want.length : Int) ≠ p.cells.length)) (h4 : p.want.any strangeB = false) : ckP p = ckC [] p.cells := by
  unfold ckP
  rw [if_neg (by omega), if_neg (by rw [h4]; simp; omega)]
def spoiltB (p : Pa) (x : Pc) (k : Nat) : Bool := decide (p.want.getD k 0 = 1) && !sapartS (p.cells.getD k []) x.cuts
def gougedB (p : Pa) (x : Pc) (k : Nat) : Bool := decide (p.want.getD k 0 = 1) && x.touched.getD k false
def leftB (p : Pa) (x : Pc) (k : Nat) : Bool := decide (p.want.getD k 0 = 2) && !x.sure.getD k false
theorem getD_hit {α : Type} {l : List α} {k : Nat} {x d : α} (h : l[k]? = some x) : l.getD k d = x := by rw [List.getD_eq_getElem?_getD, h]; rfl
def badK (p : Pa) (x : Pc) : Nat → Nat → Bool
  | 0 => spoiltB p x
  | 1 => gougedB p x
  | _ => leftB p x
def anyK (p : Pa) (x : Pc) (i : Nat) : Bool := (List.range p.cells.length).any (badK p x i)
theorem anyK_t {p : Pa} {x : Pc} {i k : Nat} (hk : k < p.cells.length) (h : badK p x i k = true) : anyK p x i = true := List.any_eq_true.2 ⟨k, List.mem_range.2 hk, h⟩
theorem anyK_f {p : Pa} {x : Pc} {i : Nat} (h : ∀ j, j < p.cells.length → badK p x i j = false) : anyK p x i = false := by
  rw [anyK, List.any_eq_false]
  intro k hk
  rw [h k (List.mem_range.1 hk)]; decide
/-- The verdict on a piece. -/
def verdS (p : Pa) (x : Pc) : Int := if fitS p x ≠ 0 then fitS p x else if anyK p x 0 = true then 35 else if anyK p x 1 = true then 30 else if anyK p x 2 = true then 34 else 0
theorem ckC_r : ∀ (l pre : List (List Pl)), ckC pre l = 0 ∨ ckC pre l = 13
  | [], _ => .inl rfl
  | c :: l, pre => by unfold ckC; split; exact ckC_r l _; exact .inr rfl
theorem ckP_r (p : Pa) : ckP p = 0 ∨ ckP p = 2 ∨ ckP p = 1 ∨ ckP p = 13 := by
  unfold ckP; split
  · exact .inr (.inl rfl)
  · split
    · exact .inr (.inr (.inl rfl))
    · rcases ckC_r p.cells [] with h | h
      · exact .inl h
      · exact .inr (.inr (.inr h))
theorem fitS_r (p : Pa) (x : Pc) : fitS p x = 0 ∨ fitS p x = 2 ∨ fitS p x = 1 ∨ fitS p x = 13 ∨ fitS p x = 4 := by
  unfold fitS; split
  · have := ckP_r p; omega
  · split
    · exact .inr (.inr (.inr (.inr rfl)))
    · exact .inl rfl
theorem fit_len {p : Pa} {x : Pc} (h : fitS p x = 0) : p.want.length = p.cells.length ∧ x.sure.length = p.cells.length ∧ x.touched.length = p.cells.length ∧ 1 ≤ p.cells.length ∧ p.cells.length ≤ 16 := by
  unfold fitS at h
  split at h
  · rename_i h1; exact absurd h h1
  · rename_i h1
    split at h
    · cases h
    · rename_i h2
      have h1 : ckP p = 0 := by omega
      unfold ckP at h1
      split at h1
      · cases h1
      · split at h1
        · cases h1
        · rename_i h3 h4
          exact ⟨by omega, by omega, by omega, by omega, by omega⟩
def fineB (e : Int) : Bool := decide (e = 0) || decide (e = 35) || decide (e = 30) || decide (e = 34)
theorem fine_fit {p : Pa} {x : Pc} (h : fineB (verdS p x) = true) : fitS p x = 0 := by
  have := fitS_r p x
  by_cases h0 : fitS p x = 0
  · exact h0
  · unfold verdS at h
    rw [if_pos h0] at h
    simp only [fineB, Bool.or_eq_true, decide_eq_true_eq] at h
    omega
def leafP (p : Pa) (x : Pc) (s : List Int) (k : Nat) : Lf := ⟨k, p.want.getD k 0, x.sure.getD k false, x.touched.getD k false, markS s (vint k)⟩
/-- The leaves of a piece. -/
def leavesS (p : Pa) (x : Pc) (s : List Int) : List Lf := if fineB (verdS p x) = true ∧ s ≠ [] then (List.range p.want.length).map (leafP p x s) else []
theorem leaf_snoc {p : Pa} {x : Pc} {s : List Int} {k : Nat} {w : Int} {a b : Bool} (hw : p.want[k]? = some w) (ha : x.sure[k]? = some a) (hb : x.touched[k]? = some b) :
    (List.range (k + 1)).map (leafP p x s) = (List.range k).map (leafP p x s) ++ [⟨k, w, a, b, markS s (vint k)⟩] := by
  rw [List.range_succ, List.map_append]
  show _ ++ [(⟨k, p.want.getD k 0, x.sure.getD k false, x.touched.getD k false, markS s (vint k)⟩ : Lf)] = _
  rw [getD_hit hw, getD_hit ha, getD_hit hb]
def mcv47 : MC := (.seq (.reg [oN 2 (.box 88 3 (.t 0)) [], oN 3 (.box 88 3 (.t 1)) [], oN 4 (.mv (.c .nils)) []] false) (.seq (.reg [oN 5 (.build [(.int .i64 0), (.int .i64 0), (.int .i64 0)] [(0, (1, (.c (.int .i64 1))))]) [], oN 6 (.fa 0 (.t 3)) [], oN 7 (.ld false 1 (.t 6)) [1], oN 8 (.build [(.int .i64 0), (.int .i64 0), (.int .i64 0), (.int .i64 0)] [(0, (3, (.t 5))), (3, (1, (.t 7)))]) [0, 2], oN 9 (.build [(.int .i64 0), (.int .i64 0), (.int .i64 0)] [(0, (1, (.c (.int .i64 (-1)))))]) [], oN 10 (.fa 0 (.t 2)) [], oN 11 (.ld false 1 (.t 10)) [5], oN 12 (.un .neg (.t 11)) [6], oN 13 (.build [(.int .i64 0), (.int .i64 0), (.int .i64 0), (.int .i64 0)] [(0, (3, (.t 9))), (3, (1, (.t 12)))]) [4, 7], oN 14 (.build [(.int .i64 0), (.int .i64 0), (.int .i64 0)] [(1, (1, (.c (.int .i64 1))))]) [], oN 15 (.fa 1 (.t 3)) [], oN 16 (.ld false 1 (.t 15)) [10], oN 17 (.build [(.int .i64 0), (.int .i64 0), (.int .i64 0), (.int .i64 0)] [(0, (3, (.t 14))), (3, (1, (.t 16)))]) [9, 11], oN 18 (.build [(.int .i64 0), (.int .i64 0), (.int .i64 0)] [(1, (1, (.c (.int .i64 (-1)))))]) [], oN 19 (.fa 1 (.t 2)) [], oN 20 (.ld false 1 (.t 19)) [14], oN 21 (.un .neg (.t 20)) [15], oN 22 (.build [(.int .i64 0), (.int .i64 0), (.int .i64 0), (.int .i64 0)] [(0, (3, (.t 18))), (3, (1, (.t 21)))]) [13, 16], oN 23 (.build [(.int .i64 0), (.int .i64 0), (.int .i64 0)] [(2, (1, (.c (.int .i64 1))))]) [], oN 24 (.fa 2 (.t 3)) [], oN 25 (.ld false 1 (.t 24)) [19], oN 26 (.build [(.int .i64 0), (.int .i64 0), (.int .i64 0), (.int .i64 0)] [(0, (3, (.t 23))), (3, (1, (.t 25)))]) [18, 20], oN 27 (.build [(.int .i64 0), (.int .i64 0), (.int .i64 0)] [(2, (1, (.c (.int .i64 (-1)))))]) [], oN 28 (.fa 2 (.t 2)) [], oN 29 (.ld false 1 (.t 28)) [23], oN 30 (.un .neg (.t 29)) [24], oN 31 (.build [(.int .i64 0), (.int .i64 0), (.int .i64 0), (.int .i64 0)] [(0, (3, (.t 27))), (3, (1, (.t 30)))]) [22, 25], oN 32 (.bslice 90 4 [(.int .i64 0), (.int .i64 0), (.int .i64 0), (.int .i64 0)] 6 [(0, (.t 8)), (1, (.t 13)), (2, (.t 17)), (3, (.t 22)), (4, (.t 26)), (5, (.t 31))]) [3, 8, 12, 17, 21, 26], oN 4 (.mv (.t 32)) [27, 0, 1, 2, 3, 4, 5, 6, 7, 8, 9, 10, 11, 12, 13, 14, 15, 16, 17, 18, 19, 20, 21, 22, 23, 24, 25, 26, 27]] false) .ret))
theorem mcOkv47 : (match Tryz.f47.body with | some c => compC Tryz.prog 33 c | none => none) = some mcv47 := by kernel_rfl
theorem vc47 (lo hi : V3) (hl : (-1000000000 ≤ lo.x ∧ lo.x ≤ 1000000000) ∧ (-1000000000 ≤ lo.y ∧ lo.y ≤ 1000000000) ∧ (-1000000000 ≤ lo.z ∧ lo.z ≤ 1000000000)) : FC Tryz.prog 47 [aV lo, aV hi] [] (.rs 4 ((boxS lo hi).map cPl)) [] false := by
  obtain ⟨hx, hy, hz⟩ := hl
  refine fc_run (nt := 33) Tryz.func47 rfl rfl mcOkv47 (Nat.le_of_ble_eq_true rfl) ?_
  delta mcv47
  refine aw_seq (aw_reg (rs_box rfl rfl rfl rfl rfl rfl ?_))
  refine rs_box rfl rfl rfl rfl rfl rfl ?_
  refine rs_mv rfl rfl ?_
  refine rs_nil fun _ => (th_n (aw_seq (aw_reg (rs_build rfl rfl ?_))))
  refine rs_fa_p rfl rfl ?_
  refine rs_ld_p rfl rfl rfl rfl rfl ?_
  refine rs_build rfl rfl ?_
  refine rs_build rfl rfl ?_
  refine rs_fa_p rfl rfl ?_
  refine rs_ld_p rfl rfl rfl rfl rfl ?_
  refine rs_neg rfl rfl (by omega) ?_
  refine rs_build rfl rfl ?_
  refine rs_build rfl rfl ?_
  refine rs_fa_p rfl rfl ?_
  refine rs_ld_p rfl rfl rfl rfl rfl ?_
  refine rs_build rfl rfl ?_
  refine rs_build rfl rfl ?_
  refine rs_fa_p rfl rfl ?_
  refine rs_ld_p rfl rfl rfl rfl rfl ?_
  refine rs_neg rfl rfl (by omega) ?_
  refine rs_build rfl rfl ?_
  refine rs_build rfl rfl ?_
  refine rs_fa_p rfl rfl ?_
  refine rs_ld_p rfl rfl rfl rfl rfl ?_
  refine rs_build rfl rfl ?_
  refine rs_build rfl rfl ?_
  refine rs_fa_p rfl rfl ?_
  refine rs_ld_p rfl rfl rfl rfl rfl ?_
  refine rs_neg rfl rfl (by omega) ?_
  refine rs_build rfl rfl ?_
  refine rs_bslice (l := (boxS lo hi).flatMap cPl) (els := (boxS lo hi).map cPl) (fl := true) rfl (by kernel_rfl) rfl rfl (by kernel_rfl) (by kernel_rfl) ?_
  refine rs_mv rfl rfl ?_
  refine rs_nil fun _ => (th_n (aw_ret ?_))
  exact ret_new rfl (rc_frz (f := cPl) (xs := boxS lo hi) rfl rfl rfl (fun _ => rfl)) .nil
def mcv153 : MC := (.seq (.reg [oN 2 (.mv (.c (.bool false))) []] false) (.seq (.reg [oN 3 (.mv (.t 0)) [], oN 4 (.bin .lss (.t 3) (.c (.int .i64 1))) [0], oN 5 (.mv (.t 4)) [1], oG 6 (.mv (.t 0)) 5 false [2], oG 7 (.bin .gtr (.t 6) (.c (.int .i64 3))) 5 false [3, 2], oN 8 (.pick (.t 5) (.c (.bool true)) (.t 7)) [2, 4], oN 2 (.mv (.t 8)) [5, 2, 0, 1, 2, 3, 4, 5]] false) .ret))
theorem mcOkv153 : (match Tryz.f153.body with | some c => compC Tryz.prog 9 c | none => none) = some mcv153 := by kernel_rfl
theorem vc153 (x : Int) : FC Tryz.prog 153 [iv x] [] (.bool (strangeB x)) [] false := by
  refine fc_run (nt := 9) Tryz.func153 rfl rfl mcOkv153 (Nat.le_of_ble_eq_true rfl) ?_
  delta mcv153
  refine aw_seq (aw_reg (rs_mv rfl rfl ?_))
  refine rs_nil fun _ => (th_n (aw_seq (aw_reg (rs_mv rfl rfl ?_))))
  refine rs_cmp rfl rfl rfl rfl (fun h4 => ?_) (fun h4 => ?_)
  · skip
    refine rs_mv rfl rfl ?_
    refine rs_skip rfl ?_
    refine rs_skip rfl ?_
    refine rs_pick rfl rfl rfl ?_
    refine rs_mv rfl rfl ?_
    refine rs_nil fun _ => (th_n (aw_ret ?_))
    rw [show strangeB x = true from by unfold strangeB; rw [decide_eq_true h4]; rfl]
    exact ret_pure rfl rfl rfl (.inr rfl)
  · skip
    refine rs_mv rfl rfl ?_
    refine rs_mv rfl rfl ?_
    refine rs_cmp rfl rfl rfl rfl (fun h7 => ?_) (fun h7 => ?_)
    · skip
      refine rs_pick rfl rfl rfl ?_
      refine rs_mv rfl rfl ?_
      refine rs_nil fun _ => (th_n (aw_ret ?_))
      rw [show strangeB x = true from by unfold strangeB; rw [decide_eq_false h4, decide_eq_true h7]; rfl]
      exact ret_pure rfl rfl rfl (.inr rfl)
    · skip
      refine rs_pick rfl rfl rfl ?_
      refine rs_mv rfl rfl ?_
      refine rs_nil fun _ => (th_n (aw_ret ?_))
      rw [show strangeB x = false from by unfold strangeB; rw [decide_eq_false h4, decide_eq_false h7]; rfl]
      exact ret_pure rfl rfl rfl (.inr rfl)
theorem vcI_strange (xs : List Int) (hxn : xs.length ≤ 4611686018427387904) : FC Tryz.prog 115 [.rs 1 (xs.map civ), (.fn (.func 153) [])] [] (.int .i64 (idxS strangeB xs 0)) [] false := by
  refine fc_run (nt := 19) Tryz.func115 rfl rfl mcOkv115 (Nat.le_of_ble_eq_true rfl) ?_
  delta mcv115
  refine aw_seq (aw_reg (rs_mv rfl rfl ?_))
  refine rs_nil fun _ => (th_n (aw_seq (aw_seq (aw_reg (rs_mv rfl rfl ?_)))))
  refine rs_len_m rfl rfl ?_
  refine rs_mv rfl rfl ?_
  refine rs_nil fun _ => (th_n (aw_block ?_))
  refine aw_fam (α := Nat) (fun k => xs.length - k) (fun k => [(0, .rs 1 (xs.map civ)), (1, (.fn (.func 153) [])), (6, .rs 1 (xs.map civ)), (7, iv (xs.length : Int)), (8, iv (((k) : Nat) : Int))]) (fun k => []) (fun k => k ≤ xs.length ∧ idxS strangeB (xs.drop k) k = idxS strangeB xs 0) 0 (⟨by omega, rfl⟩)
    (weak_to (.cons rfl sm (.cons rfl sm (.cons rfl sm (.cons rfl sm (.cons rfl sm (.nil)))))) (.nil) (fun i h => by cases h)) ?_
  rintro k ⟨hk, hinv⟩
  refine aw_seq (aw_reg (rs_lss rfl rfl rfl ?_))
  refine rs_nil fun _ => (th_n (aw_seq (aw_cond rfl (fun h9 => ?_) (fun h9 => ?_))))
  · replace h9 := of_decide_eq_true h9
    refine aw_skip (th_n (aw_seq (aw_block (aw_seq (aw_reg (rs_mv rfl rfl ?_))))))
    refine rs_mv rfl rfl ?_
    refine rs_nil fun _ => (th_n (aw_seq (aw_reg (rs_mv rfl rfl ?_))))
    refine rs_mv rfl rfl ?_
    refine rs_mv rfl rfl ?_
    obtain ⟨x, hxk, hxm⟩ := at_some (L := xs) (k := k) (by omega)
    rw [idxS_at hxk] at hinv
    
    refine rs_ix_g (f := civ) (y := x) rfl rfl rfl (by omega) hxk ?_
    refine rs_ld_r rfl rfl rfl ?_
    refine rs_callvo [] rfl rfl (by kernel_rfl) rfl (fc_up (vc153 x)) (.cons (hv_same rfl) (.nil)) .nil rfl rfl rfl ?_
    cases h16 : strangeB x
    · skip
      refine rs_nil fun _ => (th_n (aw_cond rfl (fun h => by cases h) (fun _ => ?_)))
      refine aw_skip (in_n (th_n (aw_reg (rs_add rfl rfl rfl (by omega) ?_))))
      refine rs_mv rfl rfl ?_
      refine rs_nil fun _ => (th_n ?_)
      rw [h16] at hinv
      exact ⟨k + 1, ⟨by omega, hinv⟩, by omega, weak_to (.cons rfl sm (.cons rfl sm (.cons rfl sm (.cons rfl sm (.cons rfl sm (.nil)))))) (.nil) (fun i h => by cases h)⟩
    · skip
      refine rs_nil fun _ => (th_n (aw_cond rfl (fun _ => ?_) (fun h => by cases h)))
      refine aw_seq (aw_reg (rs_mv rfl rfl ?_))
      refine rs_mv rfl rfl ?_
      refine rs_nil fun _ => (th_n (aw_ret (in_r (th_r (th_r (in_r (th_r ?_)))))))
      rw [h16] at hinv
      rw [← hinv]
      exact ret_pure rfl rfl rfl (.inr rfl)
  · replace h9 := of_decide_eq_false h9
    refine aw_exit ?_
    refine th_e ?_
    refine th_e ?_
    refine in_hit ?_
    refine th_n (aw_seq (aw_reg (rs_mv rfl rfl ?_)))
    refine rs_nil fun _ => (th_n (aw_ret ?_))
    rw [idxS_end (by omega)] at hinv
    rw [← hinv]
    exact ret_pure rfl rfl rfl (.inr rfl)
theorem vcC_strange (xs : List Int) (hxn : xs.length ≤ 4611686018427387904) : FC Tryz.prog 65 [.rs 1 (xs.map civ), (.fn (.func 153) [])] [] (.bool (xs.any strangeB)) [] false := by
  refine fc_run (nt := 9) Tryz.func65 rfl rfl mcOkv65 (Nat.le_of_ble_eq_true rfl) ?_
  delta mcv65
  refine aw_seq (aw_reg (rs_mv rfl rfl ?_))
  refine rs_nil fun _ => (th_n (aw_seq (aw_reg (rs_mv rfl rfl ?_))))
  refine rs_mv rfl rfl ?_
  refine rs_calln [] rfl rfl (vcI_strange xs hxn) (.cons (hv_same rfl) (.cons (hv_same rfl) (.nil))) rfl ?_
  refine rs_geq rfl rfl rfl ?_
  refine rs_mv rfl rfl ?_
  refine rs_nil fun _ => (th_n (aw_ret ?_))
  rw [← idxS_cond]
  exact ret_pure rfl rfl rfl (.inr rfl)
def mcv127 : MC := (.seq (.reg [oN 1 (.box 31 3 (.t 0)) [], oN 2 (.mv (.c (.int .i64 0))) []] false) (.seq (.reg [oN 7 (.fa 1 (.t 1)) [], oN 8 (.ld false 1 (.t 7)) [0], oN 9 (.len (.t 8)) [1], oN 3 (.mv (.t 9)) [2, 0, 1, 2]] false) (.seq (.reg [oN 4 (.mv (.c (.fn (.func 153) []))) []] false) (.seq (.block 0 (.seq (.reg [oN 11 (.mv (.t 3)) [], oN 12 (.bin .eql (.t 11) (.c (.int .i64 0))) [0], oN 13 (.mv (.t 12)) [1], oG 14 (.mv (.t 3)) 13 false [2], oG 15 (.bin .gtr (.t 14) (.c (.int .i64 16))) 13 false [3, 2], oN 16 (.pick (.t 13) (.c (.bool true)) (.t 15)) [2, 4], oN 10 (.mv (.t 16)) [5, 2]] false) (.cond (.t 10) (.seq (.reg [oN 2 (.mv (.c (.int .i64 2))) []] false) .ret) (.seq (.reg [oN 18 (.fa 2 (.t 1)) [], oN 19 (.ld false 1 (.t 18)) [0], oN 20 (.len (.t 19)) [1], oN 21 (.mv (.t 3)) [], oN 22 (.bin .neq (.t 20) (.t 21)) [2, 3], oN 23 (.mv (.t 22)) [4], oG 24 (.fa 2 (.t 1)) 23 false [5], oG 25 (.ld false 1 (.t 24)) 23 false [6, 5], oG 26 (.mv (.t 4)) 23 false [5], oG 27 (.call 65 [(.t 25), (.t 26)]) 23 false [7, 8, 5, 5], oN 28 (.pick (.t 23) (.c (.bool true)) (.t 27)) [5, 9], oN 17 (.mv (.t 28)) [10, 9]] false) (.cond (.t 17) (.seq (.reg [oN 2 (.mv (.c (.int .i64 1))) []] false) .ret) .skip))))) (.seq (.seq (.reg [oN 29 (.fa 1 (.t 1)) [], oN 30 (.ld false 1 (.t 29)) [0], oN 31 (.len (.t 30)) [1], oN 32 (.mv (.c (.int .i64 0))) []] false) (.block 1 (.loop (.seq (.reg [oN 33 (.bin .lss (.t 32) (.t 31)) []] false) (.seq (.cond (.t 33) .skip (.exit 1)) (.seq (.block 2 (.seq (.reg [oN 34 (.mv (.t 32)) [], oN 35 (.ixsl 1 (.t 30) (.t 32)) [], oN 36 (.ld false 1 (.t 35)) [1], oN 5 (.mv (.t 34)) [0, 0, 1, 2], oN 6 (.mv (.t 36)) [2, 3, 0, 1, 2, 3]] false) (.seq (.reg [oN 37 (.mv (.t 6)) [], oN 38 (.call 154 [(.t 37)]) [0], oN 39 (.un .not (.t 38)) [1], oN 40 (.mv (.t 39)) [2, 1], oG 41 (.mv (.t 6)) 40 false [3], oG 42 (.fa 1 (.t 1)) 40 false [3], oG 43 (.ld false 1 (.t 42)) 40 false [5, 3], oG 44 (.mv (.t 5)) 40 false [3], oG 45 (.slc 1 (.t 43) none (some (.t 44))) 40 false [6, 7, 3], oG 46 (.call 86 [(.t 41), (.t 45)]) 40 false [4, 8, 3, 3], oG 47 (.un .not (.t 46)) 40 false [9, 3], oN 48 (.pick (.t 40) (.c (.bool true)) (.t 47)) [3, 10]] false) (.cond (.t 48) (.seq (.reg [oN 2 (.mv (.c (.int .i64 13))) []] false) .ret) .skip)))) (.reg [oN 49 (.bin .add (.t 32) (.c (.int .i64 1))) [], oN 32 (.mv (.t 49)) [0]] false))))))) (.seq (.reg [oN 2 (.mv (.c (.int .i64 0))) []] false) .ret))))))
theorem mcOkv127 : (match Tryz.f127.body with | some c => compC Tryz.prog 50 c | none => none) = some mcv127 := by kernel_rfl
set_option maxHeartbeats 1000000 in
theorem vc127 (p : Pa) (hp : PaOK p) : FC Tryz.prog 127 [.agg (cPa p)] [] (iv (ckP p)) [] false := by
  have hpn := hp.n
  have hpw := hp.w
  refine fc_run (nt := 50) Tryz.func127 rfl rfl mcOkv127 (Nat.le_of_ble_eq_true rfl) ?_
  delta mcv127
  refine aw_seq (aw_reg (rs_box rfl rfl rfl rfl rfl rfl ?_))
  refine rs_mv rfl rfl ?_
  refine rs_nil fun _ => (th_n (aw_seq (aw_reg (rs_fa_p rfl rfl ?_))))
  refine rs_ld_p rfl rfl rfl rfl rfl ?_
  refine rs_len_m rfl rfl ?_
  refine rs_mv rfl rfl ?_
  refine rs_nil fun _ => (th_n (aw_seq (aw_reg (rs_mv rfl rfl ?_))))
  refine rs_nil fun _ => (th_n (aw_seq (aw_block (aw_seq (aw_reg (rs_mv rfl rfl ?_))))))
  refine rs_cmp rfl rfl rfl rfl (fun h12 => ?_) (fun h12 => ?_)
  · skip
    refine rs_mv rfl rfl ?_
    refine rs_skip rfl ?_
    refine rs_skip rfl ?_
    refine rs_pick rfl rfl rfl ?_
    refine rs_mv rfl rfl ?_
    refine rs_nil fun _ => (th_n (aw_cond rfl (fun _ => ?_) (fun h => by cases h)))
    refine aw_seq (aw_reg (rs_mv rfl rfl ?_))
    refine rs_nil fun _ => (th_n (aw_ret (in_r (th_r ?_))))
    rw [show ckP p = 2 from if_pos (by omega)]
    exact ret_pure rfl rfl rfl (.inr rfl)
  · skip
    refine rs_mv rfl rfl ?_
    refine rs_mv rfl rfl ?_
    refine rs_cmp rfl rfl rfl rfl (fun h15 => ?_) (fun h15 => ?_)
    · skip
      refine rs_pick rfl rfl rfl ?_
      refine rs_mv rfl rfl ?_
      refine rs_nil fun _ => (th_n (aw_cond rfl (fun _ => ?_) (fun h => by cases h)))
      refine aw_seq (aw_reg (rs_mv rfl rfl ?_))
      refine rs_nil fun _ => (th_n (aw_ret (in_r (th_r ?_))))
      rw [show ckP p = 2 from if_pos (by omega)]
      exact ret_pure rfl rfl rfl (.inr rfl)
    · skip
      refine rs_pick rfl rfl rfl ?_
      refine rs_mv rfl rfl ?_
      refine rs_nil fun _ => (th_n (aw_cond rfl (fun h => by cases h) (fun _ => ?_)))
      refine aw_seq (aw_reg (rs_fa_p rfl rfl ?_))
      refine rs_ld_p rfl rfl rfl rfl rfl ?_
      refine rs_len_m rfl rfl ?_
      refine rs_mv rfl rfl ?_
      refine rs_cmp rfl rfl rfl rfl (fun h22 => ?_) (fun h22 => ?_)
      · skip
        refine rs_mv rfl rfl ?_
        refine rs_skip rfl ?_
        refine rs_skip rfl ?_
        refine rs_skip rfl ?_
        refine rs_skip rfl ?_
        refine rs_pick rfl rfl rfl ?_
        refine rs_mv rfl rfl ?_
        refine rs_nil fun _ => (th_n (aw_cond rfl (fun _ => ?_) (fun h => by cases h)))
        refine aw_seq (aw_reg (rs_mv rfl rfl ?_))
        refine rs_nil fun _ => (th_n (aw_ret (in_r (th_r ?_))))
        rw [show ckP p = 1 from by unfold ckP; rw [if_neg (by omega), if_pos (.inl (by omega))]]
        exact ret_pure rfl rfl rfl (.inr rfl)
      · skip
        refine rs_mv rfl rfl ?_
        refine rs_fa_p rfl rfl ?_
        refine rs_ld_p rfl rfl rfl rfl rfl ?_
        refine rs_mv rfl rfl ?_
        refine rs_calln [] rfl rfl (vcC_strange p.want (by omega)) (.cons (hv_same rfl) (.cons (hv_same rfl) (.nil))) rfl ?_
        cases h27 : p.want.any strangeB
        · skip
          refine rs_pick rfl rfl rfl ?_
          refine rs_mv rfl rfl ?_
          refine rs_nil fun _ => (th_n (aw_cond rfl (fun h => by cases h) (fun _ => ?_)))
          refine aw_skip (in_n (th_n (aw_seq (aw_seq ?_))))
          have hP := ckP_3 h12 h15 h22 h27
          refine aw_reg (rs_fa_p rfl rfl ?_)
          refine rs_ld_p rfl rfl rfl rfl rfl ?_
          refine rs_len_m rfl rfl ?_
          refine rs_mv rfl rfl ?_
          refine rs_nil fun _ => (th_n (aw_block ?_))
          refine aw_fam (α := Nat) (fun k => p.cells.length - k) (fun k => [(1, .ptr 1 0 0), (30, .rs 1 (p.cells.map cR)), (31, iv (p.cells.length : Int)), (32, iv (((k) : Nat) : Int))]) (fun k => [(1, .cells 31 3 [cPa p] true)]) (fun k => k ≤ p.cells.length ∧ ckC (p.cells.take k) (p.cells.drop k) = ckC [] p.cells) 0 (⟨by omega, rfl⟩)
            (weak_to (.cons rfl sm (.cons rfl sm (.cons rfl sm (.cons rfl sm (.nil))))) (.keep (rfl) rfl (.nil)) (fun i h => by cases h)) ?_
          rintro k ⟨hk, hinv⟩
          refine aw_seq (aw_reg (rs_lss rfl rfl rfl ?_))
          refine rs_nil fun _ => (th_n (aw_seq (aw_cond rfl (fun h33 => ?_) (fun h33 => ?_))))
          · replace h33 := of_decide_eq_true h33
            refine aw_skip (th_n (aw_seq (aw_block (aw_seq (aw_reg (rs_mv rfl rfl ?_))))))
            obtain ⟨c, hck, hcm⟩ := at_some (L := p.cells) (k := k) (by omega)
            rw [ckC_at hck] at hinv
            refine rs_ix_g (f := cR) (y := c) rfl rfl rfl (by omega) hck ?_
            refine rs_ld_r rfl rfl rfl ?_
            refine rs_mv rfl rfl ?_
            refine rs_mv rfl rfl ?_
            refine rs_nil fun _ => (th_n (aw_seq (aw_reg (rs_mv rfl rfl ?_))))
            refine rs_calln [] rfl rfl (vc154 c ⟨hp.c c hcm⟩) (.cons (hv_same rfl) (.nil)) rfl ?_
            cases h38 : cfullS c
            · skip
              refine rs_not rfl rfl ?_
              refine rs_mv rfl rfl ?_
              refine rs_skip rfl ?_
              refine rs_skip rfl ?_
              refine rs_skip rfl ?_
              refine rs_skip rfl ?_
              refine rs_skip rfl ?_
              refine rs_skip rfl ?_
              refine rs_skip rfl ?_
              refine rs_pick rfl rfl rfl ?_
              refine rs_nil fun _ => (th_n (aw_cond rfl (fun _ => ?_) (fun h => by cases h)))
              refine aw_seq (aw_reg (rs_mv rfl rfl ?_))
              refine rs_nil fun _ => (th_n (aw_ret (in_r (th_r (th_r (in_r (th_r ?_)))))))
              rw [h38] at hinv
              rw [hP, ← hinv]
              exact ret_pure rfl rfl rfl (.inr rfl)
            · skip
              refine rs_not rfl rfl ?_
              refine rs_mv rfl rfl ?_
              refine rs_mv rfl rfl ?_
              refine rs_fa_p rfl rfl ?_
              refine rs_ld_p rfl rfl rfl rfl rfl ?_
              refine rs_mv rfl rfl ?_
              refine rs_slc_r (l := 0) (q := (k : Int)) (els' := (p.cells.take k).map cR) rfl rfl rfl rfl rfl (by decide) (by omega) (by simp; omega) (by simp [List.map_take]) ?_
              refine rs_calln [] rfl rfl (vc86 c (p.cells.take k) (fun q hq => ⟨hp.c c hcm, (hp.c q (List.mem_of_mem_take hq)).2⟩) (by simp; omega)) (.cons (hv_same rfl) (.cons (hv_same rfl) (.nil))) rfl ?_
              cases h46 : sapartS c (p.cells.take k)
              · skip
                refine rs_not rfl rfl ?_
                refine rs_pick rfl rfl rfl ?_
                refine rs_nil fun _ => (th_n (aw_cond rfl (fun _ => ?_) (fun h => by cases h)))
                refine aw_seq (aw_reg (rs_mv rfl rfl ?_))
                refine rs_nil fun _ => (th_n (aw_ret (in_r (th_r (th_r (in_r (th_r ?_)))))))
                rw [h38, h46] at hinv
                rw [hP, ← hinv]
                exact ret_pure rfl rfl rfl (.inr rfl)
              · skip
                refine rs_not rfl rfl ?_
                refine rs_pick rfl rfl rfl ?_
                refine rs_nil fun _ => (th_n (aw_cond rfl (fun h => by cases h) (fun _ => ?_)))
                refine aw_skip (in_n (th_n (aw_reg (rs_add rfl rfl rfl (by omega) ?_))))
                refine rs_mv rfl rfl ?_
                refine rs_nil fun _ => (th_n ?_)
                rw [h38, h46] at hinv
                exact ⟨k + 1, ⟨by omega, hinv⟩, by omega, weak_to (.cons rfl sm (.cons rfl sm (.cons rfl sm (.cons rfl sm (.nil))))) (.keep (rfl) rfl (.nil)) (fun i h => by cases h)⟩
          · replace h33 := of_decide_eq_false h33
            refine aw_exit ?_
            refine th_e ?_
            refine th_e ?_
            refine in_hit ?_
            refine th_n (aw_seq (aw_reg (rs_mv rfl rfl ?_)))
            refine rs_nil fun _ => (th_n (aw_ret ?_))
            rw [hP, ← hinv, ckC_end (by omega)]
            exact ret_pure rfl rfl rfl (.inr rfl)
        · skip
          refine rs_pick rfl rfl rfl ?_
          refine rs_mv rfl rfl ?_
          refine rs_nil fun _ => (th_n (aw_cond rfl (fun _ => ?_) (fun h => by cases h)))
          refine aw_seq (aw_reg (rs_mv rfl rfl ?_))
          refine rs_nil fun _ => (th_n (aw_ret (in_r (th_r ?_))))
          rw [show ckP p = 1 from by unfold ckP; rw [if_neg (by omega), if_pos (.inr h27)]]
          exact ret_pure rfl rfl rfl (.inr rfl)
def mcv82 : MC := (.seq (.reg [oN 2 (.mv (.c (.int .i64 0))) []] false) (.seq (.seq (.reg [oN 6 (.mv (.t 0)) [], oN 7 (.len (.t 6)) [0], oN 8 (.mv (.c (.int .i64 0))) []] false) (.block 0 (.loop (.seq (.reg [oN 9 (.bin .lss (.t 8) (.t 7)) []] false) (.seq (.cond (.t 9) .skip (.exit 0)) (.seq (.block 1 (.seq (.reg [oN 10 (.ixsl 1 (.t 6) (.t 8)) [], oN 11 (.ld false 1 (.t 10)) [0], oN 4 (.mv (.t 11)) [1, 0, 1]] false) (.seq (.reg [oN 12 (.mv (.t 4)) [], oN 13 (.call 128 [(.t 12)]) [0], oN 5 (.mv (.t 13)) [1, 1, 0, 1]] false) (.seq (.reg [oN 14 (.mv (.t 5)) [], oN 15 (.bin .neq (.t 14) (.c (.int .i64 0))) [0]] false) (.cond (.t 15) (.seq (.reg [oN 16 (.mv (.t 5)) [], oN 2 (.mv (.t 16)) [0, 0]] false) .ret) .skip))))) (.reg [oN 17 (.bin .add (.t 8) (.c (.int .i64 1))) [], oN 8 (.mv (.t 17)) [0]] false))))))) (.seq (.reg [oN 2 (.mv (.c (.int .i64 0))) []] false) .ret)))
theorem mcOkv82 : (match Tryz.f82.body with | some c => compC Tryz.prog 18 c | none => none) = some mcv82 := by kernel_rfl
theorem vc82 (l : List (List Pl)) (hl : l.length ≤ 1000000) (hc : ∀ c ∈ l, c.length ≤ 1000) : FC Tryz.prog 82 [.rs 1 (l.map cR)] [] (iv (ckAll l)) [] false := by
  refine fc_run (nt := 18) Tryz.func82 rfl rfl mcOkv82 (Nat.le_of_ble_eq_true rfl) ?_
  delta mcv82
  refine aw_seq (aw_reg (rs_mv rfl rfl ?_))
  refine rs_nil fun _ => (th_n (aw_seq (aw_seq (aw_reg (rs_mv rfl rfl ?_)))))
  refine rs_len_m rfl rfl ?_
  refine rs_mv rfl rfl ?_
  refine rs_nil fun _ => (th_n (aw_block ?_))
  refine aw_fam (α := Nat) (fun k => l.length - k) (fun k => [(6, .rs 1 (l.map cR)), (7, iv (l.length : Int)), (8, iv (((k) : Nat) : Int))]) (fun k => []) (fun k => k ≤ l.length ∧ ckAll (l.drop k) = ckAll l) 0 (⟨by omega, rfl⟩)
    (weak_to (.cons rfl sm (.cons rfl sm (.cons rfl sm (.nil)))) (.nil) (fun i h => by cases h)) ?_
  rintro k ⟨hk, hinv⟩
  refine aw_seq (aw_reg (rs_lss rfl rfl rfl ?_))
  refine rs_nil fun _ => (th_n (aw_seq (aw_cond rfl (fun h9 => ?_) (fun h9 => ?_))))
  · replace h9 := of_decide_eq_true h9
    refine aw_skip (th_n (aw_seq (aw_block (aw_seq (aw_reg ?_)))))
    obtain ⟨c, hck, hcm⟩ := at_some (L := l) (k := k) (by omega)
    rw [ckAll_at hck] at hinv
    refine rs_ix_g (f := cR) (y := c) rfl rfl rfl (by omega) hck ?_
    refine rs_ld_r rfl rfl rfl ?_
    refine rs_mv rfl rfl ?_
    refine rs_nil fun _ => (th_n (aw_seq (aw_reg (rs_mv rfl rfl ?_))))
    refine rs_calln [] rfl rfl (vc128 c (hc c hcm)) (.cons (hv_same rfl) (.nil)) rfl ?_
    refine rs_mv rfl rfl ?_
    refine rs_nil fun _ => (th_n (aw_seq (aw_reg (rs_mv rfl rfl ?_))))
    refine rs_neq rfl rfl rfl ?_
    refine rs_nil fun _ => (th_n (aw_cond rfl (fun h15 => ?_) (fun h15 => ?_)))
    · replace h15 := of_decide_eq_true h15
      refine aw_seq (aw_reg (rs_mv rfl rfl ?_))
      refine rs_mv rfl rfl ?_
      refine rs_nil fun _ => (th_n (aw_ret (in_r (th_r (th_r (in_r (th_r ?_)))))))
      rw [if_pos h15] at hinv
      rw [← hinv]
      exact ret_pure rfl rfl rfl (.inr rfl)
    · replace h15 := of_decide_eq_false h15
      refine aw_skip (in_n (th_n (aw_reg (rs_add rfl rfl rfl (by omega) ?_))))
      refine rs_mv rfl rfl ?_
      refine rs_nil fun _ => (th_n ?_)
      rw [if_neg h15] at hinv
      exact ⟨k + 1, ⟨by omega, hinv⟩, by omega, weak_to (.cons rfl sm (.cons rfl sm (.cons rfl sm (.nil)))) (.nil) (fun i h => by cases h)⟩
  · replace h9 := of_decide_eq_false h9
    refine aw_exit ?_
    refine th_e ?_
    refine th_e ?_
    refine in_hit ?_
    refine th_n (aw_seq (aw_reg (rs_mv rfl rfl ?_)))
    refine rs_nil fun _ => (th_n (aw_ret ?_))
    rw [← hinv, List.drop_eq_nil_of_le (by omega)]
    exact ret_pure rfl rfl rfl (.inr rfl)
def mcv81 : MC := (.seq (.reg [oN 2 (.box 31 3 (.t 0)) [], oN 3 (.box 35 3 (.t 1)) [], oN 4 (.mv (.c (.int .i64 0))) []] false) (.seq (.seq (.reg [oN 7 (.ld true 3 (.t 2)) [], oN 8 (.call 127 [(.t 7)]) [0], oN 5 (.mv (.t 8)) [1, 1, 0, 1]] false) (.seq (.reg [oN 9 (.mv (.t 5)) [], oN 10 (.bin .neq (.t 9) (.c (.int .i64 0))) [0]] false) (.cond (.t 10) (.seq (.reg [oN 11 (.mv (.t 5)) [], oN 4 (.mv (.t 11)) [0, 0]] false) .ret) .skip))) (.seq (.seq (.reg [oN 12 (.fa 1 (.t 2)) [], oN 13 (.ld false 1 (.t 12)) [0], oN 14 (.len (.t 13)) [1], oN 6 (.mv (.t 14)) [2, 0, 1, 2]] false) (.seq (.reg [oN 15 (.fa 0 (.t 3)) [], oN 16 (.ld false 1 (.t 15)) [0], oN 17 (.len (.t 16)) [1], oN 18 (.mv (.t 6)) [], oN 19 (.bin .neq (.t 17) (.t 18)) [2, 3], oN 20 (.mv (.t 19)) [4], oG 21 (.fa 1 (.t 3)) 20 false [5], oG 22 (.ld false 1 (.t 21)) 20 false [6, 5], oG 23 (.len (.t 22)) 20 false [7, 5], oG 24 (.mv (.t 6)) 20 false [5], oG 25 (.bin .neq (.t 23) (.t 24)) 20 false [8, 9, 5], oN 26 (.pick (.t 20) (.c (.bool true)) (.t 25)) [5, 10], oN 27 (.mv (.t 26)) [11, 5], oG 28 (.fa 2 (.t 3)) 27 false [12], oG 29 (.ld false 1 (.t 28)) 27 false [13, 12], oG 30 (.len (.t 29)) 27 false [14, 12], oG 31 (.bin .gtr (.t 30) (.c (.int .i64 24))) 27 false [15, 12], oN 32 (.pick (.t 27) (.c (.bool true)) (.t 31)) [12, 16], oN 33 (.mv (.t 32)) [17, 12], oG 34 (.fa 2 (.t 3)) 33 false [18], oG 35 (.ld false 1 (.t 34)) 33 false [19, 18], oG 36 (.call 82 [(.t 35)]) 33 false [20, 18, 18], oG 37 (.bin .neq (.t 36) (.c (.int .i64 0))) 33 false [21, 18], oN 38 (.pick (.t 33) (.c (.bool true)) (.t 37)) [18, 22]] false) (.cond (.t 38) (.seq (.reg [oN 4 (.mv (.c (.int .i64 4))) []] false) .ret) .skip))) (.seq (.reg [oN 4 (.mv (.c (.int .i64 0))) []] false) .ret))))
theorem mcOkv81 : (match Tryz.f81.body with | some c => compC Tryz.prog 39 c | none => none) = some mcv81 := by kernel_rfl
theorem vc81 (p : Pa) (hp : PaOK p) (x : Pc) (hx : PcOK x) : FC Tryz.prog 81 [.agg (cPa p), .agg (cPc x)] [] (iv (fitS p x)) [] false := by
  have hpn := hp.n
  have hxn := hx.n
  refine fc_run (nt := 39) Tryz.func81 rfl rfl mcOkv81 (Nat.le_of_ble_eq_true rfl) ?_
  delta mcv81
  refine aw_seq (aw_reg (rs_box rfl rfl rfl rfl rfl rfl ?_))
  refine rs_box rfl rfl rfl rfl rfl rfl ?_
  refine rs_mv rfl rfl ?_
  refine rs_nil fun _ => (th_n (aw_seq (aw_seq (aw_reg (rs_ld_pa rfl rfl rfl rfl (Nat.le_of_ble_eq_true rfl) rfl ?_)))))
  refine rs_calln [] rfl rfl (vc127 p hp) (.cons (hv_same rfl) (.nil)) rfl ?_
  refine rs_mv rfl rfl ?_
  refine rs_nil fun _ => (th_n (aw_seq (aw_reg (rs_mv rfl rfl ?_))))
  refine rs_neq rfl rfl rfl ?_
  refine rs_nil fun _ => (th_n (aw_cond rfl (fun h10 => ?_) (fun h10 => ?_)))
  · replace h10 := of_decide_eq_true h10
    refine aw_seq (aw_reg (rs_mv rfl rfl ?_))
    refine rs_mv rfl rfl ?_
    refine rs_nil fun _ => (th_n (aw_ret (th_r ?_)))
    rw [show fitS p x = ckP p from if_pos h10]
    exact ret_pure rfl rfl rfl (.inr rfl)
  · replace h10 := of_decide_eq_false h10
    refine aw_skip (th_n (aw_seq (aw_seq (aw_reg (rs_fa_p rfl rfl ?_)))))
    refine rs_ld_p rfl rfl rfl rfl rfl ?_
    refine rs_len_m rfl rfl ?_
    refine rs_mv rfl rfl ?_
    refine rs_nil fun _ => (th_n (aw_seq (aw_reg (rs_fa_p rfl rfl ?_))))
    refine rs_ld_p rfl rfl rfl rfl rfl ?_
    refine rs_len_m rfl rfl ?_
    refine rs_mv rfl rfl ?_
    refine rs_cmp rfl rfl rfl rfl (fun h19 => ?_) (fun h19 => ?_)
    · skip
      refine rs_mv rfl rfl ?_
      refine rs_skip rfl ?_
      refine rs_skip rfl ?_
      refine rs_skip rfl ?_
      refine rs_skip rfl ?_
      refine rs_skip rfl ?_
      refine rs_pick rfl rfl rfl ?_
      refine rs_mv rfl rfl ?_
      refine rs_skip rfl ?_
      refine rs_skip rfl ?_
      refine rs_skip rfl ?_
      refine rs_skip rfl ?_
      refine rs_pick rfl rfl rfl ?_
      refine rs_mv rfl rfl ?_
      refine rs_skip rfl ?_
      refine rs_skip rfl ?_
      refine rs_skip rfl ?_
      refine rs_skip rfl ?_
      refine rs_pick rfl rfl rfl ?_
      refine rs_nil fun _ => (th_n (aw_cond rfl (fun _ => ?_) (fun h => by cases h)))
      refine aw_seq (aw_reg (rs_mv rfl rfl ?_))
      refine rs_nil fun _ => (th_n (aw_ret (th_r ?_)))
      rw [show fitS p x = 4 from by unfold fitS; rw [if_neg h10, if_pos (by omega)]]
      exact ret_pure rfl rfl rfl (.inr rfl)
    · skip
      refine rs_mv rfl rfl ?_
      refine rs_fa_p rfl rfl ?_
      refine rs_ld_p rfl rfl rfl rfl rfl ?_
      refine rs_len_m rfl rfl ?_
      refine rs_mv rfl rfl ?_
      refine rs_cmp rfl rfl rfl rfl (fun h25 => ?_) (fun h25 => ?_)
      · skip
        refine rs_pick rfl rfl rfl ?_
        refine rs_mv rfl rfl ?_
        refine rs_skip rfl ?_
        refine rs_skip rfl ?_
        refine rs_skip rfl ?_
        refine rs_skip rfl ?_
        refine rs_pick rfl rfl rfl ?_
        refine rs_mv rfl rfl ?_
        refine rs_skip rfl ?_
        refine rs_skip rfl ?_
        refine rs_skip rfl ?_
        refine rs_skip rfl ?_
        refine rs_pick rfl rfl rfl ?_
        refine rs_nil fun _ => (th_n (aw_cond rfl (fun _ => ?_) (fun h => by cases h)))
        refine aw_seq (aw_reg (rs_mv rfl rfl ?_))
        refine rs_nil fun _ => (th_n (aw_ret (th_r ?_)))
        rw [show fitS p x = 4 from by unfold fitS; rw [if_neg h10, if_pos (by omega)]]
        exact ret_pure rfl rfl rfl (.inr rfl)
      · skip
        refine rs_pick rfl rfl rfl ?_
        refine rs_mv rfl rfl ?_
        refine rs_fa_p rfl rfl ?_
        refine rs_ld_p rfl rfl rfl rfl rfl ?_
        refine rs_len_m rfl rfl ?_
        refine rs_cmp rfl rfl rfl rfl (fun h31 => ?_) (fun h31 => ?_)
        · skip
          refine rs_pick rfl rfl rfl ?_
          refine rs_mv rfl rfl ?_
          refine rs_skip rfl ?_
          refine rs_skip rfl ?_
          refine rs_skip rfl ?_
          refine rs_skip rfl ?_
          refine rs_pick rfl rfl rfl ?_
          refine rs_nil fun _ => (th_n (aw_cond rfl (fun _ => ?_) (fun h => by cases h)))
          refine aw_seq (aw_reg (rs_mv rfl rfl ?_))
          refine rs_nil fun _ => (th_n (aw_ret (th_r ?_)))
          rw [show fitS p x = 4 from by unfold fitS; rw [if_neg h10, if_pos (by omega)]]
          exact ret_pure rfl rfl rfl (.inr rfl)
        · skip
          refine rs_pick rfl rfl rfl ?_
          refine rs_mv rfl rfl ?_
          refine rs_fa_p rfl rfl ?_
          refine rs_ld_p rfl rfl rfl rfl rfl ?_
          refine rs_calln [] rfl rfl (vc82 x.cuts (by omega) (fun c hc => Nat.le_trans (hx.c c hc) (by decide))) (.cons (hv_same rfl) (.nil)) rfl ?_
          refine rs_cmp rfl rfl rfl rfl (fun h37 => ?_) (fun h37 => ?_)
          · skip
            refine rs_pick rfl rfl rfl ?_
            refine rs_nil fun _ => (th_n (aw_cond rfl (fun _ => ?_) (fun h => by cases h)))
            refine aw_seq (aw_reg (rs_mv rfl rfl ?_))
            refine rs_nil fun _ => (th_n (aw_ret (th_r ?_)))
            rw [show fitS p x = 4 from by unfold fitS; rw [if_neg h10, if_pos (by omega)]]
            exact ret_pure rfl rfl rfl (.inr rfl)
          · skip
            refine rs_pick rfl rfl rfl ?_
            refine rs_nil fun _ => (th_n (aw_cond rfl (fun h => by cases h) (fun _ => ?_)))
            refine aw_skip (th_n (aw_seq (aw_reg (rs_mv rfl rfl ?_))))
            refine rs_nil fun _ => (th_n (aw_ret ?_))
            rw [show fitS p x = 0 from by unfold fitS; rw [if_neg h10, if_neg (by omega)]]
            exact ret_pure rfl rfl rfl (.inr rfl)
def mcv107 : MC := (.seq (.reg [oN 2 (.box 144 6 (.t 0)) [], oN 4 (.mv (.c (.bool false))) []] false) (.seq (.reg [oN 5 (.fa 0 (.t 2)) [], oN 6 (.fa 2 (.t 5)) [0], oN 7 (.ld false 1 (.t 6)) [1], oN 8 (.mv (.t 1)) [], oN 9 (.ixsl 1 (.t 7) (.t 8)) [2, 3], oN 10 (.ld false 1 (.t 9)) [4], oN 11 (.bin .eql (.t 10) (.c (.int .i64 1))) [5], oN 12 (.mv (.t 11)) [6], oG 13 (.fa 0 (.t 2)) 12 true [7], oG 14 (.fa 1 (.t 13)) 12 true [8, 7], oG 15 (.ld false 1 (.t 14)) 12 true [9, 7], oG 16 (.mv (.t 1)) 12 true [7], oG 17 (.ixsl 1 (.t 15) (.t 16)) 12 true [10, 11, 7], oG 18 (.ld false 1 (.t 17)) 12 true [12, 7], oG 19 (.fa 3 (.t 2)) 12 true [7], oG 20 (.fa 2 (.t 19)) 12 true [14, 7], oG 21 (.ld false 1 (.t 20)) 12 true [15, 7], oG 22 (.call 86 [(.t 18), (.t 21)]) 12 true [13, 16, 7, 7], oG 23 (.un .not (.t 22)) 12 true [17, 7], oN 24 (.pick (.t 12) (.t 23) (.c (.bool false))) [7, 18], oN 4 (.mv (.t 24)) [19, 17, 0, 1, 2, 3, 4, 5, 6, 7, 8, 9, 10, 11, 12, 13, 14, 15, 16, 17, 18, 19]] true) .ret))
theorem mcOkv107 : (match Tryz.f107.body with | some c => compC Tryz.prog 25 c | none => none) = some mcv107 := by kernel_rfl
theorem vc107 (p : Pa) (x : Pc) (k : Nat) (w : Int) (c : List Pl) (hw : p.want[k]? = some w) (hc : p.cells[k]? = some c) (hx : ∀ q ∈ x.cuts, OkA c q) (hn : x.cuts.length ≤ 1000) : FC Tryz.prog 107 [.agg (cJ p x), iv (k : Int)] [] (.bool (spoiltB p x k)) [] false := by
  refine fc_run (nt := 25) Tryz.func107 rfl rfl mcOkv107 (Nat.le_of_ble_eq_true rfl) ?_
  delta mcv107
  refine aw_seq (aw_reg (rs_box rfl rfl rfl rfl rfl rfl ?_))
  refine rs_mv rfl rfl ?_
  refine rs_nil fun _ => (th_n (aw_seq (aw_draw hmix ?_)))
  refine rs_fa_p rfl rfl ?_
  refine rs_fa_p rfl rfl ?_
  refine rs_ld_p rfl rfl rfl rfl rfl ?_
  refine rs_mv rfl rfl ?_
  refine rs_ix_g (f := civ) (y := w) rfl rfl rfl (by omega) hw ?_
  refine rs_ld_r rfl rfl rfl ?_
  refine rs_cmp rfl rfl rfl rfl (fun h11 => ?_) (fun h11 => ?_)
  · skip
    refine rs_mv rfl rfl ?_
    refine rs_fa_p rfl rfl ?_
    refine rs_fa_p rfl rfl ?_
    refine rs_ld_p rfl rfl rfl rfl rfl ?_
    refine rs_mv rfl rfl ?_
    refine rs_ix_g (f := cR) (y := c) rfl rfl rfl (by omega) hc ?_
    refine rs_ld_r rfl rfl rfl ?_
    refine rs_fa_p rfl rfl ?_
    refine rs_fa_p rfl rfl ?_
    refine rs_ld_p rfl rfl rfl rfl rfl ?_
    refine rs_calln [] rfl rfl (vc86 c x.cuts hx hn) (.cons (hv_same rfl) (.cons (hv_same rfl) (.nil))) rfl ?_
    refine rs_not rfl rfl ?_
    refine rs_pick rfl rfl rfl ?_
    refine rs_mv rfl rfl ?_
    refine rs_nil ⟨by kernel_rfl, fun _ => ?_⟩
    refine th_n (aw_ret ?_)
    rw [show spoiltB p x k = (!sapartS c x.cuts) from by unfold spoiltB; rw [getD_hit hw, decide_eq_true h11, getD_hit hc]; rfl]
    exact ret_pure rfl rfl rfl (.inr rfl)
  · skip
    refine rs_mv rfl rfl ?_
    refine rs_skip rfl ?_
    refine rs_skip rfl ?_
    refine rs_skip rfl ?_
    refine rs_skip rfl ?_
    refine rs_skip rfl ?_
    refine rs_skip rfl ?_
    refine rs_skip rfl ?_
    refine rs_skip rfl ?_
    refine rs_skip rfl ?_
    refine rs_skip rfl ?_
    refine rs_skip rfl ?_
    refine rs_pick rfl rfl rfl ?_
    refine rs_mv rfl rfl ?_
    refine rs_nil ⟨by kernel_rfl, fun _ => ?_⟩
    refine th_n (aw_ret ?_)
    rw [show spoiltB p x k = false from by unfold spoiltB; rw [getD_hit hw, decide_eq_false h11, getD_hit hc]; rfl]
    exact ret_pure rfl rfl rfl (.inr rfl)
def mcv108 : MC := (.seq (.reg [oN 2 (.box 144 6 (.t 0)) [], oN 4 (.mv (.c (.bool false))) []] false) (.seq (.reg [oN 5 (.fa 0 (.t 2)) [], oN 6 (.fa 2 (.t 5)) [0], oN 7 (.ld false 1 (.t 6)) [1], oN 8 (.mv (.t 1)) [], oN 9 (.ixsl 1 (.t 7) (.t 8)) [2, 3], oN 10 (.ld false 1 (.t 9)) [4], oN 11 (.bin .eql (.t 10) (.c (.int .i64 1))) [5], oN 12 (.mv (.t 11)) [6], oG 13 (.fa 3 (.t 2)) 12 true [7], oG 14 (.fa 1 (.t 13)) 12 true [8, 7], oG 15 (.ld false 1 (.t 14)) 12 true [9, 7], oG 16 (.mv (.t 1)) 12 true [7], oG 17 (.ixsl 1 (.t 15) (.t 16)) 12 true [10, 11, 7], oG 18 (.ld false 1 (.t 17)) 12 true [12, 7], oN 19 (.pick (.t 12) (.t 18) (.c (.bool false))) [7, 13], oN 4 (.mv (.t 19)) [14, 7, 0, 1, 2, 3, 4, 5, 6, 7, 8, 9, 10, 11, 12, 13, 14]] false) .ret))
theorem mcOkv108 : (match Tryz.f108.body with | some c => compC Tryz.prog 20 c | none => none) = some mcv108 := by kernel_rfl
theorem vc108 (p : Pa) (x : Pc) (k : Nat) (w : Int) (b : Bool) (hw : p.want[k]? = some w) (ht : x.touched[k]? = some b) : FC Tryz.prog 108 [.agg (cJ p x), iv (k : Int)] [] (.bool (gougedB p x k)) [] false := by
  refine fc_run (nt := 20) Tryz.func108 rfl rfl mcOkv108 (Nat.le_of_ble_eq_true rfl) ?_
  delta mcv108
  refine aw_seq (aw_reg (rs_box rfl rfl rfl rfl rfl rfl ?_))
  refine rs_mv rfl rfl ?_
  refine rs_nil fun _ => (th_n (aw_seq (aw_reg (rs_fa_p rfl rfl ?_))))
  refine rs_fa_p rfl rfl ?_
  refine rs_ld_p rfl rfl rfl rfl rfl ?_
  refine rs_mv rfl rfl ?_
  refine rs_ix_g (f := civ) (y := w) rfl rfl rfl (by omega) hw ?_
  refine rs_ld_r rfl rfl rfl ?_
  refine rs_cmp rfl rfl rfl rfl (fun h11 => ?_) (fun h11 => ?_)
  · skip
    refine rs_mv rfl rfl ?_
    refine rs_fa_p rfl rfl ?_
    refine rs_fa_p rfl rfl ?_
    refine rs_ld_p rfl rfl rfl rfl rfl ?_
    refine rs_mv rfl rfl ?_
    refine rs_ix_g (f := cB) (y := b) rfl rfl rfl (by omega) ht ?_
    refine rs_ld_r rfl rfl rfl ?_
    refine rs_pick rfl rfl rfl ?_
    refine rs_mv rfl rfl ?_
    refine rs_nil fun _ => (th_n (aw_ret ?_))
    rw [show gougedB p x k = b from by unfold gougedB; rw [getD_hit hw, decide_eq_true h11, getD_hit ht]; rfl]
    exact ret_pure rfl rfl rfl (.inr rfl)
  · skip
    refine rs_mv rfl rfl ?_
    refine rs_skip rfl ?_
    refine rs_skip rfl ?_
    refine rs_skip rfl ?_
    refine rs_skip rfl ?_
    refine rs_skip rfl ?_
    refine rs_skip rfl ?_
    refine rs_pick rfl rfl rfl ?_
    refine rs_mv rfl rfl ?_
    refine rs_nil fun _ => (th_n (aw_ret ?_))
    rw [show gougedB p x k = false from by unfold gougedB; rw [getD_hit hw, decide_eq_false h11, getD_hit ht]; rfl]
    exact ret_pure rfl rfl rfl (.inr rfl)
def mcv109 : MC := (.seq (.reg [oN 2 (.box 144 6 (.t 0)) [], oN 4 (.mv (.c (.bool false))) []] false) (.seq (.reg [oN 5 (.fa 0 (.t 2)) [], oN 6 (.fa 2 (.t 5)) [0], oN 7 (.ld false 1 (.t 6)) [1], oN 8 (.mv (.t 1)) [], oN 9 (.ixsl 1 (.t 7) (.t 8)) [2, 3], oN 10 (.ld false 1 (.t 9)) [4], oN 11 (.bin .eql (.t 10) (.c (.int .i64 2))) [5], oN 12 (.mv (.t 11)) [6], oG 13 (.fa 3 (.t 2)) 12 true [7], oG 14 (.fa 0 (.t 13)) 12 true [8, 7], oG 15 (.ld false 1 (.t 14)) 12 true [9, 7], oG 16 (.mv (.t 1)) 12 true [7], oG 17 (.ixsl 1 (.t 15) (.t 16)) 12 true [10, 11, 7], oG 18 (.ld false 1 (.t 17)) 12 true [12, 7], oG 19 (.un .not (.t 18)) 12 true [13, 7], oN 20 (.pick (.t 12) (.t 19) (.c (.bool false))) [7, 14], oN 4 (.mv (.t 20)) [15, 7, 0, 1, 2, 3, 4, 5, 6, 7, 8, 9, 10, 11, 12, 13, 14, 15]] false) .ret))
theorem mcOkv109 : (match Tryz.f109.body with | some c => compC Tryz.prog 21 c | none => none) = some mcv109 := by kernel_rfl
theorem vc109 (p : Pa) (x : Pc) (k : Nat) (w : Int) (b : Bool) (hw : p.want[k]? = some w) (hs : x.sure[k]? = some b) : FC Tryz.prog 109 [.agg (cJ p x), iv (k : Int)] [] (.bool (leftB p x k)) [] false := by
  refine fc_run (nt := 21) Tryz.func109 rfl rfl mcOkv109 (Nat.le_of_ble_eq_true rfl) ?_
  delta mcv109
  refine aw_seq (aw_reg (rs_box rfl rfl rfl rfl rfl rfl ?_))
  refine rs_mv rfl rfl ?_
  refine rs_nil fun _ => (th_n (aw_seq (aw_reg (rs_fa_p rfl rfl ?_))))
  refine rs_fa_p rfl rfl ?_
  refine rs_ld_p rfl rfl rfl rfl rfl ?_
  refine rs_mv rfl rfl ?_
  refine rs_ix_g (f := civ) (y := w) rfl rfl rfl (by omega) hw ?_
  refine rs_ld_r rfl rfl rfl ?_
  refine rs_cmp rfl rfl rfl rfl (fun h11 => ?_) (fun h11 => ?_)
  · skip
    refine rs_mv rfl rfl ?_
    refine rs_fa_p rfl rfl ?_
    refine rs_fa_p rfl rfl ?_
    refine rs_ld_p rfl rfl rfl rfl rfl ?_
    refine rs_mv rfl rfl ?_
    refine rs_ix_g (f := cB) (y := b) rfl rfl rfl (by omega) hs ?_
    refine rs_ld_r rfl rfl rfl ?_
    refine rs_not rfl rfl ?_
    refine rs_pick rfl rfl rfl ?_
    refine rs_mv rfl rfl ?_
    refine rs_nil fun _ => (th_n (aw_ret ?_))
    rw [show leftB p x k = (!b) from by unfold leftB; rw [getD_hit hw, decide_eq_true h11, getD_hit hs]; rfl]
    exact ret_pure rfl rfl rfl (.inr rfl)
  · skip
    refine rs_mv rfl rfl ?_
    refine rs_skip rfl ?_
    refine rs_skip rfl ?_
    refine rs_skip rfl ?_
    refine rs_skip rfl ?_
    refine rs_skip rfl ?_
    refine rs_skip rfl ?_
    refine rs_skip rfl ?_
    refine rs_pick rfl rfl rfl ?_
    refine rs_mv rfl rfl ?_
    refine rs_nil fun _ => (th_n (aw_ret ?_))
    rw [show leftB p x k = false from by unfold leftB; rw [getD_hit hw, decide_eq_false h11, getD_hit hs]; rfl]
    exact ret_pure rfl rfl rfl (.inr rfl)
end Go.Proofs.YthfhaoogcpfboaaGreat

/-! Walks: VS. -/
namespace Go.Proofs.YthfhaoogcpfboaaGreat
open Go.RowKit
set_option maxRecDepth 100000
set_option linter.unusedVariables false
theorem verd_1 {p : Pa} {x : Pc} (h : fitS p x ≠ 0) : verdS p x = fitS p x := if_pos h
theorem verd_2 {p : Pa} {x : Pc} (h : ¬ fitS p x ≠ 0) (h0 : anyK p x 0 = true) : verdS p x = 35 := by unfold verdS; rw [if_neg h, if_pos h0]
theorem verd_3 {p : Pa} {x : Pc} (h : ¬ fitS p x ≠ 0) (h0 : anyK p x 0 = false) (h1 : anyK p x 1 = true) : verdS p x = 30 := by unfold verdS; rw [if_neg h, if_neg (by rw [h0]; decide), if_pos h1]
theorem verd_4 {p : Pa} {x : Pc} (h : ¬ fitS p x ≠ 0) (h0 : anyK p x 0 = false) (h1 : anyK p x 1 = false) (h2 : anyK p x 2 = true) : verdS p x = 34 := by unfold verdS; rw [if_neg h, if_neg (by rw [h0]; decide), if_neg (by rw [h1]; decide), if_pos h2]
theorem verd_5 {p : Pa} {x : Pc} (h : ¬ fitS p x ≠ 0) (h0 : anyK p x 0 = false) (h1 : anyK p x 1 = false) (h2 : anyK p x 2 = false) : verdS p x = 0 := by unfold verdS; rw [if_neg h, if_neg (by rw [h0]; decide), if_neg (by rw [h1]; decide), if_neg (by rw [h2]; decide)]
def mcv60 : MC := (.seq (.reg [oN 2 (.box 31 3 (.t 0)) [], oN 3 (.box 35 3 (.t 1)) [], oN 4 (.mv (.c (.int .i64 0))) []] false) (.seq (.seq (.reg [oN 10 (.ld true 3 (.t 2)) [], oN 11 (.ld true 3 (.t 3)) [], oN 12 (.call 81 [(.t 10), (.t 11)]) [0, 1], oN 5 (.mv (.t 12)) [2, 2, 0, 1, 2]] false) (.seq (.reg [oN 13 (.mv (.t 5)) [], oN 14 (.bin .neq (.t 13) (.c (.int .i64 0))) [0]] false) (.cond (.t 14) (.seq (.reg [oN 15 (.mv (.t 5)) [], oN 4 (.mv (.t 15)) [0, 0]] false) .ret) .skip))) (.seq (.reg [oN 16 (.ld true 3 (.t 2)) [], oN 17 (.ld true 3 (.t 3)) [], oN 18 (.build [(.str (strN [])), .nils, .nils, .nils, .nils, .nils] [(0, (3, (.t 16))), (3, (3, (.t 17)))]) [0, 1], oN 6 (.alloc 144 6 [(.str (strN [])), .nils, .nils, .nils, .nils, .nils]) [], ⟨none, (.st 6 (.t 6) (.t 18)), none, [3, 2, 0, 1, 2, 3]⟩] false) (.seq (.seq (.reg [oN 19 (.ld true 6 (.t 6)) [], oN 20 (.mkbnd 107 (.t 19)) [0], oN 21 (.build [.nilf, (.int .i64 0)] [(0, (1, (.t 20))), (1, (1, (.c (.int .i64 35))))]) [1], oN 22 (.ld true 6 (.t 6)) [], oN 23 (.mkbnd 108 (.t 22)) [3], oN 24 (.build [.nilf, (.int .i64 0)] [(0, (1, (.t 23))), (1, (1, (.c (.int .i64 30))))]) [4], oN 25 (.ld true 6 (.t 6)) [], oN 26 (.mkbnd 109 (.t 25)) [6], oN 27 (.build [.nilf, (.int .i64 0)] [(0, (1, (.t 26))), (1, (1, (.c (.int .i64 34))))]) [7], oN 28 (.bslice 145 2 [.nilf, (.int .i64 0)] 3 [(0, (.t 21)), (1, (.t 24)), (2, (.t 27))]) [2, 5, 8], oN 29 (.len (.t 28)) [9], oN 30 (.mv (.c (.int .i64 0))) []] false) (.block 0 (.loop (.seq (.reg [oN 31 (.bin .lss (.t 30) (.t 29)) []] false) (.seq (.cond (.t 31) .skip (.exit 0)) (.seq (.block 1 (.seq (.reg [oN 32 (.ixsl 2 (.t 28) (.t 30)) [], oN 33 (.ld true 2 (.t 32)) [0], oN 8 (.alloc 145 2 [.nilf, (.int .i64 0)]) [], ⟨none, (.st 2 (.t 8) (.t 33)), none, [2, 1, 0, 1, 2]⟩] false) (.seq (.reg [oN 34 (.fa 1 (.t 2)) [], oN 35 (.ld false 1 (.t 34)) [0], oN 36 (.len (.t 35)) [1], oN 37 (.mv (.c (.int .i64 0))) []] false) (.block 2 (.loop (.seq (.reg [oN 38 (.bin .lss (.t 37) (.t 36)) []] false) (.seq (.cond (.t 38) .skip (.exit 2)) (.seq (.block 3 (.seq (.reg [oN 39 (.mv (.t 37)) [], oN 9 (.mv (.t 39)) [0, 0]] false) (.seq (.reg [oN 40 (.fa 0 (.t 8)) [], oN 41 (.ld false 1 (.t 40)) [0], oN 42 (.mv (.t 9)) [], oN 43 (.callv (.t 41) [(.t 42)]) [1, 2]] false) (.cond (.t 43) (.seq (.reg [oN 44 (.fa 1 (.t 8)) [], oN 45 (.ld false 1 (.t 44)) [0], oN 4 (.mv (.t 45)) [1, 0, 1]] false) .ret) .skip)))) (.reg [oN 46 (.bin .add (.t 37) (.c (.int .i64 1))) [], oN 37 (.mv (.t 46)) [0]] false))))))))) (.reg [oN 47 (.bin .add (.t 30) (.c (.int .i64 1))) [], oN 30 (.mv (.t 47)) [0]] false))))))) (.seq (.reg [oN 4 (.mv (.c (.int .i64 0))) []] false) .ret)))))
theorem mcOkv60 : (match Tryz.f60.body with | some c => compC Tryz.prog 48 c | none => none) = some mcv60 := by kernel_rfl
set_option maxHeartbeats 2000000 in
theorem vc60 (p : Pa) (hp : PaOK p) (x : Pc) (hx : PcOK x) : FC Tryz.prog 60 [.agg (cPa p), .agg (cPc x)] [] (iv (verdS p x)) [] false := by
  have hpn := hp.n
  have hxn := hx.n
  refine fc_run (nt := 48) Tryz.func60 rfl rfl mcOkv60 (Nat.le_of_ble_eq_true rfl) ?_
  delta mcv60
  refine aw_seq (aw_reg (rs_box rfl rfl rfl rfl rfl rfl ?_))
  refine rs_box rfl rfl rfl rfl rfl rfl ?_
  refine rs_mv rfl rfl ?_
  refine rs_nil fun _ => (th_n (aw_seq (aw_seq (aw_reg (rs_ld_pa rfl rfl rfl rfl (Nat.le_of_ble_eq_true rfl) rfl ?_)))))
  refine rs_ld_pa rfl rfl rfl rfl (Nat.le_of_ble_eq_true rfl) rfl ?_
  refine rs_calln [] rfl rfl (vc81 p hp x hx) (.cons (hv_same rfl) (.cons (hv_same rfl) (.nil))) rfl ?_
  refine rs_mv rfl rfl ?_
  refine rs_nil fun _ => (th_n (aw_seq (aw_reg (rs_mv rfl rfl ?_))))
  refine rs_neq rfl rfl rfl ?_
  refine rs_nil fun _ => (th_n (aw_cond rfl (fun h14 => ?_) (fun h14 => ?_)))
  · replace h14 := of_decide_eq_true h14
    refine aw_seq ?_
    
    refine aw_reg (rs_mv rfl rfl ?_)
    refine rs_mv rfl rfl ?_
    refine rs_nil fun _ => (th_n (aw_ret (th_r ?_)))
    rw [verd_1 h14]
    exact ret_pure rfl rfl rfl (.inr rfl)
  · replace h14 := of_decide_eq_false h14
    refine aw_skip (th_n (aw_seq ?_))
    have hfit : fitS p x = 0 := by omega
    obtain ⟨hl1, hl2, hl3, _, _⟩ := fit_len hfit
    refine aw_reg (rs_ld_pa rfl rfl rfl rfl (Nat.le_of_ble_eq_true rfl) rfl ?_)
    refine rs_ld_pa rfl rfl rfl rfl (Nat.le_of_ble_eq_true rfl) rfl ?_
    refine rs_build rfl rfl ?_
    refine rs_alloc rfl rfl rfl ?_
    refine rs_st rfl rfl rfl rfl rfl rfl rfl (Nat.le_of_ble_eq_true rfl) rfl rfl ?_
    refine rs_nil fun _ => (th_n (aw_seq (aw_seq (aw_reg (rs_ld_pa rfl rfl rfl rfl (Nat.le_of_ble_eq_true rfl) rfl ?_)))))
    refine rs_mkbnd rfl rfl ?_
    refine rs_build rfl rfl ?_
    refine rs_ld_pa rfl rfl rfl rfl (Nat.le_of_ble_eq_true rfl) rfl ?_
    refine rs_mkbnd rfl rfl ?_
    refine rs_build rfl rfl ?_
    refine rs_ld_pa rfl rfl rfl rfl (Nat.le_of_ble_eq_true rfl) rfl ?_
    refine rs_mkbnd rfl rfl ?_
    refine rs_build rfl rfl ?_
    refine rs_bslice (l := [.bnd (.func 107) (.agg (cJ p x)), iv 35, .bnd (.func 108) (.agg (cJ p x)), iv 30, .bnd (.func 109) (.agg (cJ p x)), iv 34]) (els := [[.bnd (.func 107) (.agg (cJ p x)), iv 35], [.bnd (.func 108) (.agg (cJ p x)), iv 30], [.bnd (.func 109) (.agg (cJ p x)), iv 34]]) (fl := false) rfl (by kernel_rfl) rfl rfl (by kernel_rfl) (by kernel_rfl) ?_
    refine rs_len_s rfl rfl ?_
    refine rs_mv rfl rfl ?_
    refine rs_nil fun _ => (th_n (aw_block ?_))
    refine aw_fam (α := Nat) (fun i => 3 - i) (fun i => [(2, .ptr 2 0 0), (28, .sl 28 0 3), (29, iv 3), (30, iv (((i) : Nat) : Int))]) (fun i => [(2, .cells 31 3 [cPa p] true), (28, .cells 145 2 [[.bnd (.func 107) (.agg (cJ p x)), iv 35], [.bnd (.func 108) (.agg (cJ p x)), iv 30], [.bnd (.func 109) (.agg (cJ p x)), iv 34]] false)]) (fun i => i ≤ 3 ∧ (1 ≤ i → anyK p x 0 = false) ∧ (2 ≤ i → anyK p x 1 = false) ∧ (3 ≤ i → anyK p x 2 = false)) 0 (⟨by omega, fun h => by omega, fun h => by omega, fun h => by omega⟩)
      (weak_to (.cons rfl sm (.cons rfl sm (.cons rfl sm (.cons rfl sm (.nil))))) (.keep (rfl) rfl (.keep (rfl) rfl (.nil))) (fun i h => by cases h)) ?_
    rintro i ⟨hi, hi0, hi1, hi2⟩
    refine aw_seq (aw_reg (rs_lss rfl rfl rfl ?_))
    refine rs_nil fun _ => (th_n (aw_seq (aw_cond rfl (fun h31 => ?_) (fun h31 => ?_))))
    · replace h31 := of_decide_eq_true h31
      refine aw_skip (th_n (aw_seq (aw_block (aw_seq (aw_reg ?_)))))
      obtain rfl | rfl | rfl : i = 0 ∨ i = 1 ∨ i = 2 := by omega
      · skip
        refine rs_ix_s rfl rfl rfl rfl (by decide) (by decide) ?_
        refine rs_ld_pa rfl rfl rfl rfl (Nat.le_of_ble_eq_true rfl) rfl ?_
        refine rs_alloc rfl rfl rfl ?_
        refine rs_st rfl rfl rfl rfl rfl rfl rfl (Nat.le_of_ble_eq_true rfl) rfl rfl ?_
        refine rs_nil fun _ => (th_n (aw_seq (aw_reg (rs_fa_p rfl rfl ?_))))
        refine rs_ld_p rfl rfl rfl rfl rfl ?_
        refine rs_len_m rfl rfl ?_
        refine rs_mv rfl rfl ?_
        refine rs_nil fun _ => (th_n (aw_block ?_))
        refine aw_fam (α := Nat) (fun j => p.cells.length - j) (fun j => [(2, .ptr 2 0 0), (28, .sl 28 0 3), (29, iv 3), (30, iv (((0) : Nat) : Int)), (8, .ptr 8 0 0), (35, .rs 1 (p.cells.map cR)), (36, iv (p.cells.length : Int)), (37, iv (((j) : Nat) : Int))]) (fun j => [(2, .cells 31 3 [cPa p] true), (28, .cells 145 2 [[.bnd (.func 107) (.agg (cJ p x)), iv 35], [.bnd (.func 108) (.agg (cJ p x)), iv 30], [.bnd (.func 109) (.agg (cJ p x)), iv 34]] false), (8, .cells 145 2 [[.bnd (.func 107) (.agg (cJ p x)), iv 35]] false)]) (fun j => j ≤ p.cells.length ∧ ∀ m, m < j → badK p x 0 m = false) 0 (⟨by omega, fun m hm => by omega⟩)
          (weak_to (.cons rfl sm (.cons rfl sm (.cons rfl sm (.cons rfl sm (.cons rfl sm (.cons rfl sm (.cons rfl sm (.cons rfl sm (.nil))))))))) (.keep (rfl) rfl (.keep (rfl) rfl (.keep (rfl) rfl (.nil)))) (fun i h => by cases h)) ?_
        rintro j ⟨hj, hinv⟩
        refine aw_seq (aw_reg (rs_lss rfl rfl rfl ?_))
        refine rs_nil fun _ => (th_n (aw_seq (aw_cond rfl (fun h38 => ?_) (fun h38 => ?_))))
        · replace h38 := of_decide_eq_true h38
          refine aw_skip (th_n (aw_seq (aw_block (aw_seq (aw_reg (rs_mv rfl rfl ?_))))))
          refine rs_mv rfl rfl ?_
          refine rs_nil fun _ => (th_n (aw_seq (aw_reg (rs_fa_p rfl rfl ?_))))
          obtain ⟨c, hck, hcm⟩ := at_some (L := p.cells) (k := j) (by omega)
          obtain ⟨w, hwk, hwm⟩ := at_some (L := p.want) (k := j) (by omega)
          refine rs_ld_p rfl rfl rfl rfl rfl ?_
          refine rs_mv rfl rfl ?_
          refine rs_callb [] rfl rfl (by kernel_rfl) rfl (fc_up (vc107 p x j w c hwk hck (fun q hq => ⟨hp.c c hcm, hx.c q hq⟩) hxn)) (.cons (hv_same rfl) (.cons (hv_same rfl) .nil)) .nil rfl rfl rfl ?_
          cases h43 : spoiltB p x j
          · skip
            refine rs_nil fun _ => (th_n (aw_cond rfl (fun h => by cases h) (fun _ => ?_)))
            refine aw_skip (in_n (th_n (aw_reg (rs_add rfl rfl rfl (by omega) ?_))))
            refine rs_mv rfl rfl ?_
            refine rs_nil fun _ => (th_n ?_)
            exact ⟨j + 1, ⟨by omega, fun m hm => by rcases Nat.lt_succ_iff_lt_or_eq.1 hm with h | h; exact hinv m h; rw [h]; exact h43⟩, by omega, weak_to (.cons rfl sm (.cons rfl sm (.cons rfl sm (.cons rfl sm (.cons rfl sm (.cons rfl sm (.cons rfl sm (.cons rfl sm (.nil))))))))) (.keep (rfl) rfl (.keep (rfl) rfl (.keep (rfl) rfl (.nil)))) (fun i h => by cases h)⟩
          · skip
            refine rs_nil fun _ => (th_n (aw_cond rfl (fun _ => ?_) (fun h => by cases h)))
            refine aw_seq (aw_reg (rs_fa_p rfl rfl ?_))
            refine rs_ld_p rfl rfl rfl rfl rfl ?_
            refine rs_mv rfl rfl ?_
            refine rs_nil fun _ => (th_n (aw_ret (in_r (th_r (th_r (in_r (in_r (th_r (th_r (in_r (th_r ?_)))))))))))
            have hk3 : anyK p x 0 = true := anyK_t (by omega) h43
            rw [verd_2 h14  hk3]
            exact ret_pure rfl rfl rfl (.inr rfl)
        · replace h38 := of_decide_eq_false h38
          refine aw_exit ?_
          refine th_e ?_
          refine th_e ?_
          refine in_hit ?_
          refine in_n (th_n (aw_reg (rs_add rfl rfl rfl (by omega) ?_)))
          refine rs_mv rfl rfl ?_
          refine rs_nil fun _ => (th_n ?_)
          exact ⟨0 + 1, ⟨by decide, fun hm => anyK_f fun m hm => hinv m (by omega), fun hm => absurd hm (by decide), fun hm => absurd hm (by decide)⟩, by decide, weak_to (.cons rfl sm (.cons rfl sm (.cons rfl sm (.cons rfl sm (.nil))))) (.keep (rfl) rfl (.keep (rfl) rfl (.nil))) (fun i h => by cases h)⟩
      · skip
        refine rs_ix_s rfl rfl rfl rfl (by decide) (by decide) ?_
        refine rs_ld_pa rfl rfl rfl rfl (Nat.le_of_ble_eq_true rfl) rfl ?_
        refine rs_alloc rfl rfl rfl ?_
        refine rs_st rfl rfl rfl rfl rfl rfl rfl (Nat.le_of_ble_eq_true rfl) rfl rfl ?_
        refine rs_nil fun _ => (th_n (aw_seq (aw_reg (rs_fa_p rfl rfl ?_))))
        refine rs_ld_p rfl rfl rfl rfl rfl ?_
        refine rs_len_m rfl rfl ?_
        refine rs_mv rfl rfl ?_
        refine rs_nil fun _ => (th_n (aw_block ?_))
        refine aw_fam (α := Nat) (fun j => p.cells.length - j) (fun j => [(2, .ptr 2 0 0), (28, .sl 28 0 3), (29, iv 3), (30, iv (((1) : Nat) : Int)), (8, .ptr 8 0 0), (35, .rs 1 (p.cells.map cR)), (36, iv (p.cells.length : Int)), (37, iv (((j) : Nat) : Int))]) (fun j => [(2, .cells 31 3 [cPa p] true), (28, .cells 145 2 [[.bnd (.func 107) (.agg (cJ p x)), iv 35], [.bnd (.func 108) (.agg (cJ p x)), iv 30], [.bnd (.func 109) (.agg (cJ p x)), iv 34]] false), (8, .cells 145 2 [[.bnd (.func 108) (.agg (cJ p x)), iv 30]] false)]) (fun j => j ≤ p.cells.length ∧ ∀ m, m < j → badK p x 1 m = false) 0 (⟨by omega, fun m hm => by omega⟩)
          (weak_to (.cons rfl sm (.cons rfl sm (.cons rfl sm (.cons rfl sm (.cons rfl sm (.cons rfl sm (.cons rfl sm (.cons rfl sm (.nil))))))))) (.keep (rfl) rfl (.keep (rfl) rfl (.keep (rfl) rfl (.nil)))) (fun i h => by cases h)) ?_
        rintro j ⟨hj, hinv⟩
        refine aw_seq (aw_reg (rs_lss rfl rfl rfl ?_))
        refine rs_nil fun _ => (th_n (aw_seq (aw_cond rfl (fun h38 => ?_) (fun h38 => ?_))))
        · replace h38 := of_decide_eq_true h38
          refine aw_skip (th_n (aw_seq (aw_block (aw_seq (aw_reg (rs_mv rfl rfl ?_))))))
          refine rs_mv rfl rfl ?_
          refine rs_nil fun _ => (th_n (aw_seq (aw_reg (rs_fa_p rfl rfl ?_))))
          obtain ⟨b, hbk, hbm⟩ := at_some (L := x.touched) (k := j) (by omega)
          obtain ⟨w, hwk, hwm⟩ := at_some (L := p.want) (k := j) (by omega)
          refine rs_ld_p rfl rfl rfl rfl rfl ?_
          refine rs_mv rfl rfl ?_
          refine rs_callb [] rfl rfl (by kernel_rfl) rfl (fc_up (vc108 p x j w b hwk hbk)) (.cons (hv_same rfl) (.cons (hv_same rfl) .nil)) .nil rfl rfl rfl ?_
          cases h43 : gougedB p x j
          · skip
            refine rs_nil fun _ => (th_n (aw_cond rfl (fun h => by cases h) (fun _ => ?_)))
            refine aw_skip (in_n (th_n (aw_reg (rs_add rfl rfl rfl (by omega) ?_))))
            refine rs_mv rfl rfl ?_
            refine rs_nil fun _ => (th_n ?_)
            exact ⟨j + 1, ⟨by omega, fun m hm => by rcases Nat.lt_succ_iff_lt_or_eq.1 hm with h | h; exact hinv m h; rw [h]; exact h43⟩, by omega, weak_to (.cons rfl sm (.cons rfl sm (.cons rfl sm (.cons rfl sm (.cons rfl sm (.cons rfl sm (.cons rfl sm (.cons rfl sm (.nil))))))))) (.keep (rfl) rfl (.keep (rfl) rfl (.keep (rfl) rfl (.nil)))) (fun i h => by cases h)⟩
          · skip
            refine rs_nil fun _ => (th_n (aw_cond rfl (fun _ => ?_) (fun h => by cases h)))
            refine aw_seq (aw_reg (rs_fa_p rfl rfl ?_))
            refine rs_ld_p rfl rfl rfl rfl rfl ?_
            refine rs_mv rfl rfl ?_
            refine rs_nil fun _ => (th_n (aw_ret (in_r (th_r (th_r (in_r (in_r (th_r (th_r (in_r (th_r ?_)))))))))))
            have hk3 : anyK p x 1 = true := anyK_t (by omega) h43
            rw [verd_3 h14 (hi0 (by decide)) hk3]
            exact ret_pure rfl rfl rfl (.inr rfl)
        · replace h38 := of_decide_eq_false h38
          refine aw_exit ?_
          refine th_e ?_
          refine th_e ?_
          refine in_hit ?_
          refine in_n (th_n (aw_reg (rs_add rfl rfl rfl (by omega) ?_)))
          refine rs_mv rfl rfl ?_
          refine rs_nil fun _ => (th_n ?_)
          exact ⟨1 + 1, ⟨by decide, fun hm => hi0 (by omega), fun hm => anyK_f fun m hm => hinv m (by omega), fun hm => absurd hm (by decide)⟩, by decide, weak_to (.cons rfl sm (.cons rfl sm (.cons rfl sm (.cons rfl sm (.nil))))) (.keep (rfl) rfl (.keep (rfl) rfl (.nil))) (fun i h => by cases h)⟩
      · skip
        refine rs_ix_s rfl rfl rfl rfl (by decide) (by decide) ?_
        refine rs_ld_pa rfl rfl rfl rfl (Nat.le_of_ble_eq_true rfl) rfl ?_
        refine rs_alloc rfl rfl rfl ?_
        refine rs_st rfl rfl rfl rfl rfl rfl rfl (Nat.le_of_ble_eq_true rfl) rfl rfl ?_
        refine rs_nil fun _ => (th_n (aw_seq (aw_reg (rs_fa_p rfl rfl ?_))))
        refine rs_ld_p rfl rfl rfl rfl rfl ?_
        refine rs_len_m rfl rfl ?_
        refine rs_mv rfl rfl ?_
        refine rs_nil fun _ => (th_n (aw_block ?_))
        refine aw_fam (α := Nat) (fun j => p.cells.length - j) (fun j => [(2, .ptr 2 0 0), (28, .sl 28 0 3), (29, iv 3), (30, iv (((2) : Nat) : Int)), (8, .ptr 8 0 0), (35, .rs 1 (p.cells.map cR)), (36, iv (p.cells.length : Int)), (37, iv (((j) : Nat) : Int))]) (fun j => [(2, .cells 31 3 [cPa p] true), (28, .cells 145 2 [[.bnd (.func 107) (.agg (cJ p x)), iv 35], [.bnd (.func 108) (.agg (cJ p x)), iv 30], [.bnd (.func 109) (.agg (cJ p x)), iv 34]] false), (8, .cells 145 2 [[.bnd (.func 109) (.agg (cJ p x)), iv 34]] false)]) (fun j => j ≤ p.cells.length ∧ ∀ m, m < j → badK p x 2 m = false) 0 (⟨by omega, fun m hm => by omega⟩)
          (weak_to (.cons rfl sm (.cons rfl sm (.cons rfl sm (.cons rfl sm (.cons rfl sm (.cons rfl sm (.cons rfl sm (.cons rfl sm (.nil))))))))) (.keep (rfl) rfl (.keep (rfl) rfl (.keep (rfl) rfl (.nil)))) (fun i h => by cases h)) ?_
        rintro j ⟨hj, hinv⟩
        refine aw_seq (aw_reg (rs_lss rfl rfl rfl ?_))
        refine rs_nil fun _ => (th_n (aw_seq (aw_cond rfl (fun h38 => ?_) (fun h38 => ?_))))
        · replace h38 := of_decide_eq_true h38
          refine aw_skip (th_n (aw_seq (aw_block (aw_seq (aw_reg (rs_mv rfl rfl ?_))))))
          refine rs_mv rfl rfl ?_
          refine rs_nil fun _ => (th_n (aw_seq (aw_reg (rs_fa_p rfl rfl ?_))))
          obtain ⟨b, hbk, hbm⟩ := at_some (L := x.sure) (k := j) (by omega)
          obtain ⟨w, hwk, hwm⟩ := at_some (L := p.want) (k := j) (by omega)
          refine rs_ld_p rfl rfl rfl rfl rfl ?_
          refine rs_mv rfl rfl ?_
          refine rs_callb [] rfl rfl (by kernel_rfl) rfl (fc_up (vc109 p x j w b hwk hbk)) (.cons (hv_same rfl) (.cons (hv_same rfl) .nil)) .nil rfl rfl rfl ?_
          cases h43 : leftB p x j
          · skip
            refine rs_nil fun _ => (th_n (aw_cond rfl (fun h => by cases h) (fun _ => ?_)))
            refine aw_skip (in_n (th_n (aw_reg (rs_add rfl rfl rfl (by omega) ?_))))
            refine rs_mv rfl rfl ?_
            refine rs_nil fun _ => (th_n ?_)
            exact ⟨j + 1, ⟨by omega, fun m hm => by rcases Nat.lt_succ_iff_lt_or_eq.1 hm with h | h; exact hinv m h; rw [h]; exact h43⟩, by omega, weak_to (.cons rfl sm (.cons rfl sm (.cons rfl sm (.cons rfl sm (.cons rfl sm (.cons rfl sm (.cons rfl sm (.cons rfl sm (.nil))))))))) (.keep (rfl) rfl (.keep (rfl) rfl (.keep (rfl) rfl (.nil)))) (fun i h => by cases h)⟩
          · skip
            refine rs_nil fun _ => (th_n (aw_cond rfl (fun _ => ?_) (fun h => by cases h)))
            refine aw_seq (aw_reg (rs_fa_p rfl rfl ?_))
            refine rs_ld_p rfl rfl rfl rfl rfl ?_
            refine rs_mv rfl rfl ?_
            refine rs_nil fun _ => (th_n (aw_ret (in_r (th_r (th_r (in_r (in_r (th_r (th_r (in_r (th_r ?_)))))))))))
            have hk3 : anyK p x 2 = true := anyK_t (by omega) h43
            rw [verd_4 h14 (hi0 (by decide)) (hi1 (by decide)) hk3]
            exact ret_pure rfl rfl rfl (.inr rfl)
        · replace h38 := of_decide_eq_false h38
          refine aw_exit ?_
          refine th_e ?_
          refine th_e ?_
          refine in_hit ?_
          refine in_n (th_n (aw_reg (rs_add rfl rfl rfl (by omega) ?_)))
          refine rs_mv rfl rfl ?_
          refine rs_nil fun _ => (th_n ?_)
          exact ⟨2 + 1, ⟨by decide, fun hm => hi0 (by omega), fun hm => hi1 (by omega), fun hm => anyK_f fun m hm => hinv m (by omega)⟩, by decide, weak_to (.cons rfl sm (.cons rfl sm (.cons rfl sm (.cons rfl sm (.nil))))) (.keep (rfl) rfl (.keep (rfl) rfl (.nil))) (fun i h => by cases h)⟩
    · replace h31 := of_decide_eq_false h31
      refine aw_exit ?_
      refine th_e ?_
      refine th_e ?_
      refine in_hit ?_
      refine th_n (aw_seq (aw_reg (rs_mv rfl rfl ?_)))
      refine rs_nil fun _ => (th_n (aw_ret ?_))
      obtain rfl : i = 3 := by omega
      rw [verd_5 h14 (hi0 (by decide)) (hi1 (by decide)) (hi2 (by decide))]
      exact ret_pure rfl rfl rfl (.inr rfl)
def mcv16 : MC := (.seq (.reg [oN 3 (.box 31 3 (.t 0)) [], oN 4 (.box 35 3 (.t 1)) [], oN 6 (.mv (.c .nils)) []] false) (.seq (.reg [oN 12 (.ld true 3 (.t 3)) [], oN 13 (.ld true 3 (.t 4)) [], oN 14 (.call 60 [(.t 12), (.t 13)]) [0, 1], oN 7 (.mv (.t 14)) [2, 2, 0, 1, 2]] false) (.seq (.reg [oN 15 (.mv (.t 7)) [], oN 16 (.bin .eql (.t 15) (.c (.int .i64 0))) [0], oN 17 (.mv (.t 16)) [1], oG 18 (.mv (.t 7)) 17 false [2], oG 19 (.bin .eql (.t 18) (.c (.int .i64 35))) 17 false [3, 2], oN 20 (.pick (.t 17) (.c (.bool true)) (.t 19)) [2, 4], oN 21 (.mv (.t 20)) [5, 2], oG 22 (.mv (.t 7)) 21 false [6], oG 23 (.bin .eql (.t 22) (.c (.int .i64 30))) 21 false [7, 6], oN 24 (.pick (.t 21) (.c (.bool true)) (.t 23)) [6, 8], oN 25 (.mv (.t 24)) [9, 6], oG 26 (.mv (.t 7)) 25 false [10], oG 27 (.bin .eql (.t 26) (.c (.int .i64 34))) 25 false [11, 10], oN 28 (.pick (.t 25) (.c (.bool true)) (.t 27)) [10, 12], oN 8 (.mv (.t 28)) [13, 10, 0, 1, 2, 3, 4, 5, 6, 7, 8, 9, 10, 11, 12, 13]] false) (.seq (.seq (.reg [oN 29 (.mv (.t 8)) [], oN 30 (.un .not (.t 29)) [0], oN 31 (.mv (.t 30)) [1], oG 32 (.mv (.t 2)) 31 false [2], oG 33 (.seq false (.t 32) (.c (.str (strN [])))) 31 false [3, 2], oN 34 (.pick (.t 31) (.c (.bool true)) (.t 33)) [2, 4]] false) (.cond (.t 34) (.seq (.reg [oN 6 (.mv (.c .nils)) []] false) .ret) .skip)) (.seq (.reg [oN 9 (.mv (.c .nils)) []] false) (.seq (.seq (.reg [oN 35 (.fa 2 (.t 3)) [], oN 36 (.ld false 1 (.t 35)) [0], oN 37 (.len (.t 36)) [1], oN 38 (.mv (.c (.int .i64 0))) []] false) (.block 0 (.loop (.seq (.reg [oN 39 (.bin .lss (.t 38) (.t 37)) []] false) (.seq (.cond (.t 39) .skip (.exit 0)) (.seq (.block 1 (.seq (.reg [oN 40 (.mv (.t 38)) [], oN 41 (.ixsl 1 (.t 36) (.t 38)) [], oN 42 (.ld false 1 (.t 41)) [1], oN 10 (.mv (.t 40)) [0, 0, 1, 2], oN 11 (.mv (.t 42)) [2, 3, 0, 1, 2, 3]] false) (.reg [oN 43 (.mv (.t 9)) [], oN 44 (.mv (.t 10)) [], oN 45 (.mv (.t 11)) [], oN 46 (.fa 0 (.t 4)) [], oN 47 (.ld false 1 (.t 46)) [3], oN 48 (.mv (.t 10)) [], oN 49 (.ixsl 1 (.t 47) (.t 48)) [4, 5], oN 50 (.ld false 1 (.t 49)) [6], oN 51 (.fa 1 (.t 4)) [], oN 52 (.ld false 1 (.t 51)) [8], oN 53 (.mv (.t 10)) [], oN 54 (.ixsl 1 (.t 52) (.t 53)) [9, 10], oN 55 (.ld false 1 (.t 54)) [11], oN 56 (.mv (.t 2)) [], oN 57 (.mv (.t 10)) [], oN 58 (.call 61 [(.t 57)]) [14], oN 59 (.call 40 [(.t 56), (.t 58)]) [13, 15, 15], oN 60 (.build [(.int .i64 0), (.int .i64 0), (.bool false), (.bool false), (.str (strN []))] [(0, (1, (.t 44))), (1, (1, (.t 45))), (2, (1, (.t 50))), (3, (1, (.t 55))), (4, (1, (.t 59)))]) [1, 2, 7, 12, 16], oN 61 (.bslice 51 5 [(.int .i64 0), (.int .i64 0), (.bool false), (.bool false), (.str (strN []))] 1 [(0, (.t 60))]) [17], oN 62 (.app 51 5 40 [(.int .i64 0), (.int .i64 0), (.bool false), (.bool false), (.str (strN []))] (.t 43) (.t 61)) [0, 18, 16], oN 9 (.mv (.t 62)) [19, 19, 0, 1, 2, 3, 4, 5, 6, 7, 8, 9, 10, 11, 12, 13, 14, 15, 16, 17, 18, 19]] true))) (.reg [oN 63 (.bin .add (.t 38) (.c (.int .i64 1))) [], oN 38 (.mv (.t 63)) [0]] false))))))) (.seq (.reg [oN 64 (.mv (.t 9)) [], oN 6 (.mv (.t 64)) [0, 0]] false) .ret)))))))
theorem mcOkv16 : (match Tryz.f16.body with | some c => compC Tryz.prog 65 c | none => none) = some mcv16 := by kernel_rfl
set_option maxHeartbeats 2000000 in
theorem vc16 (p : Pa) (hp : PaOK p) (x : Pc) (hx : PcOK x) (s : List Int) (hs : B8 s ∧ s.length ≤ LIM) : FC Tryz.prog 16 [.agg (cPa p), .agg (cPc x), .str (strN s)] [] (.rs 5 ((leavesS p x s).map cLf)) [] false := by
  have hpn := hp.n
  have hxn := hx.n
  refine fc_run (nt := 65) Tryz.func16 rfl rfl mcOkv16 (Nat.le_of_ble_eq_true rfl) ?_
  delta mcv16
  refine aw_seq (aw_reg (rs_box rfl rfl rfl rfl rfl rfl ?_))
  refine rs_box rfl rfl rfl rfl rfl rfl ?_
  refine rs_mv rfl rfl ?_
  refine rs_nil fun _ => (th_n (aw_seq (aw_reg (rs_ld_pa rfl rfl rfl rfl (Nat.le_of_ble_eq_true rfl) rfl ?_))))
  refine rs_ld_pa rfl rfl rfl rfl (Nat.le_of_ble_eq_true rfl) rfl ?_
  refine rs_calln [] rfl rfl (vc60 p hp x hx) (.cons (hv_same rfl) (.cons (hv_same rfl) (.nil))) rfl ?_
  refine rs_mv rfl rfl ?_
  refine rs_nil fun _ => (th_n (aw_seq (aw_reg (rs_mv rfl rfl ?_))))
  refine rs_cmp rfl rfl rfl rfl (fun h16 => ?_) (fun h16 => ?_)
  · skip
    refine rs_mv rfl rfl ?_
    refine rs_skip rfl ?_
    refine rs_skip rfl ?_
    refine rs_pick rfl rfl rfl ?_
    refine rs_mv rfl rfl ?_
    refine rs_skip rfl ?_
    refine rs_skip rfl ?_
    refine rs_pick rfl rfl rfl ?_
    refine rs_mv rfl rfl ?_
    refine rs_skip rfl ?_
    refine rs_skip rfl ?_
    refine rs_pick rfl rfl rfl ?_
    refine rs_mv rfl rfl ?_
    refine rs_nil fun _ => (th_n (aw_seq (aw_seq (aw_reg (rs_mv rfl rfl ?_)))))
    refine rs_not rfl rfl ?_
    refine rs_mv rfl rfl ?_
    refine rs_mv rfl rfl ?_
    refine rs_seq (r := decide (s = [])) rfl rfl rfl hs.1 (fun x hx => by cases hx) (by by_cases e : s = [] <;> simp [e]) ?_
    cases h33 : decide (s = [])
    · skip
      refine rs_pick rfl rfl rfl ?_
      refine rs_nil fun _ => (th_n (aw_cond rfl (fun h => by cases h) (fun _ => ?_)))
      refine aw_skip (th_n (aw_seq ?_))
      have hfine : fineB (verdS p x) = true := by unfold fineB; rw [decide_eq_true h16]; rfl
      have hfit := fine_fit hfine
      obtain ⟨hl1, hl2, hl3, _, _⟩ := fit_len hfit
      refine aw_reg (rs_mv rfl rfl ?_)
      refine rs_nil fun _ => (th_n (aw_seq (aw_seq (aw_reg (rs_fa_p rfl rfl ?_)))))
      refine rs_ld_p rfl rfl rfl rfl rfl ?_
      refine rs_len_m rfl rfl ?_
      refine rs_mv rfl rfl ?_
      refine rs_nil fun _ => (th_n (aw_block ?_))
      refine aw_fam (α := Nat) (fun k => p.want.length - k) (fun k => [(2, .str (strN s)), (4, .ptr 4 0 0), (36, .rs 1 (p.want.map civ)), (37, iv (p.want.length : Int)), (38, iv (((k) : Nat) : Int)), (9, .sl 901 0 (k))]) (fun k => [(4, .cells 35 3 [cPc x] true), (901, .cells 51 5 (((List.range (k)).map (leafP p x s)).map cLf) true)]) (fun k => k ≤ p.want.length) 0 (by omega)
        (weak_to (.cons rfl sm (.cons rfl sm (.cons rfl sm (.cons rfl sm (.cons rfl sm (.cons rfl (rc_virt rfl rfl) (.nil))))))) (.keep (rfl) rfl (.virt rfl (.nil))) (fun i h => by cases h)) ?_
      intro k hk
      refine aw_seq (aw_reg (rs_lss rfl rfl rfl ?_))
      refine rs_nil fun _ => (th_n (aw_seq (aw_cond rfl (fun h39 => ?_) (fun h39 => ?_))))
      · replace h39 := of_decide_eq_true h39
        refine aw_skip (th_n (aw_seq (aw_block (aw_seq (aw_reg (rs_mv rfl rfl ?_))))))
        obtain ⟨w, hwk, hwm⟩ := at_some (L := p.want) (k := k) (by omega)
        obtain ⟨a, hak, ham⟩ := at_some (L := x.sure) (k := k) (by omega)
        obtain ⟨b, hbk, hbm⟩ := at_some (L := x.touched) (k := k) (by omega)
        refine rs_ix_g (f := civ) (y := w) rfl rfl rfl (by omega) hwk ?_
        refine rs_ld_r rfl rfl rfl ?_
        refine rs_mv rfl rfl ?_
        refine rs_mv rfl rfl ?_
        refine rs_nil fun _ => (th_n (aw_draw hmix ?_))
        refine rs_mv rfl rfl ?_
        refine rs_mv rfl rfl ?_
        refine rs_mv rfl rfl ?_
        refine rs_fa_p rfl rfl ?_
        refine rs_ld_p rfl rfl rfl rfl rfl ?_
        refine rs_mv rfl rfl ?_
        refine rs_ix_g (f := cB) (y := a) rfl rfl rfl (by omega) hak ?_
        refine rs_ld_r rfl rfl rfl ?_
        refine rs_fa_p rfl rfl ?_
        refine rs_ld_p rfl rfl rfl rfl rfl ?_
        refine rs_mv rfl rfl ?_
        refine rs_ix_g (f := cB) (y := b) rfl rfl rfl (by omega) hbk ?_
        refine rs_ld_r rfl rfl rfl ?_
        refine rs_mv rfl rfl ?_
        refine rs_mv rfl rfl ?_
        refine rs_calln [] rfl rfl (vc61 (k : Int) ⟨by omega, by omega⟩) (.cons (hv_same rfl) (.nil)) rfl ?_
        refine rs_calln [] rfl rfl (vc40 s (vint (k : Int)) hs ⟨vint_8 _, Nat.le_trans (vint_len _) (by decide)⟩) (.cons (hv_same rfl) (.cons (hv_same rfl) (.nil))) rfl ?_
        refine rs_build rfl rfl ?_
        refine rs_bslice (l := (([⟨(k : Int), w, a, b, markS s (vint (k : Int))⟩] : List Lf)).flatMap cLf) (els := (([⟨(k : Int), w, a, b, markS s (vint (k : Int))⟩] : List Lf)).map cLf) (fl := true) rfl (by kernel_rfl) rfl rfl (by kernel_rfl) (by kernel_rfl) ?_
        refine rs_app_m (f := cLf) (xs := (List.range k).map (leafP p x s)) (y := ⟨(k : Int), w, a, b, markS s (vint (k : Int))⟩) (fl' := true) rfl rfl rfl rfl (by simp) rfl rfl rfl (by decide) rfl (by omega) (by omega) rfl ?_
        refine rs_mv rfl rfl ?_
        refine rs_nil ⟨by kernel_rfl, fun _ => ?_⟩
        refine in_n (th_n (aw_reg (rs_add rfl rfl rfl (by omega) ?_)))
        refine rs_mv rfl rfl ?_
        refine rs_nil fun _ => (th_n ?_)
        exact ⟨k + 1, by omega, by omega, weak_to_ren (i := 62) (i' := 901) (F1 := [(2, .str (strN s)), (4, .ptr 4 0 0), (36, .rs 1 (p.want.map civ)), (37, iv (p.want.length : Int)), (38, iv (((k + 1) : Nat) : Int)), (9, .sl 62 0 (k + 1))]) (H1 := [(4, .cells 35 3 [cPc x] true), (62, .cells 51 5 (((List.range (k + 1)).map (leafP p x s)).map cLf) true)]) (.cons rfl sm (.cons rfl sm (.cons rfl sm (.cons rfl sm (.cons rfl sm (.cons rfl sm (.nil))))))) (.keep (rfl) rfl (.keep (by rw [leaf_snoc hwk hak hbk]; rfl) rfl (.nil))) (fun i h => by cases h) rfl rfl (.cons rfl (.same _) (.cons rfl (.same _) (.cons rfl (.same _) (.cons rfl (.same _) (.cons rfl (.same _) (.cons rfl (.sl _ _) (.nil))))))) (.cons rfl sm (.cons rfl sm (.cons rfl sm (.cons rfl sm (.cons rfl sm (.cons rfl sm (.nil))))))) (.keep (rfl) rfl (.keep (rfl) rfl (.nil))) (fun i h => by cases h)⟩
      · replace h39 := of_decide_eq_false h39
        refine aw_exit ?_
        refine th_e ?_
        refine th_e ?_
        refine in_hit ?_
        refine th_n (aw_seq (aw_reg (rs_mv rfl rfl ?_)))
        refine rs_mv rfl rfl ?_
        refine rs_nil fun _ => (th_n (aw_ret ?_))
        obtain rfl : k = p.want.length := by omega
        rw [show leavesS p x s = (List.range p.want.length).map (leafP p x s) from by unfold leavesS; rw [if_pos ⟨hfine, of_decide_eq_false h33⟩]]
        exact ret_new rfl (rc_frz (f := cLf) (xs := (List.range p.want.length).map (leafP p x s)) rfl rfl (by simp) (fun _ => rfl)) .nil
    · skip
      refine rs_pick rfl rfl rfl ?_
      refine rs_nil fun _ => (th_n (aw_cond rfl (fun _ => ?_) (fun h => by cases h)))
      refine aw_seq (aw_reg (rs_mv rfl rfl ?_))
      refine rs_nil fun _ => (th_n (aw_ret (th_r ?_)))
      rw [show leavesS p x s = [] from by unfold leavesS; rw [if_neg (fun h => h.2 (of_decide_eq_true h33))]]
      exact ret_new rfl rc_nils .nil
  · skip
    refine rs_mv rfl rfl ?_
    refine rs_mv rfl rfl ?_
    refine rs_cmp rfl rfl rfl rfl (fun h19 => ?_) (fun h19 => ?_)
    · skip
      refine rs_pick rfl rfl rfl ?_
      refine rs_mv rfl rfl ?_
      refine rs_skip rfl ?_
      refine rs_skip rfl ?_
      refine rs_pick rfl rfl rfl ?_
      refine rs_mv rfl rfl ?_
      refine rs_skip rfl ?_
      refine rs_skip rfl ?_
      refine rs_pick rfl rfl rfl ?_
      refine rs_mv rfl rfl ?_
      refine rs_nil fun _ => (th_n (aw_seq (aw_seq (aw_reg (rs_mv rfl rfl ?_)))))
      refine rs_not rfl rfl ?_
      refine rs_mv rfl rfl ?_
      refine rs_mv rfl rfl ?_
      refine rs_seq (r := decide (s = [])) rfl rfl rfl hs.1 (fun x hx => by cases hx) (by by_cases e : s = [] <;> simp [e]) ?_
      cases h33 : decide (s = [])
      · skip
        refine rs_pick rfl rfl rfl ?_
        refine rs_nil fun _ => (th_n (aw_cond rfl (fun h => by cases h) (fun _ => ?_)))
        refine aw_skip (th_n (aw_seq ?_))
        have hfine : fineB (verdS p x) = true := by unfold fineB; rw [decide_eq_false h16, decide_eq_true h19]; rfl
        have hfit := fine_fit hfine
        obtain ⟨hl1, hl2, hl3, _, _⟩ := fit_len hfit
        refine aw_reg (rs_mv rfl rfl ?_)
        refine rs_nil fun _ => (th_n (aw_seq (aw_seq (aw_reg (rs_fa_p rfl rfl ?_)))))
        refine rs_ld_p rfl rfl rfl rfl rfl ?_
        refine rs_len_m rfl rfl ?_
        refine rs_mv rfl rfl ?_
        refine rs_nil fun _ => (th_n (aw_block ?_))
        refine aw_fam (α := Nat) (fun k => p.want.length - k) (fun k => [(2, .str (strN s)), (4, .ptr 4 0 0), (36, .rs 1 (p.want.map civ)), (37, iv (p.want.length : Int)), (38, iv (((k) : Nat) : Int)), (9, .sl 901 0 (k))]) (fun k => [(4, .cells 35 3 [cPc x] true), (901, .cells 51 5 (((List.range (k)).map (leafP p x s)).map cLf) true)]) (fun k => k ≤ p.want.length) 0 (by omega)
          (weak_to (.cons rfl sm (.cons rfl sm (.cons rfl sm (.cons rfl sm (.cons rfl sm (.cons rfl (rc_virt rfl rfl) (.nil))))))) (.keep (rfl) rfl (.virt rfl (.nil))) (fun i h => by cases h)) ?_
        intro k hk
        refine aw_seq (aw_reg (rs_lss rfl rfl rfl ?_))
        refine rs_nil fun _ => (th_n (aw_seq (aw_cond rfl (fun h39 => ?_) (fun h39 => ?_))))
        · replace h39 := of_decide_eq_true h39
          refine aw_skip (th_n (aw_seq (aw_block (aw_seq (aw_reg (rs_mv rfl rfl ?_))))))
          obtain ⟨w, hwk, hwm⟩ := at_some (L := p.want) (k := k) (by omega)
          obtain ⟨a, hak, ham⟩ := at_some (L := x.sure) (k := k) (by omega)
          obtain ⟨b, hbk, hbm⟩ := at_some (L := x.touched) (k := k) (by omega)
          refine rs_ix_g (f := civ) (y := w) rfl rfl rfl (by omega) hwk ?_
          refine rs_ld_r rfl rfl rfl ?_
          refine rs_mv rfl rfl ?_
          refine rs_mv rfl rfl ?_
          refine rs_nil fun _ => (th_n (aw_draw hmix ?_))
          refine rs_mv rfl rfl ?_
          refine rs_mv rfl rfl ?_
          refine rs_mv rfl rfl ?_
          refine rs_fa_p rfl rfl ?_
          refine rs_ld_p rfl rfl rfl rfl rfl ?_
          refine rs_mv rfl rfl ?_
          refine rs_ix_g (f := cB) (y := a) rfl rfl rfl (by omega) hak ?_
          refine rs_ld_r rfl rfl rfl ?_
          refine rs_fa_p rfl rfl ?_
          refine rs_ld_p rfl rfl rfl rfl rfl ?_
          refine rs_mv rfl rfl ?_
          refine rs_ix_g (f := cB) (y := b) rfl rfl rfl (by omega) hbk ?_
          refine rs_ld_r rfl rfl rfl ?_
          refine rs_mv rfl rfl ?_
          refine rs_mv rfl rfl ?_
          refine rs_calln [] rfl rfl (vc61 (k : Int) ⟨by omega, by omega⟩) (.cons (hv_same rfl) (.nil)) rfl ?_
          refine rs_calln [] rfl rfl (vc40 s (vint (k : Int)) hs ⟨vint_8 _, Nat.le_trans (vint_len _) (by decide)⟩) (.cons (hv_same rfl) (.cons (hv_same rfl) (.nil))) rfl ?_
          refine rs_build rfl rfl ?_
          refine rs_bslice (l := (([⟨(k : Int), w, a, b, markS s (vint (k : Int))⟩] : List Lf)).flatMap cLf) (els := (([⟨(k : Int), w, a, b, markS s (vint (k : Int))⟩] : List Lf)).map cLf) (fl := true) rfl (by kernel_rfl) rfl rfl (by kernel_rfl) (by kernel_rfl) ?_
          refine rs_app_m (f := cLf) (xs := (List.range k).map (leafP p x s)) (y := ⟨(k : Int), w, a, b, markS s (vint (k : Int))⟩) (fl' := true) rfl rfl rfl rfl (by simp) rfl rfl rfl (by decide) rfl (by omega) (by omega) rfl ?_
          refine rs_mv rfl rfl ?_
          refine rs_nil ⟨by kernel_rfl, fun _ => ?_⟩
          refine in_n (th_n (aw_reg (rs_add rfl rfl rfl (by omega) ?_)))
          refine rs_mv rfl rfl ?_
          refine rs_nil fun _ => (th_n ?_)
          exact ⟨k + 1, by omega, by omega, weak_to_ren (i := 62) (i' := 901) (F1 := [(2, .str (strN s)), (4, .ptr 4 0 0), (36, .rs 1 (p.want.map civ)), (37, iv (p.want.length : Int)), (38, iv (((k + 1) : Nat) : Int)), (9, .sl 62 0 (k + 1))]) (H1 := [(4, .cells 35 3 [cPc x] true), (62, .cells 51 5 (((List.range (k + 1)).map (leafP p x s)).map cLf) true)]) (.cons rfl sm (.cons rfl sm (.cons rfl sm (.cons rfl sm (.cons rfl sm (.cons rfl sm (.nil))))))) (.keep (rfl) rfl (.keep (by rw [leaf_snoc hwk hak hbk]; rfl) rfl (.nil))) (fun i h => by cases h) rfl rfl (.cons rfl (.same _) (.cons rfl (.same _) (.cons rfl (.same _) (.cons rfl (.same _) (.cons rfl (.same _) (.cons rfl (.sl _ _) (.nil))))))) (.cons rfl sm (.cons rfl sm (.cons rfl sm (.cons rfl sm (.cons rfl sm (.cons rfl sm (.nil))))))) (.keep (rfl) rfl (.keep (rfl) rfl (.nil))) (fun i h => by cases h)⟩
        · replace h39 := of_decide_eq_false h39
          refine aw_exit ?_
          refine th_e ?_
          refine th_e ?_
          refine in_hit ?_
          refine th_n (aw_seq (aw_reg (rs_mv rfl rfl ?_)))
          refine rs_mv rfl rfl ?_
          refine rs_nil fun _ => (th_n (aw_ret ?_))
          obtain rfl : k = p.want.length := by omega
          rw [show leavesS p x s = (List.range p.want.length).map (leafP p x s) from by unfold leavesS; rw [if_pos ⟨hfine, of_decide_eq_false h33⟩]]
          exact ret_new rfl (rc_frz (f := cLf) (xs := (List.range p.want.length).map (leafP p x s)) rfl rfl (by simp) (fun _ => rfl)) .nil
      · skip
        refine rs_pick rfl rfl rfl ?_
        refine rs_nil fun _ => (th_n (aw_cond rfl (fun _ => ?_) (fun h => by cases h)))
        refine aw_seq (aw_reg (rs_mv rfl rfl ?_))
        refine rs_nil fun _ => (th_n (aw_ret (th_r ?_)))
        rw [show leavesS p x s = [] from by unfold leavesS; rw [if_neg (fun h => h.2 (of_decide_eq_true h33))]]
        exact ret_new rfl rc_nils .nil
    · skip
      refine rs_pick rfl rfl rfl ?_
      refine rs_mv rfl rfl ?_
      refine rs_mv rfl rfl ?_
      refine rs_cmp rfl rfl rfl rfl (fun h23 => ?_) (fun h23 => ?_)
      · skip
        refine rs_pick rfl rfl rfl ?_
        refine rs_mv rfl rfl ?_
        refine rs_skip rfl ?_
        refine rs_skip rfl ?_
        refine rs_pick rfl rfl rfl ?_
        refine rs_mv rfl rfl ?_
        refine rs_nil fun _ => (th_n (aw_seq (aw_seq (aw_reg (rs_mv rfl rfl ?_)))))
        refine rs_not rfl rfl ?_
        refine rs_mv rfl rfl ?_
        refine rs_mv rfl rfl ?_
        refine rs_seq (r := decide (s = [])) rfl rfl rfl hs.1 (fun x hx => by cases hx) (by by_cases e : s = [] <;> simp [e]) ?_
        cases h33 : decide (s = [])
        · skip
          refine rs_pick rfl rfl rfl ?_
          refine rs_nil fun _ => (th_n (aw_cond rfl (fun h => by cases h) (fun _ => ?_)))
          refine aw_skip (th_n (aw_seq ?_))
          have hfine : fineB (verdS p x) = true := by unfold fineB; rw [decide_eq_false h16, decide_eq_false h19, decide_eq_true h23]; rfl
          have hfit := fine_fit hfine
          obtain ⟨hl1, hl2, hl3, _, _⟩ := fit_len hfit
          refine aw_reg (rs_mv rfl rfl ?_)
          refine rs_nil fun _ => (th_n (aw_seq (aw_seq (aw_reg (rs_fa_p rfl rfl ?_)))))
          refine rs_ld_p rfl rfl rfl rfl rfl ?_
          refine rs_len_m rfl rfl ?_
          refine rs_mv rfl rfl ?_
          refine rs_nil fun _ => (th_n (aw_block ?_))
          refine aw_fam (α := Nat) (fun k => p.want.length - k) (fun k => [(2, .str (strN s)), (4, .ptr 4 0 0), (36, .rs 1 (p.want.map civ)), (37, iv (p.want.length : Int)), (38, iv (((k) : Nat) : Int)), (9, .sl 901 0 (k))]) (fun k => [(4, .cells 35 3 [cPc x] true), (901, .cells 51 5 (((List.range (k)).map (leafP p x s)).map cLf) true)]) (fun k => k ≤ p.want.length) 0 (by omega)
            (weak_to (.cons rfl sm (.cons rfl sm (.cons rfl sm (.cons rfl sm (.cons rfl sm (.cons rfl (rc_virt rfl rfl) (.nil))))))) (.keep (rfl) rfl (.virt rfl (.nil))) (fun i h => by cases h)) ?_
          intro k hk
          refine aw_seq (aw_reg (rs_lss rfl rfl rfl ?_))
          refine rs_nil fun _ => (th_n (aw_seq (aw_cond rfl (fun h39 => ?_) (fun h39 => ?_))))
          · replace h39 := of_decide_eq_true h39
            refine aw_skip (th_n (aw_seq (aw_block (aw_seq (aw_reg (rs_mv rfl rfl ?_))))))
            obtain ⟨w, hwk, hwm⟩ := at_some (L := p.want) (k := k) (by omega)
            obtain ⟨a, hak, ham⟩ := at_some (L := x.sure) (k := k) (by omega)
            obtain ⟨b, hbk, hbm⟩ := at_some (L := x.touched) (k := k) (by omega)
            refine rs_ix_g (f := civ) (y := w) rfl rfl rfl (by omega) hwk ?_
            refine rs_ld_r rfl rfl rfl ?_
            refine rs_mv rfl rfl ?_
            refine rs_mv rfl rfl ?_
            refine rs_nil fun _ => (th_n (aw_draw hmix ?_))
            refine rs_mv rfl rfl ?_
            refine rs_mv rfl rfl ?_
            refine rs_mv rfl rfl ?_
            refine rs_fa_p rfl rfl ?_
            refine rs_ld_p rfl rfl rfl rfl rfl ?_
            refine rs_mv rfl rfl ?_
            refine rs_ix_g (f := cB) (y := a) rfl rfl rfl (by omega) hak ?_
            refine rs_ld_r rfl rfl rfl ?_
            refine rs_fa_p rfl rfl ?_
            refine rs_ld_p rfl rfl rfl rfl rfl ?_
            refine rs_mv rfl rfl ?_
            refine rs_ix_g (f := cB) (y := b) rfl rfl rfl (by omega) hbk ?_
            refine rs_ld_r rfl rfl rfl ?_
            refine rs_mv rfl rfl ?_
            refine rs_mv rfl rfl ?_
            refine rs_calln [] rfl rfl (vc61 (k : Int) ⟨by omega, by omega⟩) (.cons (hv_same rfl) (.nil)) rfl ?_
            refine rs_calln [] rfl rfl (vc40 s (vint (k : Int)) hs ⟨vint_8 _, Nat.le_trans (vint_len _) (by decide)⟩) (.cons (hv_same rfl) (.cons (hv_same rfl) (.nil))) rfl ?_
            refine rs_build rfl rfl ?_
            refine rs_bslice (l := (([⟨(k : Int), w, a, b, markS s (vint (k : Int))⟩] : List Lf)).flatMap cLf) (els := (([⟨(k : Int), w, a, b, markS s (vint (k : Int))⟩] : List Lf)).map cLf) (fl := true) rfl (by kernel_rfl) rfl rfl (by kernel_rfl) (by kernel_rfl) ?_
            refine rs_app_m (f := cLf) (xs := (List.range k).map (leafP p x s)) (y := ⟨(k : Int), w, a, b, markS s (vint (k : Int))⟩) (fl' := true) rfl rfl rfl rfl (by simp) rfl rfl rfl (by decide) rfl (by omega) (by omega) rfl ?_
            refine rs_mv rfl rfl ?_
            refine rs_nil ⟨by kernel_rfl, fun _ => ?_⟩
            refine in_n (th_n (aw_reg (rs_add rfl rfl rfl (by omega) ?_)))
            refine rs_mv rfl rfl ?_
            refine rs_nil fun _ => (th_n ?_)
            exact ⟨k + 1, by omega, by omega, weak_to_ren (i := 62) (i' := 901) (F1 := [(2, .str (strN s)), (4, .ptr 4 0 0), (36, .rs 1 (p.want.map civ)), (37, iv (p.want.length : Int)), (38, iv (((k + 1) : Nat) : Int)), (9, .sl 62 0 (k + 1))]) (H1 := [(4, .cells 35 3 [cPc x] true), (62, .cells 51 5 (((List.range (k + 1)).map (leafP p x s)).map cLf) true)]) (.cons rfl sm (.cons rfl sm (.cons rfl sm (.cons rfl sm (.cons rfl sm (.cons rfl sm (.nil))))))) (.keep (rfl) rfl (.keep (by rw [leaf_snoc hwk hak hbk]; rfl) rfl (.nil))) (fun i h => by cases h) rfl rfl (.cons rfl (.same _) (.cons rfl (.same _) (.cons rfl (.same _) (.cons rfl (.same _) (.cons rfl (.same _) (.cons rfl (.sl _ _) (.nil))))))) (.cons rfl sm (.cons rfl sm (.cons rfl sm (.cons rfl sm (.cons rfl sm (.cons rfl sm (.nil))))))) (.keep (rfl) rfl (.keep (rfl) rfl (.nil))) (fun i h => by cases h)⟩
          · replace h39 := of_decide_eq_false h39
            refine aw_exit ?_
            refine th_e ?_
            refine th_e ?_
            refine in_hit ?_
            refine th_n (aw_seq (aw_reg (rs_mv rfl rfl ?_)))
            refine rs_mv rfl rfl ?_
            refine rs_nil fun _ => (th_n (aw_ret ?_))
            obtain rfl : k = p.want.length := by omega
            rw [show leavesS p x s = (List.range p.want.length).map (leafP p x s) from by unfold leavesS; rw [if_pos ⟨hfine, of_decide_eq_false h33⟩]]
            exact ret_new rfl (rc_frz (f := cLf) (xs := (List.range p.want.length).map (leafP p x s)) rfl rfl (by simp) (fun _ => rfl)) .nil
        · skip
          refine rs_pick rfl rfl rfl ?_
          refine rs_nil fun _ => (th_n (aw_cond rfl (fun _ => ?_) (fun h => by cases h)))
          refine aw_seq (aw_reg (rs_mv rfl rfl ?_))
          refine rs_nil fun _ => (th_n (aw_ret (th_r ?_)))
          rw [show leavesS p x s = [] from by unfold leavesS; rw [if_neg (fun h => h.2 (of_decide_eq_true h33))]]
          exact ret_new rfl rc_nils .nil
      · skip
        refine rs_pick rfl rfl rfl ?_
        refine rs_mv rfl rfl ?_
        refine rs_mv rfl rfl ?_
        refine rs_cmp rfl rfl rfl rfl (fun h27 => ?_) (fun h27 => ?_)
        · skip
          refine rs_pick rfl rfl rfl ?_
          refine rs_mv rfl rfl ?_
          refine rs_nil fun _ => (th_n (aw_seq (aw_seq (aw_reg (rs_mv rfl rfl ?_)))))
          refine rs_not rfl rfl ?_
          refine rs_mv rfl rfl ?_
          refine rs_mv rfl rfl ?_
          refine rs_seq (r := decide (s = [])) rfl rfl rfl hs.1 (fun x hx => by cases hx) (by by_cases e : s = [] <;> simp [e]) ?_
          cases h33 : decide (s = [])
          · skip
            refine rs_pick rfl rfl rfl ?_
            refine rs_nil fun _ => (th_n (aw_cond rfl (fun h => by cases h) (fun _ => ?_)))
            refine aw_skip (th_n (aw_seq ?_))
            have hfine : fineB (verdS p x) = true := by unfold fineB; rw [decide_eq_false h16, decide_eq_false h19, decide_eq_false h23, decide_eq_true h27]; rfl
            have hfit := fine_fit hfine
            obtain ⟨hl1, hl2, hl3, _, _⟩ := fit_len hfit
            refine aw_reg (rs_mv rfl rfl ?_)
            refine rs_nil fun _ => (th_n (aw_seq (aw_seq (aw_reg (rs_fa_p rfl rfl ?_)))))
            refine rs_ld_p rfl rfl rfl rfl rfl ?_
            refine rs_len_m rfl rfl ?_
            refine rs_mv rfl rfl ?_
            refine rs_nil fun _ => (th_n (aw_block ?_))
            refine aw_fam (α := Nat) (fun k => p.want.length - k) (fun k => [(2, .str (strN s)), (4, .ptr 4 0 0), (36, .rs 1 (p.want.map civ)), (37, iv (p.want.length : Int)), (38, iv (((k) : Nat) : Int)), (9, .sl 901 0 (k))]) (fun k => [(4, .cells 35 3 [cPc x] true), (901, .cells 51 5 (((List.range (k)).map (leafP p x s)).map cLf) true)]) (fun k => k ≤ p.want.length) 0 (by omega)
              (weak_to (.cons rfl sm (.cons rfl sm (.cons rfl sm (.cons rfl sm (.cons rfl sm (.cons rfl (rc_virt rfl rfl) (.nil))))))) (.keep (rfl) rfl (.virt rfl (.nil))) (fun i h => by cases h)) ?_
            intro k hk
            refine aw_seq (aw_reg (rs_lss rfl rfl rfl ?_))
            refine rs_nil fun _ => (th_n (aw_seq (aw_cond rfl (fun h39 => ?_) (fun h39 => ?_))))
            · replace h39 := of_decide_eq_true h39
              refine aw_skip (th_n (aw_seq (aw_block (aw_seq (aw_reg (rs_mv rfl rfl ?_))))))
              obtain ⟨w, hwk, hwm⟩ := at_some (L := p.want) (k := k) (by omega)
              obtain ⟨a, hak, ham⟩ := at_some (L := x.sure) (k := k) (by omega)
              obtain ⟨b, hbk, hbm⟩ := at_some (L := x.touched) (k := k) (by omega)
              refine rs_ix_g (f := civ) (y := w) rfl rfl rfl (by omega) hwk ?_
              refine rs_ld_r rfl rfl rfl ?_
              refine rs_mv rfl rfl ?_
              refine rs_mv rfl rfl ?_
              refine rs_nil fun _ => (th_n (aw_draw hmix ?_))
              refine rs_mv rfl rfl ?_
              refine rs_mv rfl rfl ?_
              refine rs_mv rfl rfl ?_
              refine rs_fa_p rfl rfl ?_
              refine rs_ld_p rfl rfl rfl rfl rfl ?_
              refine rs_mv rfl rfl ?_
              refine rs_ix_g (f := cB) (y := a) rfl rfl rfl (by omega) hak ?_
              refine rs_ld_r rfl rfl rfl ?_
              refine rs_fa_p rfl rfl ?_
              refine rs_ld_p rfl rfl rfl rfl rfl ?_
              refine rs_mv rfl rfl ?_
              refine rs_ix_g (f := cB) (y := b) rfl rfl rfl (by omega) hbk ?_
              refine rs_ld_r rfl rfl rfl ?_
              refine rs_mv rfl rfl ?_
              refine rs_mv rfl rfl ?_
              refine rs_calln [] rfl rfl (vc61 (k : Int) ⟨by omega, by omega⟩) (.cons (hv_same rfl) (.nil)) rfl ?_
              refine rs_calln [] rfl rfl (vc40 s (vint (k : Int)) hs ⟨vint_8 _, Nat.le_trans (vint_len _) (by decide)⟩) (.cons (hv_same rfl) (.cons (hv_same rfl) (.nil))) rfl ?_
              refine rs_build rfl rfl ?_
              refine rs_bslice (l := (([⟨(k : Int), w, a, b, markS s (vint (k : Int))⟩] : List Lf)).flatMap cLf) (els := (([⟨(k : Int), w, a, b, markS s (vint (k : Int))⟩] : List Lf)).map cLf) (fl := true) rfl (by kernel_rfl) rfl rfl (by kernel_rfl) (by kernel_rfl) ?_
              refine rs_app_m (f := cLf) (xs := (List.range k).map (leafP p x s)) (y := ⟨(k : Int), w, a, b, markS s (vint (k : Int))⟩) (fl' := true) rfl rfl rfl rfl (by simp) rfl rfl rfl (by decide) rfl (by omega) (by omega) rfl ?_
              refine rs_mv rfl rfl ?_
              refine rs_nil ⟨by kernel_rfl, fun _ => ?_⟩
              refine in_n (th_n (aw_reg (rs_add rfl rfl rfl (by omega) ?_)))
              refine rs_mv rfl rfl ?_
              refine rs_nil fun _ => (th_n ?_)
              exact ⟨k + 1, by omega, by omega, weak_to_ren (i := 62) (i' := 901) (F1 := [(2, .str (strN s)), (4, .ptr 4 0 0), (36, .rs 1 (p.want.map civ)), (37, iv (p.want.length : Int)), (38, iv (((k + 1) : Nat) : Int)), (9, .sl 62 0 (k + 1))]) (H1 := [(4, .cells 35 3 [cPc x] true), (62, .cells 51 5 (((List.range (k + 1)).map (leafP p x s)).map cLf) true)]) (.cons rfl sm (.cons rfl sm (.cons rfl sm (.cons rfl sm (.cons rfl sm (.cons rfl sm (.nil))))))) (.keep (rfl) rfl (.keep (by rw [leaf_snoc hwk hak hbk]; rfl) rfl (.nil))) (fun i h => by cases h) rfl rfl (.cons rfl (.same _) (.cons rfl (.same _) (.cons rfl (.same _) (.cons rfl (.same _) (.cons rfl (.same _) (.cons rfl (.sl _ _) (.nil))))))) (.cons rfl sm (.cons rfl sm (.cons rfl sm (.cons rfl sm (.cons rfl sm (.cons rfl sm (.nil))))))) (.keep (rfl) rfl (.keep (rfl) rfl (.nil))) (fun i h => by cases h)⟩
            · replace h39 := of_decide_eq_false h39
              refine aw_exit ?_
              refine th_e ?_
              refine th_e ?_
              refine in_hit ?_
              refine th_n (aw_seq (aw_reg (rs_mv rfl rfl ?_)))
              refine rs_mv rfl rfl ?_
              refine rs_nil fun _ => (th_n (aw_ret ?_))
              obtain rfl : k = p.want.length := by omega
              rw [show leavesS p x s = (List.range p.want.length).map (leafP p x s) from by unfold leavesS; rw [if_pos ⟨hfine, of_decide_eq_false h33⟩]]
              exact ret_new rfl (rc_frz (f := cLf) (xs := (List.range p.want.length).map (leafP p x s)) rfl rfl (by simp) (fun _ => rfl)) .nil
          · skip
            refine rs_pick rfl rfl rfl ?_
            refine rs_nil fun _ => (th_n (aw_cond rfl (fun _ => ?_) (fun h => by cases h)))
            refine aw_seq (aw_reg (rs_mv rfl rfl ?_))
            refine rs_nil fun _ => (th_n (aw_ret (th_r ?_)))
            rw [show leavesS p x s = [] from by unfold leavesS; rw [if_neg (fun h => h.2 (of_decide_eq_true h33))]]
            exact ret_new rfl rc_nils .nil
        · skip
          refine rs_pick rfl rfl rfl ?_
          refine rs_mv rfl rfl ?_
          refine rs_nil fun _ => (th_n (aw_seq (aw_seq (aw_reg (rs_mv rfl rfl ?_)))))
          refine rs_not rfl rfl ?_
          refine rs_mv rfl rfl ?_
          refine rs_skip rfl ?_
          refine rs_skip rfl ?_
          refine rs_pick rfl rfl rfl ?_
          refine rs_nil fun _ => (th_n (aw_cond rfl (fun _ => ?_) (fun h => by cases h)))
          refine aw_seq (aw_reg (rs_mv rfl rfl ?_))
          refine rs_nil fun _ => (th_n (aw_ret (th_r ?_)))
          rw [show leavesS p x s = [] from by unfold leavesS; rw [if_neg (fun h => by have h1 := h.1; unfold fineB at h1; rw [decide_eq_false h16, decide_eq_false h19, decide_eq_false h23, decide_eq_false h27] at h1; cases h1)]]
          exact ret_new rfl rc_nils .nil
end Go.Proofs.YthfhaoogcpfboaaGreat
