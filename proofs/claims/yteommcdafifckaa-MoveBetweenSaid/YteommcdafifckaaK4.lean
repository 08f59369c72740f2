/-
  Parts of the proof: M3 M4 M5.
-/
import Derived.Test.YteommcdafifckaaK3
set_option linter.unusedVariables false

/-! Walks: M3. -/
namespace Go.Proofs.Yteommcdafifckaa
open Go.RowKit

theorem ret_own_e {P : Program} {F : Fr} {H H' : Hp} {Z : List Nat} {rs : List ResultVar} {r : AV} {vs : List AV} {e : Exit} (he : e = .normal ∨ e = .ret) (h : resVs P F H rs = some vs) (hr : RC H H' true (resOne vs) r) (hk : KeptHs H (keysOf H') H') (hz : ZL H H' Z) : RetQ P Z rs r H' true e F H :=
  ⟨he, vs, h, hr, hk.keptH, hz.at_⟩
theorem arcV_lt {c a b : V3} {r j : Nat} (hj : j ≤ r) (h : iP r (j + 1) * iP r (j + 1) + j * j = r * r) : (arcV c a b r (r + 1))[(arcV c a b r j).length]? = some (plus (plus c a (iP r (j + 1))) b j) := by
  refine arcV_pre c a b r (j + 1) ?_ (r + 1) (by omega)
  rw [arcV_t rfl h]; simp
theorem sq_le {i r : Nat} (h : i ≤ r) : i * i ≤ r * r := Nat.mul_le_mul h h

def mc77 : MC := (.seq (.reg [⟨(some 6), (.ld false 1 (.t 1)), none, []⟩, ⟨(some 7), (.bin .add (.t 6) (.c (.int .i64 1))), none, [0]⟩, ⟨(some 8), (.mv (.c (.int .i64 0))), none, []⟩] false) (.block 0 (.loop (.seq (.reg [⟨(some 9), (.bin .lss (.t 8) (.t 7)), none, []⟩] false) (.seq (.cond (.t 9) .skip (.exit 0)) (.seq (.block 1 (.seq (.reg [⟨(some 10), (.mv (.t 8)), none, []⟩, ⟨(some 5), (.mv (.t 10)), none, [0, 0]⟩] false) (.seq (.reg [⟨(some 11), (.mv (.t 0)), none, []⟩, ⟨(some 12), (.fa 0 (.t 2)), none, []⟩, ⟨(some 13), (.fa 1 (.t 12)), none, [1]⟩, ⟨(some 14), (.ld true 3 (.t 13)), none, [2]⟩, ⟨(some 15), (.ld true 3 (.t 3)), none, []⟩, ⟨(some 16), (.mv (.t 5)), none, []⟩, ⟨(some 17), (.call 78 [(.t 14), (.t 15), (.t 16)]), none, [3, 4, 5]⟩, ⟨(some 18), (.callv (.t 11) [(.t 17)]), none, [0, 6, 6]⟩, ⟨(some 19), (.un .not (.t 18)), none, [7]⟩] false) (.cond (.t 19) .ret .skip)))) (.reg [⟨(some 20), (.bin .add (.t 8) (.c (.int .i64 1))), none, []⟩, ⟨(some 8), (.mv (.t 20)), none, [0]⟩] false)))))))
theorem mcOk77 : (match Try.f77.body with | some c => compC Try.prog 21 c | none => none) = some mc77 := by kernel_rfl

theorem fc77_app (g : AV) (hg : ∀ D, scopedV D g = true) (m : Mv) (b : V3) (n : Nat) (hm : Bd 100 m.fr) (hb : Bd 100 b) (hn : n ≤ 100) (r0 : Loop) (h : Rec0 Try.prog 13 [7] as56 bd56 r0) : FC Try.prog 77 [.yl 900, .rp [iv (n : Int)], .rp (cM m), .rp (cV b)] [(900, .lp r0 [(6, g), (2, .ptr 2 0 0)]), (2, .cells 42 1 [[.sl 901 0 (([] : List V3)).length]] false), (901, .cells 26 3 ((([] : List V3)).map cV) true)] (.tup []) [(900, .lp r0 [(6, g), (2, .ptr 2 0 0)]), (2, .cells 42 1 [[.sl 903 0 (linQ m.fr b (n + 1)).length]] false), (903, .cells 26 3 ((linQ m.fr b (n + 1)).map cV) true), (901, .dead)] true := by
  refine fc_run (nt := 21) Try.func77 rfl rfl mcOk77 (Nat.le_of_ble_eq_true rfl) ?_
  delta mc77
  refine aw_seq ?_
  refine aw_reg ?_
  first | refine rs_ld_r rfl rfl rfl ?_ | refine rs_ld_p rfl rfl rfl rfl rfl ?_ | refine rs_ld_m rfl rfl rfl (by omega) rfl ?_
  first | refine rs_add rfl rfl rfl (by omega) ?_ | refine rs_addw rfl rfl rfl rfl ?_
  refine rs_mv rfl rfl ?_
  refine rs_nil fun _ => ?_
  refine th_n ?_
  refine aw_block ?_
  refine aw_fam (α := Nat) (fun k => n + 1 - k) (fun k => [(0, .yl 900), (1, .rp [iv (n : Int)]), (2, .rp (cM m)), (3, .rp (cV b)), (7, iv ((n : Int) + 1)), (8, iv (((k) : Nat) : Int))]) (fun k => [(900, .lp r0 [(6, g), (2, .ptr 2 0 0)]), (2, .cells 42 1 [[.sl 903 0 (linQ m.fr b (k)).length]] false), (903, .cells 26 3 ((linQ m.fr b (k)).map cV) true), (901, .dead)]) (fun k => k ≤ n + 1) 0 (by omega)
    ((Weak.trans (F1 := [(0, .yl 900), (1, .rp [iv (n : Int)]), (2, .rp (cM m)), (3, .rp (cV b)), (7, iv ((n : Int) + 1)), (8, iv (((0) : Nat) : Int))]) (H1 := [(900, .lp r0 [(6, g), (2, .ptr 2 0 0)]), (2, .cells 42 1 [[.sl 901 0 (([] : List V3)).length]] false), (901, .cells 26 3 ((([] : List V3)).map cV) true)]) (weak_to (.cons rfl (rc_same rfl (.inl rfl)) (.cons rfl (rc_same rfl (.inl rfl)) (.cons rfl (rc_same rfl (.inl rfl)) (.cons rfl (rc_same rfl (.inl rfl)) (.cons rfl (rc_same rfl (.inl rfl)) (.cons rfl (rc_same rfl (.inl rfl)) (.nil))))))) (.keep (rfl) (by simp [scopedOb, scopedL, scopedV, hg, keysOf]) (.keep (rfl) rfl (.keep (rfl) rfl (.nil)))) (fun i hi => by simp [keysOf] at hi ⊢; omega)) (Weak.trans (F1 := [(0, .yl 900), (1, .rp [iv (n : Int)]), (2, .rp (cM m)), (3, .rp (cV b)), (7, iv ((n : Int) + 1)), (8, iv (((0) : Nat) : Int))]) (weak_ren_cell (i := 901) (i' := 903) (k := 2) rfl rfl (.cons rfl (.same _) (.cons rfl (.same _) (.cons rfl (.same _) (.cons rfl (.same _) (.cons rfl (.same _) (.cons rfl (.same _) (.nil))))))) (by decide) rfl (.sl _ _)) (weak_to (.cons rfl (rc_same rfl (.inl rfl)) (.cons rfl (rc_same rfl (.inl rfl)) (.cons rfl (rc_same rfl (.inl rfl)) (.cons rfl (rc_same rfl (.inl rfl)) (.cons rfl (rc_same rfl (.inl rfl)) (.cons rfl (rc_same rfl (.inl rfl)) (.nil))))))) (.keep (rfl) (by simp [scopedOb, scopedL, scopedV, hg, keysOf]) (.keep (rfl) rfl (.keep (rfl) rfl (.keep (rfl) rfl (.nil))))) (fun i hi => by simp [keysOf] at hi ⊢; omega))))) ?_
  intro k hk
  refine aw_seq ?_
  refine aw_reg ?_
  refine rs_lss rfl rfl rfl ?_
  refine rs_nil fun _ => ?_
  refine th_n ?_
  refine aw_seq ?_
  refine aw_cond rfl (fun h9 => ?_) (fun h9 => ?_)
  · first | replace h9 := of_decide_eq_true h9 | skip
    refine aw_skip ?_
    refine th_n ?_
    refine aw_seq ?_
    refine aw_block ?_
    refine aw_seq ?_
    refine aw_reg ?_
    refine rs_mv rfl rfl ?_
    refine rs_mv rfl rfl ?_
    refine rs_nil fun _ => ?_
    refine th_n ?_
    refine aw_seq ?_
    refine aw_reg ?_
    refine rs_mv rfl rfl ?_
    first | refine rs_fa_p rfl rfl ?_ | refine rs_fa_r rfl rfl rfl ?_
    first | refine rs_fa_p rfl rfl ?_ | refine rs_fa_r rfl rfl rfl ?_
    first | refine rs_ld_pa rfl rfl rfl rfl (Nat.le_of_ble_eq_true rfl) rfl ?_ | refine rs_ld_ra rfl rfl (Nat.le_of_ble_eq_true rfl) rfl ?_ | refine rs_ld_ma rfl rfl rfl (by omega) (Nat.le_of_ble_eq_true rfl) rfl ?_
    first | refine rs_ld_pa rfl rfl rfl rfl (Nat.le_of_ble_eq_true rfl) rfl ?_ | refine rs_ld_ra rfl rfl (Nat.le_of_ble_eq_true rfl) rfl ?_ | refine rs_ld_ma rfl rfl rfl (by omega) (Nat.le_of_ble_eq_true rfl) rfl ?_
    refine rs_mv rfl rfl ?_
    refine rs_calln [] rfl rfl (fc78s hm.big hb.big (by omega)) (.cons (hv_same rfl) (.cons (hv_same rfl) (.cons (hv_same rfl) (.nil)))) rfl ?_
    refine rs_yield [(900, .lp r0 [(6, g), (2, .ptr 2 0 0)]), (2, .cells 42 1 [[.sl 903 0 (linQ m.fr b k).length]] false), (903, .cells 26 3 ((linQ m.fr b k).map cV) true)] rfl rfl rfl (y56 g hg (linQ m.fr b k) (by rw [linQ_len]; omega) (plus m.fr b k) r0 h) (.cons (hv_same rfl) (.cons (hv_same rfl) .nil)) (.cons rfl (.cons rfl (.cons rfl (.nil)))) (by simp [scopedHs, scopedOb, scopedL, scopedV, scopedE, hg, keysOf]) rfl rfl ?_
    refine rs_not rfl rfl ?_
    refine rs_nil fun _ => ?_
    refine th_n ?_
    refine aw_cond rfl (fun h => by cases h) (fun _ => ?_)
    refine aw_skip ?_
    refine in_n ?_
    refine th_n ?_
    refine aw_reg ?_
    first | refine rs_add rfl rfl rfl (by omega) ?_ | refine rs_addw rfl rfl rfl rfl ?_
    refine rs_mv rfl rfl ?_
    refine rs_nil fun _ => ?_
    refine th_n ?_
    exact ⟨k + 1, by omega, by omega, (Weak.trans (F1 := [(0, .yl 900), (1, .rp [iv (n : Int)]), (2, .rp (cM m)), (3, .rp (cV b)), (7, iv ((n : Int) + 1)), (8, iv (((k + 1) : Nat) : Int))]) (H1 := [(900, .lp r0 [(6, g), (2, .ptr 2 0 0)]), (2, .cells 42 1 [[.sl 11 0 (linQ m.fr b k ++ [plus m.fr b k]).length]] false), (11, .cells 26 3 ((linQ m.fr b k ++ [plus m.fr b k]).map cV) true), (901, .dead)]) (weak_to (.cons rfl (rc_same rfl (.inl rfl)) (.cons rfl (rc_same rfl (.inl rfl)) (.cons rfl (rc_same rfl (.inl rfl)) (.cons rfl (rc_same rfl (.inl rfl)) (.cons rfl (rc_same rfl (.inl rfl)) (.cons rfl (rc_same rfl (.inl rfl)) (.nil))))))) (.keep (rfl) (by simp [scopedOb, scopedL, scopedV, hg, keysOf]) (.keep (rfl) rfl (.keep (rfl) rfl (.keep (rfl) rfl (.nil))))) (fun i hi => by simp [keysOf] at hi ⊢; omega)) (Weak.trans (F1 := [(0, .yl 900), (1, .rp [iv (n : Int)]), (2, .rp (cM m)), (3, .rp (cV b)), (7, iv ((n : Int) + 1)), (8, iv (((k + 1) : Nat) : Int))]) (weak_ren_cell (i := 11) (i' := 903) (k := 2) rfl rfl (.cons rfl (.same _) (.cons rfl (.same _) (.cons rfl (.same _) (.cons rfl (.same _) (.cons rfl (.same _) (.cons rfl (.same _) (.nil))))))) (by decide) rfl (.sl _ _)) (weak_to (.cons rfl (rc_same rfl (.inl rfl)) (.cons rfl (rc_same rfl (.inl rfl)) (.cons rfl (rc_same rfl (.inl rfl)) (.cons rfl (rc_same rfl (.inl rfl)) (.cons rfl (rc_same rfl (.inl rfl)) (.cons rfl (rc_same rfl (.inl rfl)) (.nil))))))) (.keep (rfl) (by simp [scopedOb, scopedL, scopedV, hg, keysOf]) (.keep (by rw [linQ_succ]; rfl) rfl (.keep (by rw [linQ_succ]; rfl) rfl (.keep (rfl) rfl (.nil))))) (fun i hi => by simp [keysOf] at hi ⊢; omega))))⟩
  · first | replace h9 := of_decide_eq_false h9 | skip
    refine aw_exit ?_
    refine th_e ?_
    refine th_e ?_
    refine in_hit ?_
    obtain rfl : k = n + 1 := by omega
    exact ret_own_e (by first | exact .inl rfl | exact .inr rfl) rfl (rc_same rfl (.inl rfl)) (.keep (rfl) (by simp [scopedOb, scopedL, scopedV, hg, keysOf]) (.keep (rfl) rfl (.keep (rfl) rfl (.keep (rfl) rfl (.nil))))) (.cons rfl rfl rfl (.cons rfl rfl rfl (.dead rfl rfl (.nil))))

theorem fc77_at_n (g : AV) (hg : ∀ D, scopedV D g = true) (step : Int) (m : Mv) (b : V3) (n : Nat) (hm : Bd 100 m.fr) (hb : Bd 100 b) (hn : n ≤ 100) (hs : step < 0 ∨ (n : Int) < step) (r0 : Loop) (h : Rec0 Try.prog 23 [15] as17 bd17 r0) : FC Try.prog 77 [.yl 900, .rp [iv (n : Int)], .rp (cM m), .rp (cV b)] [(900, .lp r0 [(14, g), (6, .ptr 6 0 0), (3, .ptr 3 0 0), (4, .ptr 4 0 0), (5, .ptr 5 0 0)]), (6, .cells 3 1 [[iv (((0) : Nat) : Int)]] true), (3, .cells 3 1 [[iv step]] true), (4, .cells 26 3 [cV ⟨0, 0, 0⟩] true), (5, .cells 4 1 [[.bool false]] true)] (.tup []) [(900, .lp r0 [(14, g), (6, .ptr 6 0 0), (3, .ptr 3 0 0), (4, .ptr 4 0 0), (5, .ptr 5 0 0)]), (6, .cells 3 1 [[iv (((n + 1) : Nat) : Int)]] true), (3, .cells 3 1 [[iv step]] true), (4, .cells 26 3 [cV ⟨0, 0, 0⟩] true), (5, .cells 4 1 [[.bool false]] true)] true := by
  refine fc_run (nt := 21) Try.func77 rfl rfl mcOk77 (Nat.le_of_ble_eq_true rfl) ?_
  delta mc77
  refine aw_seq ?_
  refine aw_reg ?_
  first | refine rs_ld_r rfl rfl rfl ?_ | refine rs_ld_p rfl rfl rfl rfl rfl ?_ | refine rs_ld_m rfl rfl rfl (by omega) rfl ?_
  first | refine rs_add rfl rfl rfl (by omega) ?_ | refine rs_addw rfl rfl rfl rfl ?_
  refine rs_mv rfl rfl ?_
  refine rs_nil fun _ => ?_
  refine th_n ?_
  refine aw_block ?_
  refine aw_fam (α := Nat) (fun k => n + 1 - k) (fun k => [(0, .yl 900), (1, .rp [iv (n : Int)]), (2, .rp (cM m)), (3, .rp (cV b)), (7, iv ((n : Int) + 1)), (8, iv (((k) : Nat) : Int))]) (fun k => [(900, .lp r0 [(14, g), (6, .ptr 6 0 0), (3, .ptr 3 0 0), (4, .ptr 4 0 0), (5, .ptr 5 0 0)]), (6, .cells 3 1 [[iv (((k) : Nat) : Int)]] true), (3, .cells 3 1 [[iv step]] true), (4, .cells 26 3 [cV ⟨0, 0, 0⟩] true), (5, .cells 4 1 [[.bool false]] true)]) (fun k => k ≤ n + 1) 0 (by omega)
    (weak_to (.cons rfl (rc_same rfl (.inl rfl)) (.cons rfl (rc_same rfl (.inl rfl)) (.cons rfl (rc_same rfl (.inl rfl)) (.cons rfl (rc_same rfl (.inl rfl)) (.cons rfl (rc_same rfl (.inl rfl)) (.cons rfl (rc_same rfl (.inl rfl)) (.nil))))))) (.keep (rfl) (by simp [scopedOb, scopedL, scopedV, hg, keysOf]) (.keep (rfl) rfl (.keep (rfl) rfl (.keep (rfl) rfl (.keep (rfl) rfl (.nil)))))) (fun i hi => by simp [keysOf] at hi ⊢; omega)) ?_
  intro k hk
  refine aw_seq ?_
  refine aw_reg ?_
  refine rs_lss rfl rfl rfl ?_
  refine rs_nil fun _ => ?_
  refine th_n ?_
  refine aw_seq ?_
  refine aw_cond rfl (fun h9 => ?_) (fun h9 => ?_)
  · first | replace h9 := of_decide_eq_true h9 | skip
    refine aw_skip ?_
    refine th_n ?_
    refine aw_seq ?_
    refine aw_block ?_
    refine aw_seq ?_
    refine aw_reg ?_
    refine rs_mv rfl rfl ?_
    refine rs_mv rfl rfl ?_
    refine rs_nil fun _ => ?_
    refine th_n ?_
    refine aw_seq ?_
    refine aw_reg ?_
    refine rs_mv rfl rfl ?_
    first | refine rs_fa_p rfl rfl ?_ | refine rs_fa_r rfl rfl rfl ?_
    first | refine rs_fa_p rfl rfl ?_ | refine rs_fa_r rfl rfl rfl ?_
    first | refine rs_ld_pa rfl rfl rfl rfl (Nat.le_of_ble_eq_true rfl) rfl ?_ | refine rs_ld_ra rfl rfl (Nat.le_of_ble_eq_true rfl) rfl ?_ | refine rs_ld_ma rfl rfl rfl (by omega) (Nat.le_of_ble_eq_true rfl) rfl ?_
    first | refine rs_ld_pa rfl rfl rfl rfl (Nat.le_of_ble_eq_true rfl) rfl ?_ | refine rs_ld_ra rfl rfl (Nat.le_of_ble_eq_true rfl) rfl ?_ | refine rs_ld_ma rfl rfl rfl (by omega) (Nat.le_of_ble_eq_true rfl) rfl ?_
    refine rs_mv rfl rfl ?_
    refine rs_calln [] rfl rfl (fc78s hm.big hb.big (by omega)) (.cons (hv_same rfl) (.cons (hv_same rfl) (.cons (hv_same rfl) (.nil)))) rfl ?_
    refine rs_yield [(900, .lp r0 [(14, g), (6, .ptr 6 0 0), (3, .ptr 3 0 0), (4, .ptr 4 0 0), (5, .ptr 5 0 0)]), (6, .cells 3 1 [[iv (((k) : Nat) : Int)]] true), (3, .cells 3 1 [[iv step]] true), (4, .cells 26 3 [cV ⟨0, 0, 0⟩] true), (5, .cells 4 1 [[.bool false]] true)] rfl rfl rfl (y17_n g hg step (k) (by omega) (by omega) _ r0 h) (.cons (hv_same rfl) (.cons (hv_same rfl) .nil)) (.cons rfl (.cons rfl (.cons rfl (.cons rfl (.cons rfl (.nil)))))) (by simp [scopedHs, scopedOb, scopedL, scopedV, scopedE, hg, keysOf]) rfl rfl ?_
    refine rs_not rfl rfl ?_
    refine rs_nil fun _ => ?_
    refine th_n ?_
    refine aw_cond rfl (fun h => by cases h) (fun _ => ?_)
    refine aw_skip ?_
    refine in_n ?_
    refine th_n ?_
    refine aw_reg ?_
    first | refine rs_add rfl rfl rfl (by omega) ?_ | refine rs_addw rfl rfl rfl rfl ?_
    refine rs_mv rfl rfl ?_
    refine rs_nil fun _ => ?_
    refine th_n ?_
    exact ⟨k + 1, by omega, by omega, weak_to (.cons rfl (rc_same rfl (.inl rfl)) (.cons rfl (rc_same rfl (.inl rfl)) (.cons rfl (rc_same rfl (.inl rfl)) (.cons rfl (rc_same rfl (.inl rfl)) (.cons rfl (rc_same rfl (.inl rfl)) (.cons rfl (rc_same rfl (.inl rfl)) (.nil))))))) (.keep (rfl) (by simp [scopedOb, scopedL, scopedV, hg, keysOf]) (.keep (rfl) rfl (.keep (rfl) rfl (.keep (rfl) rfl (.keep (rfl) rfl (.nil)))))) (fun i hi => by simp [keysOf] at hi ⊢; omega)⟩
  · first | replace h9 := of_decide_eq_false h9 | skip
    refine aw_exit ?_
    refine th_e ?_
    refine th_e ?_
    refine in_hit ?_
    obtain rfl : k = n + 1 := by omega
    exact ret_own_e (by first | exact .inl rfl | exact .inr rfl) rfl (rc_same rfl (.inl rfl)) (.keep (rfl) (by simp [scopedOb, scopedL, scopedV, hg, keysOf]) (.keep (rfl) rfl (.keep (rfl) rfl (.keep (rfl) rfl (.keep (rfl) rfl (.nil)))))) (.cons rfl rfl rfl (.cons rfl rfl rfl (.cons rfl rfl rfl (.cons rfl rfl rfl (.cons rfl rfl rfl (.nil))))))

theorem fc77_at_s (g : AV) (hg : ∀ D, scopedV D g = true) (step : Int) (m : Mv) (b : V3) (n : Nat) (hm : Bd 100 m.fr) (hb : Bd 100 b) (hn : n ≤ 100) (s : Nat) (hs : (s : Int) = step) (hsn : s ≤ n) (r0 : Loop) (h : Rec0 Try.prog 23 [15] as17 bd17 r0) : FC Try.prog 77 [.yl 900, .rp [iv (n : Int)], .rp (cM m), .rp (cV b)] [(900, .lp r0 [(14, g), (6, .ptr 6 0 0), (3, .ptr 3 0 0), (4, .ptr 4 0 0), (5, .ptr 5 0 0)]), (6, .cells 3 1 [[iv (((0) : Nat) : Int)]] true), (3, .cells 3 1 [[iv step]] true), (4, .cells 26 3 [cV ⟨0, 0, 0⟩] true), (5, .cells 4 1 [[.bool false]] true)] (.tup []) [(900, .lp { r0 with state := .done, pending := some .ret } [(14, g), (6, .ptr 6 0 0), (3, .ptr 3 0 0), (4, .ptr 4 0 0), (5, .ptr 5 0 0)]), (6, .cells 3 1 [[iv (((s) : Nat) : Int)]] true), (3, .cells 3 1 [[iv step]] true), (4, .cells 26 3 [cV (plus m.fr b (s : Int))] true), (5, .cells 4 1 [[.bool true]] true)] true := by
  refine fc_run (nt := 21) Try.func77 rfl rfl mcOk77 (Nat.le_of_ble_eq_true rfl) ?_
  delta mc77
  refine aw_seq ?_
  refine aw_reg ?_
  first | refine rs_ld_r rfl rfl rfl ?_ | refine rs_ld_p rfl rfl rfl rfl rfl ?_ | refine rs_ld_m rfl rfl rfl (by omega) rfl ?_
  first | refine rs_add rfl rfl rfl (by omega) ?_ | refine rs_addw rfl rfl rfl rfl ?_
  refine rs_mv rfl rfl ?_
  refine rs_nil fun _ => ?_
  refine th_n ?_
  refine aw_block ?_
  refine aw_fam (α := Nat) (fun k => n + 1 - k) (fun k => [(0, .yl 900), (1, .rp [iv (n : Int)]), (2, .rp (cM m)), (3, .rp (cV b)), (7, iv ((n : Int) + 1)), (8, iv (((k) : Nat) : Int))]) (fun k => [(900, .lp r0 [(14, g), (6, .ptr 6 0 0), (3, .ptr 3 0 0), (4, .ptr 4 0 0), (5, .ptr 5 0 0)]), (6, .cells 3 1 [[iv (((k) : Nat) : Int)]] true), (3, .cells 3 1 [[iv step]] true), (4, .cells 26 3 [cV ⟨0, 0, 0⟩] true), (5, .cells 4 1 [[.bool false]] true)]) (fun k => k ≤ s) 0 (by omega)
    (weak_to (.cons rfl (rc_same rfl (.inl rfl)) (.cons rfl (rc_same rfl (.inl rfl)) (.cons rfl (rc_same rfl (.inl rfl)) (.cons rfl (rc_same rfl (.inl rfl)) (.cons rfl (rc_same rfl (.inl rfl)) (.cons rfl (rc_same rfl (.inl rfl)) (.nil))))))) (.keep (rfl) (by simp [scopedOb, scopedL, scopedV, hg, keysOf]) (.keep (rfl) rfl (.keep (rfl) rfl (.keep (rfl) rfl (.keep (rfl) rfl (.nil)))))) (fun i hi => by simp [keysOf] at hi ⊢; omega)) ?_
  intro k hk
  refine aw_seq ?_
  refine aw_reg ?_
  refine rs_lss rfl rfl rfl ?_
  refine rs_nil fun _ => ?_
  refine th_n ?_
  refine aw_seq ?_
  refine aw_cond rfl (fun h9 => ?_) (fun h9 => ?_)
  · first | replace h9 := of_decide_eq_true h9 | skip
    refine aw_skip ?_
    refine th_n ?_
    refine aw_seq ?_
    refine aw_block ?_
    refine aw_seq ?_
    refine aw_reg ?_
    refine rs_mv rfl rfl ?_
    refine rs_mv rfl rfl ?_
    refine rs_nil fun _ => ?_
    refine th_n ?_
    refine aw_seq ?_
    refine aw_reg ?_
    refine rs_mv rfl rfl ?_
    first | refine rs_fa_p rfl rfl ?_ | refine rs_fa_r rfl rfl rfl ?_
    first | refine rs_fa_p rfl rfl ?_ | refine rs_fa_r rfl rfl rfl ?_
    first | refine rs_ld_pa rfl rfl rfl rfl (Nat.le_of_ble_eq_true rfl) rfl ?_ | refine rs_ld_ra rfl rfl (Nat.le_of_ble_eq_true rfl) rfl ?_ | refine rs_ld_ma rfl rfl rfl (by omega) (Nat.le_of_ble_eq_true rfl) rfl ?_
    first | refine rs_ld_pa rfl rfl rfl rfl (Nat.le_of_ble_eq_true rfl) rfl ?_ | refine rs_ld_ra rfl rfl (Nat.le_of_ble_eq_true rfl) rfl ?_ | refine rs_ld_ma rfl rfl rfl (by omega) (Nat.le_of_ble_eq_true rfl) rfl ?_
    refine rs_mv rfl rfl ?_
    refine rs_calln [] rfl rfl (fc78s hm.big hb.big (by omega)) (.cons (hv_same rfl) (.cons (hv_same rfl) (.cons (hv_same rfl) (.nil)))) rfl ?_
    rcases Nat.lt_or_ge k s with hks | hks
    · skip
      refine rs_yield [(900, .lp r0 [(14, g), (6, .ptr 6 0 0), (3, .ptr 3 0 0), (4, .ptr 4 0 0), (5, .ptr 5 0 0)]), (6, .cells 3 1 [[iv (((k) : Nat) : Int)]] true), (3, .cells 3 1 [[iv step]] true), (4, .cells 26 3 [cV ⟨0, 0, 0⟩] true), (5, .cells 4 1 [[.bool false]] true)] rfl rfl rfl (y17_n g hg step (k) (by omega) (by omega) _ r0 h) (.cons (hv_same rfl) (.cons (hv_same rfl) .nil)) (.cons rfl (.cons rfl (.cons rfl (.cons rfl (.cons rfl (.nil)))))) (by simp [scopedHs, scopedOb, scopedL, scopedV, scopedE, hg, keysOf]) rfl rfl ?_
      refine rs_not rfl rfl ?_
      refine rs_nil fun _ => ?_
      refine th_n ?_
      refine aw_cond rfl (fun h => by cases h) (fun _ => ?_)
      refine aw_skip ?_
      refine in_n ?_
      refine th_n ?_
      refine aw_reg ?_
      first | refine rs_add rfl rfl rfl (by omega) ?_ | refine rs_addw rfl rfl rfl rfl ?_
      refine rs_mv rfl rfl ?_
      refine rs_nil fun _ => ?_
      refine th_n ?_
      exact ⟨k + 1, by omega, by omega, weak_to (.cons rfl (rc_same rfl (.inl rfl)) (.cons rfl (rc_same rfl (.inl rfl)) (.cons rfl (rc_same rfl (.inl rfl)) (.cons rfl (rc_same rfl (.inl rfl)) (.cons rfl (rc_same rfl (.inl rfl)) (.cons rfl (rc_same rfl (.inl rfl)) (.nil))))))) (.keep (rfl) (by simp [scopedOb, scopedL, scopedV, hg, keysOf]) (.keep (rfl) rfl (.keep (rfl) rfl (.keep (rfl) rfl (.keep (rfl) rfl (.nil)))))) (fun i hi => by simp [keysOf] at hi ⊢; omega)⟩
    · have hks2 : k = s := by omega
      subst hks2
      refine rs_yield [(900, .lp r0 [(14, g), (6, .ptr 6 0 0), (3, .ptr 3 0 0), (4, .ptr 4 0 0), (5, .ptr 5 0 0)]), (6, .cells 3 1 [[iv (((k) : Nat) : Int)]] true), (3, .cells 3 1 [[iv step]] true), (4, .cells 26 3 [cV ⟨0, 0, 0⟩] true), (5, .cells 4 1 [[.bool false]] true)] rfl rfl rfl (y17_s g hg step k (by omega) hs (plus m.fr b (k : Int)) r0 h) (.cons (hv_same rfl) (.cons (hv_same rfl) .nil)) (.cons rfl (.cons rfl (.cons rfl (.cons rfl (.cons rfl (.nil)))))) (by simp [scopedHs, scopedOb, scopedL, scopedV, scopedE, hg, keysOf]) rfl rfl ?_
      refine rs_not rfl rfl ?_
      refine rs_nil fun _ => ?_
      refine th_n ?_
      refine aw_cond rfl (fun _ => ?_) (fun h => by cases h)
      refine aw_ret ?_
      refine in_r ?_
      refine th_r ?_
      refine th_r ?_
      refine in_r ?_
      exact ret_own_e (by first | exact .inl rfl | exact .inr rfl) rfl (rc_same rfl (.inl rfl)) (.keep (rfl) (by simp [scopedOb, scopedL, scopedV, hg, keysOf]) (.keep (rfl) rfl (.keep (rfl) rfl (.keep (rfl) rfl (.keep (rfl) rfl (.nil)))))) (.cons rfl rfl rfl (.cons rfl rfl rfl (.cons rfl rfl rfl (.cons rfl rfl rfl (.cons rfl rfl rfl (.nil))))))
  · first | replace h9 := of_decide_eq_false h9 | skip
    refine aw_exit ?_
    refine th_e ?_
    refine th_e ?_
    refine in_hit ?_
    exfalso; omega

def mc85 : MC := (.seq (.reg [⟨(some 8), (.ld false 1 (.t 1)), none, []⟩, ⟨(some 6), (.mv (.t 8)), none, [0, 0]⟩] false) (.seq (.reg [⟨(some 9), (.ld false 1 (.t 1)), none, []⟩, ⟨(some 10), (.bin .add (.t 9) (.c (.int .i64 1))), none, [0]⟩, ⟨(some 11), (.mv (.c (.int .i64 0))), none, []⟩] false) (.block 0 (.loop (.seq (.reg [⟨(some 12), (.bin .lss (.t 11) (.t 10)), none, []⟩] false) (.seq (.cond (.t 12) .skip (.exit 0)) (.seq (.block 1 (.seq (.reg [⟨(some 13), (.mv (.t 11)), none, []⟩, ⟨(some 7), (.mv (.t 13)), none, [0, 0]⟩] false) (.seq (.block 2 (.loop (.seq (.seq (.reg [⟨(some 14), (.mv (.t 6)), none, []⟩, ⟨(some 15), (.mv (.t 6)), none, []⟩, ⟨(some 16), (.bin .mul (.t 14) (.t 15)), none, [0, 1]⟩, ⟨(some 17), (.mv (.t 7)), none, []⟩, ⟨(some 18), (.mv (.t 7)), none, []⟩, ⟨(some 19), (.bin .mul (.t 17) (.t 18)), none, [3, 4]⟩, ⟨(some 20), (.bin .add (.t 16) (.t 19)), none, [2, 5]⟩, ⟨(some 21), (.ld false 1 (.t 1)), none, []⟩, ⟨(some 22), (.ld false 1 (.t 1)), none, []⟩, ⟨(some 23), (.bin .mul (.t 21) (.t 22)), none, [7, 8]⟩, ⟨(some 24), (.bin .gtr (.t 20) (.t 23)), none, [6, 9]⟩] false) (.cond (.t 24) .skip (.exit 2))) (.block 3 (.reg [⟨(some 25), (.mv (.t 6)), none, []⟩, ⟨(some 26), (.bin .sub (.t 25) (.c (.int .i64 1))), none, [0]⟩, ⟨(some 6), (.mv (.t 26)), none, [1, 0, 1]⟩] false))))) (.seq (.reg [⟨(some 27), (.mv (.t 6)), none, []⟩, ⟨(some 28), (.mv (.t 6)), none, []⟩, ⟨(some 29), (.bin .mul (.t 27) (.t 28)), none, [0, 1]⟩, ⟨(some 30), (.mv (.t 7)), none, []⟩, ⟨(some 31), (.mv (.t 7)), none, []⟩, ⟨(some 32), (.bin .mul (.t 30) (.t 31)), none, [3, 4]⟩, ⟨(some 33), (.bin .add (.t 29) (.t 32)), none, [2, 5]⟩, ⟨(some 34), (.ld false 1 (.t 1)), none, []⟩, ⟨(some 35), (.ld false 1 (.t 1)), none, []⟩, ⟨(some 36), (.bin .mul (.t 34) (.t 35)), none, [7, 8]⟩, ⟨(some 37), (.bin .eql (.t 33) (.t 36)), none, [6, 9]⟩, ⟨(some 38), (.mv (.t 37)), none, [10]⟩, ⟨(some 39), (.mv (.t 0)), (some (38, true)), [11]⟩, ⟨(some 40), (.ld true 3 (.t 2)), (some (38, true)), [11]⟩, ⟨(some 41), (.ld true 3 (.t 3)), (some (38, true)), [11]⟩, ⟨(some 42), (.mv (.t 6)), (some (38, true)), [11]⟩, ⟨(some 43), (.call 78 [(.t 40), (.t 41), (.t 42)]), (some (38, true)), [13, 14, 15, 11, 11]⟩, ⟨(some 44), (.ld true 3 (.t 4)), (some (38, true)), [11]⟩, ⟨(some 45), (.mv (.t 7)), (some (38, true)), [11]⟩, ⟨(some 46), (.call 78 [(.t 43), (.t 44), (.t 45)]), (some (38, true)), [16, 17, 18, 16, 11]⟩, ⟨(some 47), (.callv (.t 39) [(.t 46)]), (some (38, true)), [12, 19, 19, 11]⟩, ⟨(some 48), (.un .not (.t 47)), (some (38, true)), [20, 11]⟩, ⟨(some 49), (.pick (.t 38) (.t 48) (.c (.bool false))), none, [11, 21]⟩] true) (.cond (.t 49) .ret .skip))))) (.reg [⟨(some 50), (.bin .add (.t 11) (.c (.int .i64 1))), none, []⟩, ⟨(some 11), (.mv (.t 50)), none, [0]⟩] false))))))))
theorem mcOk85 : (match Try.f85.body with | some c => compC Try.prog 51 c | none => none) = some mc85 := by kernel_rfl

theorem fc85_app (g : AV) (hg : ∀ D, scopedV D g = true) (c a b : V3) (r : Nat) (hc : Bd 100 c) (ha : Bd 100 a) (hb : Bd 100 b) (hr : r ≤ 100) (r0 : Loop) (h : Rec0 Try.prog 13 [7] as56 bd56 r0) : FC Try.prog 85 [.yl 900, .rp [iv (r : Int)], .rp (cV c), .rp (cV a), .rp (cV b)] [(900, .lp r0 [(6, g), (2, .ptr 2 0 0)]), (2, .cells 42 1 [[.sl 901 0 (([] : List V3)).length]] false), (901, .cells 26 3 ((([] : List V3)).map cV) true)] (.tup []) [(900, .lp r0 [(6, g), (2, .ptr 2 0 0)]), (2, .cells 42 1 [[.sl 903 0 (arcV c a b r (r + 1)).length]] false), (903, .cells 26 3 ((arcV c a b r (r + 1)).map cV) true), (901, .dead)] true := by
  refine fc_run (nt := 51) Try.func85 rfl rfl mcOk85 (Nat.le_of_ble_eq_true rfl) ?_
  delta mc85
  refine aw_seq ?_
  refine aw_reg ?_
  first | refine rs_ld_r rfl rfl rfl ?_ | refine rs_ld_p rfl rfl rfl rfl rfl ?_ | refine rs_ld_m rfl rfl rfl (by omega) rfl ?_
  refine rs_mv rfl rfl ?_
  refine rs_nil fun _ => ?_
  refine th_n ?_
  refine aw_seq ?_
  refine aw_reg ?_
  first | refine rs_ld_r rfl rfl rfl ?_ | refine rs_ld_p rfl rfl rfl rfl rfl ?_ | refine rs_ld_m rfl rfl rfl (by omega) rfl ?_
  first | refine rs_add rfl rfl rfl (by omega) ?_ | refine rs_addw rfl rfl rfl rfl ?_
  refine rs_mv rfl rfl ?_
  refine rs_nil fun _ => ?_
  refine th_n ?_
  refine aw_block ?_
  refine aw_fam (α := Nat) (fun j => r + 1 - j) (fun j => [(0, .yl 900), (1, .rp [iv (r : Int)]), (2, .rp (cV c)), (3, .rp (cV a)), (4, .rp (cV b)), (10, iv ((r : Int) + 1)), (6, iv ((iP r (j) : Nat) : Int)), (11, iv (((j) : Nat) : Int))]) (fun j => [(900, .lp r0 [(6, g), (2, .ptr 2 0 0)]), (2, .cells 42 1 [[.sl 903 0 (arcV c a b r (j)).length]] false), (903, .cells 26 3 ((arcV c a b r (j)).map cV) true), (901, .dead)]) (fun j => j ≤ r + 1) 0 (by omega)
    ((Weak.trans (F1 := [(0, .yl 900), (1, .rp [iv (r : Int)]), (2, .rp (cV c)), (3, .rp (cV a)), (4, .rp (cV b)), (10, iv ((r : Int) + 1)), (6, iv ((iP r (0) : Nat) : Int)), (11, iv (((0) : Nat) : Int))]) (H1 := [(900, .lp r0 [(6, g), (2, .ptr 2 0 0)]), (2, .cells 42 1 [[.sl 901 0 (([] : List V3)).length]] false), (901, .cells 26 3 ((([] : List V3)).map cV) true)]) (weak_to (.cons rfl (rc_same rfl (.inl rfl)) (.cons rfl (rc_same rfl (.inl rfl)) (.cons rfl (rc_same rfl (.inl rfl)) (.cons rfl (rc_same rfl (.inl rfl)) (.cons rfl (rc_same rfl (.inl rfl)) (.cons rfl (rc_same rfl (.inl rfl)) (.cons rfl (rc_same rfl (.inl rfl)) (.cons rfl (rc_same rfl (.inl rfl)) (.nil))))))))) (.keep (rfl) (by simp [scopedOb, scopedL, scopedV, hg, keysOf]) (.keep (rfl) rfl (.keep (rfl) rfl (.nil)))) (fun i hi => by simp [keysOf] at hi ⊢; omega)) (Weak.trans (F1 := [(0, .yl 900), (1, .rp [iv (r : Int)]), (2, .rp (cV c)), (3, .rp (cV a)), (4, .rp (cV b)), (10, iv ((r : Int) + 1)), (6, iv ((iP r (0) : Nat) : Int)), (11, iv (((0) : Nat) : Int))]) (weak_ren_cell (i := 901) (i' := 903) (k := 2) rfl rfl (.cons rfl (.same _) (.cons rfl (.same _) (.cons rfl (.same _) (.cons rfl (.same _) (.cons rfl (.same _) (.cons rfl (.same _) (.cons rfl (.same _) (.cons rfl (.same _) (.nil))))))))) (by decide) rfl (.sl _ _)) (weak_to (.cons rfl (rc_same rfl (.inl rfl)) (.cons rfl (rc_same rfl (.inl rfl)) (.cons rfl (rc_same rfl (.inl rfl)) (.cons rfl (rc_same rfl (.inl rfl)) (.cons rfl (rc_same rfl (.inl rfl)) (.cons rfl (rc_same rfl (.inl rfl)) (.cons rfl (rc_same rfl (.inl rfl)) (.cons rfl (rc_same rfl (.inl rfl)) (.nil))))))))) (.keep (rfl) (by simp [scopedOb, scopedL, scopedV, hg, keysOf]) (.keep (rfl) rfl (.keep (rfl) rfl (.keep (rfl) rfl (.nil))))) (fun i hi => by simp [keysOf] at hi ⊢; omega))))) ?_
  intro j hj
  have q3 := sq_le hr
  refine aw_seq ?_
  refine aw_reg ?_
  refine rs_lss rfl rfl rfl ?_
  refine rs_nil fun _ => ?_
  refine th_n ?_
  refine aw_seq ?_
  refine aw_cond rfl (fun h12 => ?_) (fun h12 => ?_)
  · first | replace h12 := of_decide_eq_true h12 | skip
    refine aw_skip ?_
    refine th_n ?_
    refine aw_seq ?_
    refine aw_block ?_
    refine aw_seq ?_
    refine aw_reg ?_
    refine rs_mv rfl rfl ?_
    refine rs_mv rfl rfl ?_
    refine rs_nil fun _ => ?_
    refine th_n ?_
    refine aw_seq ?_
    refine aw_block ?_
    refine aw_fam (α := Nat) (fun i => i) (fun i => [(0, .yl 900), (1, .rp [iv (r : Int)]), (2, .rp (cV c)), (3, .rp (cV a)), (4, .rp (cV b)), (10, iv ((r : Int) + 1)), (6, iv (((i) : Nat) : Int)), (7, iv (j : Int)), (11, iv (((j) : Nat) : Int))]) (fun i => [(900, .lp r0 [(6, g), (2, .ptr 2 0 0)]), (2, .cells 42 1 [[.sl 903 0 (arcV c a b r (j)).length]] false), (903, .cells 26 3 ((arcV c a b r (j)).map cV) true), (901, .dead)]) (fun i => dn r j i = iP r (j + 1) ∧ i ≤ r) (iP r j) (⟨rfl, iP_le r j⟩)
      (weak_to (.cons rfl (rc_same rfl (.inl rfl)) (.cons rfl (rc_same rfl (.inl rfl)) (.cons rfl (rc_same rfl (.inl rfl)) (.cons rfl (rc_same rfl (.inl rfl)) (.cons rfl (rc_same rfl (.inl rfl)) (.cons rfl (rc_same rfl (.inl rfl)) (.cons rfl (rc_same rfl (.inl rfl)) (.cons rfl (rc_same rfl (.inl rfl)) (.cons rfl (rc_same rfl (.inl rfl)) (.nil)))))))))) (.keep (rfl) (by simp [scopedOb, scopedL, scopedV, hg, keysOf]) (.keep (rfl) rfl (.keep (rfl) rfl (.keep (rfl) rfl (.nil))))) (fun i hi => by simp [keysOf] at hi ⊢; omega)) ?_
    rintro i ⟨hi, hir⟩
    have q1 := sq_le hir
    have q2 := sq_le (i := j) (r := r) (by omega)
    refine aw_seq ?_
    refine aw_seq ?_
    refine aw_reg ?_
    refine rs_mv rfl rfl ?_
    refine rs_mv rfl rfl ?_
    refine rs_mulw rfl rfl rfl (sqW (by omega)) ?_
    refine rs_mv rfl rfl ?_
    refine rs_mv rfl rfl ?_
    refine rs_mulw rfl rfl rfl (sqW (by omega)) ?_
    refine rs_add rfl rfl rfl (by omega) ?_
    first | refine rs_ld_r rfl rfl rfl ?_ | refine rs_ld_p rfl rfl rfl rfl rfl ?_ | refine rs_ld_m rfl rfl rfl (by omega) rfl ?_
    first | refine rs_ld_r rfl rfl rfl ?_ | refine rs_ld_p rfl rfl rfl rfl rfl ?_ | refine rs_ld_m rfl rfl rfl (by omega) rfl ?_
    refine rs_mulw rfl rfl rfl (sqW (by omega)) ?_
    refine rs_gtr rfl rfl rfl ?_
    refine rs_nil fun _ => ?_
    refine th_n ?_
    refine aw_cond rfl (fun h24 => ?_) (fun h24 => ?_)
    · first | replace h24 := of_decide_eq_true h24 | skip
      refine aw_skip ?_
      refine th_n ?_
      refine aw_block ?_
      refine aw_reg ?_
      refine rs_mv rfl rfl ?_
      first | refine rs_sub rfl rfl rfl (by omega) ?_ | refine rs_subw rfl rfl rfl rfl ?_
      refine rs_mv rfl rfl ?_
      refine rs_nil fun _ => ?_
      refine in_n ?_
      refine th_n ?_
      rcases Nat.eq_zero_or_pos i with h0 | h0
      · exfalso; subst h0; omega
      obtain ⟨i, rfl⟩ : ∃ i0, i = i0 + 1 := ⟨i - 1, by omega⟩
      have hdn := dn_next (r := r) (j := j) (i := i) (by rw [← Int.natCast_add] at h24; exact Int.ofNat_lt.1 h24)
      exact ⟨i, ⟨by rw [← hdn]; exact hi, by omega⟩, by omega, weak_to (.cons rfl (rc_same rfl (.inl rfl)) (.cons rfl (rc_same rfl (.inl rfl)) (.cons rfl (rc_same rfl (.inl rfl)) (.cons rfl (rc_same rfl (.inl rfl)) (.cons rfl (rc_same rfl (.inl rfl)) (.cons rfl (rc_same rfl (.inl rfl)) (.cons rfl (rc_int (by omega)) (.cons rfl (rc_same rfl (.inl rfl)) (.cons rfl (rc_same rfl (.inl rfl)) (.nil)))))))))) (.keep (rfl) (by simp [scopedOb, scopedL, scopedV, hg, keysOf]) (.keep (rfl) rfl (.keep (rfl) rfl (.keep (rfl) rfl (.nil))))) (fun i hi => by simp [keysOf] at hi ⊢; omega)⟩
    · first | replace h24 := of_decide_eq_false h24 | skip
      refine aw_exit ?_
      refine th_e ?_
      refine th_e ?_
      refine in_hit ?_
      refine th_n ?_
      refine aw_seq ?_
      refine aw_draw hmix ?_
      rw [dn_stop (by omega)] at hi
      subst hi
      refine rs_mv rfl rfl ?_
      refine rs_mv rfl rfl ?_
      refine rs_mulw rfl rfl rfl (sqW (by omega)) ?_
      refine rs_mv rfl rfl ?_
      refine rs_mv rfl rfl ?_
      refine rs_mulw rfl rfl rfl (sqW (by omega)) ?_
      refine rs_add rfl rfl rfl (by omega) ?_
      first | refine rs_ld_r rfl rfl rfl ?_ | refine rs_ld_p rfl rfl rfl rfl rfl ?_ | refine rs_ld_m rfl rfl rfl (by omega) rfl ?_
      first | refine rs_ld_r rfl rfl rfl ?_ | refine rs_ld_p rfl rfl rfl rfl rfl ?_ | refine rs_ld_m rfl rfl rfl (by omega) rfl ?_
      refine rs_mulw rfl rfl rfl (sqW (by omega)) ?_
      refine rs_cmp rfl rfl rfl rfl (fun h37 => ?_) (fun h37 => ?_)
      · skip
        have hcond : iP r (j + 1) * iP r (j + 1) + j * j = r * r := by rw [← Int.natCast_add] at h37; exact Int.ofNat_inj.1 h37
        refine rs_mv rfl rfl ?_
        refine rs_mv rfl rfl ?_
        first | refine rs_ld_pa rfl rfl rfl rfl (Nat.le_of_ble_eq_true rfl) rfl ?_ | refine rs_ld_ra rfl rfl (Nat.le_of_ble_eq_true rfl) rfl ?_ | refine rs_ld_ma rfl rfl rfl (by omega) (Nat.le_of_ble_eq_true rfl) rfl ?_
        first | refine rs_ld_pa rfl rfl rfl rfl (Nat.le_of_ble_eq_true rfl) rfl ?_ | refine rs_ld_ra rfl rfl (Nat.le_of_ble_eq_true rfl) rfl ?_ | refine rs_ld_ma rfl rfl rfl (by omega) (Nat.le_of_ble_eq_true rfl) rfl ?_
        refine rs_mv rfl rfl ?_
        refine rs_calln [] rfl rfl (fc78s hc.big ha.big (by omega)) (.cons (hv_same rfl) (.cons (hv_same rfl) (.cons (hv_same rfl) (.nil)))) rfl ?_
        first | refine rs_ld_pa rfl rfl rfl rfl (Nat.le_of_ble_eq_true rfl) rfl ?_ | refine rs_ld_ra rfl rfl (Nat.le_of_ble_eq_true rfl) rfl ?_ | refine rs_ld_ma rfl rfl rfl (by omega) (Nat.le_of_ble_eq_true rfl) rfl ?_
        refine rs_mv rfl rfl ?_
        refine rs_calln [] rfl rfl (fc78s (Bd.plus hc ha (q := 100) (by omega)).big hb.big (by omega)) (.cons (hv_same rfl) (.cons (hv_same rfl) (.cons (hv_same rfl) (.nil)))) rfl ?_
        refine rs_yield [(900, .lp r0 [(6, g), (2, .ptr 2 0 0)]), (2, .cells 42 1 [[.sl 903 0 (arcV c a b r (j)).length]] false), (903, .cells 26 3 ((arcV c a b r (j)).map cV) true)] rfl rfl rfl (y56 g hg (arcV c a b r (j)) (by have := arcV_len c a b r j; omega) (plus (plus c a ((iP r (j + 1) : Nat) : Int)) b (j : Int)) r0 h) (.cons (hv_same rfl) (.cons (hv_same rfl) .nil)) (.cons rfl (.cons rfl (.cons rfl (.nil)))) (by simp [scopedHs, scopedOb, scopedL, scopedV, scopedE, hg, keysOf]) rfl rfl ?_
        refine rs_not rfl rfl ?_
        refine rs_pick rfl rfl rfl ?_
        refine rs_nil ⟨by kernel_rfl, fun _ => ?_⟩
        refine th_n ?_
        refine aw_cond rfl (fun h => by cases h) (fun _ => ?_)
        refine aw_skip ?_
        refine in_n ?_
        refine th_n ?_
        refine aw_reg ?_
        first | refine rs_add rfl rfl rfl (by omega) ?_ | refine rs_addw rfl rfl rfl rfl ?_
        refine rs_mv rfl rfl ?_
        refine rs_nil fun _ => ?_
        refine th_n ?_
        first
          | (have e := arcV_t (c := c) (a := a) (b := b) rfl hcond
             exact ⟨j + 1, by omega, by omega, (Weak.trans (F1 := [(0, .yl 900), (1, .rp [iv (r : Int)]), (2, .rp (cV c)), (3, .rp (cV a)), (4, .rp (cV b)), (10, iv ((r : Int) + 1)), (6, iv ((iP r (j + 1) : Nat) : Int)), (11, iv (((j + 1) : Nat) : Int))]) (H1 := [(900, .lp r0 [(6, g), (2, .ptr 2 0 0)]), (2, .cells 42 1 [[.sl 11 0 (arcV c a b r (j) ++ [(plus (plus c a ((iP r (j + 1) : Nat) : Int)) b (j : Int))]).length]] false), (11, .cells 26 3 ((arcV c a b r (j) ++ [(plus (plus c a ((iP r (j + 1) : Nat) : Int)) b (j : Int))]).map cV) true), (901, .dead)]) (weak_to (.cons rfl (rc_same rfl (.inl rfl)) (.cons rfl (rc_same rfl (.inl rfl)) (.cons rfl (rc_same rfl (.inl rfl)) (.cons rfl (rc_same rfl (.inl rfl)) (.cons rfl (rc_same rfl (.inl rfl)) (.cons rfl (rc_same rfl (.inl rfl)) (.cons rfl (rc_same rfl (.inl rfl)) (.cons rfl (rc_same rfl (.inl rfl)) (.nil))))))))) (.keep (rfl) (by simp [scopedOb, scopedL, scopedV, hg, keysOf]) (.keep (rfl) rfl (.keep (rfl) rfl (.keep (rfl) rfl (.nil))))) (fun i hi => by simp [keysOf] at hi ⊢; omega)) (Weak.trans (F1 := [(0, .yl 900), (1, .rp [iv (r : Int)]), (2, .rp (cV c)), (3, .rp (cV a)), (4, .rp (cV b)), (10, iv ((r : Int) + 1)), (6, iv ((iP r (j + 1) : Nat) : Int)), (11, iv (((j + 1) : Nat) : Int))]) (weak_ren_cell (i := 11) (i' := 903) (k := 2) rfl rfl (.cons rfl (.same _) (.cons rfl (.same _) (.cons rfl (.same _) (.cons rfl (.same _) (.cons rfl (.same _) (.cons rfl (.same _) (.cons rfl (.same _) (.cons rfl (.same _) (.nil))))))))) (by decide) rfl (.sl _ _)) (weak_to (.cons rfl (rc_same rfl (.inl rfl)) (.cons rfl (rc_same rfl (.inl rfl)) (.cons rfl (rc_same rfl (.inl rfl)) (.cons rfl (rc_same rfl (.inl rfl)) (.cons rfl (rc_same rfl (.inl rfl)) (.cons rfl (rc_same rfl (.inl rfl)) (.cons rfl (rc_same rfl (.inl rfl)) (.cons rfl (rc_same rfl (.inl rfl)) (.nil))))))))) (.keep (rfl) (by simp [scopedOb, scopedL, scopedV, hg, keysOf]) (.keep (by rw [e]; rfl) rfl (.keep (by rw [e]; rfl) rfl (.keep (rfl) rfl (.nil))))) (fun i hi => by simp [keysOf] at hi ⊢; omega))))⟩)
          | (have e := arcV_f (c := c) (a := a) (b := b) rfl hcond
             exact ⟨j + 1, by omega, by omega, weak_to (.cons rfl (rc_same rfl (.inl rfl)) (.cons rfl (rc_same rfl (.inl rfl)) (.cons rfl (rc_same rfl (.inl rfl)) (.cons rfl (rc_same rfl (.inl rfl)) (.cons rfl (rc_same rfl (.inl rfl)) (.cons rfl (rc_same rfl (.inl rfl)) (.cons rfl (rc_same rfl (.inl rfl)) (.cons rfl (rc_same rfl (.inl rfl)) (.nil))))))))) (.keep (rfl) (by simp [scopedOb, scopedL, scopedV, hg, keysOf]) (.keep (by rw [e]; rfl) rfl (.keep (by rw [e]; rfl) rfl (.keep (rfl) rfl (.nil))))) (fun i hi => by simp [keysOf] at hi ⊢; omega)⟩)
      · skip
        have hcond : ¬ iP r (j + 1) * iP r (j + 1) + j * j = r * r := fun e => h37 (by rw [← Int.natCast_add, e])
        refine rs_mv rfl rfl ?_
        refine rs_skip rfl ?_
        refine rs_skip rfl ?_
        refine rs_skip rfl ?_
        refine rs_skip rfl ?_
        refine rs_skip rfl ?_
        refine rs_skip rfl ?_
        refine rs_skip rfl ?_
        refine rs_skip rfl ?_
        refine rs_skip rfl ?_
        refine rs_skip rfl ?_
        refine rs_pick rfl rfl rfl ?_
        refine rs_nil ⟨by kernel_rfl, fun _ => ?_⟩
        refine th_n ?_
        refine aw_cond rfl (fun h => by cases h) (fun _ => ?_)
        refine aw_skip ?_
        refine in_n ?_
        refine th_n ?_
        refine aw_reg ?_
        first | refine rs_add rfl rfl rfl (by omega) ?_ | refine rs_addw rfl rfl rfl rfl ?_
        refine rs_mv rfl rfl ?_
        refine rs_nil fun _ => ?_
        refine th_n ?_
        first
          | (have e := arcV_t (c := c) (a := a) (b := b) rfl hcond
             exact ⟨j + 1, by omega, by omega, (Weak.trans (F1 := [(0, .yl 900), (1, .rp [iv (r : Int)]), (2, .rp (cV c)), (3, .rp (cV a)), (4, .rp (cV b)), (10, iv ((r : Int) + 1)), (6, iv ((iP r (j + 1) : Nat) : Int)), (11, iv (((j + 1) : Nat) : Int))]) (H1 := [(900, .lp r0 [(6, g), (2, .ptr 2 0 0)]), (2, .cells 42 1 [[.sl 11 0 (arcV c a b r (j) ++ [(plus (plus c a ((iP r (j + 1) : Nat) : Int)) b (j : Int))]).length]] false), (11, .cells 26 3 ((arcV c a b r (j) ++ [(plus (plus c a ((iP r (j + 1) : Nat) : Int)) b (j : Int))]).map cV) true), (901, .dead)]) (weak_to (.cons rfl (rc_same rfl (.inl rfl)) (.cons rfl (rc_same rfl (.inl rfl)) (.cons rfl (rc_same rfl (.inl rfl)) (.cons rfl (rc_same rfl (.inl rfl)) (.cons rfl (rc_same rfl (.inl rfl)) (.cons rfl (rc_same rfl (.inl rfl)) (.cons rfl (rc_same rfl (.inl rfl)) (.cons rfl (rc_same rfl (.inl rfl)) (.nil))))))))) (.keep (rfl) (by simp [scopedOb, scopedL, scopedV, hg, keysOf]) (.keep (rfl) rfl (.keep (rfl) rfl (.keep (rfl) rfl (.nil))))) (fun i hi => by simp [keysOf] at hi ⊢; omega)) (Weak.trans (F1 := [(0, .yl 900), (1, .rp [iv (r : Int)]), (2, .rp (cV c)), (3, .rp (cV a)), (4, .rp (cV b)), (10, iv ((r : Int) + 1)), (6, iv ((iP r (j + 1) : Nat) : Int)), (11, iv (((j + 1) : Nat) : Int))]) (weak_ren_cell (i := 11) (i' := 903) (k := 2) rfl rfl (.cons rfl (.same _) (.cons rfl (.same _) (.cons rfl (.same _) (.cons rfl (.same _) (.cons rfl (.same _) (.cons rfl (.same _) (.cons rfl (.same _) (.cons rfl (.same _) (.nil))))))))) (by decide) rfl (.sl _ _)) (weak_to (.cons rfl (rc_same rfl (.inl rfl)) (.cons rfl (rc_same rfl (.inl rfl)) (.cons rfl (rc_same rfl (.inl rfl)) (.cons rfl (rc_same rfl (.inl rfl)) (.cons rfl (rc_same rfl (.inl rfl)) (.cons rfl (rc_same rfl (.inl rfl)) (.cons rfl (rc_same rfl (.inl rfl)) (.cons rfl (rc_same rfl (.inl rfl)) (.nil))))))))) (.keep (rfl) (by simp [scopedOb, scopedL, scopedV, hg, keysOf]) (.keep (by rw [e]; rfl) rfl (.keep (by rw [e]; rfl) rfl (.keep (rfl) rfl (.nil))))) (fun i hi => by simp [keysOf] at hi ⊢; omega))))⟩)
          | (have e := arcV_f (c := c) (a := a) (b := b) rfl hcond
             exact ⟨j + 1, by omega, by omega, weak_to (.cons rfl (rc_same rfl (.inl rfl)) (.cons rfl (rc_same rfl (.inl rfl)) (.cons rfl (rc_same rfl (.inl rfl)) (.cons rfl (rc_same rfl (.inl rfl)) (.cons rfl (rc_same rfl (.inl rfl)) (.cons rfl (rc_same rfl (.inl rfl)) (.cons rfl (rc_same rfl (.inl rfl)) (.cons rfl (rc_same rfl (.inl rfl)) (.nil))))))))) (.keep (rfl) (by simp [scopedOb, scopedL, scopedV, hg, keysOf]) (.keep (by rw [e]; rfl) rfl (.keep (by rw [e]; rfl) rfl (.keep (rfl) rfl (.nil))))) (fun i hi => by simp [keysOf] at hi ⊢; omega)⟩)
  · first | replace h12 := of_decide_eq_false h12 | skip
    refine aw_exit ?_
    refine th_e ?_
    refine th_e ?_
    refine in_hit ?_
    obtain rfl : j = r + 1 := by omega
    exact ret_own_e (by first | exact .inl rfl | exact .inr rfl) rfl (rc_same rfl (.inl rfl)) (.keep (rfl) (by simp [scopedOb, scopedL, scopedV, hg, keysOf]) (.keep (rfl) rfl (.keep (rfl) rfl (.keep (rfl) rfl (.nil))))) (.cons rfl rfl rfl (.cons rfl rfl rfl (.dead rfl rfl (.nil))))

theorem fc85_at_n (g : AV) (hg : ∀ D, scopedV D g = true) (step : Int) (c a b : V3) (r : Nat) (hc : Bd 100 c) (ha : Bd 100 a) (hb : Bd 100 b) (hr : r ≤ 100) (hs : step < 0 ∨ (((arcV c a b r (r + 1)).length : Nat) : Int) ≤ step) (r0 : Loop) (h : Rec0 Try.prog 23 [15] as17 bd17 r0) : FC Try.prog 85 [.yl 900, .rp [iv (r : Int)], .rp (cV c), .rp (cV a), .rp (cV b)] [(900, .lp r0 [(14, g), (6, .ptr 6 0 0), (3, .ptr 3 0 0), (4, .ptr 4 0 0), (5, .ptr 5 0 0)]), (6, .cells 3 1 [[iv ((((arcV c a b r (0)).length) : Nat) : Int)]] true), (3, .cells 3 1 [[iv step]] true), (4, .cells 26 3 [cV ⟨0, 0, 0⟩] true), (5, .cells 4 1 [[.bool false]] true)] (.tup []) [(900, .lp r0 [(14, g), (6, .ptr 6 0 0), (3, .ptr 3 0 0), (4, .ptr 4 0 0), (5, .ptr 5 0 0)]), (6, .cells 3 1 [[iv ((((arcV c a b r (r + 1)).length) : Nat) : Int)]] true), (3, .cells 3 1 [[iv step]] true), (4, .cells 26 3 [cV ⟨0, 0, 0⟩] true), (5, .cells 4 1 [[.bool false]] true)] true := by
  refine fc_run (nt := 51) Try.func85 rfl rfl mcOk85 (Nat.le_of_ble_eq_true rfl) ?_
  delta mc85
  refine aw_seq ?_
  refine aw_reg ?_
  first | refine rs_ld_r rfl rfl rfl ?_ | refine rs_ld_p rfl rfl rfl rfl rfl ?_ | refine rs_ld_m rfl rfl rfl (by omega) rfl ?_
  refine rs_mv rfl rfl ?_
  refine rs_nil fun _ => ?_
  refine th_n ?_
  refine aw_seq ?_
  refine aw_reg ?_
  first | refine rs_ld_r rfl rfl rfl ?_ | refine rs_ld_p rfl rfl rfl rfl rfl ?_ | refine rs_ld_m rfl rfl rfl (by omega) rfl ?_
  first | refine rs_add rfl rfl rfl (by omega) ?_ | refine rs_addw rfl rfl rfl rfl ?_
  refine rs_mv rfl rfl ?_
  refine rs_nil fun _ => ?_
  refine th_n ?_
  refine aw_block ?_
  refine aw_fam (α := Nat) (fun j => r + 1 - j) (fun j => [(0, .yl 900), (1, .rp [iv (r : Int)]), (2, .rp (cV c)), (3, .rp (cV a)), (4, .rp (cV b)), (10, iv ((r : Int) + 1)), (6, iv ((iP r (j) : Nat) : Int)), (11, iv (((j) : Nat) : Int))]) (fun j => [(900, .lp r0 [(14, g), (6, .ptr 6 0 0), (3, .ptr 3 0 0), (4, .ptr 4 0 0), (5, .ptr 5 0 0)]), (6, .cells 3 1 [[iv ((((arcV c a b r (j)).length) : Nat) : Int)]] true), (3, .cells 3 1 [[iv step]] true), (4, .cells 26 3 [cV ⟨0, 0, 0⟩] true), (5, .cells 4 1 [[.bool false]] true)]) (fun j => j ≤ r + 1) 0 (by omega)
    (weak_to (.cons rfl (rc_same rfl (.inl rfl)) (.cons rfl (rc_same rfl (.inl rfl)) (.cons rfl (rc_same rfl (.inl rfl)) (.cons rfl (rc_same rfl (.inl rfl)) (.cons rfl (rc_same rfl (.inl rfl)) (.cons rfl (rc_same rfl (.inl rfl)) (.cons rfl (rc_same rfl (.inl rfl)) (.cons rfl (rc_same rfl (.inl rfl)) (.nil))))))))) (.keep (rfl) (by simp [scopedOb, scopedL, scopedV, hg, keysOf]) (.keep (rfl) rfl (.keep (rfl) rfl (.keep (rfl) rfl (.keep (rfl) rfl (.nil)))))) (fun i hi => by simp [keysOf] at hi ⊢; omega)) ?_
  intro j hj
  have q3 := sq_le hr
  refine aw_seq ?_
  refine aw_reg ?_
  refine rs_lss rfl rfl rfl ?_
  refine rs_nil fun _ => ?_
  refine th_n ?_
  refine aw_seq ?_
  refine aw_cond rfl (fun h12 => ?_) (fun h12 => ?_)
  · first | replace h12 := of_decide_eq_true h12 | skip
    refine aw_skip ?_
    refine th_n ?_
    refine aw_seq ?_
    refine aw_block ?_
    refine aw_seq ?_
    refine aw_reg ?_
    refine rs_mv rfl rfl ?_
    refine rs_mv rfl rfl ?_
    refine rs_nil fun _ => ?_
    refine th_n ?_
    refine aw_seq ?_
    refine aw_block ?_
    refine aw_fam (α := Nat) (fun i => i) (fun i => [(0, .yl 900), (1, .rp [iv (r : Int)]), (2, .rp (cV c)), (3, .rp (cV a)), (4, .rp (cV b)), (10, iv ((r : Int) + 1)), (6, iv (((i) : Nat) : Int)), (7, iv (j : Int)), (11, iv (((j) : Nat) : Int))]) (fun i => [(900, .lp r0 [(14, g), (6, .ptr 6 0 0), (3, .ptr 3 0 0), (4, .ptr 4 0 0), (5, .ptr 5 0 0)]), (6, .cells 3 1 [[iv ((((arcV c a b r (j)).length) : Nat) : Int)]] true), (3, .cells 3 1 [[iv step]] true), (4, .cells 26 3 [cV ⟨0, 0, 0⟩] true), (5, .cells 4 1 [[.bool false]] true)]) (fun i => dn r j i = iP r (j + 1) ∧ i ≤ r) (iP r j) (⟨rfl, iP_le r j⟩)
      (weak_to (.cons rfl (rc_same rfl (.inl rfl)) (.cons rfl (rc_same rfl (.inl rfl)) (.cons rfl (rc_same rfl (.inl rfl)) (.cons rfl (rc_same rfl (.inl rfl)) (.cons rfl (rc_same rfl (.inl rfl)) (.cons rfl (rc_same rfl (.inl rfl)) (.cons rfl (rc_same rfl (.inl rfl)) (.cons rfl (rc_same rfl (.inl rfl)) (.cons rfl (rc_same rfl (.inl rfl)) (.nil)))))))))) (.keep (rfl) (by simp [scopedOb, scopedL, scopedV, hg, keysOf]) (.keep (rfl) rfl (.keep (rfl) rfl (.keep (rfl) rfl (.keep (rfl) rfl (.nil)))))) (fun i hi => by simp [keysOf] at hi ⊢; omega)) ?_
    rintro i ⟨hi, hir⟩
    have q1 := sq_le hir
    have q2 := sq_le (i := j) (r := r) (by omega)
    refine aw_seq ?_
    refine aw_seq ?_
    refine aw_reg ?_
    refine rs_mv rfl rfl ?_
    refine rs_mv rfl rfl ?_
    refine rs_mulw rfl rfl rfl (sqW (by omega)) ?_
    refine rs_mv rfl rfl ?_
    refine rs_mv rfl rfl ?_
    refine rs_mulw rfl rfl rfl (sqW (by omega)) ?_
    refine rs_add rfl rfl rfl (by omega) ?_
    first | refine rs_ld_r rfl rfl rfl ?_ | refine rs_ld_p rfl rfl rfl rfl rfl ?_ | refine rs_ld_m rfl rfl rfl (by omega) rfl ?_
    first | refine rs_ld_r rfl rfl rfl ?_ | refine rs_ld_p rfl rfl rfl rfl rfl ?_ | refine rs_ld_m rfl rfl rfl (by omega) rfl ?_
    refine rs_mulw rfl rfl rfl (sqW (by omega)) ?_
    refine rs_gtr rfl rfl rfl ?_
    refine rs_nil fun _ => ?_
    refine th_n ?_
    refine aw_cond rfl (fun h24 => ?_) (fun h24 => ?_)
    · first | replace h24 := of_decide_eq_true h24 | skip
      refine aw_skip ?_
      refine th_n ?_
      refine aw_block ?_
      refine aw_reg ?_
      refine rs_mv rfl rfl ?_
      first | refine rs_sub rfl rfl rfl (by omega) ?_ | refine rs_subw rfl rfl rfl rfl ?_
      refine rs_mv rfl rfl ?_
      refine rs_nil fun _ => ?_
      refine in_n ?_
      refine th_n ?_
      rcases Nat.eq_zero_or_pos i with h0 | h0
      · exfalso; subst h0; omega
      obtain ⟨i, rfl⟩ : ∃ i0, i = i0 + 1 := ⟨i - 1, by omega⟩
      have hdn := dn_next (r := r) (j := j) (i := i) (by rw [← Int.natCast_add] at h24; exact Int.ofNat_lt.1 h24)
      exact ⟨i, ⟨by rw [← hdn]; exact hi, by omega⟩, by omega, weak_to (.cons rfl (rc_same rfl (.inl rfl)) (.cons rfl (rc_same rfl (.inl rfl)) (.cons rfl (rc_same rfl (.inl rfl)) (.cons rfl (rc_same rfl (.inl rfl)) (.cons rfl (rc_same rfl (.inl rfl)) (.cons rfl (rc_same rfl (.inl rfl)) (.cons rfl (rc_int (by omega)) (.cons rfl (rc_same rfl (.inl rfl)) (.cons rfl (rc_same rfl (.inl rfl)) (.nil)))))))))) (.keep (rfl) (by simp [scopedOb, scopedL, scopedV, hg, keysOf]) (.keep (rfl) rfl (.keep (rfl) rfl (.keep (rfl) rfl (.keep (rfl) rfl (.nil)))))) (fun i hi => by simp [keysOf] at hi ⊢; omega)⟩
    · first | replace h24 := of_decide_eq_false h24 | skip
      refine aw_exit ?_
      refine th_e ?_
      refine th_e ?_
      refine in_hit ?_
      refine th_n ?_
      refine aw_seq ?_
      refine aw_draw hmix ?_
      rw [dn_stop (by omega)] at hi
      subst hi
      refine rs_mv rfl rfl ?_
      refine rs_mv rfl rfl ?_
      refine rs_mulw rfl rfl rfl (sqW (by omega)) ?_
      refine rs_mv rfl rfl ?_
      refine rs_mv rfl rfl ?_
      refine rs_mulw rfl rfl rfl (sqW (by omega)) ?_
      refine rs_add rfl rfl rfl (by omega) ?_
      first | refine rs_ld_r rfl rfl rfl ?_ | refine rs_ld_p rfl rfl rfl rfl rfl ?_ | refine rs_ld_m rfl rfl rfl (by omega) rfl ?_
      first | refine rs_ld_r rfl rfl rfl ?_ | refine rs_ld_p rfl rfl rfl rfl rfl ?_ | refine rs_ld_m rfl rfl rfl (by omega) rfl ?_
      refine rs_mulw rfl rfl rfl (sqW (by omega)) ?_
      refine rs_cmp rfl rfl rfl rfl (fun h37 => ?_) (fun h37 => ?_)
      · skip
        have hcond : iP r (j + 1) * iP r (j + 1) + j * j = r * r := by rw [← Int.natCast_add] at h37; exact Int.ofNat_inj.1 h37
        refine rs_mv rfl rfl ?_
        refine rs_mv rfl rfl ?_
        first | refine rs_ld_pa rfl rfl rfl rfl (Nat.le_of_ble_eq_true rfl) rfl ?_ | refine rs_ld_ra rfl rfl (Nat.le_of_ble_eq_true rfl) rfl ?_ | refine rs_ld_ma rfl rfl rfl (by omega) (Nat.le_of_ble_eq_true rfl) rfl ?_
        first | refine rs_ld_pa rfl rfl rfl rfl (Nat.le_of_ble_eq_true rfl) rfl ?_ | refine rs_ld_ra rfl rfl (Nat.le_of_ble_eq_true rfl) rfl ?_ | refine rs_ld_ma rfl rfl rfl (by omega) (Nat.le_of_ble_eq_true rfl) rfl ?_
        refine rs_mv rfl rfl ?_
        refine rs_calln [] rfl rfl (fc78s hc.big ha.big (by omega)) (.cons (hv_same rfl) (.cons (hv_same rfl) (.cons (hv_same rfl) (.nil)))) rfl ?_
        first | refine rs_ld_pa rfl rfl rfl rfl (Nat.le_of_ble_eq_true rfl) rfl ?_ | refine rs_ld_ra rfl rfl (Nat.le_of_ble_eq_true rfl) rfl ?_ | refine rs_ld_ma rfl rfl rfl (by omega) (Nat.le_of_ble_eq_true rfl) rfl ?_
        refine rs_mv rfl rfl ?_
        refine rs_calln [] rfl rfl (fc78s (Bd.plus hc ha (q := 100) (by omega)).big hb.big (by omega)) (.cons (hv_same rfl) (.cons (hv_same rfl) (.cons (hv_same rfl) (.nil)))) rfl ?_
        refine rs_yield [(900, .lp r0 [(14, g), (6, .ptr 6 0 0), (3, .ptr 3 0 0), (4, .ptr 4 0 0), (5, .ptr 5 0 0)]), (6, .cells 3 1 [[iv ((((arcV c a b r (j)).length) : Nat) : Int)]] true), (3, .cells 3 1 [[iv step]] true), (4, .cells 26 3 [cV ⟨0, 0, 0⟩] true), (5, .cells 4 1 [[.bool false]] true)] rfl rfl rfl (y17_n g hg step ((arcV c a b r (j)).length) (by have := arcV_len c a b r j; omega) (by have := lt_of_at (arcV_lt (c := c) (a := a) (b := b) (show j ≤ r by omega) hcond); omega) _ r0 h) (.cons (hv_same rfl) (.cons (hv_same rfl) .nil)) (.cons rfl (.cons rfl (.cons rfl (.cons rfl (.cons rfl (.nil)))))) (by simp [scopedHs, scopedOb, scopedL, scopedV, scopedE, hg, keysOf]) rfl rfl ?_
        refine rs_not rfl rfl ?_
        refine rs_pick rfl rfl rfl ?_
        refine rs_nil ⟨by kernel_rfl, fun _ => ?_⟩
        refine th_n ?_
        refine aw_cond rfl (fun h => by cases h) (fun _ => ?_)
        refine aw_skip ?_
        refine in_n ?_
        refine th_n ?_
        refine aw_reg ?_
        first | refine rs_add rfl rfl rfl (by omega) ?_ | refine rs_addw rfl rfl rfl rfl ?_
        refine rs_mv rfl rfl ?_
        refine rs_nil fun _ => ?_
        refine th_n ?_
        first
          | (have e := arcV_t (c := c) (a := a) (b := b) rfl hcond
             exact ⟨j + 1, by omega, by omega, weak_to (.cons rfl (rc_same rfl (.inl rfl)) (.cons rfl (rc_same rfl (.inl rfl)) (.cons rfl (rc_same rfl (.inl rfl)) (.cons rfl (rc_same rfl (.inl rfl)) (.cons rfl (rc_same rfl (.inl rfl)) (.cons rfl (rc_same rfl (.inl rfl)) (.cons rfl (rc_same rfl (.inl rfl)) (.cons rfl (rc_same rfl (.inl rfl)) (.nil))))))))) (.keep (rfl) (by simp [scopedOb, scopedL, scopedV, hg, keysOf]) (.keep (by (rw [e, List.length_append]) <;> rfl) rfl (.keep (rfl) rfl (.keep (rfl) rfl (.keep (rfl) rfl (.nil)))))) (fun i hi => by simp [keysOf] at hi ⊢; omega)⟩)
          | (have e := arcV_f (c := c) (a := a) (b := b) rfl hcond
             exact ⟨j + 1, by omega, by omega, weak_to (.cons rfl (rc_same rfl (.inl rfl)) (.cons rfl (rc_same rfl (.inl rfl)) (.cons rfl (rc_same rfl (.inl rfl)) (.cons rfl (rc_same rfl (.inl rfl)) (.cons rfl (rc_same rfl (.inl rfl)) (.cons rfl (rc_same rfl (.inl rfl)) (.cons rfl (rc_same rfl (.inl rfl)) (.cons rfl (rc_same rfl (.inl rfl)) (.nil))))))))) (.keep (rfl) (by simp [scopedOb, scopedL, scopedV, hg, keysOf]) (.keep (by (rw [e]) <;> rfl) rfl (.keep (rfl) rfl (.keep (rfl) rfl (.keep (rfl) rfl (.nil)))))) (fun i hi => by simp [keysOf] at hi ⊢; omega)⟩)
      · skip
        have hcond : ¬ iP r (j + 1) * iP r (j + 1) + j * j = r * r := fun e => h37 (by rw [← Int.natCast_add, e])
        refine rs_mv rfl rfl ?_
        refine rs_skip rfl ?_
        refine rs_skip rfl ?_
        refine rs_skip rfl ?_
        refine rs_skip rfl ?_
        refine rs_skip rfl ?_
        refine rs_skip rfl ?_
        refine rs_skip rfl ?_
        refine rs_skip rfl ?_
        refine rs_skip rfl ?_
        refine rs_skip rfl ?_
        refine rs_pick rfl rfl rfl ?_
        refine rs_nil ⟨by kernel_rfl, fun _ => ?_⟩
        refine th_n ?_
        refine aw_cond rfl (fun h => by cases h) (fun _ => ?_)
        refine aw_skip ?_
        refine in_n ?_
        refine th_n ?_
        refine aw_reg ?_
        first | refine rs_add rfl rfl rfl (by omega) ?_ | refine rs_addw rfl rfl rfl rfl ?_
        refine rs_mv rfl rfl ?_
        refine rs_nil fun _ => ?_
        refine th_n ?_
        first
          | (have e := arcV_t (c := c) (a := a) (b := b) rfl hcond
             exact ⟨j + 1, by omega, by omega, weak_to (.cons rfl (rc_same rfl (.inl rfl)) (.cons rfl (rc_same rfl (.inl rfl)) (.cons rfl (rc_same rfl (.inl rfl)) (.cons rfl (rc_same rfl (.inl rfl)) (.cons rfl (rc_same rfl (.inl rfl)) (.cons rfl (rc_same rfl (.inl rfl)) (.cons rfl (rc_same rfl (.inl rfl)) (.cons rfl (rc_same rfl (.inl rfl)) (.nil))))))))) (.keep (rfl) (by simp [scopedOb, scopedL, scopedV, hg, keysOf]) (.keep (by (rw [e, List.length_append]) <;> rfl) rfl (.keep (rfl) rfl (.keep (rfl) rfl (.keep (rfl) rfl (.nil)))))) (fun i hi => by simp [keysOf] at hi ⊢; omega)⟩)
          | (have e := arcV_f (c := c) (a := a) (b := b) rfl hcond
             exact ⟨j + 1, by omega, by omega, weak_to (.cons rfl (rc_same rfl (.inl rfl)) (.cons rfl (rc_same rfl (.inl rfl)) (.cons rfl (rc_same rfl (.inl rfl)) (.cons rfl (rc_same rfl (.inl rfl)) (.cons rfl (rc_same rfl (.inl rfl)) (.cons rfl (rc_same rfl (.inl rfl)) (.cons rfl (rc_same rfl (.inl rfl)) (.cons rfl (rc_same rfl (.inl rfl)) (.nil))))))))) (.keep (rfl) (by simp [scopedOb, scopedL, scopedV, hg, keysOf]) (.keep (by (rw [e]) <;> rfl) rfl (.keep (rfl) rfl (.keep (rfl) rfl (.keep (rfl) rfl (.nil)))))) (fun i hi => by simp [keysOf] at hi ⊢; omega)⟩)
  · first | replace h12 := of_decide_eq_false h12 | skip
    refine aw_exit ?_
    refine th_e ?_
    refine th_e ?_
    refine in_hit ?_
    obtain rfl : j = r + 1 := by omega
    exact ret_own_e (by first | exact .inl rfl | exact .inr rfl) rfl (rc_same rfl (.inl rfl)) (.keep (rfl) (by simp [scopedOb, scopedL, scopedV, hg, keysOf]) (.keep (rfl) rfl (.keep (rfl) rfl (.keep (rfl) rfl (.keep (rfl) rfl (.nil)))))) (.cons rfl rfl rfl (.cons rfl rfl rfl (.cons rfl rfl rfl (.cons rfl rfl rfl (.cons rfl rfl rfl (.nil))))))

theorem fc85_at_s (g : AV) (hg : ∀ D, scopedV D g = true) (step : Int) (c a b : V3) (r : Nat) (hc : Bd 100 c) (ha : Bd 100 a) (hb : Bd 100 b) (hr : r ≤ 100) (s : Nat) (v : V3) (hs : (s : Int) = step) (hv : (arcV c a b r (r + 1))[s]? = some v) (r0 : Loop) (h : Rec0 Try.prog 23 [15] as17 bd17 r0) : FC Try.prog 85 [.yl 900, .rp [iv (r : Int)], .rp (cV c), .rp (cV a), .rp (cV b)] [(900, .lp r0 [(14, g), (6, .ptr 6 0 0), (3, .ptr 3 0 0), (4, .ptr 4 0 0), (5, .ptr 5 0 0)]), (6, .cells 3 1 [[iv ((((arcV c a b r (0)).length) : Nat) : Int)]] true), (3, .cells 3 1 [[iv step]] true), (4, .cells 26 3 [cV ⟨0, 0, 0⟩] true), (5, .cells 4 1 [[.bool false]] true)] (.tup []) [(900, .lp { r0 with state := .done, pending := some .ret } [(14, g), (6, .ptr 6 0 0), (3, .ptr 3 0 0), (4, .ptr 4 0 0), (5, .ptr 5 0 0)]), (6, .cells 3 1 [[iv (((s) : Nat) : Int)]] true), (3, .cells 3 1 [[iv step]] true), (4, .cells 26 3 [cV v] true), (5, .cells 4 1 [[.bool true]] true)] true := by
  refine fc_run (nt := 51) Try.func85 rfl rfl mcOk85 (Nat.le_of_ble_eq_true rfl) ?_
  delta mc85
  refine aw_seq ?_
  refine aw_reg ?_
  first | refine rs_ld_r rfl rfl rfl ?_ | refine rs_ld_p rfl rfl rfl rfl rfl ?_ | refine rs_ld_m rfl rfl rfl (by omega) rfl ?_
  refine rs_mv rfl rfl ?_
  refine rs_nil fun _ => ?_
  refine th_n ?_
  refine aw_seq ?_
  refine aw_reg ?_
  first | refine rs_ld_r rfl rfl rfl ?_ | refine rs_ld_p rfl rfl rfl rfl rfl ?_ | refine rs_ld_m rfl rfl rfl (by omega) rfl ?_
  first | refine rs_add rfl rfl rfl (by omega) ?_ | refine rs_addw rfl rfl rfl rfl ?_
  refine rs_mv rfl rfl ?_
  refine rs_nil fun _ => ?_
  refine th_n ?_
  refine aw_block ?_
  refine aw_fam (α := Nat) (fun j => r + 1 - j) (fun j => [(0, .yl 900), (1, .rp [iv (r : Int)]), (2, .rp (cV c)), (3, .rp (cV a)), (4, .rp (cV b)), (10, iv ((r : Int) + 1)), (6, iv ((iP r (j) : Nat) : Int)), (11, iv (((j) : Nat) : Int))]) (fun j => [(900, .lp r0 [(14, g), (6, .ptr 6 0 0), (3, .ptr 3 0 0), (4, .ptr 4 0 0), (5, .ptr 5 0 0)]), (6, .cells 3 1 [[iv ((((arcV c a b r (j)).length) : Nat) : Int)]] true), (3, .cells 3 1 [[iv step]] true), (4, .cells 26 3 [cV ⟨0, 0, 0⟩] true), (5, .cells 4 1 [[.bool false]] true)]) (fun j => j ≤ r + 1 ∧ (arcV c a b r (j)).length ≤ s) 0 (⟨by omega, Nat.zero_le _⟩)
    (weak_to (.cons rfl (rc_same rfl (.inl rfl)) (.cons rfl (rc_same rfl (.inl rfl)) (.cons rfl (rc_same rfl (.inl rfl)) (.cons rfl (rc_same rfl (.inl rfl)) (.cons rfl (rc_same rfl (.inl rfl)) (.cons rfl (rc_same rfl (.inl rfl)) (.cons rfl (rc_same rfl (.inl rfl)) (.cons rfl (rc_same rfl (.inl rfl)) (.nil))))))))) (.keep (rfl) (by simp [scopedOb, scopedL, scopedV, hg, keysOf]) (.keep (rfl) rfl (.keep (rfl) rfl (.keep (rfl) rfl (.keep (rfl) rfl (.nil)))))) (fun i hi => by simp [keysOf] at hi ⊢; omega)) ?_
  rintro j ⟨hj, hjs⟩
  have q3 := sq_le hr
  refine aw_seq ?_
  refine aw_reg ?_
  refine rs_lss rfl rfl rfl ?_
  refine rs_nil fun _ => ?_
  refine th_n ?_
  refine aw_seq ?_
  refine aw_cond rfl (fun h12 => ?_) (fun h12 => ?_)
  · first | replace h12 := of_decide_eq_true h12 | skip
    refine aw_skip ?_
    refine th_n ?_
    refine aw_seq ?_
    refine aw_block ?_
    refine aw_seq ?_
    refine aw_reg ?_
    refine rs_mv rfl rfl ?_
    refine rs_mv rfl rfl ?_
    refine rs_nil fun _ => ?_
    refine th_n ?_
    refine aw_seq ?_
    refine aw_block ?_
    refine aw_fam (α := Nat) (fun i => i) (fun i => [(0, .yl 900), (1, .rp [iv (r : Int)]), (2, .rp (cV c)), (3, .rp (cV a)), (4, .rp (cV b)), (10, iv ((r : Int) + 1)), (6, iv (((i) : Nat) : Int)), (7, iv (j : Int)), (11, iv (((j) : Nat) : Int))]) (fun i => [(900, .lp r0 [(14, g), (6, .ptr 6 0 0), (3, .ptr 3 0 0), (4, .ptr 4 0 0), (5, .ptr 5 0 0)]), (6, .cells 3 1 [[iv ((((arcV c a b r (j)).length) : Nat) : Int)]] true), (3, .cells 3 1 [[iv step]] true), (4, .cells 26 3 [cV ⟨0, 0, 0⟩] true), (5, .cells 4 1 [[.bool false]] true)]) (fun i => dn r j i = iP r (j + 1) ∧ i ≤ r) (iP r j) (⟨rfl, iP_le r j⟩)
      (weak_to (.cons rfl (rc_same rfl (.inl rfl)) (.cons rfl (rc_same rfl (.inl rfl)) (.cons rfl (rc_same rfl (.inl rfl)) (.cons rfl (rc_same rfl (.inl rfl)) (.cons rfl (rc_same rfl (.inl rfl)) (.cons rfl (rc_same rfl (.inl rfl)) (.cons rfl (rc_same rfl (.inl rfl)) (.cons rfl (rc_same rfl (.inl rfl)) (.cons rfl (rc_same rfl (.inl rfl)) (.nil)))))))))) (.keep (rfl) (by simp [scopedOb, scopedL, scopedV, hg, keysOf]) (.keep (rfl) rfl (.keep (rfl) rfl (.keep (rfl) rfl (.keep (rfl) rfl (.nil)))))) (fun i hi => by simp [keysOf] at hi ⊢; omega)) ?_
    rintro i ⟨hi, hir⟩
    have q1 := sq_le hir
    have q2 := sq_le (i := j) (r := r) (by omega)
    refine aw_seq ?_
    refine aw_seq ?_
    refine aw_reg ?_
    refine rs_mv rfl rfl ?_
    refine rs_mv rfl rfl ?_
    refine rs_mulw rfl rfl rfl (sqW (by omega)) ?_
    refine rs_mv rfl rfl ?_
    refine rs_mv rfl rfl ?_
    refine rs_mulw rfl rfl rfl (sqW (by omega)) ?_
    refine rs_add rfl rfl rfl (by omega) ?_
    first | refine rs_ld_r rfl rfl rfl ?_ | refine rs_ld_p rfl rfl rfl rfl rfl ?_ | refine rs_ld_m rfl rfl rfl (by omega) rfl ?_
    first | refine rs_ld_r rfl rfl rfl ?_ | refine rs_ld_p rfl rfl rfl rfl rfl ?_ | refine rs_ld_m rfl rfl rfl (by omega) rfl ?_
    refine rs_mulw rfl rfl rfl (sqW (by omega)) ?_
    refine rs_gtr rfl rfl rfl ?_
    refine rs_nil fun _ => ?_
    refine th_n ?_
    refine aw_cond rfl (fun h24 => ?_) (fun h24 => ?_)
    · first | replace h24 := of_decide_eq_true h24 | skip
      refine aw_skip ?_
      refine th_n ?_
      refine aw_block ?_
      refine aw_reg ?_
      refine rs_mv rfl rfl ?_
      first | refine rs_sub rfl rfl rfl (by omega) ?_ | refine rs_subw rfl rfl rfl rfl ?_
      refine rs_mv rfl rfl ?_
      refine rs_nil fun _ => ?_
      refine in_n ?_
      refine th_n ?_
      rcases Nat.eq_zero_or_pos i with h0 | h0
      · exfalso; subst h0; omega
      obtain ⟨i, rfl⟩ : ∃ i0, i = i0 + 1 := ⟨i - 1, by omega⟩
      have hdn := dn_next (r := r) (j := j) (i := i) (by rw [← Int.natCast_add] at h24; exact Int.ofNat_lt.1 h24)
      exact ⟨i, ⟨by rw [← hdn]; exact hi, by omega⟩, by omega, weak_to (.cons rfl (rc_same rfl (.inl rfl)) (.cons rfl (rc_same rfl (.inl rfl)) (.cons rfl (rc_same rfl (.inl rfl)) (.cons rfl (rc_same rfl (.inl rfl)) (.cons rfl (rc_same rfl (.inl rfl)) (.cons rfl (rc_same rfl (.inl rfl)) (.cons rfl (rc_int (by omega)) (.cons rfl (rc_same rfl (.inl rfl)) (.cons rfl (rc_same rfl (.inl rfl)) (.nil)))))))))) (.keep (rfl) (by simp [scopedOb, scopedL, scopedV, hg, keysOf]) (.keep (rfl) rfl (.keep (rfl) rfl (.keep (rfl) rfl (.keep (rfl) rfl (.nil)))))) (fun i hi => by simp [keysOf] at hi ⊢; omega)⟩
    · first | replace h24 := of_decide_eq_false h24 | skip
      refine aw_exit ?_
      refine th_e ?_
      refine th_e ?_
      refine in_hit ?_
      refine th_n ?_
      refine aw_seq ?_
      refine aw_draw hmix ?_
      rw [dn_stop (by omega)] at hi
      subst hi
      refine rs_mv rfl rfl ?_
      refine rs_mv rfl rfl ?_
      refine rs_mulw rfl rfl rfl (sqW (by omega)) ?_
      refine rs_mv rfl rfl ?_
      refine rs_mv rfl rfl ?_
      refine rs_mulw rfl rfl rfl (sqW (by omega)) ?_
      refine rs_add rfl rfl rfl (by omega) ?_
      first | refine rs_ld_r rfl rfl rfl ?_ | refine rs_ld_p rfl rfl rfl rfl rfl ?_ | refine rs_ld_m rfl rfl rfl (by omega) rfl ?_
      first | refine rs_ld_r rfl rfl rfl ?_ | refine rs_ld_p rfl rfl rfl rfl rfl ?_ | refine rs_ld_m rfl rfl rfl (by omega) rfl ?_
      refine rs_mulw rfl rfl rfl (sqW (by omega)) ?_
      refine rs_cmp rfl rfl rfl rfl (fun h37 => ?_) (fun h37 => ?_)
      · skip
        have hcond : iP r (j + 1) * iP r (j + 1) + j * j = r * r := by rw [← Int.natCast_add] at h37; exact Int.ofNat_inj.1 h37
        refine rs_mv rfl rfl ?_
        refine rs_mv rfl rfl ?_
        first | refine rs_ld_pa rfl rfl rfl rfl (Nat.le_of_ble_eq_true rfl) rfl ?_ | refine rs_ld_ra rfl rfl (Nat.le_of_ble_eq_true rfl) rfl ?_ | refine rs_ld_ma rfl rfl rfl (by omega) (Nat.le_of_ble_eq_true rfl) rfl ?_
        first | refine rs_ld_pa rfl rfl rfl rfl (Nat.le_of_ble_eq_true rfl) rfl ?_ | refine rs_ld_ra rfl rfl (Nat.le_of_ble_eq_true rfl) rfl ?_ | refine rs_ld_ma rfl rfl rfl (by omega) (Nat.le_of_ble_eq_true rfl) rfl ?_
        refine rs_mv rfl rfl ?_
        refine rs_calln [] rfl rfl (fc78s hc.big ha.big (by omega)) (.cons (hv_same rfl) (.cons (hv_same rfl) (.cons (hv_same rfl) (.nil)))) rfl ?_
        first | refine rs_ld_pa rfl rfl rfl rfl (Nat.le_of_ble_eq_true rfl) rfl ?_ | refine rs_ld_ra rfl rfl (Nat.le_of_ble_eq_true rfl) rfl ?_ | refine rs_ld_ma rfl rfl rfl (by omega) (Nat.le_of_ble_eq_true rfl) rfl ?_
        refine rs_mv rfl rfl ?_
        refine rs_calln [] rfl rfl (fc78s (Bd.plus hc ha (q := 100) (by omega)).big hb.big (by omega)) (.cons (hv_same rfl) (.cons (hv_same rfl) (.cons (hv_same rfl) (.nil)))) rfl ?_
        rcases Nat.lt_or_ge (arcV c a b r (j)).length s with hks | hks
        · skip
          refine rs_yield [(900, .lp r0 [(14, g), (6, .ptr 6 0 0), (3, .ptr 3 0 0), (4, .ptr 4 0 0), (5, .ptr 5 0 0)]), (6, .cells 3 1 [[iv ((((arcV c a b r (j)).length) : Nat) : Int)]] true), (3, .cells 3 1 [[iv step]] true), (4, .cells 26 3 [cV ⟨0, 0, 0⟩] true), (5, .cells 4 1 [[.bool false]] true)] rfl rfl rfl (y17_n g hg step ((arcV c a b r (j)).length) (by have := arcV_len c a b r j; omega) (by omega) _ r0 h) (.cons (hv_same rfl) (.cons (hv_same rfl) .nil)) (.cons rfl (.cons rfl (.cons rfl (.cons rfl (.cons rfl (.nil)))))) (by simp [scopedHs, scopedOb, scopedL, scopedV, scopedE, hg, keysOf]) rfl rfl ?_
          refine rs_not rfl rfl ?_
          refine rs_pick rfl rfl rfl ?_
          refine rs_nil ⟨by kernel_rfl, fun _ => ?_⟩
          refine th_n ?_
          refine aw_cond rfl (fun h => by cases h) (fun _ => ?_)
          refine aw_skip ?_
          refine in_n ?_
          refine th_n ?_
          refine aw_reg ?_
          first | refine rs_add rfl rfl rfl (by omega) ?_ | refine rs_addw rfl rfl rfl rfl ?_
          refine rs_mv rfl rfl ?_
          refine rs_nil fun _ => ?_
          refine th_n ?_
          first
            | (have e := arcV_t (c := c) (a := a) (b := b) rfl hcond
               exact ⟨j + 1, ⟨by omega, by rw [e]; simp; omega⟩, by omega, weak_to (.cons rfl (rc_same rfl (.inl rfl)) (.cons rfl (rc_same rfl (.inl rfl)) (.cons rfl (rc_same rfl (.inl rfl)) (.cons rfl (rc_same rfl (.inl rfl)) (.cons rfl (rc_same rfl (.inl rfl)) (.cons rfl (rc_same rfl (.inl rfl)) (.cons rfl (rc_same rfl (.inl rfl)) (.cons rfl (rc_same rfl (.inl rfl)) (.nil))))))))) (.keep (rfl) (by simp [scopedOb, scopedL, scopedV, hg, keysOf]) (.keep (by (rw [e, List.length_append]) <;> rfl) rfl (.keep (rfl) rfl (.keep (rfl) rfl (.keep (rfl) rfl (.nil)))))) (fun i hi => by simp [keysOf] at hi ⊢; omega)⟩)
            | (have e := arcV_f (c := c) (a := a) (b := b) rfl hcond
               exact ⟨j + 1, ⟨by omega, by rw [e]; omega⟩, by omega, weak_to (.cons rfl (rc_same rfl (.inl rfl)) (.cons rfl (rc_same rfl (.inl rfl)) (.cons rfl (rc_same rfl (.inl rfl)) (.cons rfl (rc_same rfl (.inl rfl)) (.cons rfl (rc_same rfl (.inl rfl)) (.cons rfl (rc_same rfl (.inl rfl)) (.cons rfl (rc_same rfl (.inl rfl)) (.cons rfl (rc_same rfl (.inl rfl)) (.nil))))))))) (.keep (rfl) (by simp [scopedOb, scopedL, scopedV, hg, keysOf]) (.keep (by (rw [e]) <;> rfl) rfl (.keep (rfl) rfl (.keep (rfl) rfl (.keep (rfl) rfl (.nil)))))) (fun i hi => by simp [keysOf] at hi ⊢; omega)⟩)
        · have hks2 : (arcV c a b r (j)).length = s := by omega
          have hvv := arcV_lt (c := c) (a := a) (b := b) (show j ≤ r by omega) hcond
          rw [hks2, hv] at hvv
          injection hvv with hvv
          subst hvv
          subst hks2
          refine rs_yield (H' := [(900, .lp { r0 with state := .done, pending := some .ret } [(14, g), (6, .ptr 6 0 0), (3, .ptr 3 0 0), (4, .ptr 4 0 0), (5, .ptr 5 0 0)]), (6, .cells 3 1 [[iv ((((arcV c a b r (j)).length) : Nat) : Int)]] true), (3, .cells 3 1 [[iv step]] true), (4, .cells 26 3 [cV (plus (plus c a ((iP r (j + 1) : Nat) : Int)) b (j : Int))] true), (5, .cells 4 1 [[.bool true]] true)]) [(900, .lp r0 [(14, g), (6, .ptr 6 0 0), (3, .ptr 3 0 0), (4, .ptr 4 0 0), (5, .ptr 5 0 0)]), (6, .cells 3 1 [[iv ((((arcV c a b r (j)).length) : Nat) : Int)]] true), (3, .cells 3 1 [[iv step]] true), (4, .cells 26 3 [cV ⟨0, 0, 0⟩] true), (5, .cells 4 1 [[.bool false]] true)] rfl rfl rfl (y17_s g hg step (arcV c a b r (j)).length (by have := arcV_len c a b r j; omega) (by omega) (plus (plus c a ((iP r (j + 1) : Nat) : Int)) b (j : Int)) r0 h) (.cons (hv_same rfl) (.cons (hv_same rfl) .nil)) (.cons rfl (.cons rfl (.cons rfl (.cons rfl (.cons rfl (.nil)))))) (by simp [scopedHs, scopedOb, scopedL, scopedV, scopedE, hg, keysOf]) rfl rfl ?_
          refine rs_not rfl rfl ?_
          refine rs_pick rfl rfl rfl ?_
          refine rs_nil ⟨by kernel_rfl, fun _ => ?_⟩
          refine th_n ?_
          refine aw_cond rfl (fun _ => ?_) (fun h => by cases h)
          refine aw_ret ?_
          refine in_r ?_
          refine th_r ?_
          refine th_r ?_
          refine in_r ?_
          exact ret_own_e (by first | exact .inl rfl | exact .inr rfl) rfl (rc_same rfl (.inl rfl)) (.keep (rfl) (by simp [scopedOb, scopedL, scopedV, hg, keysOf]) (.keep (rfl) rfl (.keep (rfl) rfl (.keep (rfl) rfl (.keep (rfl) rfl (.nil)))))) (.cons rfl rfl rfl (.cons rfl rfl rfl (.cons rfl rfl rfl (.cons rfl rfl rfl (.cons rfl rfl rfl (.nil))))))
      · skip
        have hcond : ¬ iP r (j + 1) * iP r (j + 1) + j * j = r * r := fun e => h37 (by rw [← Int.natCast_add, e])
        refine rs_mv rfl rfl ?_
        refine rs_skip rfl ?_
        refine rs_skip rfl ?_
        refine rs_skip rfl ?_
        refine rs_skip rfl ?_
        refine rs_skip rfl ?_
        refine rs_skip rfl ?_
        refine rs_skip rfl ?_
        refine rs_skip rfl ?_
        refine rs_skip rfl ?_
        refine rs_skip rfl ?_
        refine rs_pick rfl rfl rfl ?_
        refine rs_nil ⟨by kernel_rfl, fun _ => ?_⟩
        refine th_n ?_
        refine aw_cond rfl (fun h => by cases h) (fun _ => ?_)
        refine aw_skip ?_
        refine in_n ?_
        refine th_n ?_
        refine aw_reg ?_
        first | refine rs_add rfl rfl rfl (by omega) ?_ | refine rs_addw rfl rfl rfl rfl ?_
        refine rs_mv rfl rfl ?_
        refine rs_nil fun _ => ?_
        refine th_n ?_
        first
          | (have e := arcV_t (c := c) (a := a) (b := b) rfl hcond
             exact ⟨j + 1, ⟨by omega, by rw [e]; simp; omega⟩, by omega, weak_to (.cons rfl (rc_same rfl (.inl rfl)) (.cons rfl (rc_same rfl (.inl rfl)) (.cons rfl (rc_same rfl (.inl rfl)) (.cons rfl (rc_same rfl (.inl rfl)) (.cons rfl (rc_same rfl (.inl rfl)) (.cons rfl (rc_same rfl (.inl rfl)) (.cons rfl (rc_same rfl (.inl rfl)) (.cons rfl (rc_same rfl (.inl rfl)) (.nil))))))))) (.keep (rfl) (by simp [scopedOb, scopedL, scopedV, hg, keysOf]) (.keep (by (rw [e, List.length_append]) <;> rfl) rfl (.keep (rfl) rfl (.keep (rfl) rfl (.keep (rfl) rfl (.nil)))))) (fun i hi => by simp [keysOf] at hi ⊢; omega)⟩)
          | (have e := arcV_f (c := c) (a := a) (b := b) rfl hcond
             exact ⟨j + 1, ⟨by omega, by rw [e]; omega⟩, by omega, weak_to (.cons rfl (rc_same rfl (.inl rfl)) (.cons rfl (rc_same rfl (.inl rfl)) (.cons rfl (rc_same rfl (.inl rfl)) (.cons rfl (rc_same rfl (.inl rfl)) (.cons rfl (rc_same rfl (.inl rfl)) (.cons rfl (rc_same rfl (.inl rfl)) (.cons rfl (rc_same rfl (.inl rfl)) (.cons rfl (rc_same rfl (.inl rfl)) (.nil))))))))) (.keep (rfl) (by simp [scopedOb, scopedL, scopedV, hg, keysOf]) (.keep (by (rw [e]) <;> rfl) rfl (.keep (rfl) rfl (.keep (rfl) rfl (.keep (rfl) rfl (.nil)))))) (fun i hi => by simp [keysOf] at hi ⊢; omega)⟩)
  · first | replace h12 := of_decide_eq_false h12 | skip
    refine aw_exit ?_
    refine th_e ?_
    refine th_e ?_
    refine in_hit ?_
    exfalso
    obtain rfl : j = r + 1 := by omega
    have := lt_of_at hv
    omega

end Go.Proofs.Yteommcdafifckaa

/-! Walks: M4. -/
namespace Go.Proofs.Yteommcdafifckaa
open Go.RowKit

theorem cenS_eq (m : Mv) : cenS m = sub (add m.fr m.to) m.co := by
  obtain ⟨h1, h2, h3⟩ := prim_mul (sA m)
  unfold cenS plus
  rw [Int.neg_mul, Int.neg_mul, Int.neg_mul, ← h1, ← h2, ← h3]
  simp only [sub, add, sA]
  congr 1 <;> omega
theorem cen_a (m : Mv) : sub m.fr (cenS m) = sA m := by
  rw [cenS_eq]; simp only [sub, add, sA]; congr 1 <;> omega
theorem cen_b (m : Mv) : sub m.to (cenS m) = sB m := by
  rw [cenS_eq]; simp only [sub, add, sB]; congr 1 <;> omega
theorem fc54c {m : Mv} (h : InM m) : FC Try.prog 54 [aM m] [] (aV (cenS m)) [] false := by
  have e : subW (addW m.fr m.to) m.co = cenS m := by rw [cenS_eq, addW_eq h.fr.big h.to.big, subW_eq (h.fr.add h.to).big h.co.big]
  rw [← e]; exact fc54 m
theorem fc50a {m : Mv} (h : InM m) : FC Try.prog 50 [aV m.fr, aV (cenS m)] [] (aV (sA m)) [] false := by
  rw [← cen_a m]; exact fc50s h.fr.big h.c.big
theorem fc50b {m : Mv} (h : InM m) : FC Try.prog 50 [aV m.to, aV (cenS m)] [] (aV (sB m)) [] false := by
  rw [← cen_b m]; exact fc50s h.to.big h.c.big
theorem fc13c (m : Mv) : FC Try.prog 13 [aM m] [] (iv (checkS m)) [] false := by rw [← check_eq]; exact fc13 m
theorem path_len (m : Mv) : (pathS m).length ≤ 49 := by
  unfold pathS
  split
  · rename_i h
    have hi := ck_in h
    split
    · have := arcV_len (cenS m) (primV (sA m)) (primV (sB m)) (gS (sA m)) (gS (sA m) + 1)
      have := gS_le (n := 48) hi.a48
      omega
    · rw [linQ_len]
      have := gS_le (n := 48) hi.d48
      omega
  · simp
theorem path_0 {m : Mv} (h : ¬ checkS m = 0) : pathS m = [] := if_neg h
theorem path_l {m : Mv} (h : checkS m = 0) (hk : m.kind = 1 ∨ m.kind = 2) : pathS m = linQ m.fr (primV (dS m)) (gS (dS m) + 1) := by unfold pathS; rw [if_pos h, if_neg (by omega)]
theorem path_n {m : Mv} (h : checkS m = 0) (hk : ¬ m.kind = 3) : pathS m = linQ m.fr (primV (dS m)) (gS (dS m) + 1) := by unfold pathS; rw [if_pos h, if_neg hk]
theorem path_a {m : Mv} (h : checkS m = 0) (hk : m.kind = 3) : pathS m = arcV (cenS m) (primV (sA m)) (primV (sB m)) (gS (sA m)) (gS (sA m) + 1) := by unfold pathS; rw [if_pos h, if_pos hk]
def stepsS (m : Mv) : Int := max (((pathS m).length : Int) - 1) 0
def atV (m : Mv) (s : Int) : V3 := if 0 ≤ s then ((pathS m)[s.toNat]?).getD ⟨0, 0, 0⟩ else ⟨0, 0, 0⟩
def atB (m : Mv) (s : Int) : Bool := decide (0 ≤ s ∧ s < (pathS m).length)
theorem at_no {m : Mv} {s : Int} (h : s < 0 ∨ ((pathS m).length : Int) ≤ s) : atV m s = ⟨0, 0, 0⟩ ∧ atB m s = false := by
  refine ⟨?_, decide_eq_false (by omega)⟩
  unfold atV
  split
  · rw [List.getElem?_eq_none (by omega)]; rfl
  · rfl
theorem at_yes {m : Mv} {k : Nat} {v : V3} (h : (pathS m)[k]? = some v) : atV m k = v ∧ atB m k = true := by
  have := lt_of_at h
  refine ⟨?_, decide_eq_true (by omega)⟩
  unfold atV
  rw [if_pos (by omega), Int.toNat_natCast, h]; rfl
def btwB (m : Mv) (i j : Int) : Bool := decide (0 ≤ i ∧ i ≤ j ∧ j < (pathS m).length)
def btwS (m : Mv) (i j : Int) : List V3 := if btwB m i j = true then ((pathS m).drop i.toNat).take ((j + 1).toNat - i.toNat) else []
def elS (m : Mv) (i : Int) : V3 := ((pathS m)[i.toNat]?).getD ⟨0, 0, 0⟩
def outS (m : Mv) (i j : Int) : List V3 := if btwB m i j = true then (if i = j then [elS m i] else if m.kind = 3 then [m.fr, m.co, m.to] else [elS m i, elS m j]) else []
def knS (m : Mv) (i j : Int) : List (V3 × V3) := if btwB m i j = true then (if m.kind = 3 then (btwS m i j).map fun v => (v, v) else [(elS m i, elS m j)]) else []
abbrev cP (p : V3 × V3) : List AV := [iv p.1.x, iv p.1.y, iv p.1.z, iv p.2.x, iv p.2.y, iv p.2.z]
theorem el_at {m : Mv} {i : Int} (h0 : 0 ≤ i) (h : i < (pathS m).length) : (pathS m)[i.toNat]? = some (elS m i) := by
  unfold elS
  rw [List.getElem?_eq_getElem (by omega)]
  rfl
theorem btw_len {m : Mv} {i j : Int} (h : btwB m i j = true) : ((btwS m i j).length : Int) = j - i + 1 := by
  have h1 := of_decide_eq_true h
  unfold btwS
  rw [if_pos h]
  simp
  omega
theorem btw_at {m : Mv} {i j : Int} (h : btwB m i j = true) {k : Nat} (hk : (k : Int) ≤ j - i) : (btwS m i j)[k]? = some (elS m (i + k)) := by
  have h1 := of_decide_eq_true h
  unfold btwS
  rw [if_pos h, List.getElem?_take, if_pos (by omega), List.getElem?_drop, ← el_at (by omega) (by omega)]
  congr 1
  omega
theorem btw_one {m : Mv} {i : Int} (h : btwB m i i = true) : btwS m i i = [elS m i] := by
  have h1 := btw_len h
  have h2 := btw_at (k := 0) h (by omega)
  match hb : btwS m i i, h1, h2 with
  | [v], _, h2 => simpa using h2
  | [], h1, _ => simp at h1
  | v :: w :: l, h1, _ => simp at h1; omega
theorem take_succ_at {α : Type} {l : List α} {k : Nat} {x : α} (h : l[k]? = some x) : l.take (k + 1) = l.take k ++ [x] := by
  obtain ⟨hk, rfl⟩ := List.getElem?_eq_some_iff.1 h
  rw [List.take_succ_eq_append_getElem hk]
/-- The reference's order of an arc's points. -/
def rowR (r i n : Nat) : List (Nat × Nat) := (List.range n).filterMap fun j => if i * i + j * j = r * r then some (i, j) else none
def arcRo (r d : Nat) : List (Nat × Nat) := (List.range d).flatMap fun q => rowR r (r - q) (r + 1)
def arcRV (c a b : V3) (r d j : Nat) : List V3 := (arcRo r d ++ rowR r (r - d) j).map fun p => plus (plus c a p.1) b p.2
theorem rowR_t {r i j : Nat} (h : i * i + j * j = r * r) : rowR r i (j + 1) = rowR r i j ++ [(i, j)] := by
  unfold rowR
  rw [List.range_succ, List.filterMap_append]
  simp [h]
theorem rowR_f {r i j : Nat} (h : ¬ i * i + j * j = r * r) : rowR r i (j + 1) = rowR r i j := by
  unfold rowR
  rw [List.range_succ, List.filterMap_append]
  simp [h]
theorem arcRV_t {c a b : V3} {r d j : Nat} (h : (r - d) * (r - d) + j * j = r * r) : arcRV c a b r d (j + 1) = arcRV c a b r d j ++ [plus (plus c a ((r - d : Nat) : Int)) b j] := by
  unfold arcRV; rw [rowR_t h, ← List.append_assoc, List.map_append]; rfl
theorem arcRV_f {c a b : V3} {r d j : Nat} (h : ¬ (r - d) * (r - d) + j * j = r * r) : arcRV c a b r d (j + 1) = arcRV c a b r d j := by
  unfold arcRV; rw [rowR_f h]
theorem arcRV_row {c a b : V3} {r d : Nat} : arcRV c a b r (d + 1) 0 = arcRV c a b r d (r + 1) := by
  unfold arcRV arcRo
  rw [List.range_succ, List.flatMap_append]
  simp [rowR]
theorem rowR_len (r i : Nat) : ∀ n, (rowR r i n).length ≤ n
  | 0 => Nat.le_refl _
  | n + 1 => by
    have := rowR_len r i n
    by_cases h : i * i + n * n = r * r
    · rw [rowR_t h]; simp; omega
    · rw [rowR_f h]; omega
theorem arcRo_len (r : Nat) : ∀ d, (arcRo r d).length ≤ d * (r + 1)
  | 0 => by simp [arcRo]
  | d + 1 => by
    have := arcRo_len r d
    have h2 := rowR_len r (r - d) (r + 1)
    have e : arcRo r (d + 1) = arcRo r d ++ rowR r (r - d) (r + 1) := by unfold arcRo; rw [List.range_succ, List.flatMap_append]; simp
    rw [e, List.length_append, Nat.add_mul]
    omega
theorem arcRV_len {c a b : V3} {r d j : Nat} (hr : r ≤ 100) (hd : d ≤ r) (hj : j ≤ r + 1) : (arcRV c a b r d j).length ≤ 20000 := by
  have h1 := arcRo_len r d
  have h2 := rowR_len r (r - d) j
  have h3 : d * (r + 1) ≤ 100 * 101 := Nat.mul_le_mul (by omega) (by omega)
  unfold arcRV
  rw [List.length_map, List.length_append]
  omega
theorem arc_same : ∀ r, r < 49 → arcRo r (r + 1) = arcQ r (r + 1) := by decide +kernel
theorem arc_eq {c a b : V3} {r : Nat} (h : r ≤ 48) : arcRV c a b r (r + 1) 0 = arcV c a b r (r + 1) := by
  unfold arcRV arcV
  rw [← arc_same r (by omega)]
  simp [rowR]

def mc56 : MC := (.seq (.reg [⟨(some 2), (.box 42 1 (.t 0)), none, []⟩, ⟨(some 4), (.mv (.c .nils)), none, []⟩] false) (.seq (.seq (.reg [⟨(some 6), (.mv (.t 1)), none, []⟩] false) (.block 0 (.rfunc (.t 6) [7] (.reg [⟨(some 5), (.alloc 26 3 [(.int .i64 0), (.int .i64 0), (.int .i64 0)]), none, []⟩, ⟨none, (.st 3 (.t 5) (.t 7)), none, [0, 0]⟩] false) (.block 1 (.reg [⟨(some 8), (.ld false 1 (.t 2)), none, []⟩, ⟨(some 9), (.ld true 3 (.t 5)), none, []⟩, ⟨(some 10), (.bslice 26 3 [(.int .i64 0), (.int .i64 0), (.int .i64 0)] 1 [(0, (.t 9))]), none, [1]⟩, ⟨(some 11), (.app 26 3 24 [(.int .i64 0), (.int .i64 0), (.int .i64 0)] (.t 8) (.t 10)), none, [0, 2]⟩, ⟨none, (.st 1 (.t 2) (.t 11)), none, [3, 3, 0, 1, 2, 3]⟩] false))))) (.seq (.reg [⟨(some 12), (.ld false 1 (.t 2)), none, []⟩, ⟨(some 4), (.mv (.t 12)), none, [0, 0]⟩] false) .ret)))
theorem mcOk56 : (match Try.f56.body with | some c => compC Try.prog 13 c | none => none) = some mc56 := by kernel_rfl

theorem fc56_l (m : Mv) (b : V3) (n : Nat) (hm : Bd 100 m.fr) (hb : Bd 100 b) (hn : n ≤ 100) : FC Try.prog 56 [.nils, (.fn (.func 77) [.rp [iv ((n : Nat) : Int)], .rp (cM m), .rp (cV b)])] [] (.rs 3 ((linQ m.fr b (n + 1)).map cV)) [] false := by
  refine fc_run (nt := 13) Try.func56 rfl rfl mcOk56 (Nat.le_of_ble_eq_true rfl) ?_
  delta mc56
  refine aw_seq ?_
  refine aw_reg ?_
  refine rs_box rfl rfl rfl rfl rfl rfl ?_
  refine rs_mv rfl rfl ?_
  refine rs_nil fun _ => ?_
  refine th_n ?_
  refine aw_seq ?_
  refine aw_seq ?_
  refine aw_reg ?_
  refine rs_mv rfl rfl ?_
  refine rs_nil fun _ => ?_
  refine th_n ?_
  refine aw_block ?_
  refine aw_weak (F0 := [(6, (.fn (.func 77) [.rp [iv ((n : Nat) : Int)], .rp (cM m), .rp (cV b)])), (2, .ptr 2 0 0)]) (H0 := [(2, .cells 42 1 [[.sl 901 0 (([] : List V3)).length]] false), (901, .cells 26 3 ((([] : List V3)).map cV) true)]) (Weak.trans (F1 := [(6, (.fn (.func 77) [.rp [iv ((n : Nat) : Int)], .rp (cM m), .rp (cV b)])), (2, .ptr 2 0 0)]) (H1 := [(2, .cells 42 1 [[.nils]] true)]) (weak_to (.cons rfl (rc_same rfl (.inl rfl)) (.cons rfl (rc_same rfl (.inl rfl)) (.nil))) (.keep (rfl) rfl (.nil)) (fun i h => by cases h)) (Weak.trans (F1 := [(6, (.fn (.func 77) [.rp [iv ((n : Nat) : Int)], .rp (cM m), .rp (cV b)])), (2, .ptr 2 0 0)]) (weak_seed (i := 901) (k := 2) (e := 42) (z := 1) (e2 := 26) (z2 := 3) (fl := true) (fl2 := true) rfl rfl) (weak_to (.cons rfl (rc_same rfl (.inl rfl)) (.cons rfl (rc_same rfl (.inl rfl)) (.nil))) (.keep (rfl) rfl (.keep (rfl) rfl (.nil))) (fun i h => by cases h)))) ?_
  refine aw_rfunc 900 [(2, .cells 42 1 [[.sl 901 0 (([] : List V3)).length]] false), (901, .cells 26 3 ((([] : List V3)).map cV) true)] [(2, .cells 42 1 [[.sl 903 0 (linQ m.fr b (n + 1)).length]] false), (903, .cells 26 3 ((linQ m.fr b (n + 1)).map cV) true), (901, .dead)] (.inl ⟨rfl, rfl⟩) rfl (by kernel_rfl) rfl rfl rfl (.cons rfl (.cons rfl (.nil))) rfl rfl rfl rfl (fun r0 hrec => ⟨r0, (by rw [hrec.state]; intro h; cases h), hrec.pending, fc77_app (.fn (.func 77) [.rp [iv ((n : Nat) : Int)], .rp (cM m), .rp (cV b)]) (fun D => rfl) m b n hm hb hn r0 hrec⟩) ?_
  refine in_n ?_
  refine th_n ?_
  refine aw_seq ?_
  refine aw_reg ?_
  first | refine rs_ld_r rfl rfl rfl ?_ | refine rs_ld_p rfl rfl rfl rfl rfl ?_ | refine rs_ld_m rfl rfl rfl (by omega) rfl ?_
  refine rs_mv rfl rfl ?_
  refine rs_nil fun _ => ?_
  refine th_n ?_
  refine aw_ret ?_
  exact ret_new rfl (rc_frz rfl rfl rfl (fun _ => rfl)) .nil

def mc53 : MC := (.seq (.reg [⟨(some 2), (.mv (.c .nils)), none, []⟩] false) (.seq (.reg [⟨(some 3), (.mv (.t 0)), none, []⟩, ⟨(some 4), (.call 56 [(.c .nils), (.t 3)]), none, [0]⟩, ⟨(some 2), (.mv (.t 4)), none, [1, 1, 0, 1]⟩] false) .ret))
theorem mcOk53 : (match Try.f53.body with | some c => compC Try.prog 5 c | none => none) = some mc53 := by kernel_rfl

theorem fc53_l (m : Mv) (b : V3) (n : Nat) (hm : Bd 100 m.fr) (hb : Bd 100 b) (hn : n ≤ 100) : FC Try.prog 53 [(.fn (.func 77) [.rp [iv ((n : Nat) : Int)], .rp (cM m), .rp (cV b)])] [] (.rs 3 ((linQ m.fr b (n + 1)).map cV)) [] true := by
  refine fc_run (nt := 5) Try.func53 rfl rfl mcOk53 (Nat.le_of_ble_eq_true rfl) ?_
  delta mc53
  refine aw_seq ?_
  refine aw_reg ?_
  refine rs_mv rfl rfl ?_
  refine rs_nil fun _ => ?_
  refine th_n ?_
  refine aw_seq ?_
  refine aw_reg ?_
  refine rs_mv rfl rfl ?_
  refine rs_calln [] rfl rfl (fc56_l m b n hm hb hn) (.cons (hv_same rfl) (.cons (hv_same rfl) (.nil))) rfl ?_
  refine rs_mv rfl rfl ?_
  refine rs_nil fun _ => ?_
  refine th_n ?_
  refine aw_ret ?_
  exact ret_pure rfl rfl rfl (.inl rfl)

theorem fc56_a (c a b : V3) (r : Nat) (hc : Bd 100 c) (ha : Bd 100 a) (hb : Bd 100 b) (hr : r ≤ 100) : FC Try.prog 56 [.nils, (.fn (.func 85) [.rp [iv ((r : Nat) : Int)], .rp (cV c), .rp (cV a), .rp (cV b)])] [] (.rs 3 ((arcV c a b r (r + 1)).map cV)) [] false := by
  refine fc_run (nt := 13) Try.func56 rfl rfl mcOk56 (Nat.le_of_ble_eq_true rfl) ?_
  delta mc56
  refine aw_seq ?_
  refine aw_reg ?_
  refine rs_box rfl rfl rfl rfl rfl rfl ?_
  refine rs_mv rfl rfl ?_
  refine rs_nil fun _ => ?_
  refine th_n ?_
  refine aw_seq ?_
  refine aw_seq ?_
  refine aw_reg ?_
  refine rs_mv rfl rfl ?_
  refine rs_nil fun _ => ?_
  refine th_n ?_
  refine aw_block ?_
  refine aw_weak (F0 := [(6, (.fn (.func 85) [.rp [iv ((r : Nat) : Int)], .rp (cV c), .rp (cV a), .rp (cV b)])), (2, .ptr 2 0 0)]) (H0 := [(2, .cells 42 1 [[.sl 901 0 (([] : List V3)).length]] false), (901, .cells 26 3 ((([] : List V3)).map cV) true)]) (Weak.trans (F1 := [(6, (.fn (.func 85) [.rp [iv ((r : Nat) : Int)], .rp (cV c), .rp (cV a), .rp (cV b)])), (2, .ptr 2 0 0)]) (H1 := [(2, .cells 42 1 [[.nils]] true)]) (weak_to (.cons rfl (rc_same rfl (.inl rfl)) (.cons rfl (rc_same rfl (.inl rfl)) (.nil))) (.keep (rfl) rfl (.nil)) (fun i h => by cases h)) (Weak.trans (F1 := [(6, (.fn (.func 85) [.rp [iv ((r : Nat) : Int)], .rp (cV c), .rp (cV a), .rp (cV b)])), (2, .ptr 2 0 0)]) (weak_seed (i := 901) (k := 2) (e := 42) (z := 1) (e2 := 26) (z2 := 3) (fl := true) (fl2 := true) rfl rfl) (weak_to (.cons rfl (rc_same rfl (.inl rfl)) (.cons rfl (rc_same rfl (.inl rfl)) (.nil))) (.keep (rfl) rfl (.keep (rfl) rfl (.nil))) (fun i h => by cases h)))) ?_
  refine aw_rfunc 900 [(2, .cells 42 1 [[.sl 901 0 (([] : List V3)).length]] false), (901, .cells 26 3 ((([] : List V3)).map cV) true)] [(2, .cells 42 1 [[.sl 903 0 (arcV c a b r (r + 1)).length]] false), (903, .cells 26 3 ((arcV c a b r (r + 1)).map cV) true), (901, .dead)] (.inl ⟨rfl, rfl⟩) rfl (by kernel_rfl) rfl rfl rfl (.cons rfl (.cons rfl (.nil))) rfl rfl rfl rfl (fun r0 hrec => ⟨r0, (by rw [hrec.state]; intro h; cases h), hrec.pending, fc85_app (.fn (.func 85) [.rp [iv ((r : Nat) : Int)], .rp (cV c), .rp (cV a), .rp (cV b)]) (fun D => rfl) c a b r hc ha hb hr r0 hrec⟩) ?_
  refine in_n ?_
  refine th_n ?_
  refine aw_seq ?_
  refine aw_reg ?_
  first | refine rs_ld_r rfl rfl rfl ?_ | refine rs_ld_p rfl rfl rfl rfl rfl ?_ | refine rs_ld_m rfl rfl rfl (by omega) rfl ?_
  refine rs_mv rfl rfl ?_
  refine rs_nil fun _ => ?_
  refine th_n ?_
  refine aw_ret ?_
  exact ret_new rfl (rc_frz rfl rfl rfl (fun _ => rfl)) .nil

theorem fc53_a (c a b : V3) (r : Nat) (hc : Bd 100 c) (ha : Bd 100 a) (hb : Bd 100 b) (hr : r ≤ 100) : FC Try.prog 53 [(.fn (.func 85) [.rp [iv ((r : Nat) : Int)], .rp (cV c), .rp (cV a), .rp (cV b)])] [] (.rs 3 ((arcV c a b r (r + 1)).map cV)) [] true := by
  refine fc_run (nt := 5) Try.func53 rfl rfl mcOk53 (Nat.le_of_ble_eq_true rfl) ?_
  delta mc53
  refine aw_seq ?_
  refine aw_reg ?_
  refine rs_mv rfl rfl ?_
  refine rs_nil fun _ => ?_
  refine th_n ?_
  refine aw_seq ?_
  refine aw_reg ?_
  refine rs_mv rfl rfl ?_
  refine rs_calln [] rfl rfl (fc56_a c a b r hc ha hb hr) (.cons (hv_same rfl) (.cons (hv_same rfl) (.nil))) rfl ?_
  refine rs_mv rfl rfl ?_
  refine rs_nil fun _ => ?_
  refine th_n ?_
  refine aw_ret ?_
  exact ret_pure rfl rfl rfl (.inl rfl)

def mc43 : MC := (.seq (.reg [⟨(some 1), (.box 28 11 (.t 0)), none, []⟩, ⟨(some 2), (.mv (.c .nils)), none, []⟩] false) (.seq (.seq (.reg [⟨(some 3), (.ld true 11 (.t 1)), none, []⟩, ⟨(some 4), (.call 12 [(.t 3)]), none, [0]⟩, ⟨(some 5), (.bin .neq (.t 4) (.c (.int .i64 0))), none, [1]⟩] false) (.cond (.t 5) (.seq (.reg [⟨(some 2), (.mv (.c .nils)), none, []⟩] false) .ret) .skip)) (.seq (.reg [⟨(some 6), (.ld true 11 (.t 1)), none, []⟩, ⟨(some 7), (.call 39 [(.t 6)]), none, [0]⟩, ⟨(some 8), (.inv "collet/move.steps" (.t 7) []), none, [1, 1]⟩, ⟨(some 9), (.call 53 [(.t 8)]), none, [2, 2]⟩, ⟨(some 2), (.mv (.t 9)), none, [3, 3, 0, 1, 2, 3]⟩] false) .ret)))
theorem mcOk43 : (match Try.f43.body with | some c => compC Try.prog 10 c | none => none) = some mc43 := by kernel_rfl

theorem fc43_l (m : Mv) (hk : m.kind = 1 ∨ m.kind = 2) : FC Try.prog 43 [aM m] [] (.rs 3 ((pathS m).map cV)) [] true := by
  refine fc_run (nt := 10) Try.func43 rfl rfl mcOk43 (Nat.le_of_ble_eq_true rfl) ?_
  delta mc43
  refine aw_seq ?_
  refine aw_reg ?_
  refine rs_box rfl rfl rfl rfl rfl rfl ?_
  refine rs_mv rfl rfl ?_
  refine rs_nil fun _ => ?_
  refine th_n ?_
  refine aw_seq ?_
  refine aw_seq ?_
  refine aw_reg ?_
  first | refine rs_ld_pa rfl rfl rfl rfl (Nat.le_of_ble_eq_true rfl) rfl ?_ | refine rs_ld_ra rfl rfl (Nat.le_of_ble_eq_true rfl) rfl ?_ | refine rs_ld_ma rfl rfl rfl (by omega) (Nat.le_of_ble_eq_true rfl) rfl ?_
  refine rs_calln [] rfl rfl (fc12 m) (.cons (hv_same rfl) (.nil)) rfl ?_
  refine rs_neq rfl rfl rfl ?_
  refine rs_nil fun _ => ?_
  refine th_n ?_
  refine aw_cond rfl (fun h5 => ?_) (fun h5 => ?_)
  · first | replace h5 := of_decide_eq_true h5 | skip
    refine aw_seq ?_
    refine aw_reg ?_
    refine rs_mv rfl rfl ?_
    refine rs_nil fun _ => ?_
    refine th_n ?_
    refine aw_ret ?_
    refine th_r ?_
    first
      | exact ret_pure rfl rfl rfl (.inl rfl)
      | (rw [path_0 h5]; exact ret_new rfl rc_nils .nil)
  · first | replace h5 := of_decide_eq_false h5 | skip
    have h0 : checkS m = 0 := by omega
    have hi := ck_in h0
    have hg1 := gS_le (n := 48) hi.d48
    have hp := path_l h0 hk
    rw [hp]
    refine aw_skip ?_
    refine th_n ?_
    refine aw_seq ?_
    refine aw_reg ?_
    first | refine rs_ld_pa rfl rfl rfl rfl (Nat.le_of_ble_eq_true rfl) rfl ?_ | refine rs_ld_ra rfl rfl (Nat.le_of_ble_eq_true rfl) rfl ?_ | refine rs_ld_ma rfl rfl rfl (by omega) (Nat.le_of_ble_eq_true rfl) rfl ?_
    refine rs_calln [] rfl rfl (fc39_l m hk) (.cons (hv_same rfl) (.nil)) rfl ?_
    refine rs_invn [] rfl rfl (by kernel_rfl) (by kernel_rfl) rfl (fc76 m hi) (.cons (hv_same rfl) (.nil)) rfl ?_
    refine rs_callo [] rfl rfl (fc53_l m (primV (dS m)) (gS (dS m)) (hi.fr.mono (by omega)) ((prim_bd hi.d48).mono (by omega)) (by omega)) (.cons (hv_same rfl) (.nil)) (.nil) rfl rfl rfl ?_
    refine rs_mv rfl rfl ?_
    refine rs_nil fun _ => ?_
    refine th_n ?_
    refine aw_ret ?_
    first
      | exact ret_pure rfl rfl rfl (.inl rfl)
      | (rw [path_0 h5]; exact ret_new rfl rc_nils .nil)

theorem fc43_a (m : Mv) (hk : m.kind = 3) : FC Try.prog 43 [aM m] [] (.rs 3 ((pathS m).map cV)) [] true := by
  refine fc_run (nt := 10) Try.func43 rfl rfl mcOk43 (Nat.le_of_ble_eq_true rfl) ?_
  delta mc43
  refine aw_seq ?_
  refine aw_reg ?_
  refine rs_box rfl rfl rfl rfl rfl rfl ?_
  refine rs_mv rfl rfl ?_
  refine rs_nil fun _ => ?_
  refine th_n ?_
  refine aw_seq ?_
  refine aw_seq ?_
  refine aw_reg ?_
  first | refine rs_ld_pa rfl rfl rfl rfl (Nat.le_of_ble_eq_true rfl) rfl ?_ | refine rs_ld_ra rfl rfl (Nat.le_of_ble_eq_true rfl) rfl ?_ | refine rs_ld_ma rfl rfl rfl (by omega) (Nat.le_of_ble_eq_true rfl) rfl ?_
  refine rs_calln [] rfl rfl (fc12 m) (.cons (hv_same rfl) (.nil)) rfl ?_
  refine rs_neq rfl rfl rfl ?_
  refine rs_nil fun _ => ?_
  refine th_n ?_
  refine aw_cond rfl (fun h5 => ?_) (fun h5 => ?_)
  · first | replace h5 := of_decide_eq_true h5 | skip
    refine aw_seq ?_
    refine aw_reg ?_
    refine rs_mv rfl rfl ?_
    refine rs_nil fun _ => ?_
    refine th_n ?_
    refine aw_ret ?_
    refine th_r ?_
    first
      | exact ret_pure rfl rfl rfl (.inl rfl)
      | (rw [path_0 h5]; exact ret_new rfl rc_nils .nil)
  · first | replace h5 := of_decide_eq_false h5 | skip
    have h0 : checkS m = 0 := by omega
    have hi := ck_in h0
    have hg1 := gS_le (n := 48) hi.a48
    have hp := path_a h0 hk
    rw [hp]
    refine aw_skip ?_
    refine th_n ?_
    refine aw_seq ?_
    refine aw_reg ?_
    first | refine rs_ld_pa rfl rfl rfl rfl (Nat.le_of_ble_eq_true rfl) rfl ?_ | refine rs_ld_ra rfl rfl (Nat.le_of_ble_eq_true rfl) rfl ?_ | refine rs_ld_ma rfl rfl rfl (by omega) (Nat.le_of_ble_eq_true rfl) rfl ?_
    refine rs_calln [] rfl rfl (fc39_a m hk) (.cons (hv_same rfl) (.nil)) rfl ?_
    refine rs_invn [] rfl rfl (by kernel_rfl) (by kernel_rfl) rfl (fc82 m hi) (.cons (hv_same rfl) (.nil)) rfl ?_
    refine rs_callo [] rfl rfl (fc53_a (cenS m) (primV (sA m)) (primV (sB m)) (gS (sA m)) hi.c ((prim_bd hi.a48).mono (by omega)) ((prim_bd hi.b48).mono (by omega)) (by omega)) (.cons (hv_same rfl) (.nil)) (.nil) rfl rfl rfl ?_
    refine rs_mv rfl rfl ?_
    refine rs_nil fun _ => ?_
    refine th_n ?_
    refine aw_ret ?_
    first
      | exact ret_pure rfl rfl rfl (.inl rfl)
      | (rw [path_0 h5]; exact ret_new rfl rc_nils .nil)

theorem fc43_n (m : Mv) (hk : ¬ m.kind = 1 ∧ ¬ m.kind = 2 ∧ ¬ m.kind = 3) : FC Try.prog 43 [aM m] [] (.rs 3 ((pathS m).map cV)) [] true := by
  refine fc_run (nt := 10) Try.func43 rfl rfl mcOk43 (Nat.le_of_ble_eq_true rfl) ?_
  delta mc43
  refine aw_seq ?_
  refine aw_reg ?_
  refine rs_box rfl rfl rfl rfl rfl rfl ?_
  refine rs_mv rfl rfl ?_
  refine rs_nil fun _ => ?_
  refine th_n ?_
  refine aw_seq ?_
  refine aw_seq ?_
  refine aw_reg ?_
  first | refine rs_ld_pa rfl rfl rfl rfl (Nat.le_of_ble_eq_true rfl) rfl ?_ | refine rs_ld_ra rfl rfl (Nat.le_of_ble_eq_true rfl) rfl ?_ | refine rs_ld_ma rfl rfl rfl (by omega) (Nat.le_of_ble_eq_true rfl) rfl ?_
  refine rs_calln [] rfl rfl (fc12 m) (.cons (hv_same rfl) (.nil)) rfl ?_
  refine rs_cmp_t rfl rfl rfl rfl (by rw [ck_n hk]; decide) ?_
  refine rs_nil fun _ => ?_
  refine th_n ?_
  refine aw_cond rfl (fun _ => ?_) (fun h => by cases h)
  refine aw_seq ?_
  refine aw_reg ?_
  refine rs_mv rfl rfl ?_
  refine rs_nil fun _ => ?_
  refine th_n ?_
  refine aw_ret ?_
  refine th_r ?_
  rw [path_0 (by rw [ck_n hk]; decide)]
  exact ret_new rfl rc_nils .nil

theorem fc43 (m : Mv) : FC Try.prog 43 [aM m] [] (.rs 3 ((pathS m).map cV)) [] true := by
  by_cases h1 : m.kind = 1 ∨ m.kind = 2
  · exact fc43_l m h1
  · by_cases h3 : m.kind = 3
    · exact fc43_a m h3
    · exact fc43_n m (by omega)

def mc14 : MC := (.seq (.reg [⟨(some 1), (.box 28 11 (.t 0)), none, []⟩, ⟨(some 2), (.mv (.c (.int .i64 0))), none, []⟩] false) (.seq (.reg [⟨(some 3), (.ld true 11 (.t 1)), none, []⟩, ⟨(some 4), (.call 43 [(.t 3)]), none, [0]⟩, ⟨(some 5), (.len (.t 4)), none, [1]⟩, ⟨(some 6), (.bin .sub (.t 5) (.c (.int .i64 1))), none, [2]⟩, ⟨(some 7), (.mx (.t 6) (.c (.int .i64 0))), none, [3]⟩, ⟨(some 2), (.mv (.t 7)), none, [4, 1, 0, 1, 2, 3, 4]⟩] false) .ret))
theorem mcOk14 : (match Try.f14.body with | some c => compC Try.prog 8 c | none => none) = some mc14 := by kernel_rfl

theorem fc14 (m : Mv) : FC Try.prog 14 [aM m] [] (iv (stepsS m)) [] false := by
  have hl := path_len m
  refine fc_run (nt := 8) Try.func14 rfl rfl mcOk14 (Nat.le_of_ble_eq_true rfl) ?_
  delta mc14
  refine aw_seq ?_
  refine aw_reg ?_
  refine rs_box rfl rfl rfl rfl rfl rfl ?_
  refine rs_mv rfl rfl ?_
  refine rs_nil fun _ => ?_
  refine th_n ?_
  refine aw_seq ?_
  refine aw_reg ?_
  first | refine rs_ld_pa rfl rfl rfl rfl (Nat.le_of_ble_eq_true rfl) rfl ?_ | refine rs_ld_ra rfl rfl (Nat.le_of_ble_eq_true rfl) rfl ?_ | refine rs_ld_ma rfl rfl rfl (by omega) (Nat.le_of_ble_eq_true rfl) rfl ?_
  refine rs_callo [] rfl rfl (fc43 m) (.cons (hv_same rfl) (.nil)) (.nil) rfl rfl rfl ?_
  first | refine rs_len_m rfl rfl ?_ | refine rs_len_s rfl rfl ?_ | refine rs_len_n rfl rfl ?_ | refine rs_len_r rfl rfl rfl ?_
  first | refine rs_sub rfl rfl rfl (by omega) ?_ | refine rs_subw rfl rfl rfl rfl ?_
  refine rs_mx rfl rfl rfl rfl ?_
  refine rs_mv rfl rfl ?_
  refine rs_nil fun _ => ?_
  refine th_n ?_
  refine aw_ret ?_
  exact ret_pure rfl rfl rfl (.inr rfl)

def mc17 : MC := (.seq (.reg [⟨(some 2), (.box 28 11 (.t 0)), none, []⟩, ⟨(some 3), (.box 3 1 (.t 1)), none, []⟩, ⟨(some 4), (.alloc 26 3 [(.int .i64 0), (.int .i64 0), (.int .i64 0)]), none, []⟩, ⟨(some 5), (.alloc 4 1 [(.bool false)]), none, []⟩] false) (.seq (.reg [⟨(some 6), (.alloc 3 1 [(.int .i64 0)]), none, []⟩, ⟨none, (.st 1 (.t 6) (.c (.int .i64 0))), none, [0, 0]⟩] false) (.seq (.seq (.reg [⟨(some 8), (.ld true 11 (.t 2)), none, []⟩, ⟨(some 9), (.call 12 [(.t 8)]), none, [0]⟩, ⟨(some 10), (.bin .neq (.t 9) (.c (.int .i64 0))), none, [1]⟩] false) (.cond (.t 10) (.seq (.reg [⟨(some 11), (.build [(.int .i64 0), (.int .i64 0), (.int .i64 0)] []), none, []⟩, ⟨none, (.st 3 (.t 4) (.t 11)), none, [0, 0]⟩, ⟨none, (.st 1 (.t 5) (.c (.bool false))), none, [1, 0, 1]⟩] false) .ret) .skip)) (.seq (.seq (.reg [⟨(some 12), (.ld true 11 (.t 2)), none, []⟩, ⟨(some 13), (.call 39 [(.t 12)]), none, [0]⟩, ⟨(some 14), (.inv "collet/move.steps" (.t 13) []), none, [1, 1]⟩] false) (.block 0 (.rfunc (.t 14) [15] (.reg [⟨(some 7), (.alloc 26 3 [(.int .i64 0), (.int .i64 0), (.int .i64 0)]), none, []⟩, ⟨none, (.st 3 (.t 7) (.t 15)), none, [0, 0]⟩] false) (.block 1 (.seq (.seq (.reg [⟨(some 16), (.ld false 1 (.t 6)), none, []⟩, ⟨(some 17), (.ld false 1 (.t 3)), none, []⟩, ⟨(some 18), (.bin .eql (.t 16) (.t 17)), none, [0, 1]⟩] false) (.cond (.t 18) (.seq (.reg [⟨(some 19), (.ld true 3 (.t 7)), none, []⟩, ⟨none, (.st 3 (.t 4) (.t 19)), none, [0, 0]⟩, ⟨none, (.st 1 (.t 5) (.c (.bool true))), none, [1, 0, 1]⟩] false) .ret) .skip)) (.reg [⟨(some 20), (.ld false 1 (.t 6)), none, []⟩, ⟨(some 21), (.bin .add (.t 20) (.c (.int .i64 1))), none, [0]⟩, ⟨none, (.st 1 (.t 6) (.t 21)), none, [1, 0, 1]⟩] false)))))) (.seq (.reg [⟨(some 22), (.build [(.int .i64 0), (.int .i64 0), (.int .i64 0)] []), none, []⟩, ⟨none, (.st 3 (.t 4) (.t 22)), none, [0, 0]⟩, ⟨none, (.st 1 (.t 5) (.c (.bool false))), none, [1, 0, 1]⟩] false) .ret)))))
theorem mcOk17 : (match Try.f17.body with | some c => compC Try.prog 23 c | none => none) = some mc17 := by kernel_rfl

theorem fc17_0 (m : Mv) (step : Int) (h0 : ¬ checkS m = 0) : FC Try.prog 17 [aM m, iv step] [] (.tup [aV (atV m step), .bool (atB m step)]) [] false := by
  refine fc_run (nt := 23) Try.func17 rfl rfl mcOk17 (Nat.le_of_ble_eq_true rfl) ?_
  delta mc17
  refine aw_seq ?_
  refine aw_reg ?_
  refine rs_box rfl rfl rfl rfl rfl rfl ?_
  refine rs_box rfl rfl rfl rfl rfl rfl ?_
  refine rs_alloc rfl rfl rfl ?_
  refine rs_alloc rfl rfl rfl ?_
  refine rs_nil fun _ => ?_
  refine th_n ?_
  refine aw_seq ?_
  refine aw_reg ?_
  refine rs_alloc rfl rfl rfl ?_
  refine rs_st rfl rfl rfl rfl rfl rfl rfl (Nat.le_of_ble_eq_true rfl) rfl rfl ?_
  refine rs_nil fun _ => ?_
  refine th_n ?_
  refine aw_seq ?_
  refine aw_seq ?_
  refine aw_reg ?_
  first | refine rs_ld_pa rfl rfl rfl rfl (Nat.le_of_ble_eq_true rfl) rfl ?_ | refine rs_ld_ra rfl rfl (Nat.le_of_ble_eq_true rfl) rfl ?_ | refine rs_ld_ma rfl rfl rfl (by omega) (Nat.le_of_ble_eq_true rfl) rfl ?_
  refine rs_calln [] rfl rfl (fc12 m) (.cons (hv_same rfl) (.nil)) rfl ?_
  refine rs_cmp_t rfl rfl rfl rfl h0 ?_
  refine rs_nil fun _ => ?_
  refine th_n ?_
  refine aw_cond rfl (fun _ => ?_) (fun h => by cases h)
  refine aw_seq ?_
  refine aw_reg ?_
  refine rs_build rfl rfl ?_
  refine rs_st rfl rfl rfl rfl rfl rfl rfl (Nat.le_of_ble_eq_true rfl) rfl rfl ?_
  refine rs_st rfl rfl rfl rfl rfl rfl rfl (Nat.le_of_ble_eq_true rfl) rfl rfl ?_
  refine rs_nil fun _ => ?_
  refine th_n ?_
  refine aw_ret ?_
  refine th_r ?_
  obtain ⟨hv, hb⟩ := at_no (m := m) (s := step) (by rw [path_0 h0]; simp; omega)
  rw [hv, hb]
  exact ret_pure rfl rfl rfl (.inr rfl)

theorem fc17_ln (m : Mv) (step : Int) (h0 : checkS m = 0) (hk : m.kind = 1 ∨ m.kind = 2) (hs : step < 0 ∨ ((pathS m).length : Int) ≤ step) : FC Try.prog 17 [aM m, iv step] [] (.tup [aV (atV m step), .bool (atB m step)]) [] false := by
  have hi := ck_in h0
  have hg1 := gS_le (n := 48) hi.d48
  have hp := path_l h0 hk
  refine fc_run (nt := 23) Try.func17 rfl rfl mcOk17 (Nat.le_of_ble_eq_true rfl) ?_
  delta mc17
  refine aw_seq ?_
  refine aw_reg ?_
  refine rs_box rfl rfl rfl rfl rfl rfl ?_
  refine rs_box rfl rfl rfl rfl rfl rfl ?_
  refine rs_alloc rfl rfl rfl ?_
  refine rs_alloc rfl rfl rfl ?_
  refine rs_nil fun _ => ?_
  refine th_n ?_
  refine aw_seq ?_
  refine aw_reg ?_
  refine rs_alloc rfl rfl rfl ?_
  refine rs_st rfl rfl rfl rfl rfl rfl rfl (Nat.le_of_ble_eq_true rfl) rfl rfl ?_
  refine rs_nil fun _ => ?_
  refine th_n ?_
  refine aw_seq ?_
  refine aw_seq ?_
  refine aw_reg ?_
  first | refine rs_ld_pa rfl rfl rfl rfl (Nat.le_of_ble_eq_true rfl) rfl ?_ | refine rs_ld_ra rfl rfl (Nat.le_of_ble_eq_true rfl) rfl ?_ | refine rs_ld_ma rfl rfl rfl (by omega) (Nat.le_of_ble_eq_true rfl) rfl ?_
  refine rs_calln [] rfl rfl (fc12 m) (.cons (hv_same rfl) (.nil)) rfl ?_
  refine rs_cmp_f rfl rfl rfl rfl (fun h => h h0) ?_
  refine rs_nil fun _ => ?_
  refine th_n ?_
  refine aw_cond rfl (fun h => by cases h) (fun _ => ?_)
  refine aw_skip ?_
  refine th_n ?_
  refine aw_seq ?_
  refine aw_seq ?_
  refine aw_reg ?_
  first | refine rs_ld_pa rfl rfl rfl rfl (Nat.le_of_ble_eq_true rfl) rfl ?_ | refine rs_ld_ra rfl rfl (Nat.le_of_ble_eq_true rfl) rfl ?_ | refine rs_ld_ma rfl rfl rfl (by omega) (Nat.le_of_ble_eq_true rfl) rfl ?_
  refine rs_calln [] rfl rfl (fc39_l m hk) (.cons (hv_same rfl) (.nil)) rfl ?_
  refine rs_invn [] rfl rfl (by kernel_rfl) (by kernel_rfl) rfl (fc76 m hi) (.cons (hv_same rfl) (.nil)) rfl ?_
  refine rs_nil fun _ => ?_
  refine th_n ?_
  refine aw_block ?_
  refine aw_weak (F0 := [(14, (.fn (.func 77) [.rp [iv ((gS (dS m) : Nat) : Int)], .rp (cM m), .rp (cV (primV (dS m)))])), (6, .ptr 6 0 0), (3, .ptr 3 0 0), (4, .ptr 4 0 0), (5, .ptr 5 0 0)]) (H0 := [(6, .cells 3 1 [[iv (((0) : Nat) : Int)]] true), (3, .cells 3 1 [[iv step]] true), (4, .cells 26 3 [cV ⟨0, 0, 0⟩] true), (5, .cells 4 1 [[.bool false]] true)]) (weak_to (.cons rfl (rc_same rfl (.inl rfl)) (.cons rfl (rc_same rfl (.inl rfl)) (.cons rfl (rc_same rfl (.inl rfl)) (.cons rfl (rc_same rfl (.inl rfl)) (.cons rfl (rc_same rfl (.inl rfl)) (.nil)))))) (.keep (rfl) rfl (.keep (rfl) rfl (.keep (rfl) rfl (.keep (rfl) rfl (.nil))))) (fun i h => by cases h)) ?_
  refine aw_rfunc 900 [(6, .cells 3 1 [[iv (((0) : Nat) : Int)]] true), (3, .cells 3 1 [[iv step]] true), (4, .cells 26 3 [cV ⟨0, 0, 0⟩] true), (5, .cells 4 1 [[.bool false]] true)] [(6, .cells 3 1 [[iv ((((gS (dS m) + 1)) : Nat) : Int)]] true), (3, .cells 3 1 [[iv step]] true), (4, .cells 26 3 [cV ⟨0, 0, 0⟩] true), (5, .cells 4 1 [[.bool false]] true)] (.inl ⟨rfl, rfl⟩) rfl (by kernel_rfl) rfl rfl rfl (.cons rfl (.cons rfl (.cons rfl (.cons rfl (.nil))))) rfl rfl rfl rfl (fun r0 hrec => ⟨r0, (by rw [hrec.state]; intro h; cases h), hrec.pending, fc77_at_n (.fn (.func 77) [.rp [iv ((gS (dS m) : Nat) : Int)], .rp (cM m), .rp (cV (primV (dS m)))]) (fun D => rfl) step m (primV (dS m)) (gS (dS m)) (hi.fr.mono (by omega)) ((prim_bd hi.d48).mono (by omega)) (by omega) (by rw [hp] at hs; rw [linQ_len] at hs; omega) r0 hrec⟩) ?_
  refine in_n ?_
  refine th_n ?_
  refine aw_seq ?_
  refine aw_reg ?_
  refine rs_build rfl rfl ?_
  refine rs_st rfl rfl rfl rfl rfl rfl rfl (Nat.le_of_ble_eq_true rfl) rfl rfl ?_
  refine rs_st rfl rfl rfl rfl rfl rfl rfl (Nat.le_of_ble_eq_true rfl) rfl rfl ?_
  refine rs_nil fun _ => ?_
  refine th_n ?_
  refine aw_ret ?_
  obtain ⟨hv, hb⟩ := at_no hs
  rw [hv, hb]
  exact ret_pure rfl rfl rfl (.inr rfl)

theorem fc17_ls (m : Mv) (k : Nat) (v : V3) (h0 : checkS m = 0) (hk : m.kind = 1 ∨ m.kind = 2) (hv : (pathS m)[k]? = some v) : FC Try.prog 17 [aM m, iv (k : Int)] [] (.tup [aV v, .bool true]) [] false := by
  have hi := ck_in h0
  have hg1 := gS_le (n := 48) hi.d48
  have hp := path_l h0 hk
  rw [hp] at hv
  have hlt := lt_of_at hv
  rw [linQ_len] at hlt
  rw [linQ_at hlt] at hv
  injection hv with hv
  subst hv
  refine fc_run (nt := 23) Try.func17 rfl rfl mcOk17 (Nat.le_of_ble_eq_true rfl) ?_
  delta mc17
  refine aw_seq ?_
  refine aw_reg ?_
  refine rs_box rfl rfl rfl rfl rfl rfl ?_
  refine rs_box rfl rfl rfl rfl rfl rfl ?_
  refine rs_alloc rfl rfl rfl ?_
  refine rs_alloc rfl rfl rfl ?_
  refine rs_nil fun _ => ?_
  refine th_n ?_
  refine aw_seq ?_
  refine aw_reg ?_
  refine rs_alloc rfl rfl rfl ?_
  refine rs_st rfl rfl rfl rfl rfl rfl rfl (Nat.le_of_ble_eq_true rfl) rfl rfl ?_
  refine rs_nil fun _ => ?_
  refine th_n ?_
  refine aw_seq ?_
  refine aw_seq ?_
  refine aw_reg ?_
  first | refine rs_ld_pa rfl rfl rfl rfl (Nat.le_of_ble_eq_true rfl) rfl ?_ | refine rs_ld_ra rfl rfl (Nat.le_of_ble_eq_true rfl) rfl ?_ | refine rs_ld_ma rfl rfl rfl (by omega) (Nat.le_of_ble_eq_true rfl) rfl ?_
  refine rs_calln [] rfl rfl (fc12 m) (.cons (hv_same rfl) (.nil)) rfl ?_
  refine rs_cmp_f rfl rfl rfl rfl (fun h => h h0) ?_
  refine rs_nil fun _ => ?_
  refine th_n ?_
  refine aw_cond rfl (fun h => by cases h) (fun _ => ?_)
  refine aw_skip ?_
  refine th_n ?_
  refine aw_seq ?_
  refine aw_seq ?_
  refine aw_reg ?_
  first | refine rs_ld_pa rfl rfl rfl rfl (Nat.le_of_ble_eq_true rfl) rfl ?_ | refine rs_ld_ra rfl rfl (Nat.le_of_ble_eq_true rfl) rfl ?_ | refine rs_ld_ma rfl rfl rfl (by omega) (Nat.le_of_ble_eq_true rfl) rfl ?_
  refine rs_calln [] rfl rfl (fc39_l m hk) (.cons (hv_same rfl) (.nil)) rfl ?_
  refine rs_invn [] rfl rfl (by kernel_rfl) (by kernel_rfl) rfl (fc76 m hi) (.cons (hv_same rfl) (.nil)) rfl ?_
  refine rs_nil fun _ => ?_
  refine th_n ?_
  refine aw_block ?_
  refine aw_weak (F0 := [(14, (.fn (.func 77) [.rp [iv ((gS (dS m) : Nat) : Int)], .rp (cM m), .rp (cV (primV (dS m)))])), (6, .ptr 6 0 0), (3, .ptr 3 0 0), (4, .ptr 4 0 0), (5, .ptr 5 0 0)]) (H0 := [(6, .cells 3 1 [[iv (((0) : Nat) : Int)]] true), (3, .cells 3 1 [[iv (k : Int)]] true), (4, .cells 26 3 [cV ⟨0, 0, 0⟩] true), (5, .cells 4 1 [[.bool false]] true)]) (weak_to (.cons rfl (rc_same rfl (.inl rfl)) (.cons rfl (rc_same rfl (.inl rfl)) (.cons rfl (rc_same rfl (.inl rfl)) (.cons rfl (rc_same rfl (.inl rfl)) (.cons rfl (rc_same rfl (.inl rfl)) (.nil)))))) (.keep (rfl) rfl (.keep (rfl) rfl (.keep (rfl) rfl (.keep (rfl) rfl (.nil))))) (fun i h => by cases h)) ?_
  refine aw_rfunc 900 [(6, .cells 3 1 [[iv (((0) : Nat) : Int)]] true), (3, .cells 3 1 [[iv (k : Int)]] true), (4, .cells 26 3 [cV ⟨0, 0, 0⟩] true), (5, .cells 4 1 [[.bool false]] true)] [(6, .cells 3 1 [[iv (((k) : Nat) : Int)]] true), (3, .cells 3 1 [[iv (k : Int)]] true), (4, .cells 26 3 [cV (plus m.fr (primV (dS m)) (k : Int))] true), (5, .cells 4 1 [[.bool true]] true)] (.inr ⟨rfl, rfl⟩) rfl (by kernel_rfl) rfl rfl rfl (.cons rfl (.cons rfl (.cons rfl (.cons rfl (.nil))))) rfl rfl rfl rfl (fun r0 hrec => ⟨{ r0 with state := .done, pending := some .ret }, (by intro h; cases h), rfl, fc77_at_s (.fn (.func 77) [.rp [iv ((gS (dS m) : Nat) : Int)], .rp (cM m), .rp (cV (primV (dS m)))]) (fun D => rfl) (k : Int) m (primV (dS m)) (gS (dS m)) (hi.fr.mono (by omega)) ((prim_bd hi.d48).mono (by omega)) (by omega) k rfl (by omega) r0 hrec⟩) ?_
  refine in_r ?_
  refine th_r ?_
  exact ret_pure rfl rfl rfl (.inr rfl)

theorem fc17_an (m : Mv) (step : Int) (h0 : checkS m = 0) (hk : m.kind = 3) (hs : step < 0 ∨ ((pathS m).length : Int) ≤ step) : FC Try.prog 17 [aM m, iv step] [] (.tup [aV (atV m step), .bool (atB m step)]) [] false := by
  have hi := ck_in h0
  have hg1 := gS_le (n := 48) hi.a48
  have hp := path_a h0 hk
  refine fc_run (nt := 23) Try.func17 rfl rfl mcOk17 (Nat.le_of_ble_eq_true rfl) ?_
  delta mc17
  refine aw_seq ?_
  refine aw_reg ?_
  refine rs_box rfl rfl rfl rfl rfl rfl ?_
  refine rs_box rfl rfl rfl rfl rfl rfl ?_
  refine rs_alloc rfl rfl rfl ?_
  refine rs_alloc rfl rfl rfl ?_
  refine rs_nil fun _ => ?_
  refine th_n ?_
  refine aw_seq ?_
  refine aw_reg ?_
  refine rs_alloc rfl rfl rfl ?_
  refine rs_st rfl rfl rfl rfl rfl rfl rfl (Nat.le_of_ble_eq_true rfl) rfl rfl ?_
  refine rs_nil fun _ => ?_
  refine th_n ?_
  refine aw_seq ?_
  refine aw_seq ?_
  refine aw_reg ?_
  first | refine rs_ld_pa rfl rfl rfl rfl (Nat.le_of_ble_eq_true rfl) rfl ?_ | refine rs_ld_ra rfl rfl (Nat.le_of_ble_eq_true rfl) rfl ?_ | refine rs_ld_ma rfl rfl rfl (by omega) (Nat.le_of_ble_eq_true rfl) rfl ?_
  refine rs_calln [] rfl rfl (fc12 m) (.cons (hv_same rfl) (.nil)) rfl ?_
  refine rs_cmp_f rfl rfl rfl rfl (fun h => h h0) ?_
  refine rs_nil fun _ => ?_
  refine th_n ?_
  refine aw_cond rfl (fun h => by cases h) (fun _ => ?_)
  refine aw_skip ?_
  refine th_n ?_
  refine aw_seq ?_
  refine aw_seq ?_
  refine aw_reg ?_
  first | refine rs_ld_pa rfl rfl rfl rfl (Nat.le_of_ble_eq_true rfl) rfl ?_ | refine rs_ld_ra rfl rfl (Nat.le_of_ble_eq_true rfl) rfl ?_ | refine rs_ld_ma rfl rfl rfl (by omega) (Nat.le_of_ble_eq_true rfl) rfl ?_
  refine rs_calln [] rfl rfl (fc39_a m hk) (.cons (hv_same rfl) (.nil)) rfl ?_
  refine rs_invn [] rfl rfl (by kernel_rfl) (by kernel_rfl) rfl (fc82 m hi) (.cons (hv_same rfl) (.nil)) rfl ?_
  refine rs_nil fun _ => ?_
  refine th_n ?_
  refine aw_block ?_
  refine aw_weak (F0 := [(14, (.fn (.func 85) [.rp [iv ((gS (sA m) : Nat) : Int)], .rp (cV (cenS m)), .rp (cV (primV (sA m))), .rp (cV (primV (sB m)))])), (6, .ptr 6 0 0), (3, .ptr 3 0 0), (4, .ptr 4 0 0), (5, .ptr 5 0 0)]) (H0 := [(6, .cells 3 1 [[iv (((0) : Nat) : Int)]] true), (3, .cells 3 1 [[iv step]] true), (4, .cells 26 3 [cV ⟨0, 0, 0⟩] true), (5, .cells 4 1 [[.bool false]] true)]) (weak_to (.cons rfl (rc_same rfl (.inl rfl)) (.cons rfl (rc_same rfl (.inl rfl)) (.cons rfl (rc_same rfl (.inl rfl)) (.cons rfl (rc_same rfl (.inl rfl)) (.cons rfl (rc_same rfl (.inl rfl)) (.nil)))))) (.keep (rfl) rfl (.keep (rfl) rfl (.keep (rfl) rfl (.keep (rfl) rfl (.nil))))) (fun i h => by cases h)) ?_
  refine aw_rfunc 900 [(6, .cells 3 1 [[iv (((0) : Nat) : Int)]] true), (3, .cells 3 1 [[iv step]] true), (4, .cells 26 3 [cV ⟨0, 0, 0⟩] true), (5, .cells 4 1 [[.bool false]] true)] [(6, .cells 3 1 [[iv ((((arcV (cenS m) (primV (sA m)) (primV (sB m)) (gS (sA m)) (gS (sA m) + 1)).length) : Nat) : Int)]] true), (3, .cells 3 1 [[iv step]] true), (4, .cells 26 3 [cV ⟨0, 0, 0⟩] true), (5, .cells 4 1 [[.bool false]] true)] (.inl ⟨rfl, rfl⟩) rfl (by kernel_rfl) rfl rfl rfl (.cons rfl (.cons rfl (.cons rfl (.cons rfl (.nil))))) rfl rfl rfl rfl (fun r0 hrec => ⟨r0, (by rw [hrec.state]; intro h; cases h), hrec.pending, fc85_at_n (.fn (.func 85) [.rp [iv ((gS (sA m) : Nat) : Int)], .rp (cV (cenS m)), .rp (cV (primV (sA m))), .rp (cV (primV (sB m)))]) (fun D => rfl) step (cenS m) (primV (sA m)) (primV (sB m)) (gS (sA m)) hi.c ((prim_bd hi.a48).mono (by omega)) ((prim_bd hi.b48).mono (by omega)) (by omega) (by rw [hp] at hs; exact hs) r0 hrec⟩) ?_
  refine in_n ?_
  refine th_n ?_
  refine aw_seq ?_
  refine aw_reg ?_
  refine rs_build rfl rfl ?_
  refine rs_st rfl rfl rfl rfl rfl rfl rfl (Nat.le_of_ble_eq_true rfl) rfl rfl ?_
  refine rs_st rfl rfl rfl rfl rfl rfl rfl (Nat.le_of_ble_eq_true rfl) rfl rfl ?_
  refine rs_nil fun _ => ?_
  refine th_n ?_
  refine aw_ret ?_
  obtain ⟨hv, hb⟩ := at_no hs
  rw [hv, hb]
  exact ret_pure rfl rfl rfl (.inr rfl)

theorem fc17_as (m : Mv) (k : Nat) (v : V3) (h0 : checkS m = 0) (hk : m.kind = 3) (hv : (pathS m)[k]? = some v) : FC Try.prog 17 [aM m, iv (k : Int)] [] (.tup [aV v, .bool true]) [] false := by
  have hi := ck_in h0
  have hg1 := gS_le (n := 48) hi.a48
  have hp := path_a h0 hk
  rw [hp] at hv
  refine fc_run (nt := 23) Try.func17 rfl rfl mcOk17 (Nat.le_of_ble_eq_true rfl) ?_
  delta mc17
  refine aw_seq ?_
  refine aw_reg ?_
  refine rs_box rfl rfl rfl rfl rfl rfl ?_
  refine rs_box rfl rfl rfl rfl rfl rfl ?_
  refine rs_alloc rfl rfl rfl ?_
  refine rs_alloc rfl rfl rfl ?_
  refine rs_nil fun _ => ?_
  refine th_n ?_
  refine aw_seq ?_
  refine aw_reg ?_
  refine rs_alloc rfl rfl rfl ?_
  refine rs_st rfl rfl rfl rfl rfl rfl rfl (Nat.le_of_ble_eq_true rfl) rfl rfl ?_
  refine rs_nil fun _ => ?_
  refine th_n ?_
  refine aw_seq ?_
  refine aw_seq ?_
  refine aw_reg ?_
  first | refine rs_ld_pa rfl rfl rfl rfl (Nat.le_of_ble_eq_true rfl) rfl ?_ | refine rs_ld_ra rfl rfl (Nat.le_of_ble_eq_true rfl) rfl ?_ | refine rs_ld_ma rfl rfl rfl (by omega) (Nat.le_of_ble_eq_true rfl) rfl ?_
  refine rs_calln [] rfl rfl (fc12 m) (.cons (hv_same rfl) (.nil)) rfl ?_
  refine rs_cmp_f rfl rfl rfl rfl (fun h => h h0) ?_
  refine rs_nil fun _ => ?_
  refine th_n ?_
  refine aw_cond rfl (fun h => by cases h) (fun _ => ?_)
  refine aw_skip ?_
  refine th_n ?_
  refine aw_seq ?_
  refine aw_seq ?_
  refine aw_reg ?_
  first | refine rs_ld_pa rfl rfl rfl rfl (Nat.le_of_ble_eq_true rfl) rfl ?_ | refine rs_ld_ra rfl rfl (Nat.le_of_ble_eq_true rfl) rfl ?_ | refine rs_ld_ma rfl rfl rfl (by omega) (Nat.le_of_ble_eq_true rfl) rfl ?_
  refine rs_calln [] rfl rfl (fc39_a m hk) (.cons (hv_same rfl) (.nil)) rfl ?_
  refine rs_invn [] rfl rfl (by kernel_rfl) (by kernel_rfl) rfl (fc82 m hi) (.cons (hv_same rfl) (.nil)) rfl ?_
  refine rs_nil fun _ => ?_
  refine th_n ?_
  refine aw_block ?_
  refine aw_weak (F0 := [(14, (.fn (.func 85) [.rp [iv ((gS (sA m) : Nat) : Int)], .rp (cV (cenS m)), .rp (cV (primV (sA m))), .rp (cV (primV (sB m)))])), (6, .ptr 6 0 0), (3, .ptr 3 0 0), (4, .ptr 4 0 0), (5, .ptr 5 0 0)]) (H0 := [(6, .cells 3 1 [[iv (((0) : Nat) : Int)]] true), (3, .cells 3 1 [[iv (k : Int)]] true), (4, .cells 26 3 [cV ⟨0, 0, 0⟩] true), (5, .cells 4 1 [[.bool false]] true)]) (weak_to (.cons rfl (rc_same rfl (.inl rfl)) (.cons rfl (rc_same rfl (.inl rfl)) (.cons rfl (rc_same rfl (.inl rfl)) (.cons rfl (rc_same rfl (.inl rfl)) (.cons rfl (rc_same rfl (.inl rfl)) (.nil)))))) (.keep (rfl) rfl (.keep (rfl) rfl (.keep (rfl) rfl (.keep (rfl) rfl (.nil))))) (fun i h => by cases h)) ?_
  refine aw_rfunc 900 [(6, .cells 3 1 [[iv (((0) : Nat) : Int)]] true), (3, .cells 3 1 [[iv (k : Int)]] true), (4, .cells 26 3 [cV ⟨0, 0, 0⟩] true), (5, .cells 4 1 [[.bool false]] true)] [(6, .cells 3 1 [[iv (((k) : Nat) : Int)]] true), (3, .cells 3 1 [[iv (k : Int)]] true), (4, .cells 26 3 [cV v] true), (5, .cells 4 1 [[.bool true]] true)] (.inr ⟨rfl, rfl⟩) rfl (by kernel_rfl) rfl rfl rfl (.cons rfl (.cons rfl (.cons rfl (.cons rfl (.nil))))) rfl rfl rfl rfl (fun r0 hrec => ⟨{ r0 with state := .done, pending := some .ret }, (by intro h; cases h), rfl, fc85_at_s (.fn (.func 85) [.rp [iv ((gS (sA m) : Nat) : Int)], .rp (cV (cenS m)), .rp (cV (primV (sA m))), .rp (cV (primV (sB m)))]) (fun D => rfl) (k : Int) (cenS m) (primV (sA m)) (primV (sB m)) (gS (sA m)) hi.c ((prim_bd hi.a48).mono (by omega)) ((prim_bd hi.b48).mono (by omega)) (by omega) k v rfl hv r0 hrec⟩) ?_
  refine in_r ?_
  refine th_r ?_
  exact ret_pure rfl rfl rfl (.inr rfl)

theorem fc17 (m : Mv) (step : Int) : FC Try.prog 17 [aM m, iv step] [] (.tup [aV (atV m step), .bool (atB m step)]) [] false := by
  by_cases h0 : checkS m = 0
  · have hk : (m.kind = 1 ∨ m.kind = 2) ∨ m.kind = 3 := Decidable.byContradiction fun h => by
      have := ck_n (m := m) (by omega)
      omega
    by_cases hs : step < 0 ∨ ((pathS m).length : Int) ≤ step
    · rcases hk with hk | hk
      · exact fc17_ln m step h0 hk hs
      · exact fc17_an m step h0 hk hs
    · obtain ⟨k, rfl⟩ : ∃ k : Nat, step = k := ⟨step.toNat, by omega⟩
      obtain ⟨v, hv, _⟩ := at_some (L := pathS m) (k := k) (by omega)
      obtain ⟨e1, e2⟩ := at_yes hv
      rw [e1, e2]
      rcases hk with hk | hk
      · exact fc17_ls m k v h0 hk hv
      · exact fc17_as m k v h0 hk hv
  · exact fc17_0 m step h0

end Go.Proofs.Yteommcdafifckaa

/-! Walks: M5. -/
namespace Go.Proofs.Yteommcdafifckaa
open Go.RowKit

theorem btw_fst {m : Mv} {i j : Int} (h : btwB m i j = true) : (btwS m i j)[(0 : Int).toNat]? = some (elS m i) := by
  have h1 := of_decide_eq_true h
  have := btw_at (k := 0) h (by omega)
  simpa using this
theorem btw_lst {m : Mv} {i j : Int} (h : btwB m i j = true) : (btwS m i j)[(((btwS m i j).length : Int) - 1).toNat]? = some (elS m j) := by
  have h1 := of_decide_eq_true h
  have h2 := btw_len h
  have := btw_at (k := (((btwS m i j).length : Int) - 1).toNat) h (by omega)
  rw [this]
  congr 2
  omega
theorem btw_le (m : Mv) (i j : Int) : (btwS m i j).length ≤ 49 := by
  have := path_len m
  unfold btwS
  split
  · rw [List.length_take, List.length_drop]; omega
  · simp
theorem at_el {m : Mv} {s : Int} (h0 : 0 ≤ s) (h : s < (pathS m).length) : atV m s = elS m s ∧ atB m s = true := ⟨if_pos h0, decide_eq_true ⟨h0, h⟩⟩
theorem rs_aeqp {P : Program} {N : Nat} {F : Fr} {H : Hp} {ml : List MOper} {K : List Fp → Fr → Hp → Prop} {d : Nat} {g : Option (Nat × Bool)} {pre : List Nat} {neg : Bool} {x y : Arg} {u v : V3 × V3} (hg : gOK F g = true) (hx : aarg F x = some (.agg (cP u))) (hy : aarg F y = some (.agg (cP v)))
    (h : RS P N ml ((d, .bool (neg != decide (u = v))) :: F) H (fun fps => K (([], []) :: fps))) : RS P N (⟨some d, .aeq neg 6 x y, g, pre⟩ :: ml) F H K :=
  rs_aeq [u.1.x, u.1.y, u.1.z, u.2.x, u.2.y, u.2.z] [v.1.x, v.1.y, v.1.z, v.2.x, v.2.y, v.2.z] hg hx hy rfl rfl rfl rfl (by
    congr 1
    obtain ⟨⟨a, b, c⟩, ⟨d, e, f⟩⟩ := u
    obtain ⟨⟨a', b', c'⟩, ⟨d', e', f'⟩⟩ := v
    simp [and_assoc]) h

def mc45 : MC := (.seq (.reg [⟨(some 3), (.box 28 11 (.t 0)), none, []⟩, ⟨(some 6), (.mv (.c .nils)), none, []⟩, ⟨(some 7), (.mv (.c (.bool false))), none, [1]⟩] false) (.seq (.reg [⟨(some 9), (.ld true 11 (.t 3)), none, []⟩, ⟨(some 10), (.call 43 [(.t 9)]), none, [0]⟩, ⟨(some 8), (.mv (.t 10)), none, [1, 1, 0, 1]⟩] false) (.seq (.seq (.reg [⟨(some 11), (.mv (.t 1)), none, []⟩, ⟨(some 12), (.bin .lss (.t 11) (.c (.int .i64 0))), none, [0]⟩, ⟨(some 13), (.mv (.t 12)), none, [1]⟩, ⟨(some 14), (.mv (.t 2)), (some (13, false)), [2]⟩, ⟨(some 15), (.mv (.t 1)), (some (13, false)), [2]⟩, ⟨(some 16), (.bin .lss (.t 14) (.t 15)), (some (13, false)), [3, 4, 2]⟩, ⟨(some 17), (.pick (.t 13) (.c (.bool true)) (.t 16)), none, [2, 5]⟩, ⟨(some 18), (.mv (.t 17)), none, [6, 2]⟩, ⟨(some 19), (.mv (.t 2)), (some (18, false)), [7]⟩, ⟨(some 20), (.mv (.t 8)), (some (18, false)), [7]⟩, ⟨(some 21), (.len (.t 20)), (some (18, false)), [9, 7]⟩, ⟨(some 22), (.bin .geq (.t 19) (.t 21)), (some (18, false)), [8, 10, 7]⟩, ⟨(some 23), (.pick (.t 18) (.c (.bool true)) (.t 22)), none, [7, 11]⟩] false) (.cond (.t 23) (.seq (.reg [⟨(some 6), (.mv (.c .nils)), none, []⟩, ⟨(some 7), (.mv (.c (.bool false))), none, [0, 0]⟩] false) .ret) .skip)) (.seq (.reg [⟨(some 24), (.mv (.t 8)), none, []⟩, ⟨(some 25), (.mv (.t 1)), none, []⟩, ⟨(some 26), (.mv (.t 2)), none, []⟩, ⟨(some 27), (.bin .add (.t 26) (.c (.int .i64 1))), none, [2]⟩, ⟨(some 28), (.slc 3 (.t 24) (some (.t 25)) (some (.t 27))), none, [0, 1, 3]⟩, ⟨(some 6), (.mv (.t 28)), none, [4, 0, 1, 2, 3, 4]⟩, ⟨(some 7), (.mv (.c (.bool true))), none, [5, 0, 1, 2, 3, 4, 5]⟩] false) .ret))))
theorem mcOk45 : (match Try.f45.body with | some c => compC Try.prog 29 c | none => none) = some mc45 := by kernel_rfl

theorem fc45 (m : Mv) (i j : Int) : FC Try.prog 45 [aM m, iv i, iv j] [] (.tup [.rs 3 ((btwS m i j).map cV), .bool (btwB m i j)]) [] true := by
  have hl := path_len m
  refine fc_run (nt := 29) Try.func45 rfl rfl mcOk45 (Nat.le_of_ble_eq_true rfl) ?_
  delta mc45
  refine aw_seq ?_
  refine aw_reg ?_
  refine rs_box rfl rfl rfl rfl rfl rfl ?_
  refine rs_mv rfl rfl ?_
  refine rs_mv rfl rfl ?_
  refine rs_nil fun _ => ?_
  refine th_n ?_
  refine aw_seq ?_
  refine aw_reg ?_
  first | refine rs_ld_pa rfl rfl rfl rfl (Nat.le_of_ble_eq_true rfl) rfl ?_ | refine rs_ld_ra rfl rfl (Nat.le_of_ble_eq_true rfl) rfl ?_ | refine rs_ld_ma rfl rfl rfl (by omega) (Nat.le_of_ble_eq_true rfl) rfl ?_
  refine rs_callo [] rfl rfl (fc43 m) (.cons (hv_same rfl) (.nil)) (.nil) rfl rfl rfl ?_
  refine rs_mv rfl rfl ?_
  refine rs_nil fun _ => ?_
  refine th_n ?_
  refine aw_seq ?_
  refine aw_seq ?_
  refine aw_reg ?_
  refine rs_mv rfl rfl ?_
  refine rs_cmp rfl rfl rfl rfl (fun h12 => ?_) (fun h12 => ?_)
  · skip
    refine rs_mv rfl rfl ?_
    refine rs_skip rfl ?_
    refine rs_skip rfl ?_
    refine rs_skip rfl ?_
    refine rs_pick rfl rfl rfl ?_
    refine rs_mv rfl rfl ?_
    refine rs_skip rfl ?_
    refine rs_skip rfl ?_
    refine rs_skip rfl ?_
    refine rs_skip rfl ?_
    refine rs_pick rfl rfl rfl ?_
    refine rs_nil fun _ => ?_
    refine th_n ?_
    refine aw_cond rfl (fun _ => ?_) (fun h => by cases h)
    refine aw_seq ?_
    refine aw_reg ?_
    refine rs_mv rfl rfl ?_
    refine rs_mv rfl rfl ?_
    refine rs_nil fun _ => ?_
    refine th_n ?_
    refine aw_ret ?_
    refine th_r ?_
    first
      | (have hb : btwB m i j = true := decide_eq_true (by omega)
         have hs : btwS m i j = ((pathS m).drop i.toNat).take ((j + 1).toNat - i.toNat) := if_pos hb
         rw [hs, hb, List.map_take, List.map_drop]
         exact ret_pure rfl rfl rfl (.inl rfl))
      | (have hb : btwB m i j = false := decide_eq_false (by omega)
         have hs : btwS m i j = [] := if_neg (by rw [hb]; decide)
         rw [hs, hb]
         exact ret_new rfl (rc_tup (.cons rc_nils (.cons (rc_same rfl (.inl rfl)) .nil))) .nil)
  · skip
    refine rs_mv rfl rfl ?_
    refine rs_mv rfl rfl ?_
    refine rs_mv rfl rfl ?_
    refine rs_cmp rfl rfl rfl rfl (fun h16 => ?_) (fun h16 => ?_)
    · skip
      refine rs_pick rfl rfl rfl ?_
      refine rs_mv rfl rfl ?_
      refine rs_skip rfl ?_
      refine rs_skip rfl ?_
      refine rs_skip rfl ?_
      refine rs_skip rfl ?_
      refine rs_pick rfl rfl rfl ?_
      refine rs_nil fun _ => ?_
      refine th_n ?_
      refine aw_cond rfl (fun _ => ?_) (fun h => by cases h)
      refine aw_seq ?_
      refine aw_reg ?_
      refine rs_mv rfl rfl ?_
      refine rs_mv rfl rfl ?_
      refine rs_nil fun _ => ?_
      refine th_n ?_
      refine aw_ret ?_
      refine th_r ?_
      first
        | (have hb : btwB m i j = true := decide_eq_true (by omega)
           have hs : btwS m i j = ((pathS m).drop i.toNat).take ((j + 1).toNat - i.toNat) := if_pos hb
           rw [hs, hb, List.map_take, List.map_drop]
           exact ret_pure rfl rfl rfl (.inl rfl))
        | (have hb : btwB m i j = false := decide_eq_false (by omega)
           have hs : btwS m i j = [] := if_neg (by rw [hb]; decide)
           rw [hs, hb]
           exact ret_new rfl (rc_tup (.cons rc_nils (.cons (rc_same rfl (.inl rfl)) .nil))) .nil)
    · skip
      refine rs_pick rfl rfl rfl ?_
      refine rs_mv rfl rfl ?_
      refine rs_mv rfl rfl ?_
      refine rs_mv rfl rfl ?_
      first | refine rs_len_m rfl rfl ?_ | refine rs_len_s rfl rfl ?_ | refine rs_len_n rfl rfl ?_ | refine rs_len_r rfl rfl rfl ?_
      refine rs_cmp rfl rfl rfl rfl (fun h22 => ?_) (fun h22 => ?_)
      · skip
        refine rs_pick rfl rfl rfl ?_
        refine rs_nil fun _ => ?_
        refine th_n ?_
        refine aw_cond rfl (fun _ => ?_) (fun h => by cases h)
        refine aw_seq ?_
        refine aw_reg ?_
        refine rs_mv rfl rfl ?_
        refine rs_mv rfl rfl ?_
        refine rs_nil fun _ => ?_
        refine th_n ?_
        refine aw_ret ?_
        refine th_r ?_
        first
          | (have hb : btwB m i j = true := decide_eq_true (by omega)
             have hs : btwS m i j = ((pathS m).drop i.toNat).take ((j + 1).toNat - i.toNat) := if_pos hb
             rw [hs, hb, List.map_take, List.map_drop]
             exact ret_pure rfl rfl rfl (.inl rfl))
          | (have hb : btwB m i j = false := decide_eq_false (by omega)
             have hs : btwS m i j = [] := if_neg (by rw [hb]; decide)
             rw [hs, hb]
             exact ret_new rfl (rc_tup (.cons rc_nils (.cons (rc_same rfl (.inl rfl)) .nil))) .nil)
      · skip
        refine rs_pick rfl rfl rfl ?_
        refine rs_nil fun _ => ?_
        refine th_n ?_
        refine aw_cond rfl (fun h => by cases h) (fun _ => ?_)
        refine aw_skip ?_
        refine th_n ?_
        refine aw_seq ?_
        refine aw_reg ?_
        refine rs_mv rfl rfl ?_
        refine rs_mv rfl rfl ?_
        refine rs_mv rfl rfl ?_
        first | refine rs_add rfl rfl rfl (by omega) ?_ | refine rs_addw rfl rfl rfl rfl ?_
        refine rs_slc_r rfl rfl rfl rfl rfl (by omega) (by omega) (by simp; omega) rfl ?_
        refine rs_mv rfl rfl ?_
        refine rs_mv rfl rfl ?_
        refine rs_nil fun _ => ?_
        refine th_n ?_
        refine aw_ret ?_
        first
          | (have hb : btwB m i j = true := decide_eq_true (by omega)
             have hs : btwS m i j = ((pathS m).drop i.toNat).take ((j + 1).toNat - i.toNat) := if_pos hb
             rw [hs, hb, List.map_take, List.map_drop]
             exact ret_pure rfl rfl rfl (.inl rfl))
          | (have hb : btwB m i j = false := decide_eq_false (by omega)
             have hs : btwS m i j = [] := if_neg (by rw [hb]; decide)
             rw [hs, hb]
             exact ret_new rfl (rc_tup (.cons rc_nils (.cons (rc_same rfl (.inl rfl)) .nil))) .nil)

def mc75 : MC := (.seq (.reg [⟨(some 3), (.box 87 11 (.t 0)), none, []⟩, ⟨(some 4), (.box 26 3 (.t 1)), none, []⟩, ⟨(some 5), (.box 26 3 (.t 2)), none, []⟩, ⟨(some 6), (.mv (.c .nils)), none, []⟩] false) (.seq (.reg [⟨(some 7), (.ld true 3 (.t 4)), none, []⟩, ⟨(some 8), (.ld true 3 (.t 5)), none, []⟩, ⟨(some 9), (.bslice 26 3 [(.int .i64 0), (.int .i64 0), (.int .i64 0)] 2 [(0, (.t 7)), (1, (.t 8))]), none, [0, 1]⟩, ⟨(some 6), (.mv (.t 9)), none, [2, 0, 1, 2]⟩] false) .ret))
theorem mcOk75 : (match Try.f75.body with | some c => compC Try.prog 10 c | none => none) = some mc75 := by kernel_rfl

theorem fc75 (m : Mv) (u v : V3) : FC Try.prog 75 [aM m, aV u, aV v] [] (.rs 3 ([u, v].map cV)) [] false := by
  refine fc_run (nt := 10) Try.func75 rfl rfl mcOk75 (Nat.le_of_ble_eq_true rfl) ?_
  delta mc75
  refine aw_seq ?_
  refine aw_reg ?_
  refine rs_box rfl rfl rfl rfl rfl rfl ?_
  refine rs_box rfl rfl rfl rfl rfl rfl ?_
  refine rs_box rfl rfl rfl rfl rfl rfl ?_
  refine rs_mv rfl rfl ?_
  refine rs_nil fun _ => ?_
  refine th_n ?_
  refine aw_seq ?_
  refine aw_reg ?_
  first | refine rs_ld_pa rfl rfl rfl rfl (Nat.le_of_ble_eq_true rfl) rfl ?_ | refine rs_ld_ra rfl rfl (Nat.le_of_ble_eq_true rfl) rfl ?_ | refine rs_ld_ma rfl rfl rfl (by omega) (Nat.le_of_ble_eq_true rfl) rfl ?_
  first | refine rs_ld_pa rfl rfl rfl rfl (Nat.le_of_ble_eq_true rfl) rfl ?_ | refine rs_ld_ra rfl rfl (Nat.le_of_ble_eq_true rfl) rfl ?_ | refine rs_ld_ma rfl rfl rfl (by omega) (Nat.le_of_ble_eq_true rfl) rfl ?_
  refine rs_bslice rfl rfl rfl rfl rfl rfl ?_
  refine rs_mv rfl rfl ?_
  refine rs_nil fun _ => ?_
  refine th_n ?_
  refine aw_ret ?_
  exact ret_new rfl (rc_frz (f := cV) (xs := [u, v]) rfl rfl rfl (fun _ => rfl)) .nil

def mc81 : MC := (.seq (.reg [⟨(some 3), (.box 88 11 (.t 0)), none, []⟩, ⟨(some 4), (.box 26 3 (.t 1)), none, []⟩, ⟨(some 5), (.box 26 3 (.t 2)), none, []⟩, ⟨(some 6), (.mv (.c .nils)), none, []⟩] false) (.seq (.reg [⟨(some 7), (.fa 0 (.t 3)), none, []⟩, ⟨(some 8), (.fa 1 (.t 7)), none, [0]⟩, ⟨(some 9), (.ld true 3 (.t 8)), none, [1]⟩, ⟨(some 10), (.fa 0 (.t 3)), none, []⟩, ⟨(some 11), (.fa 7 (.t 10)), none, [3]⟩, ⟨(some 12), (.ld true 3 (.t 11)), none, [4]⟩, ⟨(some 13), (.fa 0 (.t 3)), none, []⟩, ⟨(some 14), (.fa 4 (.t 13)), none, [6]⟩, ⟨(some 15), (.ld true 3 (.t 14)), none, [7]⟩, ⟨(some 16), (.bslice 26 3 [(.int .i64 0), (.int .i64 0), (.int .i64 0)] 3 [(0, (.t 9)), (1, (.t 12)), (2, (.t 15))]), none, [2, 5, 8]⟩, ⟨(some 6), (.mv (.t 16)), none, [9, 0, 1, 2, 3, 4, 5, 6, 7, 8, 9]⟩] false) .ret))
theorem mcOk81 : (match Try.f81.body with | some c => compC Try.prog 17 c | none => none) = some mc81 := by kernel_rfl

theorem fc81 (m : Mv) (u v : V3) : FC Try.prog 81 [aM m, aV u, aV v] [] (.rs 3 ([m.fr, m.co, m.to].map cV)) [] false := by
  refine fc_run (nt := 17) Try.func81 rfl rfl mcOk81 (Nat.le_of_ble_eq_true rfl) ?_
  delta mc81
  refine aw_seq ?_
  refine aw_reg ?_
  refine rs_box rfl rfl rfl rfl rfl rfl ?_
  refine rs_box rfl rfl rfl rfl rfl rfl ?_
  refine rs_box rfl rfl rfl rfl rfl rfl ?_
  refine rs_mv rfl rfl ?_
  refine rs_nil fun _ => ?_
  refine th_n ?_
  refine aw_seq ?_
  refine aw_reg ?_
  first | refine rs_fa_p rfl rfl ?_ | refine rs_fa_r rfl rfl rfl ?_
  first | refine rs_fa_p rfl rfl ?_ | refine rs_fa_r rfl rfl rfl ?_
  first | refine rs_ld_pa rfl rfl rfl rfl (Nat.le_of_ble_eq_true rfl) rfl ?_ | refine rs_ld_ra rfl rfl (Nat.le_of_ble_eq_true rfl) rfl ?_ | refine rs_ld_ma rfl rfl rfl (by omega) (Nat.le_of_ble_eq_true rfl) rfl ?_
  first | refine rs_fa_p rfl rfl ?_ | refine rs_fa_r rfl rfl rfl ?_
  first | refine rs_fa_p rfl rfl ?_ | refine rs_fa_r rfl rfl rfl ?_
  first | refine rs_ld_pa rfl rfl rfl rfl (Nat.le_of_ble_eq_true rfl) rfl ?_ | refine rs_ld_ra rfl rfl (Nat.le_of_ble_eq_true rfl) rfl ?_ | refine rs_ld_ma rfl rfl rfl (by omega) (Nat.le_of_ble_eq_true rfl) rfl ?_
  first | refine rs_fa_p rfl rfl ?_ | refine rs_fa_r rfl rfl rfl ?_
  first | refine rs_fa_p rfl rfl ?_ | refine rs_fa_r rfl rfl rfl ?_
  first | refine rs_ld_pa rfl rfl rfl rfl (Nat.le_of_ble_eq_true rfl) rfl ?_ | refine rs_ld_ra rfl rfl (Nat.le_of_ble_eq_true rfl) rfl ?_ | refine rs_ld_ma rfl rfl rfl (by omega) (Nat.le_of_ble_eq_true rfl) rfl ?_
  refine rs_bslice rfl rfl rfl rfl rfl rfl ?_
  refine rs_mv rfl rfl ?_
  refine rs_nil fun _ => ?_
  refine th_n ?_
  refine aw_ret ?_
  exact ret_new rfl (rc_frz (f := cV) (xs := [m.fr, m.co, m.to]) rfl rfl rfl (fun _ => rfl)) .nil

def mc74 : MC := (.seq (.reg [⟨(some 2), (.box 87 11 (.t 0)), none, []⟩, ⟨(some 4), (.mv (.c .nils)), none, []⟩] false) (.seq (.reg [⟨(some 5), (.mv (.t 1)), none, []⟩, ⟨(some 6), (.ixsl 3 (.t 5) (.c (.int .i64 0))), none, [0]⟩, ⟨(some 7), (.ld true 3 (.t 6)), none, [1]⟩, ⟨(some 8), (.mv (.t 1)), none, []⟩, ⟨(some 9), (.mv (.t 1)), none, []⟩, ⟨(some 10), (.len (.t 9)), none, [4]⟩, ⟨(some 11), (.bin .sub (.t 10) (.c (.int .i64 1))), none, [5]⟩, ⟨(some 12), (.ixsl 3 (.t 8) (.t 11)), none, [3, 6]⟩, ⟨(some 13), (.ld true 3 (.t 12)), none, [7]⟩, ⟨(some 14), (.build [(.int .i64 0), (.int .i64 0), (.int .i64 0), (.int .i64 0), (.int .i64 0), (.int .i64 0)] [(0, (3, (.t 7))), (3, (3, (.t 13)))]), none, [2, 8]⟩, ⟨(some 15), (.bslice 63 6 [(.int .i64 0), (.int .i64 0), (.int .i64 0), (.int .i64 0), (.int .i64 0), (.int .i64 0)] 1 [(0, (.t 14))]), none, [9]⟩, ⟨(some 4), (.mv (.t 15)), none, [10, 0, 1, 2, 3, 4, 5, 6, 7, 8, 9, 10]⟩] true) .ret))
theorem mcOk74 : (match Try.f74.body with | some c => compC Try.prog 16 c | none => none) = some mc74 := by kernel_rfl

theorem fc74 (m : Mv) (l : List V3) (u v : V3) (hl : l.length ≤ 1000) (hu : l[(0 : Int).toNat]? = some u) (hv : l[((l.length : Int) - 1).toNat]? = some v) : FC Try.prog 74 [aM m, .rs 3 (l.map cV)] [] (.rs 6 ([(u, v)].map cP)) [] false := by
  have hl1 := lt_of_at hu
  refine fc_run (nt := 16) Try.func74 rfl rfl mcOk74 (Nat.le_of_ble_eq_true rfl) ?_
  delta mc74
  refine aw_seq ?_
  refine aw_reg ?_
  refine rs_box rfl rfl rfl rfl rfl rfl ?_
  refine rs_mv rfl rfl ?_
  refine rs_nil fun _ => ?_
  refine th_n ?_
  refine aw_seq ?_
  refine aw_draw hmix ?_
  refine rs_mv rfl rfl ?_
  refine rs_ix_g rfl rfl rfl (by omega) hu ?_
  refine rs_ld_ra rfl rfl (Nat.le_of_ble_eq_true rfl) rfl ?_
  refine rs_mv rfl rfl ?_
  refine rs_mv rfl rfl ?_
  first | refine rs_len_m rfl rfl ?_ | refine rs_len_s rfl rfl ?_ | refine rs_len_n rfl rfl ?_ | refine rs_len_r rfl rfl rfl ?_
  first | refine rs_sub rfl rfl rfl (by omega) ?_ | refine rs_subw rfl rfl rfl rfl ?_
  refine rs_ix_g rfl rfl rfl (by omega) hv ?_
  refine rs_ld_ra rfl rfl (Nat.le_of_ble_eq_true rfl) rfl ?_
  refine rs_build rfl rfl ?_
  refine rs_bslice rfl rfl rfl rfl rfl rfl ?_
  refine rs_mv rfl rfl ?_
  refine rs_nil ⟨by kernel_rfl, fun _ => ?_⟩
  refine th_n ?_
  refine aw_ret ?_
  exact ret_new rfl (rc_frz (f := cP) (xs := [(u, v)]) rfl rfl rfl (fun _ => rfl)) .nil

def mc80 : MC := (.seq (.reg [⟨(some 2), (.box 88 11 (.t 0)), none, []⟩, ⟨(some 4), (.mv (.c .nils)), none, []⟩] false) (.seq (.reg [⟨(some 5), (.mv (.c .nils)), none, []⟩] false) (.seq (.seq (.reg [⟨(some 8), (.mv (.t 1)), none, []⟩, ⟨(some 9), (.len (.t 8)), none, [0]⟩, ⟨(some 10), (.mv (.c (.int .i64 0))), none, []⟩] false) (.block 0 (.loop (.seq (.reg [⟨(some 11), (.bin .lss (.t 10) (.t 9)), none, []⟩] false) (.seq (.cond (.t 11) .skip (.exit 0)) (.seq (.block 1 (.seq (.reg [⟨(some 12), (.ixsl 3 (.t 8) (.t 10)), none, []⟩, ⟨(some 13), (.ld true 3 (.t 12)), none, [0]⟩, ⟨(some 7), (.alloc 26 3 [(.int .i64 0), (.int .i64 0), (.int .i64 0)]), none, []⟩, ⟨none, (.st 3 (.t 7) (.t 13)), none, [2, 1, 0, 1, 2]⟩] false) (.reg [⟨(some 14), (.mv (.t 5)), none, []⟩, ⟨(some 15), (.ld true 3 (.t 7)), none, []⟩, ⟨(some 16), (.ld true 3 (.t 7)), none, []⟩, ⟨(some 17), (.build [(.int .i64 0), (.int .i64 0), (.int .i64 0), (.int .i64 0), (.int .i64 0), (.int .i64 0)] [(0, (3, (.t 15))), (3, (3, (.t 16)))]), none, [1, 2]⟩, ⟨(some 18), (.bslice 63 6 [(.int .i64 0), (.int .i64 0), (.int .i64 0), (.int .i64 0), (.int .i64 0), (.int .i64 0)] 1 [(0, (.t 17))]), none, [3]⟩, ⟨(some 19), (.app 63 6 48 [(.int .i64 0), (.int .i64 0), (.int .i64 0), (.int .i64 0), (.int .i64 0), (.int .i64 0)] (.t 14) (.t 18)), none, [0, 4]⟩, ⟨(some 5), (.mv (.t 19)), none, [5, 5, 0, 1, 2, 3, 4, 5]⟩] false))) (.reg [⟨(some 20), (.bin .add (.t 10) (.c (.int .i64 1))), none, []⟩, ⟨(some 10), (.mv (.t 20)), none, [0]⟩] false))))))) (.seq (.reg [⟨(some 21), (.mv (.t 5)), none, []⟩, ⟨(some 4), (.mv (.t 21)), none, [0, 0]⟩] false) .ret))))
theorem mcOk80 : (match Try.f80.body with | some c => compC Try.prog 22 c | none => none) = some mc80 := by kernel_rfl

theorem fc80 (m : Mv) (l : List V3) (hl : l.length ≤ 1000) : FC Try.prog 80 [aM m, .rs 3 (l.map cV)] [] (.rs 6 ((l.map fun v => (v, v)).map cP)) [] false := by
  refine fc_run (nt := 22) Try.func80 rfl rfl mcOk80 (Nat.le_of_ble_eq_true rfl) ?_
  delta mc80
  refine aw_seq ?_
  refine aw_reg ?_
  refine rs_box rfl rfl rfl rfl rfl rfl ?_
  refine rs_mv rfl rfl ?_
  refine rs_nil fun _ => ?_
  refine th_n ?_
  refine aw_seq ?_
  refine aw_reg ?_
  refine rs_mv rfl rfl ?_
  refine rs_nil fun _ => ?_
  refine th_n ?_
  refine aw_seq ?_
  refine aw_seq ?_
  refine aw_reg ?_
  refine rs_mv rfl rfl ?_
  first | refine rs_len_m rfl rfl ?_ | refine rs_len_s rfl rfl ?_ | refine rs_len_n rfl rfl ?_ | refine rs_len_r rfl rfl rfl ?_
  refine rs_mv rfl rfl ?_
  refine rs_nil fun _ => ?_
  refine th_n ?_
  refine aw_block ?_
  refine aw_fam (α := Nat) (fun k => l.length - k) (fun k => [(8, .rs 3 (l.map cV)), (9, iv (l.length : Int)), (10, iv (((k) : Nat) : Int)), (5, .sl 1005 0 (k))]) (fun k => [(1005, .cells 63 6 (((l.take (k)).map fun v => (v, v)).map cP) true)]) (fun k => k ≤ l.length) 0 (by omega)
    (weak_to (.cons rfl (rc_same rfl (.inl rfl)) (.cons rfl (rc_same rfl (.inl rfl)) (.cons rfl (rc_same rfl (.inl rfl)) (.cons rfl (rc_virt rfl rfl) (.nil))))) (.virt rfl (.nil)) (fun i h => by cases h)) ?_
  intro k hk
  refine aw_seq ?_
  refine aw_reg ?_
  refine rs_lss rfl rfl rfl ?_
  refine rs_nil fun _ => ?_
  refine th_n ?_
  refine aw_seq ?_
  refine aw_cond rfl (fun h11 => ?_) (fun h11 => ?_)
  · first | replace h11 := of_decide_eq_true h11 | skip
    refine aw_skip ?_
    refine th_n ?_
    refine aw_seq ?_
    refine aw_block ?_
    refine aw_seq ?_
    refine aw_reg ?_
    obtain ⟨x, hx, hxm⟩ := at_some (L := l) (k := k) (by omega)
    refine rs_ix_g rfl rfl rfl (by omega) hx ?_
    refine rs_ld_ra rfl rfl (Nat.le_of_ble_eq_true rfl) rfl ?_
    refine rs_alloc rfl rfl rfl ?_
    refine rs_st rfl rfl rfl rfl rfl rfl rfl (Nat.le_of_ble_eq_true rfl) rfl rfl ?_
    refine rs_nil fun _ => ?_
    refine th_n ?_
    refine aw_reg ?_
    refine rs_mv rfl rfl ?_
    first | refine rs_ld_pa rfl rfl rfl rfl (Nat.le_of_ble_eq_true rfl) rfl ?_ | refine rs_ld_ra rfl rfl (Nat.le_of_ble_eq_true rfl) rfl ?_ | refine rs_ld_ma rfl rfl rfl (by omega) (Nat.le_of_ble_eq_true rfl) rfl ?_
    first | refine rs_ld_pa rfl rfl rfl rfl (Nat.le_of_ble_eq_true rfl) rfl ?_ | refine rs_ld_ra rfl rfl (Nat.le_of_ble_eq_true rfl) rfl ?_ | refine rs_ld_ma rfl rfl rfl (by omega) (Nat.le_of_ble_eq_true rfl) rfl ?_
    refine rs_build rfl rfl ?_
    refine rs_bslice rfl rfl rfl rfl rfl rfl ?_
    refine rs_app_m (f := cP) (xs := ((l.take (k)).map fun v => (v, v))) (y := (x, x)) rfl rfl rfl rfl (by simp; omega) rfl rfl rfl (by decide) rfl (by omega) (by omega) rfl ?_
    refine rs_mv rfl rfl ?_
    refine rs_nil fun _ => ?_
    refine in_n ?_
    refine th_n ?_
    refine aw_reg ?_
    first | refine rs_add rfl rfl rfl (by omega) ?_ | refine rs_addw rfl rfl rfl rfl ?_
    refine rs_mv rfl rfl ?_
    refine rs_nil fun _ => ?_
    refine th_n ?_
    have e : ((l.take (k + 1)).map fun v => (v, v)) = ((l.take (k)).map fun v => (v, v)) ++ [(x, x)] := by rw [take_succ_at hx, List.map_append]; rfl
    exact ⟨k + 1, by omega, by omega, weak_to_ren (i := 19) (i' := 1005) (F1 := [(8, .rs 3 (l.map cV)), (9, iv (l.length : Int)), (10, iv (((k + 1) : Nat) : Int)), (5, .sl 19 0 (k + 1))]) (H1 := [(19, .cells 63 6 (((l.take (k + 1)).map fun v => (v, v)).map cP) true)]) (.cons rfl (rc_same rfl (.inl rfl)) (.cons rfl (rc_same rfl (.inl rfl)) (.cons rfl (rc_same rfl (.inl rfl)) (.cons rfl (rc_same rfl (.inl rfl)) (.nil))))) (.keep ((by (rw [e]) <;> rfl)) rfl (.nil)) (fun i h => by cases h) rfl rfl (.cons rfl (.same _) (.cons rfl (.same _) (.cons rfl (.same _) (.cons rfl (.sl _ _) (.nil))))) (.cons rfl (rc_same rfl (.inl rfl)) (.cons rfl (rc_same rfl (.inl rfl)) (.cons rfl (rc_same rfl (.inl rfl)) (.cons rfl (rc_same rfl (.inl rfl)) (.nil))))) (.keep (rfl) rfl (.nil)) (fun i h => by cases h)⟩
  · first | replace h11 := of_decide_eq_false h11 | skip
    refine aw_exit ?_
    refine th_e ?_
    refine th_e ?_
    refine in_hit ?_
    refine th_n ?_
    refine aw_seq ?_
    refine aw_reg ?_
    refine rs_mv rfl rfl ?_
    refine rs_mv rfl rfl ?_
    refine rs_nil fun _ => ?_
    refine th_n ?_
    refine aw_ret ?_
    obtain rfl : k = l.length := by omega
    rw [show (l.map fun v => (v, v)) = ((l.take l.length).map fun v => (v, v)) by rw [List.take_length]]
    exact ret_new rfl (rc_frz rfl rfl (by simp) (fun _ => rfl)) .nil

def mc19 : MC := (.seq (.reg [⟨(some 3), (.box 28 11 (.t 0)), none, []⟩, ⟨(some 6), (.mv (.c .nils)), none, []⟩, ⟨(some 7), (.mv (.c (.bool false))), none, [1]⟩] false) (.seq (.reg [⟨(some 11), (.ld true 11 (.t 3)), none, []⟩, ⟨(some 12), (.mv (.t 1)), none, []⟩, ⟨(some 13), (.mv (.t 2)), none, []⟩, ⟨(some 14), (.call 45 [(.t 11), (.t 12), (.t 13)]), none, [0, 1, 2]⟩, ⟨(some 10), (.mv (.t 14)), none, [3]⟩, ⟨(some 15), (.ext (.t 10) 0), none, [4]⟩, ⟨(some 16), (.ext (.t 10) 1), none, [4]⟩, ⟨(some 8), (.mv (.t 15)), none, [5, 3, 0, 1, 2, 3, 4, 5]⟩, ⟨(some 9), (.mv (.t 16)), none, [6, 7, 0, 1, 2, 3, 4, 5, 6, 7]⟩] false) (.seq (.block 0 (.seq (.reg [⟨(some 18), (.mv (.t 9)), none, []⟩, ⟨(some 19), (.un .not (.t 18)), none, [0]⟩, ⟨(some 17), (.mv (.t 19)), none, [1]⟩] false) (.cond (.t 17) (.seq (.reg [⟨(some 6), (.mv (.c .nils)), none, []⟩, ⟨(some 7), (.mv (.c (.bool false))), none, [0, 0]⟩] false) .ret) (.seq (.reg [⟨(some 21), (.mv (.t 1)), none, []⟩, ⟨(some 22), (.mv (.t 2)), none, []⟩, ⟨(some 23), (.bin .eql (.t 21) (.t 22)), none, [0, 1]⟩, ⟨(some 20), (.mv (.t 23)), none, [2]⟩] false) (.cond (.t 20) (.seq (.reg [⟨(some 24), (.mv (.t 8)), none, []⟩, ⟨(some 6), (.mv (.t 24)), none, [0, 0]⟩, ⟨(some 7), (.mv (.c (.bool true))), none, [1, 0, 1]⟩] false) .ret) .skip))))) (.seq (.reg [⟨(some 25), (.ld true 11 (.t 3)), none, []⟩, ⟨(some 26), (.call 39 [(.t 25)]), none, [0]⟩, ⟨(some 27), (.mv (.t 8)), none, []⟩, ⟨(some 28), (.ixsl 3 (.t 27) (.c (.int .i64 0))), none, [2]⟩, ⟨(some 29), (.ld true 3 (.t 28)), none, [3]⟩, ⟨(some 30), (.mv (.t 8)), none, []⟩, ⟨(some 31), (.mv (.t 8)), none, []⟩, ⟨(some 32), (.len (.t 31)), none, [6]⟩, ⟨(some 33), (.bin .sub (.t 32) (.c (.int .i64 1))), none, [7]⟩, ⟨(some 34), (.ixsl 3 (.t 30) (.t 33)), none, [5, 8]⟩, ⟨(some 35), (.ld true 3 (.t 34)), none, [9]⟩, ⟨(some 36), (.mkbm "collet/move.round" (.t 26)), none, [1]⟩, ⟨(some 37), (.nilc (.t 36)), none, [11]⟩, ⟨(some 38), (.mv (.t 26)), none, [1, 11, 12]⟩, ⟨(some 39), (.inv "collet/move.round" (.t 38) [(.t 29), (.t 35)]), none, [13, 4, 10, 1]⟩, ⟨(some 6), (.mv (.t 39)), none, [14, 14, 0, 1, 2, 3, 4, 5, 6, 7, 8, 9, 10, 11, 12, 13, 14]⟩, ⟨(some 7), (.mv (.c (.bool true))), none, [15, 0, 1, 2, 3, 4, 5, 6, 7, 8, 9, 10, 11, 12, 13, 14, 15]⟩] true) .ret))))
theorem mcOk19 : (match Try.f19.body with | some c => compC Try.prog 40 c | none => none) = some mc19 := by kernel_rfl

theorem fc19_l (m : Mv) (i j : Int) (hk : m.kind = 1 ∨ m.kind = 2) : FC Try.prog 19 [aM m, iv i, iv j] [] (.tup [.rs 3 ((outS m i j).map cV), .bool (btwB m i j)]) [] true := by
  refine fc_run (nt := 40) Try.func19 rfl rfl mcOk19 (Nat.le_of_ble_eq_true rfl) ?_
  delta mc19
  refine aw_seq ?_
  refine aw_reg ?_
  refine rs_box rfl rfl rfl rfl rfl rfl ?_
  refine rs_mv rfl rfl ?_
  refine rs_mv rfl rfl ?_
  refine rs_nil fun _ => ?_
  refine th_n ?_
  refine aw_seq ?_
  refine aw_reg ?_
  first | refine rs_ld_pa rfl rfl rfl rfl (Nat.le_of_ble_eq_true rfl) rfl ?_ | refine rs_ld_ra rfl rfl (Nat.le_of_ble_eq_true rfl) rfl ?_ | refine rs_ld_ma rfl rfl rfl (by omega) (Nat.le_of_ble_eq_true rfl) rfl ?_
  refine rs_mv rfl rfl ?_
  refine rs_mv rfl rfl ?_
  refine rs_callo [] rfl rfl (fc45 m i j) (.cons (hv_same rfl) (.cons (hv_same rfl) (.cons (hv_same rfl) (.nil)))) (.nil) rfl rfl rfl ?_
  refine rs_mv rfl rfl ?_
  refine rs_ext rfl rfl rfl ?_
  refine rs_ext rfl rfl rfl ?_
  cases h16 : btwB m i j
  · skip
    refine rs_mv rfl rfl ?_
    refine rs_mv rfl rfl ?_
    refine rs_nil fun _ => ?_
    refine th_n ?_
    refine aw_seq ?_
    refine aw_block ?_
    refine aw_seq ?_
    refine aw_reg ?_
    refine rs_mv rfl rfl ?_
    refine rs_not rfl rfl ?_
    refine rs_mv rfl rfl ?_
    refine rs_nil fun _ => ?_
    refine th_n ?_
    refine aw_cond rfl (fun _ => ?_) (fun h => by cases h)
    refine aw_seq ?_
    refine aw_reg ?_
    refine rs_mv rfl rfl ?_
    refine rs_mv rfl rfl ?_
    refine rs_nil fun _ => ?_
    refine th_n ?_
    refine aw_ret ?_
    refine in_r ?_
    refine th_r ?_
    first
      | (have hs : outS m i j = [] := if_neg (by rw [h16]; decide)
         first | rw [hs, h16] | rw [hs]
         exact ret_new rfl (rc_tup (.cons rc_nils (.cons (rc_same rfl (.inl rfl)) .nil))) .nil)
      | (rw [show outS m i j = [elS m i] by unfold outS; rw [if_pos h16, if_pos h20], ← btw_one (by rw [← h20] at h16; exact h16), h20]; exact ret_pure rfl rfl rfl (.inl rfl))
      | (rw [show outS m i j = [elS m i, elS m j] by unfold outS; rw [if_pos h16, if_neg h20, if_neg (by omega)]]; exact ret_pure rfl rfl rfl (.inl rfl))
  · skip
    refine rs_mv rfl rfl ?_
    refine rs_mv rfl rfl ?_
    refine rs_nil fun _ => ?_
    refine th_n ?_
    refine aw_seq ?_
    refine aw_block ?_
    refine aw_seq ?_
    refine aw_reg ?_
    refine rs_mv rfl rfl ?_
    refine rs_not rfl rfl ?_
    refine rs_mv rfl rfl ?_
    refine rs_nil fun _ => ?_
    refine th_n ?_
    refine aw_cond rfl (fun h => by cases h) (fun _ => ?_)
    refine aw_seq ?_
    refine aw_reg ?_
    refine rs_mv rfl rfl ?_
    refine rs_mv rfl rfl ?_
    refine rs_eql rfl rfl rfl ?_
    refine rs_mv rfl rfl ?_
    refine rs_nil fun _ => ?_
    refine th_n ?_
    refine aw_cond rfl (fun h20 => ?_) (fun h20 => ?_)
    · first | replace h20 := of_decide_eq_true h20 | skip
      refine aw_seq ?_
      refine aw_reg ?_
      refine rs_mv rfl rfl ?_
      refine rs_mv rfl rfl ?_
      refine rs_mv rfl rfl ?_
      refine rs_nil fun _ => ?_
      refine th_n ?_
      refine aw_ret ?_
      refine in_r ?_
      refine th_r ?_
      first
        | (have hs : outS m i j = [] := if_neg (by rw [h16]; decide)
           first | rw [hs, h16] | rw [hs]
           exact ret_new rfl (rc_tup (.cons rc_nils (.cons (rc_same rfl (.inl rfl)) .nil))) .nil)
        | (rw [show outS m i j = [elS m i] by unfold outS; rw [if_pos h16, if_pos h20], ← btw_one (by rw [← h20] at h16; exact h16), h20]; exact ret_pure rfl rfl rfl (.inl rfl))
        | (rw [show outS m i j = [elS m i, elS m j] by unfold outS; rw [if_pos h16, if_neg h20, if_neg (by omega)]]; exact ret_pure rfl rfl rfl (.inl rfl))
    · first | replace h20 := of_decide_eq_false h20 | skip
      refine aw_skip ?_
      refine in_n ?_
      refine th_n ?_
      refine aw_seq ?_
      refine aw_draw hmix ?_
      first | refine rs_ld_pa rfl rfl rfl rfl (Nat.le_of_ble_eq_true rfl) rfl ?_ | refine rs_ld_ra rfl rfl (Nat.le_of_ble_eq_true rfl) rfl ?_ | refine rs_ld_ma rfl rfl rfl (by omega) (Nat.le_of_ble_eq_true rfl) rfl ?_
      refine rs_calln [] rfl rfl (fc39_l m hk) (.cons (hv_same rfl) (.nil)) rfl ?_
      refine rs_mv rfl rfl ?_
      have hbd := of_decide_eq_true h16
      have hbl := btw_len h16
      have e0 := btw_fst h16
      have e1 := btw_lst h16
      have hle := btw_le m i j
      refine rs_ix_g rfl rfl rfl (by omega) e0 ?_
      refine rs_ld_ra rfl rfl (Nat.le_of_ble_eq_true rfl) rfl ?_
      refine rs_mv rfl rfl ?_
      refine rs_mv rfl rfl ?_
      first | refine rs_len_m rfl rfl ?_ | refine rs_len_s rfl rfl ?_ | refine rs_len_n rfl rfl ?_ | refine rs_len_r rfl rfl rfl ?_
      first | refine rs_sub rfl rfl rfl (by omega) ?_ | refine rs_subw rfl rfl rfl rfl ?_
      refine rs_ix_g rfl rfl rfl (by omega) e1 ?_
      refine rs_ld_ra rfl rfl (Nat.le_of_ble_eq_true rfl) rfl ?_
      refine rs_mkbm rfl rfl rfl ?_
      refine rs_nilc_m (f := 75) rfl rfl (by kernel_rfl) ?_
      refine rs_mv rfl rfl ?_
      refine rs_invn [] rfl rfl (by kernel_rfl) (by kernel_rfl) rfl (fc75 m (elS m i) (elS m j)) (.cons (hv_same rfl) (.cons (hv_same rfl) (.cons (hv_same rfl) (.nil)))) rfl ?_
      refine rs_mv rfl rfl ?_
      refine rs_mv rfl rfl ?_
      refine rs_nil ⟨by kernel_rfl, fun _ => ?_⟩
      refine th_n ?_
      refine aw_ret ?_
      first
        | (have hs : outS m i j = [] := if_neg (by rw [h16]; decide)
           first | rw [hs, h16] | rw [hs]
           exact ret_new rfl (rc_tup (.cons rc_nils (.cons (rc_same rfl (.inl rfl)) .nil))) .nil)
        | (rw [show outS m i j = [elS m i] by unfold outS; rw [if_pos h16, if_pos h20], ← btw_one (by rw [← h20] at h16; exact h16), h20]; exact ret_pure rfl rfl rfl (.inl rfl))
        | (rw [show outS m i j = [elS m i, elS m j] by unfold outS; rw [if_pos h16, if_neg h20, if_neg (by omega)]]; exact ret_pure rfl rfl rfl (.inl rfl))

def mc21 : MC := (.seq (.reg [⟨(some 3), (.box 28 11 (.t 0)), none, []⟩, ⟨(some 6), (.mv (.c .nils)), none, []⟩, ⟨(some 7), (.mv (.c (.bool false))), none, [1]⟩] false) (.seq (.reg [⟨(some 11), (.ld true 11 (.t 3)), none, []⟩, ⟨(some 12), (.mv (.t 1)), none, []⟩, ⟨(some 13), (.mv (.t 2)), none, []⟩, ⟨(some 14), (.call 45 [(.t 11), (.t 12), (.t 13)]), none, [0, 1, 2]⟩, ⟨(some 10), (.mv (.t 14)), none, [3]⟩, ⟨(some 15), (.ext (.t 10) 0), none, [4]⟩, ⟨(some 16), (.ext (.t 10) 1), none, [4]⟩, ⟨(some 8), (.mv (.t 15)), none, [5, 3, 0, 1, 2, 3, 4, 5]⟩, ⟨(some 9), (.mv (.t 16)), none, [6, 7, 0, 1, 2, 3, 4, 5, 6, 7]⟩] false) (.seq (.seq (.reg [⟨(some 17), (.mv (.t 9)), none, []⟩, ⟨(some 18), (.un .not (.t 17)), none, [0]⟩] false) (.cond (.t 18) (.seq (.reg [⟨(some 6), (.mv (.c .nils)), none, []⟩, ⟨(some 7), (.mv (.c (.bool false))), none, [0, 0]⟩] false) .ret) .skip)) (.seq (.reg [⟨(some 19), (.ld true 11 (.t 3)), none, []⟩, ⟨(some 20), (.call 39 [(.t 19)]), none, [0]⟩, ⟨(some 21), (.mv (.t 8)), none, []⟩, ⟨(some 22), (.inv "collet/move.pieces" (.t 20) [(.t 21)]), none, [1, 2, 1]⟩, ⟨(some 6), (.mv (.t 22)), none, [3, 3, 0, 1, 2, 3]⟩, ⟨(some 7), (.mv (.c (.bool true))), none, [4, 0, 1, 2, 3, 4]⟩] false) .ret))))
theorem mcOk21 : (match Try.f21.body with | some c => compC Try.prog 23 c | none => none) = some mc21 := by kernel_rfl

theorem fc21_l (m : Mv) (i j : Int) (hk : m.kind = 1 ∨ m.kind = 2) : FC Try.prog 21 [aM m, iv i, iv j] [] (.tup [.rs 6 ((knS m i j).map cP), .bool (btwB m i j)]) [] true := by
  refine fc_run (nt := 23) Try.func21 rfl rfl mcOk21 (Nat.le_of_ble_eq_true rfl) ?_
  delta mc21
  refine aw_seq ?_
  refine aw_reg ?_
  refine rs_box rfl rfl rfl rfl rfl rfl ?_
  refine rs_mv rfl rfl ?_
  refine rs_mv rfl rfl ?_
  refine rs_nil fun _ => ?_
  refine th_n ?_
  refine aw_seq ?_
  refine aw_reg ?_
  first | refine rs_ld_pa rfl rfl rfl rfl (Nat.le_of_ble_eq_true rfl) rfl ?_ | refine rs_ld_ra rfl rfl (Nat.le_of_ble_eq_true rfl) rfl ?_ | refine rs_ld_ma rfl rfl rfl (by omega) (Nat.le_of_ble_eq_true rfl) rfl ?_
  refine rs_mv rfl rfl ?_
  refine rs_mv rfl rfl ?_
  refine rs_callo [] rfl rfl (fc45 m i j) (.cons (hv_same rfl) (.cons (hv_same rfl) (.cons (hv_same rfl) (.nil)))) (.nil) rfl rfl rfl ?_
  refine rs_mv rfl rfl ?_
  refine rs_ext rfl rfl rfl ?_
  refine rs_ext rfl rfl rfl ?_
  cases h16 : btwB m i j
  · skip
    refine rs_mv rfl rfl ?_
    refine rs_mv rfl rfl ?_
    refine rs_nil fun _ => ?_
    refine th_n ?_
    refine aw_seq ?_
    refine aw_seq ?_
    refine aw_reg ?_
    refine rs_mv rfl rfl ?_
    refine rs_not rfl rfl ?_
    refine rs_nil fun _ => ?_
    refine th_n ?_
    refine aw_cond rfl (fun _ => ?_) (fun h => by cases h)
    refine aw_seq ?_
    refine aw_reg ?_
    refine rs_mv rfl rfl ?_
    refine rs_mv rfl rfl ?_
    refine rs_nil fun _ => ?_
    refine th_n ?_
    refine aw_ret ?_
    refine th_r ?_
    first
      | (have hs : knS m i j = [] := if_neg (by rw [h16]; decide)
         first | rw [hs, h16] | rw [hs]
         exact ret_new rfl (rc_tup (.cons rc_nils (.cons (rc_same rfl (.inl rfl)) .nil))) .nil)
      | (rw [show knS m i j = [(elS m i, elS m j)] by unfold knS; rw [if_pos h16, if_neg (by omega)]]; exact ret_pure rfl rfl rfl (.inl rfl))
  · skip
    refine rs_mv rfl rfl ?_
    refine rs_mv rfl rfl ?_
    refine rs_nil fun _ => ?_
    refine th_n ?_
    refine aw_seq ?_
    refine aw_seq ?_
    refine aw_reg ?_
    refine rs_mv rfl rfl ?_
    refine rs_not rfl rfl ?_
    refine rs_nil fun _ => ?_
    refine th_n ?_
    refine aw_cond rfl (fun h => by cases h) (fun _ => ?_)
    refine aw_skip ?_
    refine th_n ?_
    refine aw_seq ?_
    refine aw_reg ?_
    first | refine rs_ld_pa rfl rfl rfl rfl (Nat.le_of_ble_eq_true rfl) rfl ?_ | refine rs_ld_ra rfl rfl (Nat.le_of_ble_eq_true rfl) rfl ?_ | refine rs_ld_ma rfl rfl rfl (by omega) (Nat.le_of_ble_eq_true rfl) rfl ?_
    refine rs_calln [] rfl rfl (fc39_l m hk) (.cons (hv_same rfl) (.nil)) rfl ?_
    refine rs_mv rfl rfl ?_
    have hbd := of_decide_eq_true h16
    have hbl := btw_len h16
    have e0 := btw_fst h16
    have e1 := btw_lst h16
    have hle := btw_le m i j
    refine rs_invn [] rfl rfl (by kernel_rfl) (by kernel_rfl) rfl (fc74 m (btwS m i j) (elS m i) (elS m j) (by omega) e0 e1) (.cons (hv_same rfl) (.cons (hv_same rfl) (.nil))) rfl ?_
    refine rs_mv rfl rfl ?_
    refine rs_mv rfl rfl ?_
    refine rs_nil fun _ => ?_
    refine th_n ?_
    refine aw_ret ?_
    first
      | (have hs : knS m i j = [] := if_neg (by rw [h16]; decide)
         first | rw [hs, h16] | rw [hs]
         exact ret_new rfl (rc_tup (.cons rc_nils (.cons (rc_same rfl (.inl rfl)) .nil))) .nil)
      | (rw [show knS m i j = [(elS m i, elS m j)] by unfold knS; rw [if_pos h16, if_neg (by omega)]]; exact ret_pure rfl rfl rfl (.inl rfl))

theorem fc19_a (m : Mv) (i j : Int) (hk : m.kind = 3) : FC Try.prog 19 [aM m, iv i, iv j] [] (.tup [.rs 3 ((outS m i j).map cV), .bool (btwB m i j)]) [] true := by
  refine fc_run (nt := 40) Try.func19 rfl rfl mcOk19 (Nat.le_of_ble_eq_true rfl) ?_
  delta mc19
  refine aw_seq ?_
  refine aw_reg ?_
  refine rs_box rfl rfl rfl rfl rfl rfl ?_
  refine rs_mv rfl rfl ?_
  refine rs_mv rfl rfl ?_
  refine rs_nil fun _ => ?_
  refine th_n ?_
  refine aw_seq ?_
  refine aw_reg ?_
  first | refine rs_ld_pa rfl rfl rfl rfl (Nat.le_of_ble_eq_true rfl) rfl ?_ | refine rs_ld_ra rfl rfl (Nat.le_of_ble_eq_true rfl) rfl ?_ | refine rs_ld_ma rfl rfl rfl (by omega) (Nat.le_of_ble_eq_true rfl) rfl ?_
  refine rs_mv rfl rfl ?_
  refine rs_mv rfl rfl ?_
  refine rs_callo [] rfl rfl (fc45 m i j) (.cons (hv_same rfl) (.cons (hv_same rfl) (.cons (hv_same rfl) (.nil)))) (.nil) rfl rfl rfl ?_
  refine rs_mv rfl rfl ?_
  refine rs_ext rfl rfl rfl ?_
  refine rs_ext rfl rfl rfl ?_
  cases h16 : btwB m i j
  · skip
    refine rs_mv rfl rfl ?_
    refine rs_mv rfl rfl ?_
    refine rs_nil fun _ => ?_
    refine th_n ?_
    refine aw_seq ?_
    refine aw_block ?_
    refine aw_seq ?_
    refine aw_reg ?_
    refine rs_mv rfl rfl ?_
    refine rs_not rfl rfl ?_
    refine rs_mv rfl rfl ?_
    refine rs_nil fun _ => ?_
    refine th_n ?_
    refine aw_cond rfl (fun _ => ?_) (fun h => by cases h)
    refine aw_seq ?_
    refine aw_reg ?_
    refine rs_mv rfl rfl ?_
    refine rs_mv rfl rfl ?_
    refine rs_nil fun _ => ?_
    refine th_n ?_
    refine aw_ret ?_
    refine in_r ?_
    refine th_r ?_
    first
      | (have hs : outS m i j = [] := if_neg (by rw [h16]; decide)
         first | rw [hs, h16] | rw [hs]
         exact ret_new rfl (rc_tup (.cons rc_nils (.cons (rc_same rfl (.inl rfl)) .nil))) .nil)
      | (rw [show outS m i j = [elS m i] by unfold outS; rw [if_pos h16, if_pos h20], ← btw_one (by rw [← h20] at h16; exact h16), h20]; exact ret_pure rfl rfl rfl (.inl rfl))
      | (rw [show outS m i j = [m.fr, m.co, m.to] by unfold outS; rw [if_pos h16, if_neg h20, if_pos hk]]; exact ret_pure rfl rfl rfl (.inl rfl))
  · skip
    refine rs_mv rfl rfl ?_
    refine rs_mv rfl rfl ?_
    refine rs_nil fun _ => ?_
    refine th_n ?_
    refine aw_seq ?_
    refine aw_block ?_
    refine aw_seq ?_
    refine aw_reg ?_
    refine rs_mv rfl rfl ?_
    refine rs_not rfl rfl ?_
    refine rs_mv rfl rfl ?_
    refine rs_nil fun _ => ?_
    refine th_n ?_
    refine aw_cond rfl (fun h => by cases h) (fun _ => ?_)
    refine aw_seq ?_
    refine aw_reg ?_
    refine rs_mv rfl rfl ?_
    refine rs_mv rfl rfl ?_
    refine rs_eql rfl rfl rfl ?_
    refine rs_mv rfl rfl ?_
    refine rs_nil fun _ => ?_
    refine th_n ?_
    refine aw_cond rfl (fun h20 => ?_) (fun h20 => ?_)
    · first | replace h20 := of_decide_eq_true h20 | skip
      refine aw_seq ?_
      refine aw_reg ?_
      refine rs_mv rfl rfl ?_
      refine rs_mv rfl rfl ?_
      refine rs_mv rfl rfl ?_
      refine rs_nil fun _ => ?_
      refine th_n ?_
      refine aw_ret ?_
      refine in_r ?_
      refine th_r ?_
      first
        | (have hs : outS m i j = [] := if_neg (by rw [h16]; decide)
           first | rw [hs, h16] | rw [hs]
           exact ret_new rfl (rc_tup (.cons rc_nils (.cons (rc_same rfl (.inl rfl)) .nil))) .nil)
        | (rw [show outS m i j = [elS m i] by unfold outS; rw [if_pos h16, if_pos h20], ← btw_one (by rw [← h20] at h16; exact h16), h20]; exact ret_pure rfl rfl rfl (.inl rfl))
        | (rw [show outS m i j = [m.fr, m.co, m.to] by unfold outS; rw [if_pos h16, if_neg h20, if_pos hk]]; exact ret_pure rfl rfl rfl (.inl rfl))
    · first | replace h20 := of_decide_eq_false h20 | skip
      refine aw_skip ?_
      refine in_n ?_
      refine th_n ?_
      refine aw_seq ?_
      refine aw_draw hmix ?_
      first | refine rs_ld_pa rfl rfl rfl rfl (Nat.le_of_ble_eq_true rfl) rfl ?_ | refine rs_ld_ra rfl rfl (Nat.le_of_ble_eq_true rfl) rfl ?_ | refine rs_ld_ma rfl rfl rfl (by omega) (Nat.le_of_ble_eq_true rfl) rfl ?_
      refine rs_calln [] rfl rfl (fc39_a m hk) (.cons (hv_same rfl) (.nil)) rfl ?_
      refine rs_mv rfl rfl ?_
      have hbd := of_decide_eq_true h16
      have hbl := btw_len h16
      have e0 := btw_fst h16
      have e1 := btw_lst h16
      have hle := btw_le m i j
      refine rs_ix_g rfl rfl rfl (by omega) e0 ?_
      refine rs_ld_ra rfl rfl (Nat.le_of_ble_eq_true rfl) rfl ?_
      refine rs_mv rfl rfl ?_
      refine rs_mv rfl rfl ?_
      first | refine rs_len_m rfl rfl ?_ | refine rs_len_s rfl rfl ?_ | refine rs_len_n rfl rfl ?_ | refine rs_len_r rfl rfl rfl ?_
      first | refine rs_sub rfl rfl rfl (by omega) ?_ | refine rs_subw rfl rfl rfl rfl ?_
      refine rs_ix_g rfl rfl rfl (by omega) e1 ?_
      refine rs_ld_ra rfl rfl (Nat.le_of_ble_eq_true rfl) rfl ?_
      refine rs_mkbm rfl rfl rfl ?_
      refine rs_nilc_m (f := 81) rfl rfl (by kernel_rfl) ?_
      refine rs_mv rfl rfl ?_
      refine rs_invn [] rfl rfl (by kernel_rfl) (by kernel_rfl) rfl (fc81 m (elS m i) (elS m j)) (.cons (hv_same rfl) (.cons (hv_same rfl) (.cons (hv_same rfl) (.nil)))) rfl ?_
      refine rs_mv rfl rfl ?_
      refine rs_mv rfl rfl ?_
      refine rs_nil ⟨by kernel_rfl, fun _ => ?_⟩
      refine th_n ?_
      refine aw_ret ?_
      first
        | (have hs : outS m i j = [] := if_neg (by rw [h16]; decide)
           first | rw [hs, h16] | rw [hs]
           exact ret_new rfl (rc_tup (.cons rc_nils (.cons (rc_same rfl (.inl rfl)) .nil))) .nil)
        | (rw [show outS m i j = [elS m i] by unfold outS; rw [if_pos h16, if_pos h20], ← btw_one (by rw [← h20] at h16; exact h16), h20]; exact ret_pure rfl rfl rfl (.inl rfl))
        | (rw [show outS m i j = [m.fr, m.co, m.to] by unfold outS; rw [if_pos h16, if_neg h20, if_pos hk]]; exact ret_pure rfl rfl rfl (.inl rfl))

theorem fc21_a (m : Mv) (i j : Int) (hk : m.kind = 3) : FC Try.prog 21 [aM m, iv i, iv j] [] (.tup [.rs 6 ((knS m i j).map cP), .bool (btwB m i j)]) [] true := by
  refine fc_run (nt := 23) Try.func21 rfl rfl mcOk21 (Nat.le_of_ble_eq_true rfl) ?_
  delta mc21
  refine aw_seq ?_
  refine aw_reg ?_
  refine rs_box rfl rfl rfl rfl rfl rfl ?_
  refine rs_mv rfl rfl ?_
  refine rs_mv rfl rfl ?_
  refine rs_nil fun _ => ?_
  refine th_n ?_
  refine aw_seq ?_
  refine aw_reg ?_
  first | refine rs_ld_pa rfl rfl rfl rfl (Nat.le_of_ble_eq_true rfl) rfl ?_ | refine rs_ld_ra rfl rfl (Nat.le_of_ble_eq_true rfl) rfl ?_ | refine rs_ld_ma rfl rfl rfl (by omega) (Nat.le_of_ble_eq_true rfl) rfl ?_
  refine rs_mv rfl rfl ?_
  refine rs_mv rfl rfl ?_
  refine rs_callo [] rfl rfl (fc45 m i j) (.cons (hv_same rfl) (.cons (hv_same rfl) (.cons (hv_same rfl) (.nil)))) (.nil) rfl rfl rfl ?_
  refine rs_mv rfl rfl ?_
  refine rs_ext rfl rfl rfl ?_
  refine rs_ext rfl rfl rfl ?_
  cases h16 : btwB m i j
  · skip
    refine rs_mv rfl rfl ?_
    refine rs_mv rfl rfl ?_
    refine rs_nil fun _ => ?_
    refine th_n ?_
    refine aw_seq ?_
    refine aw_seq ?_
    refine aw_reg ?_
    refine rs_mv rfl rfl ?_
    refine rs_not rfl rfl ?_
    refine rs_nil fun _ => ?_
    refine th_n ?_
    refine aw_cond rfl (fun _ => ?_) (fun h => by cases h)
    refine aw_seq ?_
    refine aw_reg ?_
    refine rs_mv rfl rfl ?_
    refine rs_mv rfl rfl ?_
    refine rs_nil fun _ => ?_
    refine th_n ?_
    refine aw_ret ?_
    refine th_r ?_
    first
      | (have hs : knS m i j = [] := if_neg (by rw [h16]; decide)
         first | rw [hs, h16] | rw [hs]
         exact ret_new rfl (rc_tup (.cons rc_nils (.cons (rc_same rfl (.inl rfl)) .nil))) .nil)
      | (rw [show knS m i j = ((btwS m i j).map fun v => (v, v)) by unfold knS; rw [if_pos h16, if_pos hk]]; exact ret_pure rfl rfl rfl (.inl rfl))
  · skip
    refine rs_mv rfl rfl ?_
    refine rs_mv rfl rfl ?_
    refine rs_nil fun _ => ?_
    refine th_n ?_
    refine aw_seq ?_
    refine aw_seq ?_
    refine aw_reg ?_
    refine rs_mv rfl rfl ?_
    refine rs_not rfl rfl ?_
    refine rs_nil fun _ => ?_
    refine th_n ?_
    refine aw_cond rfl (fun h => by cases h) (fun _ => ?_)
    refine aw_skip ?_
    refine th_n ?_
    refine aw_seq ?_
    refine aw_reg ?_
    first | refine rs_ld_pa rfl rfl rfl rfl (Nat.le_of_ble_eq_true rfl) rfl ?_ | refine rs_ld_ra rfl rfl (Nat.le_of_ble_eq_true rfl) rfl ?_ | refine rs_ld_ma rfl rfl rfl (by omega) (Nat.le_of_ble_eq_true rfl) rfl ?_
    refine rs_calln [] rfl rfl (fc39_a m hk) (.cons (hv_same rfl) (.nil)) rfl ?_
    refine rs_mv rfl rfl ?_
    have hbd := of_decide_eq_true h16
    have hbl := btw_len h16
    have e0 := btw_fst h16
    have e1 := btw_lst h16
    have hle := btw_le m i j
    refine rs_invn [] rfl rfl (by kernel_rfl) (by kernel_rfl) rfl (fc80 m (btwS m i j) (by omega)) (.cons (hv_same rfl) (.cons (hv_same rfl) (.nil))) rfl ?_
    refine rs_mv rfl rfl ?_
    refine rs_mv rfl rfl ?_
    refine rs_nil fun _ => ?_
    refine th_n ?_
    refine aw_ret ?_
    first
      | (have hs : knS m i j = [] := if_neg (by rw [h16]; decide)
         first | rw [hs, h16] | rw [hs]
         exact ret_new rfl (rc_tup (.cons rc_nils (.cons (rc_same rfl (.inl rfl)) .nil))) .nil)
      | (rw [show knS m i j = ((btwS m i j).map fun v => (v, v)) by unfold knS; rw [if_pos h16, if_pos hk]]; exact ret_pure rfl rfl rfl (.inl rfl))

theorem fc19_n (m : Mv) (i j : Int) (hk : ¬ m.kind = 1 ∧ ¬ m.kind = 2 ∧ ¬ m.kind = 3) : FC Try.prog 19 [aM m, iv i, iv j] [] (.tup [.rs 3 ((outS m i j).map cV), .bool (btwB m i j)]) [] true := by
  have h16 : btwB m i j = false := decide_eq_false (by rw [path_0 (m := m) (by rw [ck_n hk]; decide)]; simp; omega)
  have h45 := fc45 m i j
  rw [h16] at h45
  refine fc_run (nt := 40) Try.func19 rfl rfl mcOk19 (Nat.le_of_ble_eq_true rfl) ?_
  delta mc19
  refine aw_seq ?_
  refine aw_reg ?_
  refine rs_box rfl rfl rfl rfl rfl rfl ?_
  refine rs_mv rfl rfl ?_
  refine rs_mv rfl rfl ?_
  refine rs_nil fun _ => ?_
  refine th_n ?_
  refine aw_seq ?_
  refine aw_reg ?_
  first | refine rs_ld_pa rfl rfl rfl rfl (Nat.le_of_ble_eq_true rfl) rfl ?_ | refine rs_ld_ra rfl rfl (Nat.le_of_ble_eq_true rfl) rfl ?_ | refine rs_ld_ma rfl rfl rfl (by omega) (Nat.le_of_ble_eq_true rfl) rfl ?_
  refine rs_mv rfl rfl ?_
  refine rs_mv rfl rfl ?_
  refine rs_callo [] rfl rfl (h45) (.cons (hv_same rfl) (.cons (hv_same rfl) (.cons (hv_same rfl) (.nil)))) (.nil) rfl rfl rfl ?_
  refine rs_mv rfl rfl ?_
  refine rs_ext rfl rfl rfl ?_
  refine rs_ext rfl rfl rfl ?_
  refine rs_mv rfl rfl ?_
  refine rs_mv rfl rfl ?_
  refine rs_nil fun _ => ?_
  refine th_n ?_
  refine aw_seq ?_
  refine aw_block ?_
  refine aw_seq ?_
  refine aw_reg ?_
  refine rs_mv rfl rfl ?_
  refine rs_not rfl rfl ?_
  refine rs_mv rfl rfl ?_
  refine rs_nil fun _ => ?_
  refine th_n ?_
  refine aw_cond rfl (fun _ => ?_) (fun h => by cases h)
  refine aw_seq ?_
  refine aw_reg ?_
  refine rs_mv rfl rfl ?_
  refine rs_mv rfl rfl ?_
  refine rs_nil fun _ => ?_
  refine th_n ?_
  refine aw_ret ?_
  refine in_r ?_
  refine th_r ?_
  first
    | (have hs : outS m i j = [] := if_neg (by rw [h16]; decide)
       first | rw [hs, h16] | rw [hs]
       exact ret_new rfl (rc_tup (.cons rc_nils (.cons (rc_same rfl (.inl rfl)) .nil))) .nil)

theorem fc19 (m : Mv) (i j : Int) : FC Try.prog 19 [aM m, iv i, iv j] [] (.tup [.rs 3 ((outS m i j).map cV), .bool (btwB m i j)]) [] true := by
  by_cases h1 : m.kind = 1 ∨ m.kind = 2
  · exact fc19_l m i j h1
  · by_cases h3 : m.kind = 3
    · exact fc19_a m i j h3
    · exact fc19_n m i j (by omega)

theorem fc21_n (m : Mv) (i j : Int) (hk : ¬ m.kind = 1 ∧ ¬ m.kind = 2 ∧ ¬ m.kind = 3) : FC Try.prog 21 [aM m, iv i, iv j] [] (.tup [.rs 6 ((knS m i j).map cP), .bool (btwB m i j)]) [] true := by
  have h16 : btwB m i j = false := decide_eq_false (by rw [path_0 (m := m) (by rw [ck_n hk]; decide)]; simp; omega)
  have h45 := fc45 m i j
  rw [h16] at h45
  refine fc_run (nt := 23) Try.func21 rfl rfl mcOk21 (Nat.le_of_ble_eq_true rfl) ?_
  delta mc21
  refine aw_seq ?_
  refine aw_reg ?_
  refine rs_box rfl rfl rfl rfl rfl rfl ?_
  refine rs_mv rfl rfl ?_
  refine rs_mv rfl rfl ?_
  refine rs_nil fun _ => ?_
  refine th_n ?_
  refine aw_seq ?_
  refine aw_reg ?_
  first | refine rs_ld_pa rfl rfl rfl rfl (Nat.le_of_ble_eq_true rfl) rfl ?_ | refine rs_ld_ra rfl rfl (Nat.le_of_ble_eq_true rfl) rfl ?_ | refine rs_ld_ma rfl rfl rfl (by omega) (Nat.le_of_ble_eq_true rfl) rfl ?_
  refine rs_mv rfl rfl ?_
  refine rs_mv rfl rfl ?_
  refine rs_callo [] rfl rfl (h45) (.cons (hv_same rfl) (.cons (hv_same rfl) (.cons (hv_same rfl) (.nil)))) (.nil) rfl rfl rfl ?_
  refine rs_mv rfl rfl ?_
  refine rs_ext rfl rfl rfl ?_
  refine rs_ext rfl rfl rfl ?_
  refine rs_mv rfl rfl ?_
  refine rs_mv rfl rfl ?_
  refine rs_nil fun _ => ?_
  refine th_n ?_
  refine aw_seq ?_
  refine aw_seq ?_
  refine aw_reg ?_
  refine rs_mv rfl rfl ?_
  refine rs_not rfl rfl ?_
  refine rs_nil fun _ => ?_
  refine th_n ?_
  refine aw_cond rfl (fun _ => ?_) (fun h => by cases h)
  refine aw_seq ?_
  refine aw_reg ?_
  refine rs_mv rfl rfl ?_
  refine rs_mv rfl rfl ?_
  refine rs_nil fun _ => ?_
  refine th_n ?_
  refine aw_ret ?_
  refine th_r ?_
  first
    | (have hs : knS m i j = [] := if_neg (by rw [h16]; decide)
       first | rw [hs, h16] | rw [hs]
       exact ret_new rfl (rc_tup (.cons rc_nils (.cons (rc_same rfl (.inl rfl)) .nil))) .nil)

theorem fc21 (m : Mv) (i j : Int) : FC Try.prog 21 [aM m, iv i, iv j] [] (.tup [.rs 6 ((knS m i j).map cP), .bool (btwB m i j)]) [] true := by
  by_cases h1 : m.kind = 1 ∨ m.kind = 2
  · exact fc21_l m i j h1
  · by_cases h3 : m.kind = 3
    · exact fc21_a m i j h3
    · exact fc21_n m i j (by omega)

def mc44 : MC := (.seq (.reg [⟨(some 1), (.box 28 11 (.t 0)), none, []⟩, ⟨(some 2), (.mv (.c .nils)), none, []⟩] false) (.seq (.seq (.reg [⟨(some 14), (.ld true 11 (.t 1)), none, []⟩, ⟨(some 15), (.call 13 [(.t 14)]), none, [0]⟩, ⟨(some 16), (.bin .neq (.t 15) (.c (.int .i64 0))), none, [1]⟩] false) (.cond (.t 16) (.seq (.reg [⟨(some 2), (.mv (.c .nils)), none, []⟩] false) .ret) .skip)) (.seq (.reg [⟨(some 3), (.mv (.c .nils)), none, []⟩] false) (.seq (.seq (.reg [⟨(some 17), (.fa 0 (.t 1)), none, []⟩, ⟨(some 18), (.ld false 1 (.t 17)), none, [0]⟩, ⟨(some 19), (.bin .neq (.t 18) (.c (.int .i64 3))), none, [1]⟩] false) (.cond (.t 19) (.seq (.reg [⟨(some 21), (.fa 4 (.t 1)), none, []⟩, ⟨(some 22), (.ld true 3 (.t 21)), none, [0]⟩, ⟨(some 23), (.fa 1 (.t 1)), none, []⟩, ⟨(some 24), (.ld true 3 (.t 23)), none, [2]⟩, ⟨(some 25), (.call 50 [(.t 22), (.t 24)]), none, [1, 3]⟩, ⟨(some 26), (.call 32 [(.t 25)]), none, [4, 4]⟩, ⟨(some 20), (.mv (.t 26)), none, [5]⟩, ⟨(some 27), (.ext (.t 20) 0), none, [6]⟩, ⟨(some 28), (.ext (.t 20) 1), none, [6]⟩, ⟨(some 4), (.alloc 26 3 [(.int .i64 0), (.int .i64 0), (.int .i64 0)]), none, []⟩, ⟨none, (.st 3 (.t 4) (.t 27)), none, [9, 7, 5, 0, 1, 2, 3, 4, 5, 6, 7, 9]⟩, ⟨(some 5), (.mv (.t 28)), none, [8, 10, 0, 1, 2, 3, 4, 5, 6, 7, 8, 9, 10]⟩] false) (.seq (.seq (.reg [⟨(some 6), (.mv (.c (.int .i64 0))), none, []⟩] false) (.block 0 (.loop (.seq (.seq (.reg [⟨(some 29), (.mv (.t 6)), none, []⟩, ⟨(some 30), (.mv (.t 5)), none, []⟩, ⟨(some 31), (.bin .leq (.t 29) (.t 30)), none, [0, 1]⟩] false) (.cond (.t 31) .skip (.exit 0))) (.seq (.block 1 (.reg [⟨(some 34), (.mv (.t 3)), none, []⟩, ⟨(some 35), (.fa 1 (.t 1)), none, []⟩, ⟨(some 36), (.ld true 3 (.t 35)), none, [1]⟩, ⟨(some 37), (.ld true 3 (.t 4)), none, []⟩, ⟨(some 38), (.mv (.t 6)), none, []⟩, ⟨(some 39), (.call 37 [(.t 36), (.t 37), (.t 38)]), none, [2, 3, 4]⟩, ⟨(some 40), (.bslice 26 3 [(.int .i64 0), (.int .i64 0), (.int .i64 0)] 1 [(0, (.t 39))]), none, [5]⟩, ⟨(some 41), (.app 26 3 24 [(.int .i64 0), (.int .i64 0), (.int .i64 0)] (.t 34) (.t 40)), none, [0, 6, 5]⟩, ⟨(some 3), (.mv (.t 41)), none, [7, 7, 0, 1, 2, 3, 4, 5, 6, 7]⟩] false)) (.reg [⟨(some 32), (.mv (.t 6)), none, []⟩, ⟨(some 33), (.bin .add (.t 32) (.c (.int .i64 1))), none, [0]⟩, ⟨(some 6), (.mv (.t 33)), none, [1, 0, 1]⟩] false)))))) (.seq (.reg [⟨(some 42), (.mv (.t 3)), none, []⟩, ⟨(some 2), (.mv (.t 42)), none, [0, 0]⟩] false) .ret))) .skip)) (.seq (.reg [⟨(some 43), (.ld true 11 (.t 1)), none, []⟩, ⟨(some 44), (.call 54 [(.t 43)]), none, [0]⟩, ⟨(some 7), (.alloc 26 3 [(.int .i64 0), (.int .i64 0), (.int .i64 0)]), none, []⟩, ⟨none, (.st 3 (.t 7) (.t 44)), none, [2, 1, 1, 0, 1, 2]⟩] false) (.seq (.reg [⟨(some 46), (.fa 1 (.t 1)), none, []⟩, ⟨(some 47), (.ld true 3 (.t 46)), none, [0]⟩, ⟨(some 48), (.ld true 3 (.t 7)), none, []⟩, ⟨(some 49), (.call 50 [(.t 47), (.t 48)]), none, [1, 2]⟩, ⟨(some 50), (.call 32 [(.t 49)]), none, [3, 3]⟩, ⟨(some 45), (.mv (.t 50)), none, [4]⟩, ⟨(some 51), (.ext (.t 45) 0), none, [5]⟩, ⟨(some 52), (.ext (.t 45) 1), none, [5]⟩, ⟨(some 8), (.alloc 26 3 [(.int .i64 0), (.int .i64 0), (.int .i64 0)]), none, []⟩, ⟨none, (.st 3 (.t 8) (.t 51)), none, [8, 6, 4, 0, 1, 2, 3, 4, 5, 6, 8]⟩, ⟨(some 9), (.mv (.t 52)), none, [7, 9, 0, 1, 2, 3, 4, 5, 6, 7, 8, 9]⟩] false) (.seq (.reg [⟨(some 54), (.fa 4 (.t 1)), none, []⟩, ⟨(some 55), (.ld true 3 (.t 54)), none, [0]⟩, ⟨(some 56), (.ld true 3 (.t 7)), none, []⟩, ⟨(some 57), (.call 50 [(.t 55), (.t 56)]), none, [1, 2]⟩, ⟨(some 58), (.call 32 [(.t 57)]), none, [3, 3]⟩, ⟨(some 53), (.mv (.t 58)), none, [4]⟩, ⟨(some 59), (.ext (.t 53) 0), none, [5]⟩, ⟨(some 60), (.ext (.t 53) 1), none, [5]⟩, ⟨(some 10), (.alloc 26 3 [(.int .i64 0), (.int .i64 0), (.int .i64 0)]), none, []⟩, ⟨none, (.st 3 (.t 10) (.t 59)), none, [8, 6, 4, 0, 1, 2, 3, 4, 5, 6, 8]⟩, ⟨(some 11), (.mv (.t 60)), none, [7, 9, 0, 1, 2, 3, 4, 5, 6, 7, 8, 9]⟩] false) (.seq (.seq (.reg [⟨(some 61), (.mv (.t 9)), none, []⟩, ⟨(some 12), (.mv (.t 61)), none, [0, 0]⟩] false) (.block 2 (.loop (.seq (.seq (.reg [⟨(some 62), (.mv (.t 12)), none, []⟩, ⟨(some 63), (.bin .geq (.t 62) (.c (.int .i64 0))), none, [0]⟩] false) (.cond (.t 63) .skip (.exit 2))) (.seq (.block 3 (.seq (.reg [⟨(some 13), (.mv (.c (.int .i64 0))), none, []⟩] false) (.block 4 (.loop (.seq (.seq (.reg [⟨(some 66), (.mv (.t 13)), none, []⟩, ⟨(some 67), (.mv (.t 9)), none, []⟩, ⟨(some 68), (.bin .leq (.t 66) (.t 67)), none, [0, 1]⟩] false) (.cond (.t 68) .skip (.exit 4))) (.seq (.block 5 (.seq (.reg [⟨(some 71), (.mv (.t 12)), none, []⟩, ⟨(some 72), (.mv (.t 12)), none, []⟩, ⟨(some 73), (.bin .mul (.t 71) (.t 72)), none, [0, 1]⟩, ⟨(some 74), (.mv (.t 13)), none, []⟩, ⟨(some 75), (.mv (.t 13)), none, []⟩, ⟨(some 76), (.bin .mul (.t 74) (.t 75)), none, [3, 4]⟩, ⟨(some 77), (.bin .add (.t 73) (.t 76)), none, [2, 5]⟩, ⟨(some 78), (.mv (.t 9)), none, []⟩, ⟨(some 79), (.mv (.t 9)), none, []⟩, ⟨(some 80), (.bin .mul (.t 78) (.t 79)), none, [7, 8]⟩, ⟨(some 81), (.bin .eql (.t 77) (.t 80)), none, [6, 9]⟩] false) (.cond (.t 81) (.reg [⟨(some 82), (.mv (.t 3)), none, []⟩, ⟨(some 83), (.ld true 3 (.t 7)), none, []⟩, ⟨(some 84), (.ld true 3 (.t 8)), none, []⟩, ⟨(some 85), (.mv (.t 12)), none, []⟩, ⟨(some 86), (.call 37 [(.t 83), (.t 84), (.t 85)]), none, [1, 2, 3]⟩, ⟨(some 87), (.ld true 3 (.t 10)), none, []⟩, ⟨(some 88), (.mv (.t 13)), none, []⟩, ⟨(some 89), (.call 37 [(.t 86), (.t 87), (.t 88)]), none, [4, 5, 6, 4]⟩, ⟨(some 90), (.bslice 26 3 [(.int .i64 0), (.int .i64 0), (.int .i64 0)] 1 [(0, (.t 89))]), none, [7]⟩, ⟨(some 91), (.app 26 3 24 [(.int .i64 0), (.int .i64 0), (.int .i64 0)] (.t 82) (.t 90)), none, [0, 8, 7]⟩, ⟨(some 3), (.mv (.t 91)), none, [9, 9, 0, 1, 2, 3, 4, 5, 6, 7, 8, 9]⟩] true) .skip))) (.reg [⟨(some 69), (.mv (.t 13)), none, []⟩, ⟨(some 70), (.bin .add (.t 69) (.c (.int .i64 1))), none, [0]⟩, ⟨(some 13), (.mv (.t 70)), none, [1, 0, 1]⟩] false))))))) (.reg [⟨(some 64), (.mv (.t 12)), none, []⟩, ⟨(some 65), (.bin .sub (.t 64) (.c (.int .i64 1))), none, [0]⟩, ⟨(some 12), (.mv (.t 65)), none, [1, 0, 1]⟩] false)))))) (.seq (.reg [⟨(some 92), (.mv (.t 3)), none, []⟩, ⟨(some 2), (.mv (.t 92)), none, [0, 0]⟩] false) .ret)))))))))
theorem mcOk44 : (match Try.f44.body with | some c => compC Try.prog 93 c | none => none) = some mc44 := by kernel_rfl

theorem fc44 (m : Mv) : FC Try.prog 44 [aM m] [] (.rs 3 ((pathS m).map cV)) [] false := by
  refine fc_run (nt := 93) Try.func44 rfl rfl mcOk44 (Nat.le_of_ble_eq_true rfl) ?_
  delta mc44
  refine aw_seq ?_
  refine aw_reg ?_
  refine rs_box rfl rfl rfl rfl rfl rfl ?_
  refine rs_mv rfl rfl ?_
  refine rs_nil fun _ => ?_
  refine th_n ?_
  refine aw_seq ?_
  refine aw_seq ?_
  refine aw_reg ?_
  first | refine rs_ld_pa rfl rfl rfl rfl (Nat.le_of_ble_eq_true rfl) rfl ?_ | refine rs_ld_ra rfl rfl (Nat.le_of_ble_eq_true rfl) rfl ?_ | refine rs_ld_ma rfl rfl rfl (by omega) (Nat.le_of_ble_eq_true rfl) rfl ?_
  refine rs_calln [] rfl rfl (fc13c m) (.cons (hv_same rfl) (.nil)) rfl ?_
  refine rs_neq rfl rfl rfl ?_
  refine rs_nil fun _ => ?_
  refine th_n ?_
  refine aw_cond rfl (fun h16 => ?_) (fun h16 => ?_)
  · first | replace h16 := of_decide_eq_true h16 | skip
    refine aw_seq ?_
    refine aw_reg ?_
    refine rs_mv rfl rfl ?_
    refine rs_nil fun _ => ?_
    refine th_n ?_
    refine aw_ret ?_
    refine th_r ?_
    first
      | (rw [path_0 h16]; exact ret_new rfl rc_nils .nil)
      | (have hk2 : k = gS (dS m) + 1 := by omega
         subst hk2
         rw [path_n h0 h19]
         exact ret_new rfl (rc_frz rfl rfl (linQ_len _ _ _) (fun _ => rfl)) .nil)
      | (have hd2 : d = gS (sA m) + 1 := by omega
         subst hd2
         rw [path_a h0 (by omega), ← arc_eq (by omega)]
         exact ret_new rfl (rc_frz rfl rfl rfl (fun _ => rfl)) .nil)
  · first | replace h16 := of_decide_eq_false h16 | skip
    have h0 : checkS m = 0 := by omega
    have hi := ck_in h0
    refine aw_skip ?_
    refine th_n ?_
    refine aw_seq ?_
    refine aw_reg ?_
    refine rs_mv rfl rfl ?_
    refine rs_nil fun _ => ?_
    refine th_n ?_
    refine aw_seq ?_
    refine aw_seq ?_
    refine aw_reg ?_
    first | refine rs_fa_p rfl rfl ?_ | refine rs_fa_r rfl rfl rfl ?_
    first | refine rs_ld_r rfl rfl rfl ?_ | refine rs_ld_p rfl rfl rfl rfl rfl ?_ | refine rs_ld_m rfl rfl rfl (by omega) rfl ?_
    refine rs_neq rfl rfl rfl ?_
    refine rs_nil fun _ => ?_
    refine th_n ?_
    refine aw_cond rfl (fun h19 => ?_) (fun h19 => ?_)
    · first | replace h19 := of_decide_eq_true h19 | skip
      refine aw_seq ?_
      refine aw_reg ?_
      first | refine rs_fa_p rfl rfl ?_ | refine rs_fa_r rfl rfl rfl ?_
      first | refine rs_ld_pa rfl rfl rfl rfl (Nat.le_of_ble_eq_true rfl) rfl ?_ | refine rs_ld_ra rfl rfl (Nat.le_of_ble_eq_true rfl) rfl ?_ | refine rs_ld_ma rfl rfl rfl (by omega) (Nat.le_of_ble_eq_true rfl) rfl ?_
      first | refine rs_fa_p rfl rfl ?_ | refine rs_fa_r rfl rfl rfl ?_
      first | refine rs_ld_pa rfl rfl rfl rfl (Nat.le_of_ble_eq_true rfl) rfl ?_ | refine rs_ld_ra rfl rfl (Nat.le_of_ble_eq_true rfl) rfl ?_ | refine rs_ld_ma rfl rfl rfl (by omega) (Nat.le_of_ble_eq_true rfl) rfl ?_
      refine rs_calln [] rfl rfl (fc50s hi.to.big hi.fr.big) (.cons (hv_same rfl) (.cons (hv_same rfl) (.nil))) rfl ?_
      refine rs_calln [] rfl rfl (fc32 (dS m) hi.d48.big) (.cons (hv_same rfl) (.nil)) rfl ?_
      refine rs_mv rfl rfl ?_
      have hg1 := gS_le (n := 48) hi.d48
      refine rs_ext rfl rfl rfl ?_
      refine rs_ext rfl rfl rfl ?_
      refine rs_alloc rfl rfl rfl ?_
      refine rs_st rfl rfl rfl rfl rfl rfl rfl (Nat.le_of_ble_eq_true rfl) rfl rfl ?_
      refine rs_mv rfl rfl ?_
      refine rs_nil fun _ => ?_
      refine th_n ?_
      refine aw_seq ?_
      refine aw_seq ?_
      refine aw_reg ?_
      refine rs_mv rfl rfl ?_
      refine rs_nil fun _ => ?_
      refine th_n ?_
      refine aw_block ?_
      refine aw_fam (α := Nat) (fun k => gS (dS m) + 1 - k) (fun k => [(1, .ptr 1 0 0), (4, .ptr 4 0 0), (5, iv (gS (dS m) : Int)), (6, iv (((k) : Nat) : Int)), (3, .sl 1003 0 (k))]) (fun k => [(1, .cells 28 11 [cM m] true), (4, .cells 26 3 [cV (primV (dS m))] true), (1003, .cells 26 3 ((linQ m.fr (primV (dS m)) (k)).map cV) true)]) (fun k => k ≤ gS (dS m) + 1) 0 (by omega)
        (weak_to (.cons rfl (rc_same rfl (.inl rfl)) (.cons rfl (rc_same rfl (.inl rfl)) (.cons rfl (rc_same rfl (.inl rfl)) (.cons rfl (rc_same rfl (.inl rfl)) (.cons rfl (rc_virt rfl rfl) (.nil)))))) (.keep (rfl) rfl (.keep (rfl) rfl (.virt rfl (.nil)))) (fun i h => by cases h)) ?_
      intro k hk
      refine aw_seq ?_
      refine aw_seq ?_
      refine aw_reg ?_
      refine rs_mv rfl rfl ?_
      refine rs_mv rfl rfl ?_
      refine rs_leq rfl rfl rfl ?_
      refine rs_nil fun _ => ?_
      refine th_n ?_
      refine aw_cond rfl (fun h31 => ?_) (fun h31 => ?_)
      · first | replace h31 := of_decide_eq_true h31 | skip
        refine aw_skip ?_
        refine th_n ?_
        refine aw_seq ?_
        refine aw_block ?_
        refine aw_reg ?_
        refine rs_mv rfl rfl ?_
        first | refine rs_fa_p rfl rfl ?_ | refine rs_fa_r rfl rfl rfl ?_
        first | refine rs_ld_pa rfl rfl rfl rfl (Nat.le_of_ble_eq_true rfl) rfl ?_ | refine rs_ld_ra rfl rfl (Nat.le_of_ble_eq_true rfl) rfl ?_ | refine rs_ld_ma rfl rfl rfl (by omega) (Nat.le_of_ble_eq_true rfl) rfl ?_
        first | refine rs_ld_pa rfl rfl rfl rfl (Nat.le_of_ble_eq_true rfl) rfl ?_ | refine rs_ld_ra rfl rfl (Nat.le_of_ble_eq_true rfl) rfl ?_ | refine rs_ld_ma rfl rfl rfl (by omega) (Nat.le_of_ble_eq_true rfl) rfl ?_
        refine rs_mv rfl rfl ?_
        refine rs_calln [] rfl rfl (fc37s hi.fr.big (prim_bd hi.d48).big (by omega)) (.cons (hv_same rfl) (.cons (hv_same rfl) (.cons (hv_same rfl) (.nil)))) rfl ?_
        refine rs_bslice rfl rfl rfl rfl rfl rfl ?_
        refine rs_app_m (f := cV) (xs := linQ m.fr (primV (dS m)) k) (y := plus m.fr (primV (dS m)) k) rfl rfl rfl rfl (linQ_len _ _ _) rfl rfl rfl (by decide) rfl (by omega) (by omega) rfl ?_
        refine rs_mv rfl rfl ?_
        refine rs_nil fun _ => ?_
        refine in_n ?_
        refine th_n ?_
        refine aw_reg ?_
        refine rs_mv rfl rfl ?_
        first | refine rs_add rfl rfl rfl (by omega) ?_ | refine rs_addw rfl rfl rfl rfl ?_
        refine rs_mv rfl rfl ?_
        refine rs_nil fun _ => ?_
        refine th_n ?_
        exact ⟨k + 1, by omega, by omega, weak_to_ren (i := 41) (i' := 1003) (F1 := [(1, .ptr 1 0 0), (4, .ptr 4 0 0), (5, iv (gS (dS m) : Int)), (6, iv (((k + 1) : Nat) : Int)), (3, .sl 41 0 (k + 1))]) (H1 := [(1, .cells 28 11 [cM m] true), (4, .cells 26 3 [cV (primV (dS m))] true), (41, .cells 26 3 ((linQ m.fr (primV (dS m)) (k + 1)).map cV) true)]) (.cons rfl (rc_same rfl (.inl rfl)) (.cons rfl (rc_same rfl (.inl rfl)) (.cons rfl (rc_same rfl (.inl rfl)) (.cons rfl (rc_same rfl (.inl rfl)) (.cons rfl (rc_same rfl (.inl rfl)) (.nil)))))) (.keep (rfl) rfl (.keep (rfl) rfl (.keep ((by rw [linQ_succ]; rfl)) rfl (.nil)))) (fun i h => by cases h) rfl rfl (.cons rfl (.same _) (.cons rfl (.same _) (.cons rfl (.same _) (.cons rfl (.same _) (.cons rfl (.sl _ _) (.nil)))))) (.cons rfl (rc_same rfl (.inl rfl)) (.cons rfl (rc_same rfl (.inl rfl)) (.cons rfl (rc_same rfl (.inl rfl)) (.cons rfl (rc_same rfl (.inl rfl)) (.cons rfl (rc_same rfl (.inl rfl)) (.nil)))))) (.keep (rfl) rfl (.keep (rfl) rfl (.keep (rfl) rfl (.nil)))) (fun i h => by cases h)⟩
      · first | replace h31 := of_decide_eq_false h31 | skip
        refine aw_exit ?_
        refine th_e ?_
        refine th_e ?_
        refine in_hit ?_
        refine th_n ?_
        refine aw_seq ?_
        refine aw_reg ?_
        refine rs_mv rfl rfl ?_
        refine rs_mv rfl rfl ?_
        refine rs_nil fun _ => ?_
        refine th_n ?_
        refine aw_ret ?_
        refine th_r ?_
        first
          | (rw [path_0 h16]; exact ret_new rfl rc_nils .nil)
          | (have hk2 : k = gS (dS m) + 1 := by omega
             subst hk2
             rw [path_n h0 h19]
             exact ret_new rfl (rc_frz rfl rfl (linQ_len _ _ _) (fun _ => rfl)) .nil)
          | (have hd2 : d = gS (sA m) + 1 := by omega
             subst hd2
             rw [path_a h0 (by omega), ← arc_eq (by omega)]
             exact ret_new rfl (rc_frz rfl rfl rfl (fun _ => rfl)) .nil)
    · first | replace h19 := of_decide_eq_false h19 | skip
      refine aw_skip ?_
      refine th_n ?_
      refine aw_seq ?_
      refine aw_reg ?_
      first | refine rs_ld_pa rfl rfl rfl rfl (Nat.le_of_ble_eq_true rfl) rfl ?_ | refine rs_ld_ra rfl rfl (Nat.le_of_ble_eq_true rfl) rfl ?_ | refine rs_ld_ma rfl rfl rfl (by omega) (Nat.le_of_ble_eq_true rfl) rfl ?_
      refine rs_calln [] rfl rfl (fc54c hi) (.cons (hv_same rfl) (.nil)) rfl ?_
      refine rs_alloc rfl rfl rfl ?_
      refine rs_st rfl rfl rfl rfl rfl rfl rfl (Nat.le_of_ble_eq_true rfl) rfl rfl ?_
      refine rs_nil fun _ => ?_
      refine th_n ?_
      refine aw_seq ?_
      refine aw_reg ?_
      first | refine rs_fa_p rfl rfl ?_ | refine rs_fa_r rfl rfl rfl ?_
      first | refine rs_ld_pa rfl rfl rfl rfl (Nat.le_of_ble_eq_true rfl) rfl ?_ | refine rs_ld_ra rfl rfl (Nat.le_of_ble_eq_true rfl) rfl ?_ | refine rs_ld_ma rfl rfl rfl (by omega) (Nat.le_of_ble_eq_true rfl) rfl ?_
      first | refine rs_ld_pa rfl rfl rfl rfl (Nat.le_of_ble_eq_true rfl) rfl ?_ | refine rs_ld_ra rfl rfl (Nat.le_of_ble_eq_true rfl) rfl ?_ | refine rs_ld_ma rfl rfl rfl (by omega) (Nat.le_of_ble_eq_true rfl) rfl ?_
      refine rs_calln [] rfl rfl (fc50a hi) (.cons (hv_same rfl) (.cons (hv_same rfl) (.nil))) rfl ?_
      refine rs_calln [] rfl rfl (fc32 (sA m) hi.a48.big) (.cons (hv_same rfl) (.nil)) rfl ?_
      refine rs_mv rfl rfl ?_
      have hg1 := gS_le (n := 48) hi.a48
      refine rs_ext rfl rfl rfl ?_
      refine rs_ext rfl rfl rfl ?_
      refine rs_alloc rfl rfl rfl ?_
      refine rs_st rfl rfl rfl rfl rfl rfl rfl (Nat.le_of_ble_eq_true rfl) rfl rfl ?_
      refine rs_mv rfl rfl ?_
      refine rs_nil fun _ => ?_
      refine th_n ?_
      refine aw_seq ?_
      refine aw_reg ?_
      first | refine rs_fa_p rfl rfl ?_ | refine rs_fa_r rfl rfl rfl ?_
      first | refine rs_ld_pa rfl rfl rfl rfl (Nat.le_of_ble_eq_true rfl) rfl ?_ | refine rs_ld_ra rfl rfl (Nat.le_of_ble_eq_true rfl) rfl ?_ | refine rs_ld_ma rfl rfl rfl (by omega) (Nat.le_of_ble_eq_true rfl) rfl ?_
      first | refine rs_ld_pa rfl rfl rfl rfl (Nat.le_of_ble_eq_true rfl) rfl ?_ | refine rs_ld_ra rfl rfl (Nat.le_of_ble_eq_true rfl) rfl ?_ | refine rs_ld_ma rfl rfl rfl (by omega) (Nat.le_of_ble_eq_true rfl) rfl ?_
      refine rs_calln [] rfl rfl (fc50b hi) (.cons (hv_same rfl) (.cons (hv_same rfl) (.nil))) rfl ?_
      refine rs_calln [] rfl rfl (fc32 (sB m) hi.b48.big) (.cons (hv_same rfl) (.nil)) rfl ?_
      refine rs_mv rfl rfl ?_
      refine rs_ext rfl rfl rfl ?_
      refine rs_ext rfl rfl rfl ?_
      refine rs_alloc rfl rfl rfl ?_
      refine rs_st rfl rfl rfl rfl rfl rfl rfl (Nat.le_of_ble_eq_true rfl) rfl rfl ?_
      refine rs_mv rfl rfl ?_
      refine rs_nil fun _ => ?_
      refine th_n ?_
      refine aw_seq ?_
      refine aw_seq ?_
      refine aw_reg ?_
      refine rs_mv rfl rfl ?_
      refine rs_mv rfl rfl ?_
      refine rs_nil fun _ => ?_
      refine th_n ?_
      refine aw_block ?_
      refine aw_fam (α := Nat) (fun d => gS (sA m) + 1 - d) (fun d => [(1, .ptr 1 0 0), (7, .ptr 7 0 0), (8, .ptr 8 0 0), (10, .ptr 10 0 0), (9, iv (gS (sA m) : Int)), (12, iv ((gS (sA m) : Int) - ((d : Nat) : Int))), (3, .sl 1003 0 (arcRV (cenS m) (primV (sA m)) (primV (sB m)) (gS (sA m)) (d) (0)).length)]) (fun d => [(1, .cells 28 11 [cM m] true), (7, .cells 26 3 [cV (cenS m)] true), (8, .cells 26 3 [cV (primV (sA m))] true), (10, .cells 26 3 [cV (primV (sB m))] true), (1003, .cells 26 3 ((arcRV (cenS m) (primV (sA m)) (primV (sB m)) (gS (sA m)) (d) (0)).map cV) true)]) (fun d => d ≤ gS (sA m) + 1) 0 (by omega)
        (weak_to (.cons rfl (rc_same rfl (.inl rfl)) (.cons rfl (rc_same rfl (.inl rfl)) (.cons rfl (rc_same rfl (.inl rfl)) (.cons rfl (rc_same rfl (.inl rfl)) (.cons rfl (rc_same rfl (.inl rfl)) (.cons rfl (rc_int (by omega)) (.cons rfl (rc_virt rfl rfl) (.nil)))))))) (.keep (rfl) rfl (.keep (rfl) rfl (.keep (rfl) rfl (.keep (rfl) rfl (.virt rfl (.nil)))))) (fun i h => by cases h)) ?_
      intro d hd
      refine aw_seq ?_
      refine aw_seq ?_
      refine aw_reg ?_
      refine rs_mv rfl rfl ?_
      refine rs_geq rfl rfl rfl ?_
      refine rs_nil fun _ => ?_
      refine th_n ?_
      refine aw_cond rfl (fun h63 => ?_) (fun h63 => ?_)
      · first | replace h63 := of_decide_eq_true h63 | skip
        refine aw_skip ?_
        refine th_n ?_
        refine aw_seq ?_
        refine aw_block ?_
        refine aw_seq ?_
        refine aw_reg ?_
        refine rs_mv rfl rfl ?_
        refine rs_nil fun _ => ?_
        refine th_n ?_
        refine aw_block ?_
        refine aw_fam (α := Nat) (fun j => gS (sA m) + 1 - j) (fun j => [(1, .ptr 1 0 0), (7, .ptr 7 0 0), (8, .ptr 8 0 0), (10, .ptr 10 0 0), (9, iv (gS (sA m) : Int)), (12, iv ((gS (sA m) - d : Nat) : Int)), (13, iv (((j) : Nat) : Int)), (3, .sl 1003 0 (arcRV (cenS m) (primV (sA m)) (primV (sB m)) (gS (sA m)) (d) (j)).length)]) (fun j => [(1, .cells 28 11 [cM m] true), (7, .cells 26 3 [cV (cenS m)] true), (8, .cells 26 3 [cV (primV (sA m))] true), (10, .cells 26 3 [cV (primV (sB m))] true), (1003, .cells 26 3 ((arcRV (cenS m) (primV (sA m)) (primV (sB m)) (gS (sA m)) (d) (j)).map cV) true)]) (fun j => j ≤ gS (sA m) + 1) 0 (by omega)
          (weak_to (.cons rfl (rc_same rfl (.inl rfl)) (.cons rfl (rc_same rfl (.inl rfl)) (.cons rfl (rc_same rfl (.inl rfl)) (.cons rfl (rc_same rfl (.inl rfl)) (.cons rfl (rc_same rfl (.inl rfl)) (.cons rfl (rc_int (by omega)) (.cons rfl (rc_same rfl (.inl rfl)) (.cons rfl (rc_same rfl (.inl rfl)) (.nil))))))))) (.keep (rfl) rfl (.keep (rfl) rfl (.keep (rfl) rfl (.keep (rfl) rfl (.keep (rfl) rfl (.nil)))))) (fun i h => by cases h)) ?_
        intro j hj
        have q1 := sq_le (i := gS (sA m) - d) (r := 48) (by omega)
        have q2 := sq_le (i := j) (r := 49) (by omega)
        refine aw_seq ?_
        refine aw_seq ?_
        refine aw_reg ?_
        refine rs_mv rfl rfl ?_
        refine rs_mv rfl rfl ?_
        refine rs_leq rfl rfl rfl ?_
        refine rs_nil fun _ => ?_
        refine th_n ?_
        refine aw_cond rfl (fun h68 => ?_) (fun h68 => ?_)
        · first | replace h68 := of_decide_eq_true h68 | skip
          refine aw_skip ?_
          refine th_n ?_
          refine aw_seq ?_
          refine aw_block ?_
          refine aw_seq ?_
          refine aw_reg ?_
          refine rs_mv rfl rfl ?_
          refine rs_mv rfl rfl ?_
          refine rs_mulw rfl rfl rfl (sqW (by omega)) ?_
          refine rs_mv rfl rfl ?_
          refine rs_mv rfl rfl ?_
          refine rs_mulw rfl rfl rfl (sqW (by omega)) ?_
          refine rs_add rfl rfl rfl (by omega) ?_
          refine rs_mv rfl rfl ?_
          refine rs_mv rfl rfl ?_
          refine rs_mulw rfl rfl rfl (sqW (by omega)) ?_
          refine rs_eql rfl rfl rfl ?_
          refine rs_nil fun _ => ?_
          refine th_n ?_
          refine aw_cond rfl (fun h81 => ?_) (fun h81 => ?_)
          · first | replace h81 := of_decide_eq_true h81 | skip
            have hcond : (gS (sA m) - d) * (gS (sA m) - d) + j * j = gS (sA m) * gS (sA m) := by rw [← Int.natCast_add] at h81; exact Int.ofNat_inj.1 h81
            refine aw_draw hmix ?_
            refine rs_mv rfl rfl ?_
            first | refine rs_ld_pa rfl rfl rfl rfl (Nat.le_of_ble_eq_true rfl) rfl ?_ | refine rs_ld_ra rfl rfl (Nat.le_of_ble_eq_true rfl) rfl ?_ | refine rs_ld_ma rfl rfl rfl (by omega) (Nat.le_of_ble_eq_true rfl) rfl ?_
            first | refine rs_ld_pa rfl rfl rfl rfl (Nat.le_of_ble_eq_true rfl) rfl ?_ | refine rs_ld_ra rfl rfl (Nat.le_of_ble_eq_true rfl) rfl ?_ | refine rs_ld_ma rfl rfl rfl (by omega) (Nat.le_of_ble_eq_true rfl) rfl ?_
            refine rs_mv rfl rfl ?_
            refine rs_calln [] rfl rfl (fc37s hi.c.big (prim_bd hi.a48).big (by omega)) (.cons (hv_same rfl) (.cons (hv_same rfl) (.cons (hv_same rfl) (.nil)))) rfl ?_
            first | refine rs_ld_pa rfl rfl rfl rfl (Nat.le_of_ble_eq_true rfl) rfl ?_ | refine rs_ld_ra rfl rfl (Nat.le_of_ble_eq_true rfl) rfl ?_ | refine rs_ld_ma rfl rfl rfl (by omega) (Nat.le_of_ble_eq_true rfl) rfl ?_
            refine rs_mv rfl rfl ?_
            refine rs_calln [] rfl rfl (fc37s (Bd.plus hi.c (prim_bd hi.a48) (q := 100) (by omega)).big (prim_bd hi.b48).big (by omega)) (.cons (hv_same rfl) (.cons (hv_same rfl) (.cons (hv_same rfl) (.nil)))) rfl ?_
            refine rs_bslice rfl rfl rfl rfl rfl rfl ?_
            have hlen := arcRV_len (c := cenS m) (a := primV (sA m)) (b := primV (sB m)) (r := gS (sA m)) (d := d) (j := j) (by omega) (by omega) (by omega)
            refine rs_app_m (f := cV) (xs := (arcRV (cenS m) (primV (sA m)) (primV (sB m)) (gS (sA m)) (d) (j))) (y := (plus (plus (cenS m) (primV (sA m)) ((gS (sA m) - d : Nat) : Int)) (primV (sB m)) (j : Int))) rfl rfl rfl rfl rfl rfl rfl rfl (by decide) rfl (by omega) (by omega) rfl ?_
            refine rs_mv rfl rfl ?_
            refine rs_nil ⟨by kernel_rfl, fun _ => ?_⟩
            refine in_n ?_
            refine th_n ?_
            refine aw_reg ?_
            refine rs_mv rfl rfl ?_
            first | refine rs_add rfl rfl rfl (by omega) ?_ | refine rs_addw rfl rfl rfl rfl ?_
            refine rs_mv rfl rfl ?_
            refine rs_nil fun _ => ?_
            refine th_n ?_
            first
              | (have e := arcRV_t (c := cenS m) (a := primV (sA m)) (b := primV (sB m)) hcond
                 exact ⟨j + 1, by omega, by omega, weak_to_ren (i := 91) (i' := 1003) (F1 := [(1, .ptr 1 0 0), (7, .ptr 7 0 0), (8, .ptr 8 0 0), (10, .ptr 10 0 0), (9, iv (gS (sA m) : Int)), (12, iv ((gS (sA m) - d : Nat) : Int)), (13, iv (((j + 1) : Nat) : Int)), (3, .sl 91 0 (arcRV (cenS m) (primV (sA m)) (primV (sB m)) (gS (sA m)) (d) (j + 1)).length)]) (H1 := [(1, .cells 28 11 [cM m] true), (7, .cells 26 3 [cV (cenS m)] true), (8, .cells 26 3 [cV (primV (sA m))] true), (10, .cells 26 3 [cV (primV (sB m))] true), (91, .cells 26 3 ((arcRV (cenS m) (primV (sA m)) (primV (sB m)) (gS (sA m)) (d) (j + 1)).map cV) true)]) (.cons rfl (rc_same rfl (.inl rfl)) (.cons rfl (rc_same rfl (.inl rfl)) (.cons rfl (rc_same rfl (.inl rfl)) (.cons rfl (rc_same rfl (.inl rfl)) (.cons rfl (rc_same rfl (.inl rfl)) (.cons rfl (rc_same rfl (.inl rfl)) (.cons rfl (rc_same rfl (.inl rfl)) (.cons rfl (rc_eq (by rw [e]; simp) rfl) (.nil))))))))) (.keep (rfl) rfl (.keep (rfl) rfl (.keep (rfl) rfl (.keep (rfl) rfl (.keep ((by (rw [e]) <;> rfl)) rfl (.nil)))))) (fun i h => by cases h) rfl rfl (.cons rfl (.same _) (.cons rfl (.same _) (.cons rfl (.same _) (.cons rfl (.same _) (.cons rfl (.same _) (.cons rfl (.same _) (.cons rfl (.same _) (.cons rfl (.sl _ _) (.nil))))))))) (.cons rfl (rc_same rfl (.inl rfl)) (.cons rfl (rc_same rfl (.inl rfl)) (.cons rfl (rc_same rfl (.inl rfl)) (.cons rfl (rc_same rfl (.inl rfl)) (.cons rfl (rc_same rfl (.inl rfl)) (.cons rfl (rc_same rfl (.inl rfl)) (.cons rfl (rc_same rfl (.inl rfl)) (.cons rfl (rc_same rfl (.inl rfl)) (.nil))))))))) (.keep (rfl) rfl (.keep (rfl) rfl (.keep (rfl) rfl (.keep (rfl) rfl (.keep (rfl) rfl (.nil)))))) (fun i h => by cases h)⟩)
              | (have e := arcRV_f (c := cenS m) (a := primV (sA m)) (b := primV (sB m)) hcond
                 exact ⟨j + 1, by omega, by omega, weak_to (.cons rfl (rc_same rfl (.inl rfl)) (.cons rfl (rc_same rfl (.inl rfl)) (.cons rfl (rc_same rfl (.inl rfl)) (.cons rfl (rc_same rfl (.inl rfl)) (.cons rfl (rc_same rfl (.inl rfl)) (.cons rfl (rc_same rfl (.inl rfl)) (.cons rfl (rc_same rfl (.inl rfl)) (.cons rfl (rc_eq (by rw [e]) rfl) (.nil))))))))) (.keep (rfl) rfl (.keep (rfl) rfl (.keep (rfl) rfl (.keep (rfl) rfl (.keep ((by (rw [e]) <;> rfl)) rfl (.nil)))))) (fun i h => by cases h)⟩)
          · first | replace h81 := of_decide_eq_false h81 | skip
            have hcond : ¬ (gS (sA m) - d) * (gS (sA m) - d) + j * j = gS (sA m) * gS (sA m) := fun e => h81 (by rw [← Int.natCast_add, e])
            refine aw_skip ?_
            refine in_n ?_
            refine th_n ?_
            refine aw_reg ?_
            refine rs_mv rfl rfl ?_
            first | refine rs_add rfl rfl rfl (by omega) ?_ | refine rs_addw rfl rfl rfl rfl ?_
            refine rs_mv rfl rfl ?_
            refine rs_nil fun _ => ?_
            refine th_n ?_
            first
              | (have e := arcRV_t (c := cenS m) (a := primV (sA m)) (b := primV (sB m)) hcond
                 exact ⟨j + 1, by omega, by omega, weak_to_ren (i := 91) (i' := 1003) (F1 := [(1, .ptr 1 0 0), (7, .ptr 7 0 0), (8, .ptr 8 0 0), (10, .ptr 10 0 0), (9, iv (gS (sA m) : Int)), (12, iv ((gS (sA m) - d : Nat) : Int)), (13, iv (((j + 1) : Nat) : Int)), (3, .sl 91 0 (arcRV (cenS m) (primV (sA m)) (primV (sB m)) (gS (sA m)) (d) (j + 1)).length)]) (H1 := [(1, .cells 28 11 [cM m] true), (7, .cells 26 3 [cV (cenS m)] true), (8, .cells 26 3 [cV (primV (sA m))] true), (10, .cells 26 3 [cV (primV (sB m))] true), (91, .cells 26 3 ((arcRV (cenS m) (primV (sA m)) (primV (sB m)) (gS (sA m)) (d) (j + 1)).map cV) true)]) (.cons rfl (rc_same rfl (.inl rfl)) (.cons rfl (rc_same rfl (.inl rfl)) (.cons rfl (rc_same rfl (.inl rfl)) (.cons rfl (rc_same rfl (.inl rfl)) (.cons rfl (rc_same rfl (.inl rfl)) (.cons rfl (rc_same rfl (.inl rfl)) (.cons rfl (rc_same rfl (.inl rfl)) (.cons rfl (rc_eq (by rw [e]; simp) rfl) (.nil))))))))) (.keep (rfl) rfl (.keep (rfl) rfl (.keep (rfl) rfl (.keep (rfl) rfl (.keep ((by (rw [e]) <;> rfl)) rfl (.nil)))))) (fun i h => by cases h) rfl rfl (.cons rfl (.same _) (.cons rfl (.same _) (.cons rfl (.same _) (.cons rfl (.same _) (.cons rfl (.same _) (.cons rfl (.same _) (.cons rfl (.same _) (.cons rfl (.sl _ _) (.nil))))))))) (.cons rfl (rc_same rfl (.inl rfl)) (.cons rfl (rc_same rfl (.inl rfl)) (.cons rfl (rc_same rfl (.inl rfl)) (.cons rfl (rc_same rfl (.inl rfl)) (.cons rfl (rc_same rfl (.inl rfl)) (.cons rfl (rc_same rfl (.inl rfl)) (.cons rfl (rc_same rfl (.inl rfl)) (.cons rfl (rc_same rfl (.inl rfl)) (.nil))))))))) (.keep (rfl) rfl (.keep (rfl) rfl (.keep (rfl) rfl (.keep (rfl) rfl (.keep (rfl) rfl (.nil)))))) (fun i h => by cases h)⟩)
              | (have e := arcRV_f (c := cenS m) (a := primV (sA m)) (b := primV (sB m)) hcond
                 exact ⟨j + 1, by omega, by omega, weak_to (.cons rfl (rc_same rfl (.inl rfl)) (.cons rfl (rc_same rfl (.inl rfl)) (.cons rfl (rc_same rfl (.inl rfl)) (.cons rfl (rc_same rfl (.inl rfl)) (.cons rfl (rc_same rfl (.inl rfl)) (.cons rfl (rc_same rfl (.inl rfl)) (.cons rfl (rc_same rfl (.inl rfl)) (.cons rfl (rc_eq (by rw [e]) rfl) (.nil))))))))) (.keep (rfl) rfl (.keep (rfl) rfl (.keep (rfl) rfl (.keep (rfl) rfl (.keep ((by (rw [e]) <;> rfl)) rfl (.nil)))))) (fun i h => by cases h)⟩)
        · first | replace h68 := of_decide_eq_false h68 | skip
          refine aw_exit ?_
          refine th_e ?_
          refine th_e ?_
          refine in_hit ?_
          refine in_n ?_
          refine th_n ?_
          refine aw_reg ?_
          refine rs_mv rfl rfl ?_
          first | refine rs_sub rfl rfl rfl (by omega) ?_ | refine rs_subw rfl rfl rfl rfl ?_
          refine rs_mv rfl rfl ?_
          refine rs_nil fun _ => ?_
          refine th_n ?_
          have hj2 : j = gS (sA m) + 1 := by omega
          subst hj2
          have e := arcRV_row (c := cenS m) (a := primV (sA m)) (b := primV (sB m)) (r := gS (sA m)) (d := d)
          exact ⟨d + 1, by omega, by omega, weak_to (.cons rfl (rc_same rfl (.inl rfl)) (.cons rfl (rc_same rfl (.inl rfl)) (.cons rfl (rc_same rfl (.inl rfl)) (.cons rfl (rc_same rfl (.inl rfl)) (.cons rfl (rc_same rfl (.inl rfl)) (.cons rfl (rc_int (by omega)) (.cons rfl (rc_eq (by rw [e]) rfl) (.nil)))))))) (.keep (rfl) rfl (.keep (rfl) rfl (.keep (rfl) rfl (.keep (rfl) rfl (.keep ((by (rw [e]) <;> rfl)) rfl (.nil)))))) (fun i h => by cases h)⟩
      · first | replace h63 := of_decide_eq_false h63 | skip
        refine aw_exit ?_
        refine th_e ?_
        refine th_e ?_
        refine in_hit ?_
        refine th_n ?_
        refine aw_seq ?_
        refine aw_reg ?_
        refine rs_mv rfl rfl ?_
        refine rs_mv rfl rfl ?_
        refine rs_nil fun _ => ?_
        refine th_n ?_
        refine aw_ret ?_
        first
          | (rw [path_0 h16]; exact ret_new rfl rc_nils .nil)
          | (have hk2 : k = gS (dS m) + 1 := by omega
             subst hk2
             rw [path_n h0 h19]
             exact ret_new rfl (rc_frz rfl rfl (linQ_len _ _ _) (fun _ => rfl)) .nil)
          | (have hd2 : d = gS (sA m) + 1 := by omega
             subst hd2
             rw [path_a h0 (by omega), ← arc_eq (by omega)]
             exact ret_new rfl (rc_frz rfl rfl rfl (fun _ => rfl)) .nil)

def mc15 : MC := (.seq (.reg [⟨(some 1), (.box 28 11 (.t 0)), none, []⟩, ⟨(some 2), (.mv (.c (.int .i64 0))), none, []⟩] false) (.seq (.reg [⟨(some 3), (.ld true 11 (.t 1)), none, []⟩, ⟨(some 4), (.call 44 [(.t 3)]), none, [0]⟩, ⟨(some 5), (.len (.t 4)), none, [1]⟩, ⟨(some 6), (.bin .sub (.t 5) (.c (.int .i64 1))), none, [2]⟩, ⟨(some 7), (.mx (.t 6) (.c (.int .i64 0))), none, [3]⟩, ⟨(some 2), (.mv (.t 7)), none, [4, 1, 0, 1, 2, 3, 4]⟩] false) .ret))
theorem mcOk15 : (match Try.f15.body with | some c => compC Try.prog 8 c | none => none) = some mc15 := by kernel_rfl

theorem fc15 (m : Mv) : FC Try.prog 15 [aM m] [] (iv (stepsS m)) [] false := by
  have hl := path_len m
  refine fc_run (nt := 8) Try.func15 rfl rfl mcOk15 (Nat.le_of_ble_eq_true rfl) ?_
  delta mc15
  refine aw_seq ?_
  refine aw_reg ?_
  refine rs_box rfl rfl rfl rfl rfl rfl ?_
  refine rs_mv rfl rfl ?_
  refine rs_nil fun _ => ?_
  refine th_n ?_
  refine aw_seq ?_
  refine aw_reg ?_
  first | refine rs_ld_pa rfl rfl rfl rfl (Nat.le_of_ble_eq_true rfl) rfl ?_ | refine rs_ld_ra rfl rfl (Nat.le_of_ble_eq_true rfl) rfl ?_ | refine rs_ld_ma rfl rfl rfl (by omega) (Nat.le_of_ble_eq_true rfl) rfl ?_
  refine rs_calln [] rfl rfl (fc44 m) (.cons (hv_same rfl) (.nil)) rfl ?_
  first | refine rs_len_m rfl rfl ?_ | refine rs_len_s rfl rfl ?_ | refine rs_len_n rfl rfl ?_ | refine rs_len_r rfl rfl rfl ?_
  first | refine rs_sub rfl rfl rfl (by omega) ?_ | refine rs_subw rfl rfl rfl rfl ?_
  refine rs_mx rfl rfl rfl rfl ?_
  refine rs_mv rfl rfl ?_
  refine rs_nil fun _ => ?_
  refine th_n ?_
  refine aw_ret ?_
  exact ret_pure rfl rfl rfl (.inr rfl)

def mc18 : MC := (.seq (.reg [⟨(some 2), (.box 28 11 (.t 0)), none, []⟩, ⟨(some 4), (.alloc 26 3 [(.int .i64 0), (.int .i64 0), (.int .i64 0)]), none, []⟩, ⟨(some 5), (.mv (.c (.bool false))), none, []⟩] false) (.seq (.reg [⟨(some 7), (.ld true 11 (.t 2)), none, []⟩, ⟨(some 8), (.call 44 [(.t 7)]), none, [0]⟩, ⟨(some 6), (.mv (.t 8)), none, [1, 1, 0, 1]⟩] false) (.seq (.seq (.reg [⟨(some 9), (.mv (.t 1)), none, []⟩, ⟨(some 10), (.bin .lss (.t 9) (.c (.int .i64 0))), none, [0]⟩, ⟨(some 11), (.mv (.t 10)), none, [1]⟩, ⟨(some 12), (.mv (.t 1)), (some (11, false)), [2]⟩, ⟨(some 13), (.mv (.t 6)), (some (11, false)), [2]⟩, ⟨(some 14), (.len (.t 13)), (some (11, false)), [4, 2]⟩, ⟨(some 15), (.bin .geq (.t 12) (.t 14)), (some (11, false)), [3, 5, 2]⟩, ⟨(some 16), (.pick (.t 11) (.c (.bool true)) (.t 15)), none, [2, 6]⟩] false) (.cond (.t 16) (.seq (.reg [⟨(some 17), (.build [(.int .i64 0), (.int .i64 0), (.int .i64 0)] []), none, []⟩, ⟨none, (.st 3 (.t 4) (.t 17)), none, [0, 0]⟩, ⟨(some 5), (.mv (.c (.bool false))), none, [1, 0, 1]⟩] false) .ret) .skip)) (.seq (.reg [⟨(some 18), (.mv (.t 6)), none, []⟩, ⟨(some 19), (.mv (.t 1)), none, []⟩, ⟨(some 20), (.ixsl 3 (.t 18) (.t 19)), none, [0, 1]⟩, ⟨(some 21), (.ld true 3 (.t 20)), none, [2]⟩, ⟨none, (.st 3 (.t 4) (.t 21)), none, [3, 0, 1, 2, 3]⟩, ⟨(some 5), (.mv (.c (.bool true))), none, [4, 0, 1, 2, 3, 4]⟩] false) .ret))))
theorem mcOk18 : (match Try.f18.body with | some c => compC Try.prog 22 c | none => none) = some mc18 := by kernel_rfl

theorem fc18 (m : Mv) (step : Int) : FC Try.prog 18 [aM m, iv step] [] (.tup [aV (atV m step), .bool (atB m step)]) [] false := by
  have hl := path_len m
  refine fc_run (nt := 22) Try.func18 rfl rfl mcOk18 (Nat.le_of_ble_eq_true rfl) ?_
  delta mc18
  refine aw_seq ?_
  refine aw_reg ?_
  refine rs_box rfl rfl rfl rfl rfl rfl ?_
  refine rs_alloc rfl rfl rfl ?_
  refine rs_mv rfl rfl ?_
  refine rs_nil fun _ => ?_
  refine th_n ?_
  refine aw_seq ?_
  refine aw_reg ?_
  first | refine rs_ld_pa rfl rfl rfl rfl (Nat.le_of_ble_eq_true rfl) rfl ?_ | refine rs_ld_ra rfl rfl (Nat.le_of_ble_eq_true rfl) rfl ?_ | refine rs_ld_ma rfl rfl rfl (by omega) (Nat.le_of_ble_eq_true rfl) rfl ?_
  refine rs_calln [] rfl rfl (fc44 m) (.cons (hv_same rfl) (.nil)) rfl ?_
  refine rs_mv rfl rfl ?_
  refine rs_nil fun _ => ?_
  refine th_n ?_
  refine aw_seq ?_
  refine aw_seq ?_
  refine aw_reg ?_
  refine rs_mv rfl rfl ?_
  refine rs_cmp rfl rfl rfl rfl (fun h10 => ?_) (fun h10 => ?_)
  · skip
    refine rs_mv rfl rfl ?_
    refine rs_skip rfl ?_
    refine rs_skip rfl ?_
    refine rs_skip rfl ?_
    refine rs_skip rfl ?_
    refine rs_pick rfl rfl rfl ?_
    refine rs_nil fun _ => ?_
    refine th_n ?_
    refine aw_cond rfl (fun _ => ?_) (fun h => by cases h)
    refine aw_seq ?_
    refine aw_reg ?_
    refine rs_build rfl rfl ?_
    refine rs_st rfl rfl rfl rfl rfl rfl rfl (Nat.le_of_ble_eq_true rfl) rfl rfl ?_
    refine rs_mv rfl rfl ?_
    refine rs_nil fun _ => ?_
    refine th_n ?_
    refine aw_ret ?_
    refine th_r ?_
    first
      | (obtain ⟨hv, hb⟩ := at_no (m := m) (s := step) (by omega)
         rw [hv, hb]
         exact ret_pure rfl rfl rfl (.inr rfl))
      | (obtain ⟨hv, hb⟩ := at_el (m := m) (s := step) (by omega) (by omega)
         rw [hv, hb]
         exact ret_pure rfl rfl rfl (.inr rfl))
  · skip
    refine rs_mv rfl rfl ?_
    refine rs_mv rfl rfl ?_
    refine rs_mv rfl rfl ?_
    first | refine rs_len_m rfl rfl ?_ | refine rs_len_s rfl rfl ?_ | refine rs_len_n rfl rfl ?_ | refine rs_len_r rfl rfl rfl ?_
    refine rs_cmp rfl rfl rfl rfl (fun h15 => ?_) (fun h15 => ?_)
    · skip
      refine rs_pick rfl rfl rfl ?_
      refine rs_nil fun _ => ?_
      refine th_n ?_
      refine aw_cond rfl (fun _ => ?_) (fun h => by cases h)
      refine aw_seq ?_
      refine aw_reg ?_
      refine rs_build rfl rfl ?_
      refine rs_st rfl rfl rfl rfl rfl rfl rfl (Nat.le_of_ble_eq_true rfl) rfl rfl ?_
      refine rs_mv rfl rfl ?_
      refine rs_nil fun _ => ?_
      refine th_n ?_
      refine aw_ret ?_
      refine th_r ?_
      first
        | (obtain ⟨hv, hb⟩ := at_no (m := m) (s := step) (by omega)
           rw [hv, hb]
           exact ret_pure rfl rfl rfl (.inr rfl))
        | (obtain ⟨hv, hb⟩ := at_el (m := m) (s := step) (by omega) (by omega)
           rw [hv, hb]
           exact ret_pure rfl rfl rfl (.inr rfl))
    · skip
      refine rs_pick rfl rfl rfl ?_
      refine rs_nil fun _ => ?_
      refine th_n ?_
      refine aw_cond rfl (fun h => by cases h) (fun _ => ?_)
      refine aw_skip ?_
      refine th_n ?_
      refine aw_seq ?_
      refine aw_reg ?_
      refine rs_mv rfl rfl ?_
      refine rs_mv rfl rfl ?_
      refine rs_ix_g rfl rfl rfl (by omega) (el_at (by omega) (by omega)) ?_
      refine rs_ld_ra rfl rfl (Nat.le_of_ble_eq_true rfl) rfl ?_
      refine rs_st rfl rfl rfl rfl rfl rfl rfl (Nat.le_of_ble_eq_true rfl) rfl rfl ?_
      refine rs_mv rfl rfl ?_
      refine rs_nil fun _ => ?_
      refine th_n ?_
      refine aw_ret ?_
      first
        | (obtain ⟨hv, hb⟩ := at_no (m := m) (s := step) (by omega)
           rw [hv, hb]
           exact ret_pure rfl rfl rfl (.inr rfl))
        | (obtain ⟨hv, hb⟩ := at_el (m := m) (s := step) (by omega) (by omega)
           rw [hv, hb]
           exact ret_pure rfl rfl rfl (.inr rfl))

def mc20 : MC := (.seq (.reg [⟨(some 3), (.box 28 11 (.t 0)), none, []⟩, ⟨(some 6), (.mv (.c .nils)), none, []⟩, ⟨(some 7), (.mv (.c (.bool false))), none, [1]⟩] false) (.seq (.reg [⟨(some 9), (.ld true 11 (.t 3)), none, []⟩, ⟨(some 10), (.call 44 [(.t 9)]), none, [0]⟩, ⟨(some 8), (.mv (.t 10)), none, [1, 1, 0, 1]⟩] false) (.seq (.seq (.reg [⟨(some 11), (.mv (.t 1)), none, []⟩, ⟨(some 12), (.bin .lss (.t 11) (.c (.int .i64 0))), none, [0]⟩, ⟨(some 13), (.mv (.t 12)), none, [1]⟩, ⟨(some 14), (.mv (.t 2)), (some (13, false)), [2]⟩, ⟨(some 15), (.mv (.t 1)), (some (13, false)), [2]⟩, ⟨(some 16), (.bin .lss (.t 14) (.t 15)), (some (13, false)), [3, 4, 2]⟩, ⟨(some 17), (.pick (.t 13) (.c (.bool true)) (.t 16)), none, [2, 5]⟩, ⟨(some 18), (.mv (.t 17)), none, [6, 2]⟩, ⟨(some 19), (.mv (.t 2)), (some (18, false)), [7]⟩, ⟨(some 20), (.mv (.t 8)), (some (18, false)), [7]⟩, ⟨(some 21), (.len (.t 20)), (some (18, false)), [9, 7]⟩, ⟨(some 22), (.bin .geq (.t 19) (.t 21)), (some (18, false)), [8, 10, 7]⟩, ⟨(some 23), (.pick (.t 18) (.c (.bool true)) (.t 22)), none, [7, 11]⟩] false) (.cond (.t 23) (.seq (.reg [⟨(some 6), (.mv (.c .nils)), none, []⟩, ⟨(some 7), (.mv (.c (.bool false))), none, [0, 0]⟩] false) .ret) .skip)) (.seq (.seq (.reg [⟨(some 24), (.mv (.t 1)), none, []⟩, ⟨(some 25), (.mv (.t 2)), none, []⟩, ⟨(some 26), (.bin .eql (.t 24) (.t 25)), none, [0, 1]⟩] false) (.cond (.t 26) (.seq (.reg [⟨(some 27), (.mv (.t 8)), none, []⟩, ⟨(some 28), (.mv (.t 1)), none, []⟩, ⟨(some 29), (.ixsl 3 (.t 27) (.t 28)), none, [0, 1]⟩, ⟨(some 30), (.ld true 3 (.t 29)), none, [2]⟩, ⟨(some 31), (.bslice 26 3 [(.int .i64 0), (.int .i64 0), (.int .i64 0)] 1 [(0, (.t 30))]), none, [3]⟩, ⟨(some 6), (.mv (.t 31)), none, [4, 0, 1, 2, 3, 4]⟩, ⟨(some 7), (.mv (.c (.bool true))), none, [5, 0, 1, 2, 3, 4, 5]⟩] false) .ret) .skip)) (.seq (.seq (.reg [⟨(some 32), (.fa 0 (.t 3)), none, []⟩, ⟨(some 33), (.ld false 1 (.t 32)), none, [0]⟩, ⟨(some 34), (.bin .eql (.t 33) (.c (.int .i64 3))), none, [1]⟩] false) (.cond (.t 34) (.seq (.reg [⟨(some 35), (.fa 1 (.t 3)), none, []⟩, ⟨(some 36), (.ld true 3 (.t 35)), none, [0]⟩, ⟨(some 37), (.fa 7 (.t 3)), none, []⟩, ⟨(some 38), (.ld true 3 (.t 37)), none, [2]⟩, ⟨(some 39), (.fa 4 (.t 3)), none, []⟩, ⟨(some 40), (.ld true 3 (.t 39)), none, [4]⟩, ⟨(some 41), (.bslice 26 3 [(.int .i64 0), (.int .i64 0), (.int .i64 0)] 3 [(0, (.t 36)), (1, (.t 38)), (2, (.t 40))]), none, [1, 3, 5]⟩, ⟨(some 6), (.mv (.t 41)), none, [6, 0, 1, 2, 3, 4, 5, 6]⟩, ⟨(some 7), (.mv (.c (.bool true))), none, [7, 0, 1, 2, 3, 4, 5, 6, 7]⟩] false) .ret) .skip)) (.seq (.reg [⟨(some 42), (.mv (.t 8)), none, []⟩, ⟨(some 43), (.mv (.t 1)), none, []⟩, ⟨(some 44), (.ixsl 3 (.t 42) (.t 43)), none, [0, 1]⟩, ⟨(some 45), (.ld true 3 (.t 44)), none, [2]⟩, ⟨(some 46), (.mv (.t 8)), none, []⟩, ⟨(some 47), (.mv (.t 2)), none, []⟩, ⟨(some 48), (.ixsl 3 (.t 46) (.t 47)), none, [4, 5]⟩, ⟨(some 49), (.ld true 3 (.t 48)), none, [6]⟩, ⟨(some 50), (.bslice 26 3 [(.int .i64 0), (.int .i64 0), (.int .i64 0)] 2 [(0, (.t 45)), (1, (.t 49))]), none, [3, 7]⟩, ⟨(some 6), (.mv (.t 50)), none, [8, 0, 1, 2, 3, 4, 5, 6, 7, 8]⟩, ⟨(some 7), (.mv (.c (.bool true))), none, [9, 0, 1, 2, 3, 4, 5, 6, 7, 8, 9]⟩] true) .ret))))))
theorem mcOk20 : (match Try.f20.body with | some c => compC Try.prog 51 c | none => none) = some mc20 := by kernel_rfl

theorem fc20 (m : Mv) (i j : Int) : FC Try.prog 20 [aM m, iv i, iv j] [] (.tup [.rs 3 ((outS m i j).map cV), .bool (btwB m i j)]) [] false := by
  have hl := path_len m
  refine fc_run (nt := 51) Try.func20 rfl rfl mcOk20 (Nat.le_of_ble_eq_true rfl) ?_
  delta mc20
  refine aw_seq ?_
  refine aw_reg ?_
  refine rs_box rfl rfl rfl rfl rfl rfl ?_
  refine rs_mv rfl rfl ?_
  refine rs_mv rfl rfl ?_
  refine rs_nil fun _ => ?_
  refine th_n ?_
  refine aw_seq ?_
  refine aw_reg ?_
  first | refine rs_ld_pa rfl rfl rfl rfl (Nat.le_of_ble_eq_true rfl) rfl ?_ | refine rs_ld_ra rfl rfl (Nat.le_of_ble_eq_true rfl) rfl ?_ | refine rs_ld_ma rfl rfl rfl (by omega) (Nat.le_of_ble_eq_true rfl) rfl ?_
  refine rs_calln [] rfl rfl (fc44 m) (.cons (hv_same rfl) (.nil)) rfl ?_
  refine rs_mv rfl rfl ?_
  refine rs_nil fun _ => ?_
  refine th_n ?_
  refine aw_seq ?_
  refine aw_seq ?_
  refine aw_reg ?_
  refine rs_mv rfl rfl ?_
  refine rs_cmp rfl rfl rfl rfl (fun h12 => ?_) (fun h12 => ?_)
  · skip
    refine rs_mv rfl rfl ?_
    refine rs_skip rfl ?_
    refine rs_skip rfl ?_
    refine rs_skip rfl ?_
    refine rs_pick rfl rfl rfl ?_
    refine rs_mv rfl rfl ?_
    refine rs_skip rfl ?_
    refine rs_skip rfl ?_
    refine rs_skip rfl ?_
    refine rs_skip rfl ?_
    refine rs_pick rfl rfl rfl ?_
    refine rs_nil fun _ => ?_
    refine th_n ?_
    refine aw_cond rfl (fun _ => ?_) (fun h => by cases h)
    refine aw_seq ?_
    refine aw_reg ?_
    refine rs_mv rfl rfl ?_
    refine rs_mv rfl rfl ?_
    refine rs_nil fun _ => ?_
    refine th_n ?_
    refine aw_ret ?_
    refine th_r ?_
    first
      | (have hb : btwB m i j = false := decide_eq_false (by omega)
         have hs : outS m i j = [] := if_neg (by rw [hb]; decide)
         rw [hs, hb]
         exact ret_new rfl (rc_tup (.cons rc_nils (.cons (rc_same rfl (.inr rfl)) .nil))) .nil)
      | (have hb : btwB m i j = true := decide_eq_true (by omega)
         rw [hb, show outS m i j = [elS m i] by unfold outS; rw [if_pos hb, if_pos h26]]
         exact ret_new rfl (rc_tup (.cons (rc_frz (f := cV) (xs := [elS m i]) rfl rfl rfl (fun _ => rfl)) (.cons (rc_same rfl (.inr rfl)) .nil))) .nil)
      | (have hb : btwB m i j = true := decide_eq_true (by omega)
         rw [hb, show outS m i j = [m.fr, m.co, m.to] by unfold outS; rw [if_pos hb, if_neg h26, if_pos h34]]
         exact ret_new rfl (rc_tup (.cons (rc_frz (f := cV) (xs := [m.fr, m.co, m.to]) rfl rfl rfl (fun _ => rfl)) (.cons (rc_same rfl (.inr rfl)) .nil))) .nil)
      | (have hb : btwB m i j = true := decide_eq_true (by omega)
         rw [hb, show outS m i j = [elS m i, elS m j] by unfold outS; rw [if_pos hb, if_neg h26, if_neg h34]]
         exact ret_new rfl (rc_tup (.cons (rc_frz (f := cV) (xs := [elS m i, elS m j]) rfl rfl rfl (fun _ => rfl)) (.cons (rc_same rfl (.inr rfl)) .nil))) .nil)
  · skip
    refine rs_mv rfl rfl ?_
    refine rs_mv rfl rfl ?_
    refine rs_mv rfl rfl ?_
    refine rs_cmp rfl rfl rfl rfl (fun h16 => ?_) (fun h16 => ?_)
    · skip
      refine rs_pick rfl rfl rfl ?_
      refine rs_mv rfl rfl ?_
      refine rs_skip rfl ?_
      refine rs_skip rfl ?_
      refine rs_skip rfl ?_
      refine rs_skip rfl ?_
      refine rs_pick rfl rfl rfl ?_
      refine rs_nil fun _ => ?_
      refine th_n ?_
      refine aw_cond rfl (fun _ => ?_) (fun h => by cases h)
      refine aw_seq ?_
      refine aw_reg ?_
      refine rs_mv rfl rfl ?_
      refine rs_mv rfl rfl ?_
      refine rs_nil fun _ => ?_
      refine th_n ?_
      refine aw_ret ?_
      refine th_r ?_
      first
        | (have hb : btwB m i j = false := decide_eq_false (by omega)
           have hs : outS m i j = [] := if_neg (by rw [hb]; decide)
           rw [hs, hb]
           exact ret_new rfl (rc_tup (.cons rc_nils (.cons (rc_same rfl (.inr rfl)) .nil))) .nil)
        | (have hb : btwB m i j = true := decide_eq_true (by omega)
           rw [hb, show outS m i j = [elS m i] by unfold outS; rw [if_pos hb, if_pos h26]]
           exact ret_new rfl (rc_tup (.cons (rc_frz (f := cV) (xs := [elS m i]) rfl rfl rfl (fun _ => rfl)) (.cons (rc_same rfl (.inr rfl)) .nil))) .nil)
        | (have hb : btwB m i j = true := decide_eq_true (by omega)
           rw [hb, show outS m i j = [m.fr, m.co, m.to] by unfold outS; rw [if_pos hb, if_neg h26, if_pos h34]]
           exact ret_new rfl (rc_tup (.cons (rc_frz (f := cV) (xs := [m.fr, m.co, m.to]) rfl rfl rfl (fun _ => rfl)) (.cons (rc_same rfl (.inr rfl)) .nil))) .nil)
        | (have hb : btwB m i j = true := decide_eq_true (by omega)
           rw [hb, show outS m i j = [elS m i, elS m j] by unfold outS; rw [if_pos hb, if_neg h26, if_neg h34]]
           exact ret_new rfl (rc_tup (.cons (rc_frz (f := cV) (xs := [elS m i, elS m j]) rfl rfl rfl (fun _ => rfl)) (.cons (rc_same rfl (.inr rfl)) .nil))) .nil)
    · skip
      refine rs_pick rfl rfl rfl ?_
      refine rs_mv rfl rfl ?_
      refine rs_mv rfl rfl ?_
      refine rs_mv rfl rfl ?_
      first | refine rs_len_m rfl rfl ?_ | refine rs_len_s rfl rfl ?_ | refine rs_len_n rfl rfl ?_ | refine rs_len_r rfl rfl rfl ?_
      refine rs_cmp rfl rfl rfl rfl (fun h22 => ?_) (fun h22 => ?_)
      · skip
        refine rs_pick rfl rfl rfl ?_
        refine rs_nil fun _ => ?_
        refine th_n ?_
        refine aw_cond rfl (fun _ => ?_) (fun h => by cases h)
        refine aw_seq ?_
        refine aw_reg ?_
        refine rs_mv rfl rfl ?_
        refine rs_mv rfl rfl ?_
        refine rs_nil fun _ => ?_
        refine th_n ?_
        refine aw_ret ?_
        refine th_r ?_
        first
          | (have hb : btwB m i j = false := decide_eq_false (by omega)
             have hs : outS m i j = [] := if_neg (by rw [hb]; decide)
             rw [hs, hb]
             exact ret_new rfl (rc_tup (.cons rc_nils (.cons (rc_same rfl (.inr rfl)) .nil))) .nil)
          | (have hb : btwB m i j = true := decide_eq_true (by omega)
             rw [hb, show outS m i j = [elS m i] by unfold outS; rw [if_pos hb, if_pos h26]]
             exact ret_new rfl (rc_tup (.cons (rc_frz (f := cV) (xs := [elS m i]) rfl rfl rfl (fun _ => rfl)) (.cons (rc_same rfl (.inr rfl)) .nil))) .nil)
          | (have hb : btwB m i j = true := decide_eq_true (by omega)
             rw [hb, show outS m i j = [m.fr, m.co, m.to] by unfold outS; rw [if_pos hb, if_neg h26, if_pos h34]]
             exact ret_new rfl (rc_tup (.cons (rc_frz (f := cV) (xs := [m.fr, m.co, m.to]) rfl rfl rfl (fun _ => rfl)) (.cons (rc_same rfl (.inr rfl)) .nil))) .nil)
          | (have hb : btwB m i j = true := decide_eq_true (by omega)
             rw [hb, show outS m i j = [elS m i, elS m j] by unfold outS; rw [if_pos hb, if_neg h26, if_neg h34]]
             exact ret_new rfl (rc_tup (.cons (rc_frz (f := cV) (xs := [elS m i, elS m j]) rfl rfl rfl (fun _ => rfl)) (.cons (rc_same rfl (.inr rfl)) .nil))) .nil)
      · skip
        refine rs_pick rfl rfl rfl ?_
        refine rs_nil fun _ => ?_
        refine th_n ?_
        refine aw_cond rfl (fun h => by cases h) (fun _ => ?_)
        refine aw_skip ?_
        refine th_n ?_
        refine aw_seq ?_
        refine aw_seq ?_
        refine aw_reg ?_
        refine rs_mv rfl rfl ?_
        refine rs_mv rfl rfl ?_
        refine rs_eql rfl rfl rfl ?_
        refine rs_nil fun _ => ?_
        refine th_n ?_
        refine aw_cond rfl (fun h26 => ?_) (fun h26 => ?_)
        · first | replace h26 := of_decide_eq_true h26 | skip
          refine aw_seq ?_
          refine aw_reg ?_
          refine rs_mv rfl rfl ?_
          refine rs_mv rfl rfl ?_
          refine rs_ix_g rfl rfl rfl (by omega) (el_at (by omega) (by omega)) ?_
          refine rs_ld_ra rfl rfl (Nat.le_of_ble_eq_true rfl) rfl ?_
          refine rs_bslice rfl rfl rfl rfl rfl rfl ?_
          refine rs_mv rfl rfl ?_
          refine rs_mv rfl rfl ?_
          refine rs_nil fun _ => ?_
          refine th_n ?_
          refine aw_ret ?_
          refine th_r ?_
          first
            | (have hb : btwB m i j = false := decide_eq_false (by omega)
               have hs : outS m i j = [] := if_neg (by rw [hb]; decide)
               rw [hs, hb]
               exact ret_new rfl (rc_tup (.cons rc_nils (.cons (rc_same rfl (.inr rfl)) .nil))) .nil)
            | (have hb : btwB m i j = true := decide_eq_true (by omega)
               rw [hb, show outS m i j = [elS m i] by unfold outS; rw [if_pos hb, if_pos h26]]
               exact ret_new rfl (rc_tup (.cons (rc_frz (f := cV) (xs := [elS m i]) rfl rfl rfl (fun _ => rfl)) (.cons (rc_same rfl (.inr rfl)) .nil))) .nil)
            | (have hb : btwB m i j = true := decide_eq_true (by omega)
               rw [hb, show outS m i j = [m.fr, m.co, m.to] by unfold outS; rw [if_pos hb, if_neg h26, if_pos h34]]
               exact ret_new rfl (rc_tup (.cons (rc_frz (f := cV) (xs := [m.fr, m.co, m.to]) rfl rfl rfl (fun _ => rfl)) (.cons (rc_same rfl (.inr rfl)) .nil))) .nil)
            | (have hb : btwB m i j = true := decide_eq_true (by omega)
               rw [hb, show outS m i j = [elS m i, elS m j] by unfold outS; rw [if_pos hb, if_neg h26, if_neg h34]]
               exact ret_new rfl (rc_tup (.cons (rc_frz (f := cV) (xs := [elS m i, elS m j]) rfl rfl rfl (fun _ => rfl)) (.cons (rc_same rfl (.inr rfl)) .nil))) .nil)
        · first | replace h26 := of_decide_eq_false h26 | skip
          refine aw_skip ?_
          refine th_n ?_
          refine aw_seq ?_
          refine aw_seq ?_
          refine aw_reg ?_
          first | refine rs_fa_p rfl rfl ?_ | refine rs_fa_r rfl rfl rfl ?_
          first | refine rs_ld_r rfl rfl rfl ?_ | refine rs_ld_p rfl rfl rfl rfl rfl ?_ | refine rs_ld_m rfl rfl rfl (by omega) rfl ?_
          refine rs_eql rfl rfl rfl ?_
          refine rs_nil fun _ => ?_
          refine th_n ?_
          refine aw_cond rfl (fun h34 => ?_) (fun h34 => ?_)
          · first | replace h34 := of_decide_eq_true h34 | skip
            refine aw_seq ?_
            refine aw_reg ?_
            first | refine rs_fa_p rfl rfl ?_ | refine rs_fa_r rfl rfl rfl ?_
            first | refine rs_ld_pa rfl rfl rfl rfl (Nat.le_of_ble_eq_true rfl) rfl ?_ | refine rs_ld_ra rfl rfl (Nat.le_of_ble_eq_true rfl) rfl ?_ | refine rs_ld_ma rfl rfl rfl (by omega) (Nat.le_of_ble_eq_true rfl) rfl ?_
            first | refine rs_fa_p rfl rfl ?_ | refine rs_fa_r rfl rfl rfl ?_
            first | refine rs_ld_pa rfl rfl rfl rfl (Nat.le_of_ble_eq_true rfl) rfl ?_ | refine rs_ld_ra rfl rfl (Nat.le_of_ble_eq_true rfl) rfl ?_ | refine rs_ld_ma rfl rfl rfl (by omega) (Nat.le_of_ble_eq_true rfl) rfl ?_
            first | refine rs_fa_p rfl rfl ?_ | refine rs_fa_r rfl rfl rfl ?_
            first | refine rs_ld_pa rfl rfl rfl rfl (Nat.le_of_ble_eq_true rfl) rfl ?_ | refine rs_ld_ra rfl rfl (Nat.le_of_ble_eq_true rfl) rfl ?_ | refine rs_ld_ma rfl rfl rfl (by omega) (Nat.le_of_ble_eq_true rfl) rfl ?_
            refine rs_bslice rfl rfl rfl rfl rfl rfl ?_
            refine rs_mv rfl rfl ?_
            refine rs_mv rfl rfl ?_
            refine rs_nil fun _ => ?_
            refine th_n ?_
            refine aw_ret ?_
            refine th_r ?_
            first
              | (have hb : btwB m i j = false := decide_eq_false (by omega)
                 have hs : outS m i j = [] := if_neg (by rw [hb]; decide)
                 rw [hs, hb]
                 exact ret_new rfl (rc_tup (.cons rc_nils (.cons (rc_same rfl (.inr rfl)) .nil))) .nil)
              | (have hb : btwB m i j = true := decide_eq_true (by omega)
                 rw [hb, show outS m i j = [elS m i] by unfold outS; rw [if_pos hb, if_pos h26]]
                 exact ret_new rfl (rc_tup (.cons (rc_frz (f := cV) (xs := [elS m i]) rfl rfl rfl (fun _ => rfl)) (.cons (rc_same rfl (.inr rfl)) .nil))) .nil)
              | (have hb : btwB m i j = true := decide_eq_true (by omega)
                 rw [hb, show outS m i j = [m.fr, m.co, m.to] by unfold outS; rw [if_pos hb, if_neg h26, if_pos h34]]
                 exact ret_new rfl (rc_tup (.cons (rc_frz (f := cV) (xs := [m.fr, m.co, m.to]) rfl rfl rfl (fun _ => rfl)) (.cons (rc_same rfl (.inr rfl)) .nil))) .nil)
              | (have hb : btwB m i j = true := decide_eq_true (by omega)
                 rw [hb, show outS m i j = [elS m i, elS m j] by unfold outS; rw [if_pos hb, if_neg h26, if_neg h34]]
                 exact ret_new rfl (rc_tup (.cons (rc_frz (f := cV) (xs := [elS m i, elS m j]) rfl rfl rfl (fun _ => rfl)) (.cons (rc_same rfl (.inr rfl)) .nil))) .nil)
          · first | replace h34 := of_decide_eq_false h34 | skip
            refine aw_skip ?_
            refine th_n ?_
            refine aw_seq ?_
            refine aw_draw hmix ?_
            refine rs_mv rfl rfl ?_
            refine rs_mv rfl rfl ?_
            refine rs_ix_g rfl rfl rfl (by omega) (el_at (by omega) (by omega)) ?_
            refine rs_ld_ra rfl rfl (Nat.le_of_ble_eq_true rfl) rfl ?_
            refine rs_mv rfl rfl ?_
            refine rs_mv rfl rfl ?_
            refine rs_ix_g rfl rfl rfl (by omega) (el_at (by omega) (by omega)) ?_
            refine rs_ld_ra rfl rfl (Nat.le_of_ble_eq_true rfl) rfl ?_
            refine rs_bslice rfl rfl rfl rfl rfl rfl ?_
            refine rs_mv rfl rfl ?_
            refine rs_mv rfl rfl ?_
            refine rs_nil ⟨by kernel_rfl, fun _ => ?_⟩
            refine th_n ?_
            refine aw_ret ?_
            first
              | (have hb : btwB m i j = false := decide_eq_false (by omega)
                 have hs : outS m i j = [] := if_neg (by rw [hb]; decide)
                 rw [hs, hb]
                 exact ret_new rfl (rc_tup (.cons rc_nils (.cons (rc_same rfl (.inr rfl)) .nil))) .nil)
              | (have hb : btwB m i j = true := decide_eq_true (by omega)
                 rw [hb, show outS m i j = [elS m i] by unfold outS; rw [if_pos hb, if_pos h26]]
                 exact ret_new rfl (rc_tup (.cons (rc_frz (f := cV) (xs := [elS m i]) rfl rfl rfl (fun _ => rfl)) (.cons (rc_same rfl (.inr rfl)) .nil))) .nil)
              | (have hb : btwB m i j = true := decide_eq_true (by omega)
                 rw [hb, show outS m i j = [m.fr, m.co, m.to] by unfold outS; rw [if_pos hb, if_neg h26, if_pos h34]]
                 exact ret_new rfl (rc_tup (.cons (rc_frz (f := cV) (xs := [m.fr, m.co, m.to]) rfl rfl rfl (fun _ => rfl)) (.cons (rc_same rfl (.inr rfl)) .nil))) .nil)
              | (have hb : btwB m i j = true := decide_eq_true (by omega)
                 rw [hb, show outS m i j = [elS m i, elS m j] by unfold outS; rw [if_pos hb, if_neg h26, if_neg h34]]
                 exact ret_new rfl (rc_tup (.cons (rc_frz (f := cV) (xs := [elS m i, elS m j]) rfl rfl rfl (fun _ => rfl)) (.cons (rc_same rfl (.inr rfl)) .nil))) .nil)

def mc22 : MC := (.seq (.reg [⟨(some 3), (.box 28 11 (.t 0)), none, []⟩, ⟨(some 6), (.mv (.c .nils)), none, []⟩, ⟨(some 7), (.mv (.c (.bool false))), none, [1]⟩] false) (.seq (.reg [⟨(some 11), (.ld true 11 (.t 3)), none, []⟩, ⟨(some 12), (.call 44 [(.t 11)]), none, [0]⟩, ⟨(some 8), (.mv (.t 12)), none, [1, 1, 0, 1]⟩] false) (.seq (.seq (.reg [⟨(some 13), (.mv (.t 1)), none, []⟩, ⟨(some 14), (.bin .lss (.t 13) (.c (.int .i64 0))), none, [0]⟩, ⟨(some 15), (.mv (.t 14)), none, [1]⟩, ⟨(some 16), (.mv (.t 2)), (some (15, false)), [2]⟩, ⟨(some 17), (.mv (.t 1)), (some (15, false)), [2]⟩, ⟨(some 18), (.bin .lss (.t 16) (.t 17)), (some (15, false)), [3, 4, 2]⟩, ⟨(some 19), (.pick (.t 15) (.c (.bool true)) (.t 18)), none, [2, 5]⟩, ⟨(some 20), (.mv (.t 19)), none, [6, 2]⟩, ⟨(some 21), (.mv (.t 2)), (some (20, false)), [7]⟩, ⟨(some 22), (.mv (.t 8)), (some (20, false)), [7]⟩, ⟨(some 23), (.len (.t 22)), (some (20, false)), [9, 7]⟩, ⟨(some 24), (.bin .geq (.t 21) (.t 23)), (some (20, false)), [8, 10, 7]⟩, ⟨(some 25), (.pick (.t 20) (.c (.bool true)) (.t 24)), none, [7, 11]⟩] false) (.cond (.t 25) (.seq (.reg [⟨(some 6), (.mv (.c .nils)), none, []⟩, ⟨(some 7), (.mv (.c (.bool false))), none, [0, 0]⟩] false) .ret) .skip)) (.seq (.seq (.reg [⟨(some 26), (.fa 0 (.t 3)), none, []⟩, ⟨(some 27), (.ld false 1 (.t 26)), none, [0]⟩, ⟨(some 28), (.bin .neq (.t 27) (.c (.int .i64 3))), none, [1]⟩] false) (.cond (.t 28) (.seq (.reg [⟨(some 29), (.mv (.t 8)), none, []⟩, ⟨(some 30), (.mv (.t 1)), none, []⟩, ⟨(some 31), (.ixsl 3 (.t 29) (.t 30)), none, [0, 1]⟩, ⟨(some 32), (.ld true 3 (.t 31)), none, [2]⟩, ⟨(some 33), (.mv (.t 8)), none, []⟩, ⟨(some 34), (.mv (.t 2)), none, []⟩, ⟨(some 35), (.ixsl 3 (.t 33) (.t 34)), none, [4, 5]⟩, ⟨(some 36), (.ld true 3 (.t 35)), none, [6]⟩, ⟨(some 37), (.build [(.int .i64 0), (.int .i64 0), (.int .i64 0), (.int .i64 0), (.int .i64 0), (.int .i64 0)] [(0, (3, (.t 32))), (3, (3, (.t 36)))]), none, [3, 7]⟩, ⟨(some 38), (.bslice 63 6 [(.int .i64 0), (.int .i64 0), (.int .i64 0), (.int .i64 0), (.int .i64 0), (.int .i64 0)] 1 [(0, (.t 37))]), none, [8]⟩, ⟨(some 6), (.mv (.t 38)), none, [9, 0, 1, 2, 3, 4, 5, 6, 7, 8, 9]⟩, ⟨(some 7), (.mv (.c (.bool true))), none, [10, 0, 1, 2, 3, 4, 5, 6, 7, 8, 9, 10]⟩] true) .ret) .skip)) (.seq (.reg [⟨(some 9), (.mv (.c .nils)), none, []⟩] false) (.seq (.seq (.reg [⟨(some 39), (.mv (.t 1)), none, []⟩, ⟨(some 10), (.mv (.t 39)), none, [0, 0]⟩] false) (.block 0 (.loop (.seq (.seq (.reg [⟨(some 40), (.mv (.t 10)), none, []⟩, ⟨(some 41), (.mv (.t 2)), none, []⟩, ⟨(some 42), (.bin .leq (.t 40) (.t 41)), none, [0, 1]⟩] false) (.cond (.t 42) .skip (.exit 0))) (.seq (.block 1 (.reg [⟨(some 45), (.mv (.t 9)), none, []⟩, ⟨(some 46), (.mv (.t 8)), none, []⟩, ⟨(some 47), (.mv (.t 10)), none, []⟩, ⟨(some 48), (.ixsl 3 (.t 46) (.t 47)), none, [1, 2]⟩, ⟨(some 49), (.ld true 3 (.t 48)), none, [3]⟩, ⟨(some 50), (.mv (.t 8)), none, []⟩, ⟨(some 51), (.mv (.t 10)), none, []⟩, ⟨(some 52), (.ixsl 3 (.t 50) (.t 51)), none, [5, 6]⟩, ⟨(some 53), (.ld true 3 (.t 52)), none, [7]⟩, ⟨(some 54), (.build [(.int .i64 0), (.int .i64 0), (.int .i64 0), (.int .i64 0), (.int .i64 0), (.int .i64 0)] [(0, (3, (.t 49))), (3, (3, (.t 53)))]), none, [4, 8]⟩, ⟨(some 55), (.bslice 63 6 [(.int .i64 0), (.int .i64 0), (.int .i64 0), (.int .i64 0), (.int .i64 0), (.int .i64 0)] 1 [(0, (.t 54))]), none, [9]⟩, ⟨(some 56), (.app 63 6 48 [(.int .i64 0), (.int .i64 0), (.int .i64 0), (.int .i64 0), (.int .i64 0), (.int .i64 0)] (.t 45) (.t 55)), none, [0, 10]⟩, ⟨(some 9), (.mv (.t 56)), none, [11, 11, 0, 1, 2, 3, 4, 5, 6, 7, 8, 9, 10, 11]⟩] true)) (.reg [⟨(some 43), (.mv (.t 10)), none, []⟩, ⟨(some 44), (.bin .add (.t 43) (.c (.int .i64 1))), none, [0]⟩, ⟨(some 10), (.mv (.t 44)), none, [1, 0, 1]⟩] false)))))) (.seq (.reg [⟨(some 57), (.mv (.t 9)), none, []⟩, ⟨(some 6), (.mv (.t 57)), none, [0, 0]⟩, ⟨(some 7), (.mv (.c (.bool true))), none, [1, 0, 1]⟩] false) .ret)))))))
theorem mcOk22 : (match Try.f22.body with | some c => compC Try.prog 58 c | none => none) = some mc22 := by kernel_rfl

theorem fc22 (m : Mv) (i j : Int) : FC Try.prog 22 [aM m, iv i, iv j] [] (.tup [.rs 6 ((knS m i j).map cP), .bool (btwB m i j)]) [] false := by
  have hl := path_len m
  refine fc_run (nt := 58) Try.func22 rfl rfl mcOk22 (Nat.le_of_ble_eq_true rfl) ?_
  delta mc22
  refine aw_seq ?_
  refine aw_reg ?_
  refine rs_box rfl rfl rfl rfl rfl rfl ?_
  refine rs_mv rfl rfl ?_
  refine rs_mv rfl rfl ?_
  refine rs_nil fun _ => ?_
  refine th_n ?_
  refine aw_seq ?_
  refine aw_reg ?_
  first | refine rs_ld_pa rfl rfl rfl rfl (Nat.le_of_ble_eq_true rfl) rfl ?_ | refine rs_ld_ra rfl rfl (Nat.le_of_ble_eq_true rfl) rfl ?_ | refine rs_ld_ma rfl rfl rfl (by omega) (Nat.le_of_ble_eq_true rfl) rfl ?_
  refine rs_calln [] rfl rfl (fc44 m) (.cons (hv_same rfl) (.nil)) rfl ?_
  refine rs_mv rfl rfl ?_
  refine rs_nil fun _ => ?_
  refine th_n ?_
  refine aw_seq ?_
  refine aw_seq ?_
  refine aw_reg ?_
  refine rs_mv rfl rfl ?_
  refine rs_cmp rfl rfl rfl rfl (fun h14 => ?_) (fun h14 => ?_)
  · skip
    refine rs_mv rfl rfl ?_
    refine rs_skip rfl ?_
    refine rs_skip rfl ?_
    refine rs_skip rfl ?_
    refine rs_pick rfl rfl rfl ?_
    refine rs_mv rfl rfl ?_
    refine rs_skip rfl ?_
    refine rs_skip rfl ?_
    refine rs_skip rfl ?_
    refine rs_skip rfl ?_
    refine rs_pick rfl rfl rfl ?_
    refine rs_nil fun _ => ?_
    refine th_n ?_
    refine aw_cond rfl (fun _ => ?_) (fun h => by cases h)
    refine aw_seq ?_
    refine aw_reg ?_
    refine rs_mv rfl rfl ?_
    refine rs_mv rfl rfl ?_
    refine rs_nil fun _ => ?_
    refine th_n ?_
    refine aw_ret ?_
    refine th_r ?_
    first
      | (have hb : btwB m i j = false := decide_eq_false (by omega)
         have hs : knS m i j = [] := if_neg (by rw [hb]; decide)
         rw [hs, hb]
         exact ret_new rfl (rc_tup (.cons rc_nils (.cons (rc_same rfl (.inr rfl)) .nil))) .nil)
      | (have hb : btwB m i j = true := decide_eq_true (by omega)
         rw [hb, show knS m i j = [(elS m i, elS m j)] by unfold knS; rw [if_pos hb, if_neg h28]]
         exact ret_new rfl (rc_tup (.cons (rc_frz (f := cP) (xs := [(elS m i, elS m j)]) rfl rfl rfl (fun _ => rfl)) (.cons (rc_same rfl (.inr rfl)) .nil))) .nil)
      | (have hk2 : k = (btwS m i j).length := by omega
         subst hk2
         rw [hb, show knS m i j = ((btwS m i j).take (btwS m i j).length).map (fun v => (v, v)) by unfold knS; rw [if_pos hb, if_pos (by omega), List.take_length]]
         exact ret_new rfl (rc_tup (.cons (rc_frz rfl rfl (by simp) (fun _ => rfl)) (.cons (rc_same rfl (.inr rfl)) .nil))) .nil)
  · skip
    refine rs_mv rfl rfl ?_
    refine rs_mv rfl rfl ?_
    refine rs_mv rfl rfl ?_
    refine rs_cmp rfl rfl rfl rfl (fun h18 => ?_) (fun h18 => ?_)
    · skip
      refine rs_pick rfl rfl rfl ?_
      refine rs_mv rfl rfl ?_
      refine rs_skip rfl ?_
      refine rs_skip rfl ?_
      refine rs_skip rfl ?_
      refine rs_skip rfl ?_
      refine rs_pick rfl rfl rfl ?_
      refine rs_nil fun _ => ?_
      refine th_n ?_
      refine aw_cond rfl (fun _ => ?_) (fun h => by cases h)
      refine aw_seq ?_
      refine aw_reg ?_
      refine rs_mv rfl rfl ?_
      refine rs_mv rfl rfl ?_
      refine rs_nil fun _ => ?_
      refine th_n ?_
      refine aw_ret ?_
      refine th_r ?_
      first
        | (have hb : btwB m i j = false := decide_eq_false (by omega)
           have hs : knS m i j = [] := if_neg (by rw [hb]; decide)
           rw [hs, hb]
           exact ret_new rfl (rc_tup (.cons rc_nils (.cons (rc_same rfl (.inr rfl)) .nil))) .nil)
        | (have hb : btwB m i j = true := decide_eq_true (by omega)
           rw [hb, show knS m i j = [(elS m i, elS m j)] by unfold knS; rw [if_pos hb, if_neg h28]]
           exact ret_new rfl (rc_tup (.cons (rc_frz (f := cP) (xs := [(elS m i, elS m j)]) rfl rfl rfl (fun _ => rfl)) (.cons (rc_same rfl (.inr rfl)) .nil))) .nil)
        | (have hk2 : k = (btwS m i j).length := by omega
           subst hk2
           rw [hb, show knS m i j = ((btwS m i j).take (btwS m i j).length).map (fun v => (v, v)) by unfold knS; rw [if_pos hb, if_pos (by omega), List.take_length]]
           exact ret_new rfl (rc_tup (.cons (rc_frz rfl rfl (by simp) (fun _ => rfl)) (.cons (rc_same rfl (.inr rfl)) .nil))) .nil)
    · skip
      refine rs_pick rfl rfl rfl ?_
      refine rs_mv rfl rfl ?_
      refine rs_mv rfl rfl ?_
      refine rs_mv rfl rfl ?_
      first | refine rs_len_m rfl rfl ?_ | refine rs_len_s rfl rfl ?_ | refine rs_len_n rfl rfl ?_ | refine rs_len_r rfl rfl rfl ?_
      refine rs_cmp rfl rfl rfl rfl (fun h24 => ?_) (fun h24 => ?_)
      · skip
        refine rs_pick rfl rfl rfl ?_
        refine rs_nil fun _ => ?_
        refine th_n ?_
        refine aw_cond rfl (fun _ => ?_) (fun h => by cases h)
        refine aw_seq ?_
        refine aw_reg ?_
        refine rs_mv rfl rfl ?_
        refine rs_mv rfl rfl ?_
        refine rs_nil fun _ => ?_
        refine th_n ?_
        refine aw_ret ?_
        refine th_r ?_
        first
          | (have hb : btwB m i j = false := decide_eq_false (by omega)
             have hs : knS m i j = [] := if_neg (by rw [hb]; decide)
             rw [hs, hb]
             exact ret_new rfl (rc_tup (.cons rc_nils (.cons (rc_same rfl (.inr rfl)) .nil))) .nil)
          | (have hb : btwB m i j = true := decide_eq_true (by omega)
             rw [hb, show knS m i j = [(elS m i, elS m j)] by unfold knS; rw [if_pos hb, if_neg h28]]
             exact ret_new rfl (rc_tup (.cons (rc_frz (f := cP) (xs := [(elS m i, elS m j)]) rfl rfl rfl (fun _ => rfl)) (.cons (rc_same rfl (.inr rfl)) .nil))) .nil)
          | (have hk2 : k = (btwS m i j).length := by omega
             subst hk2
             rw [hb, show knS m i j = ((btwS m i j).take (btwS m i j).length).map (fun v => (v, v)) by unfold knS; rw [if_pos hb, if_pos (by omega), List.take_length]]
             exact ret_new rfl (rc_tup (.cons (rc_frz rfl rfl (by simp) (fun _ => rfl)) (.cons (rc_same rfl (.inr rfl)) .nil))) .nil)
      · skip
        refine rs_pick rfl rfl rfl ?_
        refine rs_nil fun _ => ?_
        refine th_n ?_
        refine aw_cond rfl (fun h => by cases h) (fun _ => ?_)
        refine aw_skip ?_
        refine th_n ?_
        refine aw_seq ?_
        refine aw_seq ?_
        refine aw_reg ?_
        first | refine rs_fa_p rfl rfl ?_ | refine rs_fa_r rfl rfl rfl ?_
        first | refine rs_ld_r rfl rfl rfl ?_ | refine rs_ld_p rfl rfl rfl rfl rfl ?_ | refine rs_ld_m rfl rfl rfl (by omega) rfl ?_
        refine rs_neq rfl rfl rfl ?_
        refine rs_nil fun _ => ?_
        refine th_n ?_
        refine aw_cond rfl (fun h28 => ?_) (fun h28 => ?_)
        · first | replace h28 := of_decide_eq_true h28 | skip
          refine aw_seq ?_
          refine aw_draw hmix ?_
          refine rs_mv rfl rfl ?_
          refine rs_mv rfl rfl ?_
          refine rs_ix_g rfl rfl rfl (by omega) (el_at (by omega) (by omega)) ?_
          refine rs_ld_ra rfl rfl (Nat.le_of_ble_eq_true rfl) rfl ?_
          refine rs_mv rfl rfl ?_
          refine rs_mv rfl rfl ?_
          refine rs_ix_g rfl rfl rfl (by omega) (el_at (by omega) (by omega)) ?_
          refine rs_ld_ra rfl rfl (Nat.le_of_ble_eq_true rfl) rfl ?_
          refine rs_build rfl rfl ?_
          refine rs_bslice rfl rfl rfl rfl rfl rfl ?_
          refine rs_mv rfl rfl ?_
          refine rs_mv rfl rfl ?_
          refine rs_nil ⟨by kernel_rfl, fun _ => ?_⟩
          refine th_n ?_
          refine aw_ret ?_
          refine th_r ?_
          first
            | (have hb : btwB m i j = false := decide_eq_false (by omega)
               have hs : knS m i j = [] := if_neg (by rw [hb]; decide)
               rw [hs, hb]
               exact ret_new rfl (rc_tup (.cons rc_nils (.cons (rc_same rfl (.inr rfl)) .nil))) .nil)
            | (have hb : btwB m i j = true := decide_eq_true (by omega)
               rw [hb, show knS m i j = [(elS m i, elS m j)] by unfold knS; rw [if_pos hb, if_neg h28]]
               exact ret_new rfl (rc_tup (.cons (rc_frz (f := cP) (xs := [(elS m i, elS m j)]) rfl rfl rfl (fun _ => rfl)) (.cons (rc_same rfl (.inr rfl)) .nil))) .nil)
            | (have hk2 : k = (btwS m i j).length := by omega
               subst hk2
               rw [hb, show knS m i j = ((btwS m i j).take (btwS m i j).length).map (fun v => (v, v)) by unfold knS; rw [if_pos hb, if_pos (by omega), List.take_length]]
               exact ret_new rfl (rc_tup (.cons (rc_frz rfl rfl (by simp) (fun _ => rfl)) (.cons (rc_same rfl (.inr rfl)) .nil))) .nil)
        · first | replace h28 := of_decide_eq_false h28 | skip
          have hb : btwB m i j = true := decide_eq_true (by omega)
          have hbl := btw_len hb
          refine aw_skip ?_
          refine th_n ?_
          refine aw_seq ?_
          refine aw_reg ?_
          refine rs_mv rfl rfl ?_
          refine rs_nil fun _ => ?_
          refine th_n ?_
          refine aw_seq ?_
          refine aw_seq ?_
          refine aw_reg ?_
          refine rs_mv rfl rfl ?_
          refine rs_mv rfl rfl ?_
          refine rs_nil fun _ => ?_
          refine th_n ?_
          refine aw_block ?_
          refine aw_fam (α := Nat) (fun k => (btwS m i j).length - k) (fun k => [(2, iv j), (8, .rs 3 ((pathS m).map cV)), (10, iv (i + ((k : Nat) : Int))), (9, .sl 1009 0 (k))]) (fun k => [(1009, .cells 63 6 ((((btwS m i j).take (k)).map fun v => (v, v)).map cP) true)]) (fun k => k ≤ (btwS m i j).length) 0 (by omega)
            (weak_to (.cons rfl (rc_same rfl (.inl rfl)) (.cons rfl (rc_same rfl (.inl rfl)) (.cons rfl (rc_int (by omega)) (.cons rfl (rc_virt rfl rfl) (.nil))))) (.virt rfl (.nil)) (fun i h => by cases h)) ?_
          intro k hk
          refine aw_seq ?_
          refine aw_seq ?_
          refine aw_reg ?_
          refine rs_mv rfl rfl ?_
          refine rs_mv rfl rfl ?_
          refine rs_leq rfl rfl rfl ?_
          refine rs_nil fun _ => ?_
          refine th_n ?_
          refine aw_cond rfl (fun h42 => ?_) (fun h42 => ?_)
          · first | replace h42 := of_decide_eq_true h42 | skip
            refine aw_skip ?_
            refine th_n ?_
            refine aw_seq ?_
            refine aw_block ?_
            refine aw_draw hmix ?_
            refine rs_mv rfl rfl ?_
            refine rs_mv rfl rfl ?_
            refine rs_mv rfl rfl ?_
            refine rs_ix_g rfl rfl rfl (by omega) (el_at (by omega) (by omega)) ?_
            refine rs_ld_ra rfl rfl (Nat.le_of_ble_eq_true rfl) rfl ?_
            refine rs_mv rfl rfl ?_
            refine rs_mv rfl rfl ?_
            refine rs_ix_g rfl rfl rfl (by omega) (el_at (by omega) (by omega)) ?_
            refine rs_ld_ra rfl rfl (Nat.le_of_ble_eq_true rfl) rfl ?_
            refine rs_build rfl rfl ?_
            refine rs_bslice rfl rfl rfl rfl rfl rfl ?_
            refine rs_app_m (f := cP) (xs := (((btwS m i j).take (k)).map fun v => (v, v))) (y := (elS m (i + (k : Int)), elS m (i + (k : Int)))) rfl rfl rfl rfl (by simp; omega) rfl rfl rfl (by decide) rfl (by omega) (by omega) rfl ?_
            refine rs_mv rfl rfl ?_
            refine rs_nil ⟨by kernel_rfl, fun _ => ?_⟩
            refine in_n ?_
            refine th_n ?_
            refine aw_reg ?_
            refine rs_mv rfl rfl ?_
            first | refine rs_add rfl rfl rfl (by omega) ?_ | refine rs_addw rfl rfl rfl rfl ?_
            refine rs_mv rfl rfl ?_
            refine rs_nil fun _ => ?_
            refine th_n ?_
            have e : (((btwS m i j).take (k + 1)).map fun v => (v, v)) = (((btwS m i j).take (k)).map fun v => (v, v)) ++ [(elS m (i + (k : Int)), elS m (i + (k : Int)))] := by rw [take_succ_at (btw_at (k := k) hb (by omega)), List.map_append]; rfl
            exact ⟨k + 1, by omega, by omega, weak_to_ren (i := 56) (i' := 1009) (F1 := [(2, iv j), (8, .rs 3 ((pathS m).map cV)), (10, iv (i + ((k + 1 : Nat) : Int))), (9, .sl 56 0 (k + 1))]) (H1 := [(56, .cells 63 6 ((((btwS m i j).take (k + 1)).map fun v => (v, v)).map cP) true)]) (.cons rfl (rc_same rfl (.inl rfl)) (.cons rfl (rc_same rfl (.inl rfl)) (.cons rfl (rc_int (by omega)) (.cons rfl (rc_same rfl (.inl rfl)) (.nil))))) (.keep ((by (rw [e]) <;> rfl)) rfl (.nil)) (fun i h => by cases h) rfl rfl (.cons rfl (.same _) (.cons rfl (.same _) (.cons rfl (.same _) (.cons rfl (.sl _ _) (.nil))))) (.cons rfl (rc_same rfl (.inl rfl)) (.cons rfl (rc_same rfl (.inl rfl)) (.cons rfl (rc_same rfl (.inl rfl)) (.cons rfl (rc_same rfl (.inl rfl)) (.nil))))) (.keep (rfl) rfl (.nil)) (fun i h => by cases h)⟩
          · first | replace h42 := of_decide_eq_false h42 | skip
            refine aw_exit ?_
            refine th_e ?_
            refine th_e ?_
            refine in_hit ?_
            refine th_n ?_
            refine aw_seq ?_
            refine aw_reg ?_
            refine rs_mv rfl rfl ?_
            refine rs_mv rfl rfl ?_
            refine rs_mv rfl rfl ?_
            refine rs_nil fun _ => ?_
            refine th_n ?_
            refine aw_ret ?_
            first
              | (have hb : btwB m i j = false := decide_eq_false (by omega)
                 have hs : knS m i j = [] := if_neg (by rw [hb]; decide)
                 rw [hs, hb]
                 exact ret_new rfl (rc_tup (.cons rc_nils (.cons (rc_same rfl (.inr rfl)) .nil))) .nil)
              | (have hb : btwB m i j = true := decide_eq_true (by omega)
                 rw [hb, show knS m i j = [(elS m i, elS m j)] by unfold knS; rw [if_pos hb, if_neg h28]]
                 exact ret_new rfl (rc_tup (.cons (rc_frz (f := cP) (xs := [(elS m i, elS m j)]) rfl rfl rfl (fun _ => rfl)) (.cons (rc_same rfl (.inr rfl)) .nil))) .nil)
              | (have hk2 : k = (btwS m i j).length := by omega
                 subst hk2
                 rw [hb, show knS m i j = ((btwS m i j).take (btwS m i j).length).map (fun v => (v, v)) by unfold knS; rw [if_pos hb, if_pos (by omega), List.take_length]]
                 exact ret_new rfl (rc_tup (.cons (rc_frz rfl rfl (by simp) (fun _ => rfl)) (.cons (rc_same rfl (.inr rfl)) .nil))) .nil)

def mc23 : MC := (.seq (.reg [⟨(some 4), (.mv (.c (.bool false))), none, []⟩] false) (.seq (.seq (.reg [⟨(some 6), (.mv (.t 0)), none, []⟩, ⟨(some 7), (.len (.t 6)), none, [0]⟩, ⟨(some 8), (.mv (.t 1)), none, []⟩, ⟨(some 9), (.len (.t 8)), none, [2]⟩, ⟨(some 10), (.bin .neq (.t 7) (.t 9)), none, [1, 3]⟩] false) (.cond (.t 10) (.seq (.reg [⟨(some 4), (.mv (.c (.bool false))), none, []⟩] false) .ret) .skip)) (.seq (.seq (.reg [⟨(some 5), (.mv (.c (.int .i64 0))), none, []⟩] false) (.block 0 (.loop (.seq (.seq (.reg [⟨(some 11), (.mv (.t 5)), none, []⟩, ⟨(some 12), (.mv (.t 0)), none, []⟩, ⟨(some 13), (.len (.t 12)), none, [1]⟩, ⟨(some 14), (.bin .lss (.t 11) (.t 13)), none, [0, 2]⟩] false) (.cond (.t 14) .skip (.exit 0))) (.seq (.block 1 (.seq (.reg [⟨(some 17), (.mv (.t 0)), none, []⟩, ⟨(some 18), (.mv (.t 5)), none, []⟩, ⟨(some 19), (.ixsl 3 (.t 17) (.t 18)), none, [0, 1]⟩, ⟨(some 20), (.ld true 3 (.t 19)), none, [2]⟩, ⟨(some 21), (.mv (.t 1)), none, []⟩, ⟨(some 22), (.mv (.t 5)), none, []⟩, ⟨(some 23), (.ixsl 3 (.t 21) (.t 22)), none, [4, 5]⟩, ⟨(some 24), (.ld true 3 (.t 23)), none, [6]⟩, ⟨(some 25), (.aeq true 3 (.t 20) (.t 24)), none, [3, 7]⟩] true) (.cond (.t 25) (.seq (.reg [⟨(some 4), (.mv (.c (.bool false))), none, []⟩] false) .ret) .skip))) (.reg [⟨(some 15), (.mv (.t 5)), none, []⟩, ⟨(some 16), (.bin .add (.t 15) (.c (.int .i64 1))), none, [0]⟩, ⟨(some 5), (.mv (.t 16)), none, [1, 0, 1]⟩] false)))))) (.seq (.reg [⟨(some 4), (.mv (.c (.bool true))), none, []⟩] false) .ret))))
theorem mcOk23 : (match Try.f23.body with | some c => compC Try.prog 26 c | none => none) = some mc23 := by kernel_rfl

theorem fc23 (xs ys : List (V3)) (hx : xs.length ≤ 4611686018427387904) : FC Try.prog 23 [.rs 3 (xs.map cV), .rs 3 (ys.map cV)] [] (.bool (decide (xs = ys))) [] false := by
  refine fc_run (nt := 26) Try.func23 rfl rfl mcOk23 (Nat.le_of_ble_eq_true rfl) ?_
  delta mc23
  refine aw_seq ?_
  refine aw_reg ?_
  refine rs_mv rfl rfl ?_
  refine rs_nil fun _ => ?_
  refine th_n ?_
  refine aw_seq ?_
  refine aw_seq ?_
  refine aw_reg ?_
  refine rs_mv rfl rfl ?_
  first | refine rs_len_m rfl rfl ?_ | refine rs_len_s rfl rfl ?_ | refine rs_len_n rfl rfl ?_ | refine rs_len_r rfl rfl rfl ?_
  refine rs_mv rfl rfl ?_
  first | refine rs_len_m rfl rfl ?_ | refine rs_len_s rfl rfl ?_ | refine rs_len_n rfl rfl ?_ | refine rs_len_r rfl rfl rfl ?_
  refine rs_neq rfl rfl rfl ?_
  refine rs_nil fun _ => ?_
  refine th_n ?_
  refine aw_cond rfl (fun h10 => ?_) (fun h10 => ?_)
  · first | replace h10 := of_decide_eq_true h10 | skip
    refine aw_seq ?_
    refine aw_reg ?_
    refine rs_mv rfl rfl ?_
    refine rs_nil fun _ => ?_
    refine th_n ?_
    refine aw_ret ?_
    refine th_r ?_
    first
      | exact ret_pure rfl (congrArg AV.bool (Eq.symm (decide_eq_false (fun e => by subst e; omega)))) rfl (.inr rfl)
      | exact ret_pure rfl (congrArg AV.bool (Eq.symm (decide_eq_false (fun e => by subst e; rw [hxk] at hyk; injection hyk with hyk; exact hne hyk)))) rfl (.inr rfl)
      | exact ret_pure rfl (congrArg AV.bool (Eq.symm (decide_eq_true (List.ext_getElem? fun j => by
          by_cases e : j < k
          · exact hj j e
          · rw [List.getElem?_eq_none (by omega), List.getElem?_eq_none (by omega)])))) rfl (.inr rfl)
  · first | replace h10 := of_decide_eq_false h10 | skip
    refine aw_skip ?_
    refine th_n ?_
    refine aw_seq ?_
    refine aw_seq ?_
    refine aw_reg ?_
    refine rs_mv rfl rfl ?_
    refine rs_nil fun _ => ?_
    refine th_n ?_
    refine aw_block ?_
    refine aw_fam (α := Nat) (fun k => xs.length - k) (fun k => [(0, .rs 3 (xs.map cV)), (1, .rs 3 (ys.map cV)), (5, iv (((k) : Nat) : Int))]) (fun k => []) (fun k => k ≤ xs.length ∧ ∀ j, j < k → xs[j]? = ys[j]?) 0 (⟨by omega, fun j h => by omega⟩)
      (weak_to (.cons rfl (rc_same rfl (.inl rfl)) (.cons rfl (rc_same rfl (.inl rfl)) (.cons rfl (rc_same rfl (.inl rfl)) (.nil)))) (.nil) (fun i h => by cases h)) ?_
    rintro k ⟨hk, hj⟩
    have hlen : xs.length = ys.length := by omega
    refine aw_seq ?_
    refine aw_seq ?_
    refine aw_reg ?_
    refine rs_mv rfl rfl ?_
    refine rs_mv rfl rfl ?_
    first | refine rs_len_m rfl rfl ?_ | refine rs_len_s rfl rfl ?_ | refine rs_len_n rfl rfl ?_ | refine rs_len_r rfl rfl rfl ?_
    refine rs_lss rfl rfl rfl ?_
    refine rs_nil fun _ => ?_
    refine th_n ?_
    refine aw_cond rfl (fun h14 => ?_) (fun h14 => ?_)
    · first | replace h14 := of_decide_eq_true h14 | skip
      refine aw_skip ?_
      refine th_n ?_
      refine aw_seq ?_
      refine aw_block ?_
      refine aw_seq ?_
      refine aw_draw hmix ?_
      refine rs_mv rfl rfl ?_
      refine rs_mv rfl rfl ?_
      obtain ⟨x, hxk, _⟩ := at_some (L := xs) (k := k) (by omega)
      obtain ⟨y, hyk, _⟩ := at_some (L := ys) (k := k) (by omega)
      refine rs_ix_g rfl rfl rfl (by omega) hxk ?_
      refine rs_ld_ra rfl rfl (Nat.le_of_ble_eq_true rfl) rfl ?_
      refine rs_mv rfl rfl ?_
      refine rs_mv rfl rfl ?_
      refine rs_ix_g rfl rfl rfl (by omega) hyk ?_
      refine rs_ld_ra rfl rfl (Nat.le_of_ble_eq_true rfl) rfl ?_
      refine rs_aeqv rfl rfl rfl ?_
      refine rs_nil ⟨by kernel_rfl, fun _ => ?_⟩
      refine th_n ?_
      refine aw_cond rfl (fun h25 => ?_) (fun h25 => ?_)
      · first | replace h25 := of_decide_eq_true h25 | skip
        have hne : x ≠ y := by simpa using h25
        refine aw_seq ?_
        refine aw_reg ?_
        refine rs_mv rfl rfl ?_
        refine rs_nil fun _ => ?_
        refine th_n ?_
        refine aw_ret ?_
        refine in_r ?_
        refine th_r ?_
        refine th_r ?_
        refine in_r ?_
        refine th_r ?_
        first
          | exact ret_pure rfl (congrArg AV.bool (Eq.symm (decide_eq_false (fun e => by subst e; omega)))) rfl (.inr rfl)
          | exact ret_pure rfl (congrArg AV.bool (Eq.symm (decide_eq_false (fun e => by subst e; rw [hxk] at hyk; injection hyk with hyk; exact hne hyk)))) rfl (.inr rfl)
          | exact ret_pure rfl (congrArg AV.bool (Eq.symm (decide_eq_true (List.ext_getElem? fun j => by
              by_cases e : j < k
              · exact hj j e
              · rw [List.getElem?_eq_none (by omega), List.getElem?_eq_none (by omega)])))) rfl (.inr rfl)
      · first | replace h25 := of_decide_eq_false h25 | skip
        have he : x = y := by simpa using h25
        refine aw_skip ?_
        refine in_n ?_
        refine th_n ?_
        refine aw_reg ?_
        refine rs_mv rfl rfl ?_
        first | refine rs_add rfl rfl rfl (by omega) ?_ | refine rs_addw rfl rfl rfl rfl ?_
        refine rs_mv rfl rfl ?_
        refine rs_nil fun _ => ?_
        refine th_n ?_
        exact ⟨k + 1, ⟨by omega, fun j hj1 => by
          by_cases e : j = k
          · subst e; rw [hxk, hyk, he]
          · exact hj j (by omega)⟩, by omega, weak_to (.cons rfl (rc_same rfl (.inl rfl)) (.cons rfl (rc_same rfl (.inl rfl)) (.cons rfl (rc_same rfl (.inl rfl)) (.nil)))) (.nil) (fun i h => by cases h)⟩
    · first | replace h14 := of_decide_eq_false h14 | skip
      refine aw_exit ?_
      refine th_e ?_
      refine th_e ?_
      refine in_hit ?_
      refine th_n ?_
      refine aw_seq ?_
      refine aw_reg ?_
      refine rs_mv rfl rfl ?_
      refine rs_nil fun _ => ?_
      refine th_n ?_
      refine aw_ret ?_
      first
        | exact ret_pure rfl (congrArg AV.bool (Eq.symm (decide_eq_false (fun e => by subst e; omega)))) rfl (.inr rfl)
        | exact ret_pure rfl (congrArg AV.bool (Eq.symm (decide_eq_false (fun e => by subst e; rw [hxk] at hyk; injection hyk with hyk; exact hne hyk)))) rfl (.inr rfl)
        | exact ret_pure rfl (congrArg AV.bool (Eq.symm (decide_eq_true (List.ext_getElem? fun j => by
            by_cases e : j < k
            · exact hj j e
            · rw [List.getElem?_eq_none (by omega), List.getElem?_eq_none (by omega)])))) rfl (.inr rfl)

def mc24 : MC := (.seq (.reg [⟨(some 4), (.mv (.c (.bool false))), none, []⟩] false) (.seq (.seq (.reg [⟨(some 6), (.mv (.t 0)), none, []⟩, ⟨(some 7), (.len (.t 6)), none, [0]⟩, ⟨(some 8), (.mv (.t 1)), none, []⟩, ⟨(some 9), (.len (.t 8)), none, [2]⟩, ⟨(some 10), (.bin .neq (.t 7) (.t 9)), none, [1, 3]⟩] false) (.cond (.t 10) (.seq (.reg [⟨(some 4), (.mv (.c (.bool false))), none, []⟩] false) .ret) .skip)) (.seq (.seq (.reg [⟨(some 5), (.mv (.c (.int .i64 0))), none, []⟩] false) (.block 0 (.loop (.seq (.seq (.reg [⟨(some 11), (.mv (.t 5)), none, []⟩, ⟨(some 12), (.mv (.t 0)), none, []⟩, ⟨(some 13), (.len (.t 12)), none, [1]⟩, ⟨(some 14), (.bin .lss (.t 11) (.t 13)), none, [0, 2]⟩] false) (.cond (.t 14) .skip (.exit 0))) (.seq (.block 1 (.seq (.reg [⟨(some 17), (.mv (.t 0)), none, []⟩, ⟨(some 18), (.mv (.t 5)), none, []⟩, ⟨(some 19), (.ixsl 6 (.t 17) (.t 18)), none, [0, 1]⟩, ⟨(some 20), (.ld true 6 (.t 19)), none, [2]⟩, ⟨(some 21), (.mv (.t 1)), none, []⟩, ⟨(some 22), (.mv (.t 5)), none, []⟩, ⟨(some 23), (.ixsl 6 (.t 21) (.t 22)), none, [4, 5]⟩, ⟨(some 24), (.ld true 6 (.t 23)), none, [6]⟩, ⟨(some 25), (.aeq true 6 (.t 20) (.t 24)), none, [3, 7]⟩] true) (.cond (.t 25) (.seq (.reg [⟨(some 4), (.mv (.c (.bool false))), none, []⟩] false) .ret) .skip))) (.reg [⟨(some 15), (.mv (.t 5)), none, []⟩, ⟨(some 16), (.bin .add (.t 15) (.c (.int .i64 1))), none, [0]⟩, ⟨(some 5), (.mv (.t 16)), none, [1, 0, 1]⟩] false)))))) (.seq (.reg [⟨(some 4), (.mv (.c (.bool true))), none, []⟩] false) .ret))))
theorem mcOk24 : (match Try.f24.body with | some c => compC Try.prog 26 c | none => none) = some mc24 := by kernel_rfl

theorem fc24 (xs ys : List (V3 × V3)) (hx : xs.length ≤ 4611686018427387904) : FC Try.prog 24 [.rs 6 (xs.map cP), .rs 6 (ys.map cP)] [] (.bool (decide (xs = ys))) [] false := by
  refine fc_run (nt := 26) Try.func24 rfl rfl mcOk24 (Nat.le_of_ble_eq_true rfl) ?_
  delta mc24
  refine aw_seq ?_
  refine aw_reg ?_
  refine rs_mv rfl rfl ?_
  refine rs_nil fun _ => ?_
  refine th_n ?_
  refine aw_seq ?_
  refine aw_seq ?_
  refine aw_reg ?_
  refine rs_mv rfl rfl ?_
  first | refine rs_len_m rfl rfl ?_ | refine rs_len_s rfl rfl ?_ | refine rs_len_n rfl rfl ?_ | refine rs_len_r rfl rfl rfl ?_
  refine rs_mv rfl rfl ?_
  first | refine rs_len_m rfl rfl ?_ | refine rs_len_s rfl rfl ?_ | refine rs_len_n rfl rfl ?_ | refine rs_len_r rfl rfl rfl ?_
  refine rs_neq rfl rfl rfl ?_
  refine rs_nil fun _ => ?_
  refine th_n ?_
  refine aw_cond rfl (fun h10 => ?_) (fun h10 => ?_)
  · first | replace h10 := of_decide_eq_true h10 | skip
    refine aw_seq ?_
    refine aw_reg ?_
    refine rs_mv rfl rfl ?_
    refine rs_nil fun _ => ?_
    refine th_n ?_
    refine aw_ret ?_
    refine th_r ?_
    first
      | exact ret_pure rfl (congrArg AV.bool (Eq.symm (decide_eq_false (fun e => by subst e; omega)))) rfl (.inr rfl)
      | exact ret_pure rfl (congrArg AV.bool (Eq.symm (decide_eq_false (fun e => by subst e; rw [hxk] at hyk; injection hyk with hyk; exact hne hyk)))) rfl (.inr rfl)
      | exact ret_pure rfl (congrArg AV.bool (Eq.symm (decide_eq_true (List.ext_getElem? fun j => by
          by_cases e : j < k
          · exact hj j e
          · rw [List.getElem?_eq_none (by omega), List.getElem?_eq_none (by omega)])))) rfl (.inr rfl)
  · first | replace h10 := of_decide_eq_false h10 | skip
    refine aw_skip ?_
    refine th_n ?_
    refine aw_seq ?_
    refine aw_seq ?_
    refine aw_reg ?_
    refine rs_mv rfl rfl ?_
    refine rs_nil fun _ => ?_
    refine th_n ?_
    refine aw_block ?_
    refine aw_fam (α := Nat) (fun k => xs.length - k) (fun k => [(0, .rs 6 (xs.map cP)), (1, .rs 6 (ys.map cP)), (5, iv (((k) : Nat) : Int))]) (fun k => []) (fun k => k ≤ xs.length ∧ ∀ j, j < k → xs[j]? = ys[j]?) 0 (⟨by omega, fun j h => by omega⟩)
      (weak_to (.cons rfl (rc_same rfl (.inl rfl)) (.cons rfl (rc_same rfl (.inl rfl)) (.cons rfl (rc_same rfl (.inl rfl)) (.nil)))) (.nil) (fun i h => by cases h)) ?_
    rintro k ⟨hk, hj⟩
    have hlen : xs.length = ys.length := by omega
    refine aw_seq ?_
    refine aw_seq ?_
    refine aw_reg ?_
    refine rs_mv rfl rfl ?_
    refine rs_mv rfl rfl ?_
    first | refine rs_len_m rfl rfl ?_ | refine rs_len_s rfl rfl ?_ | refine rs_len_n rfl rfl ?_ | refine rs_len_r rfl rfl rfl ?_
    refine rs_lss rfl rfl rfl ?_
    refine rs_nil fun _ => ?_
    refine th_n ?_
    refine aw_cond rfl (fun h14 => ?_) (fun h14 => ?_)
    · first | replace h14 := of_decide_eq_true h14 | skip
      refine aw_skip ?_
      refine th_n ?_
      refine aw_seq ?_
      refine aw_block ?_
      refine aw_seq ?_
      refine aw_draw hmix ?_
      refine rs_mv rfl rfl ?_
      refine rs_mv rfl rfl ?_
      obtain ⟨x, hxk, _⟩ := at_some (L := xs) (k := k) (by omega)
      obtain ⟨y, hyk, _⟩ := at_some (L := ys) (k := k) (by omega)
      refine rs_ix_g rfl rfl rfl (by omega) hxk ?_
      refine rs_ld_ra rfl rfl (Nat.le_of_ble_eq_true rfl) rfl ?_
      refine rs_mv rfl rfl ?_
      refine rs_mv rfl rfl ?_
      refine rs_ix_g rfl rfl rfl (by omega) hyk ?_
      refine rs_ld_ra rfl rfl (Nat.le_of_ble_eq_true rfl) rfl ?_
      refine rs_aeqp rfl rfl rfl ?_
      refine rs_nil ⟨by kernel_rfl, fun _ => ?_⟩
      refine th_n ?_
      refine aw_cond rfl (fun h25 => ?_) (fun h25 => ?_)
      · first | replace h25 := of_decide_eq_true h25 | skip
        have hne : x ≠ y := by simpa using h25
        refine aw_seq ?_
        refine aw_reg ?_
        refine rs_mv rfl rfl ?_
        refine rs_nil fun _ => ?_
        refine th_n ?_
        refine aw_ret ?_
        refine in_r ?_
        refine th_r ?_
        refine th_r ?_
        refine in_r ?_
        refine th_r ?_
        first
          | exact ret_pure rfl (congrArg AV.bool (Eq.symm (decide_eq_false (fun e => by subst e; omega)))) rfl (.inr rfl)
          | exact ret_pure rfl (congrArg AV.bool (Eq.symm (decide_eq_false (fun e => by subst e; rw [hxk] at hyk; injection hyk with hyk; exact hne hyk)))) rfl (.inr rfl)
          | exact ret_pure rfl (congrArg AV.bool (Eq.symm (decide_eq_true (List.ext_getElem? fun j => by
              by_cases e : j < k
              · exact hj j e
              · rw [List.getElem?_eq_none (by omega), List.getElem?_eq_none (by omega)])))) rfl (.inr rfl)
      · first | replace h25 := of_decide_eq_false h25 | skip
        have he : x = y := by simpa using h25
        refine aw_skip ?_
        refine in_n ?_
        refine th_n ?_
        refine aw_reg ?_
        refine rs_mv rfl rfl ?_
        first | refine rs_add rfl rfl rfl (by omega) ?_ | refine rs_addw rfl rfl rfl rfl ?_
        refine rs_mv rfl rfl ?_
        refine rs_nil fun _ => ?_
        refine th_n ?_
        exact ⟨k + 1, ⟨by omega, fun j hj1 => by
          by_cases e : j = k
          · subst e; rw [hxk, hyk, he]
          · exact hj j (by omega)⟩, by omega, weak_to (.cons rfl (rc_same rfl (.inl rfl)) (.cons rfl (rc_same rfl (.inl rfl)) (.cons rfl (rc_same rfl (.inl rfl)) (.nil)))) (.nil) (fun i h => by cases h)⟩
    · first | replace h14 := of_decide_eq_false h14 | skip
      refine aw_exit ?_
      refine th_e ?_
      refine th_e ?_
      refine in_hit ?_
      refine th_n ?_
      refine aw_seq ?_
      refine aw_reg ?_
      refine rs_mv rfl rfl ?_
      refine rs_nil fun _ => ?_
      refine th_n ?_
      refine aw_ret ?_
      first
        | exact ret_pure rfl (congrArg AV.bool (Eq.symm (decide_eq_false (fun e => by subst e; omega)))) rfl (.inr rfl)
        | exact ret_pure rfl (congrArg AV.bool (Eq.symm (decide_eq_false (fun e => by subst e; rw [hxk] at hyk; injection hyk with hyk; exact hne hyk)))) rfl (.inr rfl)
        | exact ret_pure rfl (congrArg AV.bool (Eq.symm (decide_eq_true (List.ext_getElem? fun j => by
            by_cases e : j < k
            · exact hj j e
            · rw [List.getElem?_eq_none (by omega), List.getElem?_eq_none (by omega)])))) rfl (.inr rfl)

end Go.Proofs.Yteommcdafifckaa
