/-
  Parts of the proof: M1 P0 M2.
-/
import Derived.Test.YteommcdafifckaaK2
set_option linter.unusedVariables false

/-! Walks: M1. -/
namespace Go.Proofs.Yteommcdafifckaa
open Go.RowKit

section
variable {a b : V3}
theorem fc27s (ha : Bd 1000000 a) (hb : Bd 1000000 b) : FC Try.prog 27 [aV a, aV b] [] (aV (sub a b)) [] false := by rw [← subW_eq ha hb]; exact fc27 a b
theorem fc50s (ha : Bd 1000000 a) (hb : Bd 1000000 b) : FC Try.prog 50 [aV a, aV b] [] (aV (sub a b)) [] false := by rw [← subW_eq ha hb]; exact fc50 a b
theorem fc28s (ha : Bd 1000000 a) (hb : Bd 1000000 b) : FC Try.prog 28 [aV a, aV b] [] (aV (add a b)) [] false := by rw [← addW_eq ha hb]; exact fc28 a b
theorem fc57s (ha : Bd 1000000 a) (hb : Bd 1000000 b) : FC Try.prog 57 [aV a, aV b] [] (aV (add a b)) [] false := by rw [← addW_eq ha hb]; exact fc57 a b
theorem fc30s (ha : Bd 1000000 a) (hb : Bd 1000000 b) : FC Try.prog 30 [aV a, aV b] [] (iv (dot a b)) [] false := by rw [← dotW_eq ha hb]; exact fc30 a b
theorem fc52s (ha : Bd 1000000 a) (hb : Bd 1000000 b) : FC Try.prog 52 [aV a, aV b] [] (iv (dot a b)) [] false := by rw [← dotW_eq ha hb]; exact fc52 a b
theorem fc31s (ha : Bd 1000000 a) (hb : Bd 1000000 b) : FC Try.prog 31 [aV a, aV b] [] (aV (cross a b)) [] false := by rw [← crossW_eq ha hb]; exact fc31 a b
theorem fc37s {n : Int} (ha : Bd 1000000 a) (hb : Bd 1000000 b) (hn : -1000000 ≤ n ∧ n ≤ 1000000) : FC Try.prog 37 [aV a, aV b, iv n] [] (aV (plus a b n)) [] false := by rw [← plusW_eq ha hb hn]; exact fc37 a b n
theorem fc78s {n : Int} (ha : Bd 1000000 a) (hb : Bd 1000000 b) (hn : -1000000 ≤ n ∧ n ≤ 1000000) : FC Try.prog 78 [aV a, aV b, iv n] [] (aV (plus a b n)) [] false := by rw [← plusW_eq ha hb hn]; exact fc78 a b n
theorem fc84s (ha : Bd 1000000 a) : FC Try.prog 84 [aV a] [] (.bool (decide (dot a a = 1))) [] false := by rw [← dotW_eq ha ha]; exact fc84 a
end
structure InM (m : Mv) : Prop where
  fr : Bd 24 m.fr
  to : Bd 24 m.to
  co : Bd 24 m.co
theorem inM_of {m : Mv} (h1 : (!inS m.fr) = false) (h2 : (!inS m.to) = false) (h3 : (!inS m.co) = false) : InM m := ⟨in_bd (by simpa using h1), in_bd (by simpa using h2), in_bd (by simpa using h3)⟩
def sA (m : Mv) : V3 := sub m.co m.to
def sB (m : Mv) : V3 := sub m.co m.fr
theorem InM.a {m : Mv} (h : InM m) : Bd 1000 (sA m) := (h.co.sub h.to).mono (by omega)
theorem InM.b {m : Mv} (h : InM m) : Bd 1000 (sB m) := (h.co.sub h.fr).mono (by omega)
theorem prim_bd {n : Int} {v : V3} (h : Bd n v) : Bd n (primV v) := by
  have := h.x; have := h.y; have := h.z
  have h1 := tdiv_le v.x (gS v); have h2 := tdiv_le v.y (gS v); have h3 := tdiv_le v.z (gS v)
  unfold primV
  split
  · exact ⟨by dsimp only; omega, by dsimp only; omega, by dsimp only; omega⟩
  · exact ⟨by dsimp only; omega, by dsimp only; omega, by dsimp only; omega⟩
theorem Bd.big {n : Int} {v : V3} (h : Bd n v) (hn : n ≤ 1000000 := by decide) : Bd 1000000 v := h.mono hn
def fitsA (m : Mv) : Bool := decide (dot (primV (sA m)) (primV (sA m)) = 1) && (decide (dot (primV (sB m)) (primV (sB m)) = 1) && (decide ((gS (sA m) : Int) = gS (sB m)) && decide (dot (primV (sA m)) (primV (sB m)) = 0)))
def fitsL (m : Mv) : Bool := (true != decide (m.fr = m.to)) && (false != decide (m.co = ⟨0, 0, 0⟩))
def rangeB (lo hi : Int) (m : Mv) : Bool := !inS m.fr || (!inS m.to || (!inS m.co || (decide (m.feed < lo) || decide (hi < m.feed))))
def checkS (m : Mv) : Int := if m.kind = 1 then (if rangeB 0 0 m = true then 3 else if fitsL m = true then 0 else 16) else if m.kind = 2 then (if rangeB 1 100 m = true then 3 else if fitsL m = true then 0 else 16)
  else if m.kind = 3 then (if rangeB 1 100 m = true then 3 else if fitsA m = true then 0 else 16) else 16
def quarterS (m : Mv) : Bool := decide (lenS (sub m.fr m.co) ≥ 1) && (decide (lenS (sub m.fr m.co) = lenS (sub m.to m.co)) && decide (dot (sub m.fr m.co) (sub m.to m.co) = 0))
def feedR (m : Mv) : Bool := (decide (m.kind = 1) && decide (m.feed ≠ 0)) || (decide (m.kind ≠ 1) && (decide (m.feed < 1) || decide (100 < m.feed)))
def lastR (m : Mv) : Bool := (false != decide (m.fr = m.to)) || ((decide (m.kind ≠ 3) && (true != decide (m.co = ⟨0, 0, 0⟩))) || (decide (m.kind = 3) && !quarterS m))
def checkR (m : Mv) : Int := if m.kind < 1 ∨ 3 < m.kind then 16 else if (!inS m.fr || (!inS m.to || !inS m.co)) = true then 3 else if feedR m = true then 3 else if lastR m = true then 16 else 0

def mc83 : MC := (.seq (.reg [⟨(some 1), (.box 88 11 (.t 0)), none, []⟩, ⟨(some 2), (.alloc 26 3 [(.int .i64 0), (.int .i64 0), (.int .i64 0)]), none, []⟩, ⟨(some 3), (.alloc 26 3 [(.int .i64 0), (.int .i64 0), (.int .i64 0)]), none, []⟩, ⟨(some 4), (.mv (.c (.int .i64 0))), none, []⟩, ⟨(some 5), (.mv (.c (.int .i64 0))), none, [3]⟩] false) (.seq (.reg [⟨(some 7), (.fa 0 (.t 1)), none, []⟩, ⟨(some 8), (.fa 7 (.t 7)), none, [0]⟩, ⟨(some 9), (.ld true 3 (.t 8)), none, [1]⟩, ⟨(some 10), (.fa 0 (.t 1)), none, []⟩, ⟨(some 11), (.fa 4 (.t 10)), none, [3]⟩, ⟨(some 12), (.ld true 3 (.t 11)), none, [4]⟩, ⟨(some 13), (.call 27 [(.t 9), (.t 12)]), none, [2, 5]⟩, ⟨(some 14), (.call 29 [(.t 13)]), none, [6, 6]⟩, ⟨(some 6), (.mv (.t 14)), none, [7]⟩, ⟨(some 15), (.ext (.t 6) 0), none, [8]⟩, ⟨(some 16), (.ext (.t 6) 1), none, [8]⟩, ⟨none, (.st 3 (.t 2) (.t 15)), none, [9, 7, 0, 1, 2, 3, 4, 5, 6, 7, 8, 9]⟩, ⟨(some 4), (.mv (.t 16)), none, [10, 11, 0, 1, 2, 3, 4, 5, 6, 7, 8, 9, 10, 11]⟩] false) (.seq (.reg [⟨(some 18), (.fa 0 (.t 1)), none, []⟩, ⟨(some 19), (.fa 7 (.t 18)), none, [0]⟩, ⟨(some 20), (.ld true 3 (.t 19)), none, [1]⟩, ⟨(some 21), (.fa 0 (.t 1)), none, []⟩, ⟨(some 22), (.fa 1 (.t 21)), none, [3]⟩, ⟨(some 23), (.ld true 3 (.t 22)), none, [4]⟩, ⟨(some 24), (.call 27 [(.t 20), (.t 23)]), none, [2, 5]⟩, ⟨(some 25), (.call 29 [(.t 24)]), none, [6, 6]⟩, ⟨(some 17), (.mv (.t 25)), none, [7]⟩, ⟨(some 26), (.ext (.t 17) 0), none, [8]⟩, ⟨(some 27), (.ext (.t 17) 1), none, [8]⟩, ⟨none, (.st 3 (.t 3) (.t 26)), none, [9, 7, 0, 1, 2, 3, 4, 5, 6, 7, 8, 9]⟩, ⟨(some 5), (.mv (.t 27)), none, [10, 11, 0, 1, 2, 3, 4, 5, 6, 7, 8, 9, 10, 11]⟩] false) (.seq (.reg [⟨(some 28), (.ld true 3 (.t 2)), none, []⟩, ⟨(some 29), (.ld true 3 (.t 3)), none, []⟩, ⟨(some 30), (.mv (.t 4)), none, []⟩, ⟨(some 31), (.mv (.t 5)), none, []⟩, ⟨none, (.st 3 (.t 2) (.t 28)), none, [0, 0]⟩, ⟨none, (.st 3 (.t 3) (.t 29)), none, [1, 4, 0, 1, 4]⟩, ⟨(some 4), (.mv (.t 30)), none, [2, 5, 0, 1, 2, 4, 5]⟩, ⟨(some 5), (.mv (.t 31)), none, [3, 6, 0, 1, 2, 3, 4, 5, 6]⟩] true) .ret))))
theorem mcOk83 : (match Try.f83.body with | some c => compC Try.prog 32 c | none => none) = some mc83 := by kernel_rfl

theorem fc83 (m : Mv) (h : InM m) : FC Try.prog 83 [aM m] [] (.tup [aV (primV (sA m)), aV (primV (sB m)), iv (gS (sA m) : Int), iv (gS (sB m) : Int)]) [] false := by
  refine fc_run (nt := 32) Try.func83 rfl rfl mcOk83 (Nat.le_of_ble_eq_true rfl) ?_
  delta mc83
  refine aw_seq ?_
  refine aw_reg ?_
  refine rs_box rfl rfl rfl rfl rfl rfl ?_
  refine rs_alloc rfl rfl rfl ?_
  refine rs_alloc rfl rfl rfl ?_
  refine rs_mv rfl rfl ?_
  refine rs_mv rfl rfl ?_
  refine rs_nil fun _ => ?_
  refine th_n ?_
  refine aw_seq ?_
  refine aw_reg ?_
  first | refine rs_fa_p rfl rfl ?_ | refine rs_fa_r rfl rfl rfl ?_
  first | refine rs_fa_p rfl rfl ?_ | refine rs_fa_r rfl rfl rfl ?_
  first | refine rs_ld_pa rfl rfl rfl rfl (Nat.le_of_ble_eq_true rfl) rfl ?_ | refine rs_ld_ra rfl rfl (Nat.le_of_ble_eq_true rfl) rfl ?_ | refine rs_ld_ma rfl rfl rfl (by omega) (Nat.le_of_ble_eq_true rfl) rfl ?_
  first | refine rs_fa_p rfl rfl ?_ | refine rs_fa_r rfl rfl rfl ?_
  first | refine rs_fa_p rfl rfl ?_ | refine rs_fa_r rfl rfl rfl ?_
  first | refine rs_ld_pa rfl rfl rfl rfl (Nat.le_of_ble_eq_true rfl) rfl ?_ | refine rs_ld_ra rfl rfl (Nat.le_of_ble_eq_true rfl) rfl ?_ | refine rs_ld_ma rfl rfl rfl (by omega) (Nat.le_of_ble_eq_true rfl) rfl ?_
  refine rs_calln [] rfl rfl (fc27s h.co.big h.to.big) (.cons (hv_same rfl) (.cons (hv_same rfl) (.nil))) rfl ?_
  refine rs_calln [] rfl rfl (fc29 (sA m) h.a.big) (.cons (hv_same rfl) (.nil)) rfl ?_
  refine rs_mv rfl rfl ?_
  refine rs_ext rfl rfl rfl ?_
  refine rs_ext rfl rfl rfl ?_
  refine rs_st rfl rfl rfl rfl rfl rfl rfl (Nat.le_of_ble_eq_true rfl) rfl rfl ?_
  refine rs_mv rfl rfl ?_
  refine rs_nil fun _ => ?_
  refine th_n ?_
  refine aw_seq ?_
  refine aw_reg ?_
  first | refine rs_fa_p rfl rfl ?_ | refine rs_fa_r rfl rfl rfl ?_
  first | refine rs_fa_p rfl rfl ?_ | refine rs_fa_r rfl rfl rfl ?_
  first | refine rs_ld_pa rfl rfl rfl rfl (Nat.le_of_ble_eq_true rfl) rfl ?_ | refine rs_ld_ra rfl rfl (Nat.le_of_ble_eq_true rfl) rfl ?_ | refine rs_ld_ma rfl rfl rfl (by omega) (Nat.le_of_ble_eq_true rfl) rfl ?_
  first | refine rs_fa_p rfl rfl ?_ | refine rs_fa_r rfl rfl rfl ?_
  first | refine rs_fa_p rfl rfl ?_ | refine rs_fa_r rfl rfl rfl ?_
  first | refine rs_ld_pa rfl rfl rfl rfl (Nat.le_of_ble_eq_true rfl) rfl ?_ | refine rs_ld_ra rfl rfl (Nat.le_of_ble_eq_true rfl) rfl ?_ | refine rs_ld_ma rfl rfl rfl (by omega) (Nat.le_of_ble_eq_true rfl) rfl ?_
  refine rs_calln [] rfl rfl (fc27s h.co.big h.fr.big) (.cons (hv_same rfl) (.cons (hv_same rfl) (.nil))) rfl ?_
  refine rs_calln [] rfl rfl (fc29 (sB m) h.b.big) (.cons (hv_same rfl) (.nil)) rfl ?_
  refine rs_mv rfl rfl ?_
  refine rs_ext rfl rfl rfl ?_
  refine rs_ext rfl rfl rfl ?_
  refine rs_st rfl rfl rfl rfl rfl rfl rfl (Nat.le_of_ble_eq_true rfl) rfl rfl ?_
  refine rs_mv rfl rfl ?_
  refine rs_nil fun _ => ?_
  refine th_n ?_
  refine aw_seq ?_
  refine aw_draw hmix ?_
  first | refine rs_ld_pa rfl rfl rfl rfl (Nat.le_of_ble_eq_true rfl) rfl ?_ | refine rs_ld_ra rfl rfl (Nat.le_of_ble_eq_true rfl) rfl ?_ | refine rs_ld_ma rfl rfl rfl (by omega) (Nat.le_of_ble_eq_true rfl) rfl ?_
  first | refine rs_ld_pa rfl rfl rfl rfl (Nat.le_of_ble_eq_true rfl) rfl ?_ | refine rs_ld_ra rfl rfl (Nat.le_of_ble_eq_true rfl) rfl ?_ | refine rs_ld_ma rfl rfl rfl (by omega) (Nat.le_of_ble_eq_true rfl) rfl ?_
  refine rs_mv rfl rfl ?_
  refine rs_mv rfl rfl ?_
  refine rs_st rfl rfl rfl rfl rfl rfl rfl (Nat.le_of_ble_eq_true rfl) rfl rfl ?_
  refine rs_st rfl rfl rfl rfl rfl rfl rfl (Nat.le_of_ble_eq_true rfl) rfl rfl ?_
  refine rs_mv rfl rfl ?_
  refine rs_mv rfl rfl ?_
  refine rs_nil ⟨by kernel_rfl, fun _ => ?_⟩
  refine th_n ?_
  refine aw_ret ?_
  exact ret_pure rfl rfl rfl (.inr rfl)

def mc79 : MC := (.seq (.reg [⟨(some 1), (.box 88 11 (.t 0)), none, []⟩, ⟨(some 2), (.mv (.c (.bool false))), none, []⟩] false) (.seq (.reg [⟨(some 8), (.ld true 11 (.t 1)), none, []⟩, ⟨(some 9), (.call 83 [(.t 8)]), none, [0]⟩, ⟨(some 7), (.mv (.t 9)), none, [1]⟩, ⟨(some 10), (.ext (.t 7) 0), none, [2]⟩, ⟨(some 11), (.ext (.t 7) 1), none, [2]⟩, ⟨(some 12), (.ext (.t 7) 2), none, [2]⟩, ⟨(some 13), (.ext (.t 7) 3), none, [2]⟩, ⟨(some 3), (.alloc 26 3 [(.int .i64 0), (.int .i64 0), (.int .i64 0)]), none, []⟩, ⟨(some 4), (.alloc 26 3 [(.int .i64 0), (.int .i64 0), (.int .i64 0)]), none, []⟩, ⟨none, (.st 3 (.t 3) (.t 10)), none, [7, 3, 1, 0, 1, 2, 3, 7, 8]⟩, ⟨none, (.st 3 (.t 4) (.t 11)), none, [8, 4, 9, 0, 1, 2, 3, 4, 7, 8, 9]⟩, ⟨(some 5), (.mv (.t 12)), none, [5, 10, 0, 1, 2, 3, 4, 5, 7, 8, 9, 10]⟩, ⟨(some 6), (.mv (.t 13)), none, [6, 11, 0, 1, 2, 3, 4, 5, 6, 7, 8, 9, 10, 11]⟩] false) (.seq (.reg [⟨(some 14), (.ld true 3 (.t 3)), none, []⟩, ⟨(some 15), (.call 84 [(.t 14)]), none, [0]⟩, ⟨(some 16), (.mv (.t 15)), none, [1, 1]⟩, ⟨(some 17), (.ld true 3 (.t 4)), (some (16, true)), [2]⟩, ⟨(some 18), (.call 84 [(.t 17)]), (some (16, true)), [3, 2, 2]⟩, ⟨(some 19), (.pick (.t 16) (.t 18) (.c (.bool false))), none, [2, 4]⟩, ⟨(some 20), (.mv (.t 19)), none, [5, 4]⟩, ⟨(some 21), (.mv (.t 5)), (some (20, true)), [6]⟩, ⟨(some 22), (.mv (.t 6)), (some (20, true)), [6]⟩, ⟨(some 23), (.bin .eql (.t 21) (.t 22)), (some (20, true)), [7, 8, 6]⟩, ⟨(some 24), (.pick (.t 20) (.t 23) (.c (.bool false))), none, [6, 9]⟩, ⟨(some 25), (.mv (.t 24)), none, [10, 6]⟩, ⟨(some 26), (.ld true 3 (.t 3)), (some (25, true)), [11]⟩, ⟨(some 27), (.ld true 3 (.t 4)), (some (25, true)), [11]⟩, ⟨(some 28), (.call 30 [(.t 26), (.t 27)]), (some (25, true)), [12, 13, 11, 11]⟩, ⟨(some 29), (.bin .eql (.t 28) (.c (.int .i64 0))), (some (25, true)), [14, 11]⟩, ⟨(some 30), (.pick (.t 25) (.t 29) (.c (.bool false))), none, [11, 15]⟩, ⟨(some 2), (.mv (.t 30)), none, [16, 14, 0, 1, 2, 3, 4, 5, 6, 7, 8, 9, 10, 11, 12, 13, 14, 15, 16]⟩] false) .ret)))
theorem mcOk79 : (match Try.f79.body with | some c => compC Try.prog 31 c | none => none) = some mc79 := by kernel_rfl

theorem fc79 (m : Mv) (h : InM m) : FC Try.prog 79 [aM m] [] (.bool (fitsA m)) [] false := by
  refine fc_run (nt := 31) Try.func79 rfl rfl mcOk79 (Nat.le_of_ble_eq_true rfl) ?_
  delta mc79
  refine aw_seq ?_
  refine aw_reg ?_
  refine rs_box rfl rfl rfl rfl rfl rfl ?_
  refine rs_mv rfl rfl ?_
  refine rs_nil fun _ => ?_
  refine th_n ?_
  refine aw_seq ?_
  refine aw_reg ?_
  first | refine rs_ld_pa rfl rfl rfl rfl (Nat.le_of_ble_eq_true rfl) rfl ?_ | refine rs_ld_ra rfl rfl (Nat.le_of_ble_eq_true rfl) rfl ?_ | refine rs_ld_ma rfl rfl rfl (by omega) (Nat.le_of_ble_eq_true rfl) rfl ?_
  refine rs_calln [] rfl rfl (fc83 m h) (.cons (hv_same rfl) (.nil)) rfl ?_
  refine rs_mv rfl rfl ?_
  refine rs_ext rfl rfl rfl ?_
  refine rs_ext rfl rfl rfl ?_
  refine rs_ext rfl rfl rfl ?_
  refine rs_ext rfl rfl rfl ?_
  refine rs_alloc rfl rfl rfl ?_
  refine rs_alloc rfl rfl rfl ?_
  refine rs_st rfl rfl rfl rfl rfl rfl rfl (Nat.le_of_ble_eq_true rfl) rfl rfl ?_
  refine rs_st rfl rfl rfl rfl rfl rfl rfl (Nat.le_of_ble_eq_true rfl) rfl rfl ?_
  refine rs_mv rfl rfl ?_
  refine rs_mv rfl rfl ?_
  refine rs_nil fun _ => ?_
  refine th_n ?_
  refine aw_seq ?_
  refine aw_reg ?_
  first | refine rs_ld_pa rfl rfl rfl rfl (Nat.le_of_ble_eq_true rfl) rfl ?_ | refine rs_ld_ra rfl rfl (Nat.le_of_ble_eq_true rfl) rfl ?_ | refine rs_ld_ma rfl rfl rfl (by omega) (Nat.le_of_ble_eq_true rfl) rfl ?_
  refine rs_calln [] rfl rfl (fc84s (prim_bd h.a).big) (.cons (hv_same rfl) (.nil)) rfl ?_
  refine rs_mv rfl rfl ?_
  cases h16 : decide (dot (primV (sA m)) (primV (sA m)) = 1)
  · skip
    refine rs_skip rfl ?_
    refine rs_skip rfl ?_
    refine rs_pick rfl rfl rfl ?_
    refine rs_mv rfl rfl ?_
    refine rs_skip rfl ?_
    refine rs_skip rfl ?_
    refine rs_skip rfl ?_
    refine rs_pick rfl rfl rfl ?_
    refine rs_mv rfl rfl ?_
    refine rs_skip rfl ?_
    refine rs_skip rfl ?_
    refine rs_skip rfl ?_
    refine rs_skip rfl ?_
    refine rs_pick rfl rfl rfl ?_
    refine rs_mv rfl rfl ?_
    refine rs_nil fun _ => ?_
    refine th_n ?_
    refine aw_ret ?_
    exact ret_pure rfl (congrArg AV.bool (by simp_all [fitsA])) rfl (.inr rfl)
  · skip
    first | refine rs_ld_pa rfl rfl rfl rfl (Nat.le_of_ble_eq_true rfl) rfl ?_ | refine rs_ld_ra rfl rfl (Nat.le_of_ble_eq_true rfl) rfl ?_ | refine rs_ld_ma rfl rfl rfl (by omega) (Nat.le_of_ble_eq_true rfl) rfl ?_
    refine rs_calln [] rfl rfl (fc84s (prim_bd h.b).big) (.cons (hv_same rfl) (.nil)) rfl ?_
    cases h18 : decide (dot (primV (sB m)) (primV (sB m)) = 1)
    · skip
      refine rs_pick rfl rfl rfl ?_
      refine rs_mv rfl rfl ?_
      refine rs_skip rfl ?_
      refine rs_skip rfl ?_
      refine rs_skip rfl ?_
      refine rs_pick rfl rfl rfl ?_
      refine rs_mv rfl rfl ?_
      refine rs_skip rfl ?_
      refine rs_skip rfl ?_
      refine rs_skip rfl ?_
      refine rs_skip rfl ?_
      refine rs_pick rfl rfl rfl ?_
      refine rs_mv rfl rfl ?_
      refine rs_nil fun _ => ?_
      refine th_n ?_
      refine aw_ret ?_
      exact ret_pure rfl (congrArg AV.bool (by simp_all [fitsA])) rfl (.inr rfl)
    · skip
      refine rs_pick rfl rfl rfl ?_
      refine rs_mv rfl rfl ?_
      refine rs_mv rfl rfl ?_
      refine rs_mv rfl rfl ?_
      refine rs_cmp rfl rfl rfl rfl (fun h23 => ?_) (fun h23 => ?_)
      · skip
        refine rs_pick rfl rfl rfl ?_
        refine rs_mv rfl rfl ?_
        first | refine rs_ld_pa rfl rfl rfl rfl (Nat.le_of_ble_eq_true rfl) rfl ?_ | refine rs_ld_ra rfl rfl (Nat.le_of_ble_eq_true rfl) rfl ?_ | refine rs_ld_ma rfl rfl rfl (by omega) (Nat.le_of_ble_eq_true rfl) rfl ?_
        first | refine rs_ld_pa rfl rfl rfl rfl (Nat.le_of_ble_eq_true rfl) rfl ?_ | refine rs_ld_ra rfl rfl (Nat.le_of_ble_eq_true rfl) rfl ?_ | refine rs_ld_ma rfl rfl rfl (by omega) (Nat.le_of_ble_eq_true rfl) rfl ?_
        refine rs_calln [] rfl rfl (fc30s (prim_bd h.a).big (prim_bd h.b).big) (.cons (hv_same rfl) (.cons (hv_same rfl) (.nil))) rfl ?_
        refine rs_cmp rfl rfl rfl rfl (fun h29 => ?_) (fun h29 => ?_)
        · skip
          refine rs_pick rfl rfl rfl ?_
          refine rs_mv rfl rfl ?_
          refine rs_nil fun _ => ?_
          refine th_n ?_
          refine aw_ret ?_
          exact ret_pure rfl (congrArg AV.bool (by simp_all [fitsA])) rfl (.inr rfl)
        · skip
          refine rs_pick rfl rfl rfl ?_
          refine rs_mv rfl rfl ?_
          refine rs_nil fun _ => ?_
          refine th_n ?_
          refine aw_ret ?_
          exact ret_pure rfl (congrArg AV.bool (by simp_all [fitsA])) rfl (.inr rfl)
      · skip
        refine rs_pick rfl rfl rfl ?_
        refine rs_mv rfl rfl ?_
        refine rs_skip rfl ?_
        refine rs_skip rfl ?_
        refine rs_skip rfl ?_
        refine rs_skip rfl ?_
        refine rs_pick rfl rfl rfl ?_
        refine rs_mv rfl rfl ?_
        refine rs_nil fun _ => ?_
        refine th_n ?_
        refine aw_ret ?_
        exact ret_pure rfl (congrArg AV.bool (by simp_all [fitsA])) rfl (.inr rfl)

def mc73 : MC := (.seq (.reg [⟨(some 1), (.box 87 11 (.t 0)), none, []⟩, ⟨(some 2), (.mv (.c (.bool false))), none, []⟩] false) (.seq (.reg [⟨(some 3), (.fa 0 (.t 1)), none, []⟩, ⟨(some 4), (.fa 1 (.t 3)), none, [0]⟩, ⟨(some 5), (.ld true 3 (.t 4)), none, [1]⟩, ⟨(some 6), (.fa 0 (.t 1)), none, []⟩, ⟨(some 7), (.fa 4 (.t 6)), none, [3]⟩, ⟨(some 8), (.ld true 3 (.t 7)), none, [4]⟩, ⟨(some 9), (.aeq true 3 (.t 5) (.t 8)), none, [2, 5]⟩, ⟨(some 10), (.mv (.t 9)), none, [6]⟩, ⟨(some 11), (.fa 0 (.t 1)), (some (10, true)), [7]⟩, ⟨(some 12), (.fa 7 (.t 11)), (some (10, true)), [8, 7]⟩, ⟨(some 13), (.ld true 3 (.t 12)), (some (10, true)), [9, 7]⟩, ⟨(some 14), (.build [(.int .i64 0), (.int .i64 0), (.int .i64 0)] []), (some (10, true)), [7]⟩, ⟨(some 15), (.aeq false 3 (.t 13) (.t 14)), (some (10, true)), [10, 11, 7]⟩, ⟨(some 16), (.pick (.t 10) (.t 15) (.c (.bool false))), none, [7, 12]⟩, ⟨(some 2), (.mv (.t 16)), none, [13, 7, 0, 1, 2, 3, 4, 5, 6, 7, 8, 9, 10, 11, 12, 13]⟩] false) .ret))
theorem mcOk73 : (match Try.f73.body with | some c => compC Try.prog 17 c | none => none) = some mc73 := by kernel_rfl

theorem fc73 (m : Mv) : FC Try.prog 73 [aM m] [] (.bool (fitsL m)) [] false := by
  refine fc_run (nt := 17) Try.func73 rfl rfl mcOk73 (Nat.le_of_ble_eq_true rfl) ?_
  delta mc73
  refine aw_seq ?_
  refine aw_reg ?_
  refine rs_box rfl rfl rfl rfl rfl rfl ?_
  refine rs_mv rfl rfl ?_
  refine rs_nil fun _ => ?_
  refine th_n ?_
  refine aw_seq ?_
  refine aw_reg ?_
  first | refine rs_fa_p rfl rfl ?_ | refine rs_fa_r rfl rfl rfl ?_
  first | refine rs_fa_p rfl rfl ?_ | refine rs_fa_r rfl rfl rfl ?_
  first | refine rs_ld_pa rfl rfl rfl rfl (Nat.le_of_ble_eq_true rfl) rfl ?_ | refine rs_ld_ra rfl rfl (Nat.le_of_ble_eq_true rfl) rfl ?_ | refine rs_ld_ma rfl rfl rfl (by omega) (Nat.le_of_ble_eq_true rfl) rfl ?_
  first | refine rs_fa_p rfl rfl ?_ | refine rs_fa_r rfl rfl rfl ?_
  first | refine rs_fa_p rfl rfl ?_ | refine rs_fa_r rfl rfl rfl ?_
  first | refine rs_ld_pa rfl rfl rfl rfl (Nat.le_of_ble_eq_true rfl) rfl ?_ | refine rs_ld_ra rfl rfl (Nat.le_of_ble_eq_true rfl) rfl ?_ | refine rs_ld_ma rfl rfl rfl (by omega) (Nat.le_of_ble_eq_true rfl) rfl ?_
  refine rs_aeqv rfl rfl rfl ?_
  cases h9 : (true != decide (m.fr = m.to))
  · skip
    refine rs_mv rfl rfl ?_
    refine rs_skip rfl ?_
    refine rs_skip rfl ?_
    refine rs_skip rfl ?_
    refine rs_skip rfl ?_
    refine rs_skip rfl ?_
    refine rs_pick rfl rfl rfl ?_
    refine rs_mv rfl rfl ?_
    refine rs_nil fun _ => ?_
    refine th_n ?_
    refine aw_ret ?_
    exact ret_pure rfl (congrArg AV.bool (by simp_all [fitsL])) rfl (.inr rfl)
  · skip
    refine rs_mv rfl rfl ?_
    first | refine rs_fa_p rfl rfl ?_ | refine rs_fa_r rfl rfl rfl ?_
    first | refine rs_fa_p rfl rfl ?_ | refine rs_fa_r rfl rfl rfl ?_
    first | refine rs_ld_pa rfl rfl rfl rfl (Nat.le_of_ble_eq_true rfl) rfl ?_ | refine rs_ld_ra rfl rfl (Nat.le_of_ble_eq_true rfl) rfl ?_ | refine rs_ld_ma rfl rfl rfl (by omega) (Nat.le_of_ble_eq_true rfl) rfl ?_
    refine rs_build rfl rfl ?_
    refine rs_aeqv (v := ⟨0, 0, 0⟩) rfl rfl rfl ?_
    refine rs_pick rfl rfl rfl ?_
    refine rs_mv rfl rfl ?_
    refine rs_nil fun _ => ?_
    refine th_n ?_
    refine aw_ret ?_
    exact ret_pure rfl (congrArg AV.bool (by simp_all [fitsL])) rfl (.inr rfl)

def mc39 : MC := (.seq (.reg [⟨(some 1), (.box 28 11 (.t 0)), none, []⟩, ⟨(some 2), (.mv (.c .nili)), none, []⟩] false) (.seq (.seq (.reg [⟨(some 3), (.fa 0 (.t 1)), none, []⟩, ⟨(some 4), (.ld false 1 (.t 3)), none, [0]⟩] false) (.block 0 (.seq (.seq (.reg [⟨(some 6), (.bin .eql (.t 4) (.c (.int .i64 1))), none, []⟩, ⟨(some 5), (.mv (.t 6)), none, [0]⟩] false) (.cond (.t 5) .skip (.reg [⟨(some 7), (.bin .eql (.t 4) (.c (.int .i64 2))), none, []⟩, ⟨(some 5), (.mv (.t 7)), none, [0]⟩] false))) (.cond (.t 5) (.seq (.reg [⟨(some 8), (.ld true 11 (.t 1)), none, []⟩, ⟨(some 9), (.build [(.int .i64 0), (.int .i64 0), (.int .i64 0), (.int .i64 0), (.int .i64 0), (.int .i64 0), (.int .i64 0), (.int .i64 0), (.int .i64 0), (.int .i64 0), (.int .i64 0)] [(0, (11, (.t 8)))]), none, [0]⟩, ⟨(some 10), (.mkif 87 (.t 9)), none, [1]⟩, ⟨(some 2), (.mv (.t 10)), none, [2, 0, 1, 2]⟩] false) .ret) (.seq (.reg [⟨(some 12), (.bin .eql (.t 4) (.c (.int .i64 3))), none, []⟩, ⟨(some 11), (.mv (.t 12)), none, [0]⟩] false) (.cond (.t 11) (.seq (.reg [⟨(some 13), (.ld true 11 (.t 1)), none, []⟩, ⟨(some 14), (.build [(.int .i64 0), (.int .i64 0), (.int .i64 0), (.int .i64 0), (.int .i64 0), (.int .i64 0), (.int .i64 0), (.int .i64 0), (.int .i64 0), (.int .i64 0), (.int .i64 0)] [(0, (11, (.t 13)))]), none, [0]⟩, ⟨(some 15), (.mkif 88 (.t 14)), none, [1]⟩, ⟨(some 2), (.mv (.t 15)), none, [2, 0, 1, 2]⟩] false) .ret) .skip)))))) (.seq (.reg [⟨(some 2), (.mv (.c .nili)), none, []⟩] false) .ret)))
theorem mcOk39 : (match Try.f39.body with | some c => compC Try.prog 16 c | none => none) = some mc39 := by kernel_rfl

theorem fc39_l (m : Mv) (hk : m.kind = 1 ∨ m.kind = 2) : FC Try.prog 39 [aM m] [] (.ifc 87 (aM m)) [] false := by
  refine fc_run (nt := 16) Try.func39 rfl rfl mcOk39 (Nat.le_of_ble_eq_true rfl) ?_
  delta mc39
  refine aw_seq ?_
  refine aw_reg ?_
  refine rs_box rfl rfl rfl rfl rfl rfl ?_
  refine rs_mv rfl rfl ?_
  refine rs_nil fun _ => ?_
  refine th_n ?_
  refine aw_seq ?_
  refine aw_seq ?_
  refine aw_reg ?_
  first | refine rs_fa_p rfl rfl ?_ | refine rs_fa_r rfl rfl rfl ?_
  first | refine rs_ld_r rfl rfl rfl ?_ | refine rs_ld_p rfl rfl rfl rfl rfl ?_ | refine rs_ld_m rfl rfl rfl (by omega) rfl ?_
  refine rs_nil fun _ => ?_
  refine th_n ?_
  refine aw_block ?_
  refine aw_seq ?_
  refine aw_seq ?_
  refine aw_reg ?_
  refine rs_eql rfl rfl rfl ?_
  refine rs_mv rfl rfl ?_
  refine rs_nil fun _ => ?_
  refine th_n ?_
  refine aw_cond rfl (fun h5 => ?_) (fun h5 => ?_)
  · first | replace h5 := of_decide_eq_true h5 | skip
    refine aw_skip ?_
    refine th_n ?_
    refine aw_cond rfl (fun h5 => ?_) (fun h5 => ?_)
    · first | replace h5 := of_decide_eq_true h5 | skip
      refine aw_seq ?_
      refine aw_reg ?_
      first | refine rs_ld_pa rfl rfl rfl rfl (Nat.le_of_ble_eq_true rfl) rfl ?_ | refine rs_ld_ra rfl rfl (Nat.le_of_ble_eq_true rfl) rfl ?_ | refine rs_ld_ma rfl rfl rfl (by omega) (Nat.le_of_ble_eq_true rfl) rfl ?_
      refine rs_build rfl rfl ?_
      refine rs_mkif rfl rfl rfl ?_
      refine rs_mv rfl rfl ?_
      refine rs_nil fun _ => ?_
      refine th_n ?_
      refine aw_ret ?_
      refine in_r ?_
      refine th_r ?_
      first
        | exact ret_pure rfl rfl rfl (.inr rfl)
        | (exfalso; omega)
    · first | replace h5 := of_decide_eq_false h5 | skip
      refine aw_seq ?_
      refine aw_reg ?_
      refine rs_eql rfl rfl rfl ?_
      refine rs_mv rfl rfl ?_
      refine rs_nil fun _ => ?_
      refine th_n ?_
      refine aw_cond rfl (fun h11 => ?_) (fun h11 => ?_)
      · first | replace h11 := of_decide_eq_true h11 | skip
        refine aw_seq ?_
        refine aw_reg ?_
        first | refine rs_ld_pa rfl rfl rfl rfl (Nat.le_of_ble_eq_true rfl) rfl ?_ | refine rs_ld_ra rfl rfl (Nat.le_of_ble_eq_true rfl) rfl ?_ | refine rs_ld_ma rfl rfl rfl (by omega) (Nat.le_of_ble_eq_true rfl) rfl ?_
        refine rs_build rfl rfl ?_
        refine rs_mkif rfl rfl rfl ?_
        refine rs_mv rfl rfl ?_
        refine rs_nil fun _ => ?_
        refine th_n ?_
        refine aw_ret ?_
        refine in_r ?_
        refine th_r ?_
        first
          | exact ret_pure rfl rfl rfl (.inr rfl)
          | (exfalso; omega)
      · first | replace h11 := of_decide_eq_false h11 | skip
        refine aw_skip ?_
        refine in_n ?_
        refine th_n ?_
        refine aw_seq ?_
        refine aw_reg ?_
        refine rs_mv rfl rfl ?_
        refine rs_nil fun _ => ?_
        refine th_n ?_
        refine aw_ret ?_
        first
          | exact ret_pure rfl rfl rfl (.inr rfl)
          | (exfalso; omega)
  · first | replace h5 := of_decide_eq_false h5 | skip
    refine aw_reg ?_
    refine rs_eql rfl rfl rfl ?_
    refine rs_mv rfl rfl ?_
    refine rs_nil fun _ => ?_
    refine th_n ?_
    refine aw_cond rfl (fun h5 => ?_) (fun h5 => ?_)
    · first | replace h5 := of_decide_eq_true h5 | skip
      refine aw_seq ?_
      refine aw_reg ?_
      first | refine rs_ld_pa rfl rfl rfl rfl (Nat.le_of_ble_eq_true rfl) rfl ?_ | refine rs_ld_ra rfl rfl (Nat.le_of_ble_eq_true rfl) rfl ?_ | refine rs_ld_ma rfl rfl rfl (by omega) (Nat.le_of_ble_eq_true rfl) rfl ?_
      refine rs_build rfl rfl ?_
      refine rs_mkif rfl rfl rfl ?_
      refine rs_mv rfl rfl ?_
      refine rs_nil fun _ => ?_
      refine th_n ?_
      refine aw_ret ?_
      refine in_r ?_
      refine th_r ?_
      first
        | exact ret_pure rfl rfl rfl (.inr rfl)
        | (exfalso; omega)
    · first | replace h5 := of_decide_eq_false h5 | skip
      refine aw_seq ?_
      refine aw_reg ?_
      refine rs_eql rfl rfl rfl ?_
      refine rs_mv rfl rfl ?_
      refine rs_nil fun _ => ?_
      refine th_n ?_
      refine aw_cond rfl (fun h11 => ?_) (fun h11 => ?_)
      · first | replace h11 := of_decide_eq_true h11 | skip
        refine aw_seq ?_
        refine aw_reg ?_
        first | refine rs_ld_pa rfl rfl rfl rfl (Nat.le_of_ble_eq_true rfl) rfl ?_ | refine rs_ld_ra rfl rfl (Nat.le_of_ble_eq_true rfl) rfl ?_ | refine rs_ld_ma rfl rfl rfl (by omega) (Nat.le_of_ble_eq_true rfl) rfl ?_
        refine rs_build rfl rfl ?_
        refine rs_mkif rfl rfl rfl ?_
        refine rs_mv rfl rfl ?_
        refine rs_nil fun _ => ?_
        refine th_n ?_
        refine aw_ret ?_
        refine in_r ?_
        refine th_r ?_
        first
          | exact ret_pure rfl rfl rfl (.inr rfl)
          | (exfalso; omega)
      · first | replace h11 := of_decide_eq_false h11 | skip
        refine aw_skip ?_
        refine in_n ?_
        refine th_n ?_
        refine aw_seq ?_
        refine aw_reg ?_
        refine rs_mv rfl rfl ?_
        refine rs_nil fun _ => ?_
        refine th_n ?_
        refine aw_ret ?_
        first
          | exact ret_pure rfl rfl rfl (.inr rfl)
          | (exfalso; omega)

theorem fc39_a (m : Mv) (hk : m.kind = 3) : FC Try.prog 39 [aM m] [] (.ifc 88 (aM m)) [] false := by
  refine fc_run (nt := 16) Try.func39 rfl rfl mcOk39 (Nat.le_of_ble_eq_true rfl) ?_
  delta mc39
  refine aw_seq ?_
  refine aw_reg ?_
  refine rs_box rfl rfl rfl rfl rfl rfl ?_
  refine rs_mv rfl rfl ?_
  refine rs_nil fun _ => ?_
  refine th_n ?_
  refine aw_seq ?_
  refine aw_seq ?_
  refine aw_reg ?_
  first | refine rs_fa_p rfl rfl ?_ | refine rs_fa_r rfl rfl rfl ?_
  first | refine rs_ld_r rfl rfl rfl ?_ | refine rs_ld_p rfl rfl rfl rfl rfl ?_ | refine rs_ld_m rfl rfl rfl (by omega) rfl ?_
  refine rs_nil fun _ => ?_
  refine th_n ?_
  refine aw_block ?_
  refine aw_seq ?_
  refine aw_seq ?_
  refine aw_reg ?_
  refine rs_eql rfl rfl rfl ?_
  refine rs_mv rfl rfl ?_
  refine rs_nil fun _ => ?_
  refine th_n ?_
  refine aw_cond rfl (fun h5 => ?_) (fun h5 => ?_)
  · first | replace h5 := of_decide_eq_true h5 | skip
    refine aw_skip ?_
    refine th_n ?_
    refine aw_cond rfl (fun h5 => ?_) (fun h5 => ?_)
    · first | replace h5 := of_decide_eq_true h5 | skip
      refine aw_seq ?_
      refine aw_reg ?_
      first | refine rs_ld_pa rfl rfl rfl rfl (Nat.le_of_ble_eq_true rfl) rfl ?_ | refine rs_ld_ra rfl rfl (Nat.le_of_ble_eq_true rfl) rfl ?_ | refine rs_ld_ma rfl rfl rfl (by omega) (Nat.le_of_ble_eq_true rfl) rfl ?_
      refine rs_build rfl rfl ?_
      refine rs_mkif rfl rfl rfl ?_
      refine rs_mv rfl rfl ?_
      refine rs_nil fun _ => ?_
      refine th_n ?_
      refine aw_ret ?_
      refine in_r ?_
      refine th_r ?_
      first
        | exact ret_pure rfl rfl rfl (.inr rfl)
        | (exfalso; omega)
    · first | replace h5 := of_decide_eq_false h5 | skip
      refine aw_seq ?_
      refine aw_reg ?_
      refine rs_eql rfl rfl rfl ?_
      refine rs_mv rfl rfl ?_
      refine rs_nil fun _ => ?_
      refine th_n ?_
      refine aw_cond rfl (fun h11 => ?_) (fun h11 => ?_)
      · first | replace h11 := of_decide_eq_true h11 | skip
        refine aw_seq ?_
        refine aw_reg ?_
        first | refine rs_ld_pa rfl rfl rfl rfl (Nat.le_of_ble_eq_true rfl) rfl ?_ | refine rs_ld_ra rfl rfl (Nat.le_of_ble_eq_true rfl) rfl ?_ | refine rs_ld_ma rfl rfl rfl (by omega) (Nat.le_of_ble_eq_true rfl) rfl ?_
        refine rs_build rfl rfl ?_
        refine rs_mkif rfl rfl rfl ?_
        refine rs_mv rfl rfl ?_
        refine rs_nil fun _ => ?_
        refine th_n ?_
        refine aw_ret ?_
        refine in_r ?_
        refine th_r ?_
        first
          | exact ret_pure rfl rfl rfl (.inr rfl)
          | (exfalso; omega)
      · first | replace h11 := of_decide_eq_false h11 | skip
        refine aw_skip ?_
        refine in_n ?_
        refine th_n ?_
        refine aw_seq ?_
        refine aw_reg ?_
        refine rs_mv rfl rfl ?_
        refine rs_nil fun _ => ?_
        refine th_n ?_
        refine aw_ret ?_
        first
          | exact ret_pure rfl rfl rfl (.inr rfl)
          | (exfalso; omega)
  · first | replace h5 := of_decide_eq_false h5 | skip
    refine aw_reg ?_
    refine rs_eql rfl rfl rfl ?_
    refine rs_mv rfl rfl ?_
    refine rs_nil fun _ => ?_
    refine th_n ?_
    refine aw_cond rfl (fun h5 => ?_) (fun h5 => ?_)
    · first | replace h5 := of_decide_eq_true h5 | skip
      refine aw_seq ?_
      refine aw_reg ?_
      first | refine rs_ld_pa rfl rfl rfl rfl (Nat.le_of_ble_eq_true rfl) rfl ?_ | refine rs_ld_ra rfl rfl (Nat.le_of_ble_eq_true rfl) rfl ?_ | refine rs_ld_ma rfl rfl rfl (by omega) (Nat.le_of_ble_eq_true rfl) rfl ?_
      refine rs_build rfl rfl ?_
      refine rs_mkif rfl rfl rfl ?_
      refine rs_mv rfl rfl ?_
      refine rs_nil fun _ => ?_
      refine th_n ?_
      refine aw_ret ?_
      refine in_r ?_
      refine th_r ?_
      first
        | exact ret_pure rfl rfl rfl (.inr rfl)
        | (exfalso; omega)
    · first | replace h5 := of_decide_eq_false h5 | skip
      refine aw_seq ?_
      refine aw_reg ?_
      refine rs_eql rfl rfl rfl ?_
      refine rs_mv rfl rfl ?_
      refine rs_nil fun _ => ?_
      refine th_n ?_
      refine aw_cond rfl (fun h11 => ?_) (fun h11 => ?_)
      · first | replace h11 := of_decide_eq_true h11 | skip
        refine aw_seq ?_
        refine aw_reg ?_
        first | refine rs_ld_pa rfl rfl rfl rfl (Nat.le_of_ble_eq_true rfl) rfl ?_ | refine rs_ld_ra rfl rfl (Nat.le_of_ble_eq_true rfl) rfl ?_ | refine rs_ld_ma rfl rfl rfl (by omega) (Nat.le_of_ble_eq_true rfl) rfl ?_
        refine rs_build rfl rfl ?_
        refine rs_mkif rfl rfl rfl ?_
        refine rs_mv rfl rfl ?_
        refine rs_nil fun _ => ?_
        refine th_n ?_
        refine aw_ret ?_
        refine in_r ?_
        refine th_r ?_
        first
          | exact ret_pure rfl rfl rfl (.inr rfl)
          | (exfalso; omega)
      · first | replace h11 := of_decide_eq_false h11 | skip
        refine aw_skip ?_
        refine in_n ?_
        refine th_n ?_
        refine aw_seq ?_
        refine aw_reg ?_
        refine rs_mv rfl rfl ?_
        refine rs_nil fun _ => ?_
        refine th_n ?_
        refine aw_ret ?_
        first
          | exact ret_pure rfl rfl rfl (.inr rfl)
          | (exfalso; omega)

theorem fc39_n (m : Mv) (hk : ¬ m.kind = 1 ∧ ¬ m.kind = 2 ∧ ¬ m.kind = 3) : FC Try.prog 39 [aM m] [] (.nili) [] false := by
  refine fc_run (nt := 16) Try.func39 rfl rfl mcOk39 (Nat.le_of_ble_eq_true rfl) ?_
  delta mc39
  refine aw_seq ?_
  refine aw_reg ?_
  refine rs_box rfl rfl rfl rfl rfl rfl ?_
  refine rs_mv rfl rfl ?_
  refine rs_nil fun _ => ?_
  refine th_n ?_
  refine aw_seq ?_
  refine aw_seq ?_
  refine aw_reg ?_
  first | refine rs_fa_p rfl rfl ?_ | refine rs_fa_r rfl rfl rfl ?_
  first | refine rs_ld_r rfl rfl rfl ?_ | refine rs_ld_p rfl rfl rfl rfl rfl ?_ | refine rs_ld_m rfl rfl rfl (by omega) rfl ?_
  refine rs_nil fun _ => ?_
  refine th_n ?_
  refine aw_block ?_
  refine aw_seq ?_
  refine aw_seq ?_
  refine aw_reg ?_
  refine rs_eql rfl rfl rfl ?_
  refine rs_mv rfl rfl ?_
  refine rs_nil fun _ => ?_
  refine th_n ?_
  refine aw_cond rfl (fun h5 => ?_) (fun h5 => ?_)
  · first | replace h5 := of_decide_eq_true h5 | skip
    refine aw_skip ?_
    refine th_n ?_
    refine aw_cond rfl (fun h5 => ?_) (fun h5 => ?_)
    · first | replace h5 := of_decide_eq_true h5 | skip
      refine aw_seq ?_
      refine aw_reg ?_
      first | refine rs_ld_pa rfl rfl rfl rfl (Nat.le_of_ble_eq_true rfl) rfl ?_ | refine rs_ld_ra rfl rfl (Nat.le_of_ble_eq_true rfl) rfl ?_ | refine rs_ld_ma rfl rfl rfl (by omega) (Nat.le_of_ble_eq_true rfl) rfl ?_
      refine rs_build rfl rfl ?_
      refine rs_mkif rfl rfl rfl ?_
      refine rs_mv rfl rfl ?_
      refine rs_nil fun _ => ?_
      refine th_n ?_
      refine aw_ret ?_
      refine in_r ?_
      refine th_r ?_
      first
        | exact ret_pure rfl rfl rfl (.inr rfl)
        | (exfalso; omega)
    · first | replace h5 := of_decide_eq_false h5 | skip
      refine aw_seq ?_
      refine aw_reg ?_
      refine rs_eql rfl rfl rfl ?_
      refine rs_mv rfl rfl ?_
      refine rs_nil fun _ => ?_
      refine th_n ?_
      refine aw_cond rfl (fun h11 => ?_) (fun h11 => ?_)
      · first | replace h11 := of_decide_eq_true h11 | skip
        refine aw_seq ?_
        refine aw_reg ?_
        first | refine rs_ld_pa rfl rfl rfl rfl (Nat.le_of_ble_eq_true rfl) rfl ?_ | refine rs_ld_ra rfl rfl (Nat.le_of_ble_eq_true rfl) rfl ?_ | refine rs_ld_ma rfl rfl rfl (by omega) (Nat.le_of_ble_eq_true rfl) rfl ?_
        refine rs_build rfl rfl ?_
        refine rs_mkif rfl rfl rfl ?_
        refine rs_mv rfl rfl ?_
        refine rs_nil fun _ => ?_
        refine th_n ?_
        refine aw_ret ?_
        refine in_r ?_
        refine th_r ?_
        first
          | exact ret_pure rfl rfl rfl (.inr rfl)
          | (exfalso; omega)
      · first | replace h11 := of_decide_eq_false h11 | skip
        refine aw_skip ?_
        refine in_n ?_
        refine th_n ?_
        refine aw_seq ?_
        refine aw_reg ?_
        refine rs_mv rfl rfl ?_
        refine rs_nil fun _ => ?_
        refine th_n ?_
        refine aw_ret ?_
        first
          | exact ret_pure rfl rfl rfl (.inr rfl)
          | (exfalso; omega)
  · first | replace h5 := of_decide_eq_false h5 | skip
    refine aw_reg ?_
    refine rs_eql rfl rfl rfl ?_
    refine rs_mv rfl rfl ?_
    refine rs_nil fun _ => ?_
    refine th_n ?_
    refine aw_cond rfl (fun h5 => ?_) (fun h5 => ?_)
    · first | replace h5 := of_decide_eq_true h5 | skip
      refine aw_seq ?_
      refine aw_reg ?_
      first | refine rs_ld_pa rfl rfl rfl rfl (Nat.le_of_ble_eq_true rfl) rfl ?_ | refine rs_ld_ra rfl rfl (Nat.le_of_ble_eq_true rfl) rfl ?_ | refine rs_ld_ma rfl rfl rfl (by omega) (Nat.le_of_ble_eq_true rfl) rfl ?_
      refine rs_build rfl rfl ?_
      refine rs_mkif rfl rfl rfl ?_
      refine rs_mv rfl rfl ?_
      refine rs_nil fun _ => ?_
      refine th_n ?_
      refine aw_ret ?_
      refine in_r ?_
      refine th_r ?_
      first
        | exact ret_pure rfl rfl rfl (.inr rfl)
        | (exfalso; omega)
    · first | replace h5 := of_decide_eq_false h5 | skip
      refine aw_seq ?_
      refine aw_reg ?_
      refine rs_eql rfl rfl rfl ?_
      refine rs_mv rfl rfl ?_
      refine rs_nil fun _ => ?_
      refine th_n ?_
      refine aw_cond rfl (fun h11 => ?_) (fun h11 => ?_)
      · first | replace h11 := of_decide_eq_true h11 | skip
        refine aw_seq ?_
        refine aw_reg ?_
        first | refine rs_ld_pa rfl rfl rfl rfl (Nat.le_of_ble_eq_true rfl) rfl ?_ | refine rs_ld_ra rfl rfl (Nat.le_of_ble_eq_true rfl) rfl ?_ | refine rs_ld_ma rfl rfl rfl (by omega) (Nat.le_of_ble_eq_true rfl) rfl ?_
        refine rs_build rfl rfl ?_
        refine rs_mkif rfl rfl rfl ?_
        refine rs_mv rfl rfl ?_
        refine rs_nil fun _ => ?_
        refine th_n ?_
        refine aw_ret ?_
        refine in_r ?_
        refine th_r ?_
        first
          | exact ret_pure rfl rfl rfl (.inr rfl)
          | (exfalso; omega)
      · first | replace h11 := of_decide_eq_false h11 | skip
        refine aw_skip ?_
        refine in_n ?_
        refine th_n ?_
        refine aw_seq ?_
        refine aw_reg ?_
        refine rs_mv rfl rfl ?_
        refine rs_nil fun _ => ?_
        refine th_n ?_
        refine aw_ret ?_
        first
          | exact ret_pure rfl rfl rfl (.inr rfl)
          | (exfalso; omega)

def mc12 : MC := (.seq (.reg [⟨(some 1), (.box 28 11 (.t 0)), none, []⟩, ⟨(some 2), (.mv (.c (.int .i64 0))), none, []⟩] false) (.seq (.reg [⟨(some 6), (.ld true 11 (.t 1)), none, []⟩, ⟨(some 7), (.call 39 [(.t 6)]), none, [0]⟩, ⟨(some 3), (.mv (.t 7)), none, [1, 1, 0, 1]⟩] false) (.seq (.reg [⟨(some 4), (.mv (.c (.int .i64 1))), none, []⟩, ⟨(some 5), (.mv (.c (.int .i64 100))), none, [0, 0]⟩] false) (.seq (.seq (.reg [⟨(some 8), (.fa 0 (.t 1)), none, []⟩, ⟨(some 9), (.ld false 1 (.t 8)), none, [0]⟩, ⟨(some 10), (.bin .eql (.t 9) (.c (.int .i64 1))), none, [1]⟩] false) (.cond (.t 10) (.reg [⟨(some 4), (.mv (.c (.int .i64 0))), none, []⟩, ⟨(some 5), (.mv (.c (.int .i64 0))), none, [0, 0]⟩] false) .skip)) (.seq (.block 0 (.seq (.reg [⟨(some 12), (.mv (.t 3)), none, []⟩, ⟨(some 13), (.ifnil false (.t 12)), none, [0]⟩, ⟨(some 11), (.mv (.t 13)), none, [1]⟩] false) (.cond (.t 11) (.seq (.reg [⟨(some 2), (.mv (.c (.int .i64 16))), none, []⟩] false) .ret) (.seq (.reg [⟨(some 15), (.fa 1 (.t 1)), none, []⟩, ⟨(some 16), (.ld true 3 (.t 15)), none, [0]⟩, ⟨(some 17), (.call 40 [(.t 16)]), none, [1]⟩, ⟨(some 18), (.un .not (.t 17)), none, [2]⟩, ⟨(some 19), (.mv (.t 18)), none, [3, 2]⟩, ⟨(some 20), (.fa 4 (.t 1)), (some (19, false)), [4]⟩, ⟨(some 21), (.ld true 3 (.t 20)), (some (19, false)), [5, 4]⟩, ⟨(some 22), (.call 40 [(.t 21)]), (some (19, false)), [6, 4, 4]⟩, ⟨(some 23), (.un .not (.t 22)), (some (19, false)), [7, 4]⟩, ⟨(some 24), (.pick (.t 19) (.c (.bool true)) (.t 23)), none, [4, 8]⟩, ⟨(some 25), (.mv (.t 24)), none, [9, 7]⟩, ⟨(some 26), (.fa 7 (.t 1)), (some (25, false)), [10]⟩, ⟨(some 27), (.ld true 3 (.t 26)), (some (25, false)), [11, 10]⟩, ⟨(some 28), (.call 40 [(.t 27)]), (some (25, false)), [12, 10, 10]⟩, ⟨(some 29), (.un .not (.t 28)), (some (25, false)), [13, 10]⟩, ⟨(some 30), (.pick (.t 25) (.c (.bool true)) (.t 29)), none, [10, 14]⟩, ⟨(some 31), (.mv (.t 30)), none, [15, 13]⟩, ⟨(some 32), (.fa 10 (.t 1)), (some (31, false)), [16]⟩, ⟨(some 33), (.ld false 1 (.t 32)), (some (31, false)), [17, 16]⟩, ⟨(some 34), (.mv (.t 4)), (some (31, false)), [16]⟩, ⟨(some 35), (.bin .lss (.t 33) (.t 34)), (some (31, false)), [18, 19, 16]⟩, ⟨(some 36), (.pick (.t 31) (.c (.bool true)) (.t 35)), none, [16, 20]⟩, ⟨(some 37), (.mv (.t 36)), none, [21, 16]⟩, ⟨(some 38), (.fa 10 (.t 1)), (some (37, false)), [22]⟩, ⟨(some 39), (.ld false 1 (.t 38)), (some (37, false)), [23, 22]⟩, ⟨(some 40), (.mv (.t 5)), (some (37, false)), [22]⟩, ⟨(some 41), (.bin .gtr (.t 39) (.t 40)), (some (37, false)), [24, 25, 22]⟩, ⟨(some 42), (.pick (.t 37) (.c (.bool true)) (.t 41)), none, [22, 26]⟩, ⟨(some 14), (.mv (.t 42)), none, [27, 22]⟩] false) (.cond (.t 14) (.seq (.reg [⟨(some 2), (.mv (.c (.int .i64 3))), none, []⟩] false) .ret) (.seq (.reg [⟨(some 44), (.mv (.t 3)), none, []⟩, ⟨(some 45), (.inv "collet/move.fits" (.t 44) []), none, [0]⟩, ⟨(some 46), (.un .not (.t 45)), none, [1]⟩, ⟨(some 43), (.mv (.t 46)), none, [2, 1]⟩] false) (.cond (.t 43) (.seq (.reg [⟨(some 2), (.mv (.c (.int .i64 16))), none, []⟩] false) .ret) .skip))))))) (.seq (.reg [⟨(some 2), (.mv (.c (.int .i64 0))), none, []⟩] false) .ret))))))
theorem mcOk12 : (match Try.f12.body with | some c => compC Try.prog 47 c | none => none) = some mc12 := by kernel_rfl

theorem fc12_l (m : Mv) (hk : m.kind = 1 ∨ m.kind = 2) : FC Try.prog 12 [aM m] [] (iv (checkS m)) [] false := by
  refine fc_run (nt := 47) Try.func12 rfl rfl mcOk12 (Nat.le_of_ble_eq_true rfl) ?_
  delta mc12
  refine aw_seq ?_
  refine aw_reg ?_
  refine rs_box rfl rfl rfl rfl rfl rfl ?_
  refine rs_mv rfl rfl ?_
  refine rs_nil fun _ => ?_
  refine th_n ?_
  refine aw_seq ?_
  refine aw_reg ?_
  first | refine rs_ld_pa rfl rfl rfl rfl (Nat.le_of_ble_eq_true rfl) rfl ?_ | refine rs_ld_ra rfl rfl (Nat.le_of_ble_eq_true rfl) rfl ?_ | refine rs_ld_ma rfl rfl rfl (by omega) (Nat.le_of_ble_eq_true rfl) rfl ?_
  refine rs_calln [] rfl rfl (fc39_l m hk) (.cons (hv_same rfl) (.nil)) rfl ?_
  refine rs_mv rfl rfl ?_
  refine rs_nil fun _ => ?_
  refine th_n ?_
  refine aw_seq ?_
  refine aw_reg ?_
  refine rs_mv rfl rfl ?_
  refine rs_mv rfl rfl ?_
  refine rs_nil fun _ => ?_
  refine th_n ?_
  refine aw_seq ?_
  refine aw_seq ?_
  refine aw_reg ?_
  first | refine rs_fa_p rfl rfl ?_ | refine rs_fa_r rfl rfl rfl ?_
  first | refine rs_ld_r rfl rfl rfl ?_ | refine rs_ld_p rfl rfl rfl rfl rfl ?_ | refine rs_ld_m rfl rfl rfl (by omega) rfl ?_
  refine rs_eql rfl rfl rfl ?_
  refine rs_nil fun _ => ?_
  refine th_n ?_
  refine aw_cond rfl (fun h10 => ?_) (fun h10 => ?_)
  · first | replace h10 := of_decide_eq_true h10 | skip
    refine aw_reg ?_
    refine rs_mv rfl rfl ?_
    refine rs_mv rfl rfl ?_
    refine rs_nil fun _ => ?_
    refine th_n ?_
    refine aw_seq ?_
    refine aw_block ?_
    refine aw_seq ?_
    refine aw_reg ?_
    refine rs_mv rfl rfl ?_
    refine rs_ifnil_i rfl rfl ?_
    refine rs_mv rfl rfl ?_
    refine rs_nil fun _ => ?_
    refine th_n ?_
    refine aw_cond rfl (fun h => by cases h) (fun _ => ?_)
    refine aw_seq ?_
    refine aw_reg ?_
    first | refine rs_fa_p rfl rfl ?_ | refine rs_fa_r rfl rfl rfl ?_
    first | refine rs_ld_pa rfl rfl rfl rfl (Nat.le_of_ble_eq_true rfl) rfl ?_ | refine rs_ld_ra rfl rfl (Nat.le_of_ble_eq_true rfl) rfl ?_ | refine rs_ld_ma rfl rfl rfl (by omega) (Nat.le_of_ble_eq_true rfl) rfl ?_
    refine rs_calln [] rfl rfl (fc40 m.fr) (.cons (hv_same rfl) (.nil)) rfl ?_
    refine rs_not rfl rfl ?_
    refine rs_mv rfl rfl ?_
    cases h19 : !inS m.fr
    · skip
      first | refine rs_fa_p rfl rfl ?_ | refine rs_fa_r rfl rfl rfl ?_
      first | refine rs_ld_pa rfl rfl rfl rfl (Nat.le_of_ble_eq_true rfl) rfl ?_ | refine rs_ld_ra rfl rfl (Nat.le_of_ble_eq_true rfl) rfl ?_ | refine rs_ld_ma rfl rfl rfl (by omega) (Nat.le_of_ble_eq_true rfl) rfl ?_
      refine rs_calln [] rfl rfl (fc40 m.to) (.cons (hv_same rfl) (.nil)) rfl ?_
      refine rs_not rfl rfl ?_
      cases h23 : !inS m.to
      · skip
        refine rs_pick rfl rfl rfl ?_
        refine rs_mv rfl rfl ?_
        first | refine rs_fa_p rfl rfl ?_ | refine rs_fa_r rfl rfl rfl ?_
        first | refine rs_ld_pa rfl rfl rfl rfl (Nat.le_of_ble_eq_true rfl) rfl ?_ | refine rs_ld_ra rfl rfl (Nat.le_of_ble_eq_true rfl) rfl ?_ | refine rs_ld_ma rfl rfl rfl (by omega) (Nat.le_of_ble_eq_true rfl) rfl ?_
        refine rs_calln [] rfl rfl (fc40 m.co) (.cons (hv_same rfl) (.nil)) rfl ?_
        refine rs_not rfl rfl ?_
        cases h29 : !inS m.co
        · skip
          refine rs_pick rfl rfl rfl ?_
          refine rs_mv rfl rfl ?_
          first | refine rs_fa_p rfl rfl ?_ | refine rs_fa_r rfl rfl rfl ?_
          first | refine rs_ld_r rfl rfl rfl ?_ | refine rs_ld_p rfl rfl rfl rfl rfl ?_ | refine rs_ld_m rfl rfl rfl (by omega) rfl ?_
          refine rs_mv rfl rfl ?_
          refine rs_cmp rfl rfl rfl rfl (fun h35 => ?_) (fun h35 => ?_)
          · skip
            refine rs_pick rfl rfl rfl ?_
            refine rs_mv rfl rfl ?_
            refine rs_skip rfl ?_
            refine rs_skip rfl ?_
            refine rs_skip rfl ?_
            refine rs_skip rfl ?_
            refine rs_pick rfl rfl rfl ?_
            refine rs_mv rfl rfl ?_
            refine rs_nil fun _ => ?_
            refine th_n ?_
            refine aw_cond rfl (fun _ => ?_) (fun h => by cases h)
            refine aw_seq ?_
            refine aw_reg ?_
            refine rs_mv rfl rfl ?_
            refine rs_nil fun _ => ?_
            refine th_n ?_
            refine aw_ret ?_
            refine in_r ?_
            refine th_r ?_
            first
              | (exfalso; omega)
              | exact ret_pure rfl (congrArg iv (by unfold checkS; simp_all [rangeB]; done)) rfl (.inr rfl)
              | (rcases hk with hk | hk
                 all_goals first
                   | (exfalso; omega)
                   | exact ret_pure rfl (congrArg iv (by unfold checkS; simp_all [rangeB])) rfl (.inr rfl))
          · skip
            refine rs_pick rfl rfl rfl ?_
            refine rs_mv rfl rfl ?_
            first | refine rs_fa_p rfl rfl ?_ | refine rs_fa_r rfl rfl rfl ?_
            first | refine rs_ld_r rfl rfl rfl ?_ | refine rs_ld_p rfl rfl rfl rfl rfl ?_ | refine rs_ld_m rfl rfl rfl (by omega) rfl ?_
            refine rs_mv rfl rfl ?_
            refine rs_cmp rfl rfl rfl rfl (fun h41 => ?_) (fun h41 => ?_)
            · skip
              refine rs_pick rfl rfl rfl ?_
              refine rs_mv rfl rfl ?_
              refine rs_nil fun _ => ?_
              refine th_n ?_
              refine aw_cond rfl (fun _ => ?_) (fun h => by cases h)
              refine aw_seq ?_
              refine aw_reg ?_
              refine rs_mv rfl rfl ?_
              refine rs_nil fun _ => ?_
              refine th_n ?_
              refine aw_ret ?_
              refine in_r ?_
              refine th_r ?_
              first
                | (exfalso; omega)
                | exact ret_pure rfl (congrArg iv (by unfold checkS; simp_all [rangeB]; done)) rfl (.inr rfl)
                | (rcases hk with hk | hk
                   all_goals first
                     | (exfalso; omega)
                     | exact ret_pure rfl (congrArg iv (by unfold checkS; simp_all [rangeB])) rfl (.inr rfl))
            · skip
              refine rs_pick rfl rfl rfl ?_
              refine rs_mv rfl rfl ?_
              refine rs_nil fun _ => ?_
              refine th_n ?_
              refine aw_cond rfl (fun h => by cases h) (fun _ => ?_)
              refine aw_seq ?_
              refine aw_reg ?_
              refine rs_mv rfl rfl ?_
              refine rs_invn [] rfl rfl (by kernel_rfl) (by kernel_rfl) rfl (fc73 m) (.cons (hv_same rfl) (.nil)) rfl ?_
              refine rs_not rfl rfl ?_
              cases h46 : !fitsL m
              · skip
                refine rs_mv rfl rfl ?_
                refine rs_nil fun _ => ?_
                refine th_n ?_
                refine aw_cond rfl (fun h => by cases h) (fun _ => ?_)
                refine aw_skip ?_
                refine in_n ?_
                refine th_n ?_
                refine aw_seq ?_
                refine aw_reg ?_
                refine rs_mv rfl rfl ?_
                refine rs_nil fun _ => ?_
                refine th_n ?_
                refine aw_ret ?_
                first
                  | (exfalso; omega)
                  | exact ret_pure rfl (congrArg iv (by unfold checkS; simp_all [rangeB]; done)) rfl (.inr rfl)
                  | (rcases hk with hk | hk
                     all_goals first
                       | (exfalso; omega)
                       | exact ret_pure rfl (congrArg iv (by unfold checkS; simp_all [rangeB])) rfl (.inr rfl))
              · skip
                refine rs_mv rfl rfl ?_
                refine rs_nil fun _ => ?_
                refine th_n ?_
                refine aw_cond rfl (fun _ => ?_) (fun h => by cases h)
                refine aw_seq ?_
                refine aw_reg ?_
                refine rs_mv rfl rfl ?_
                refine rs_nil fun _ => ?_
                refine th_n ?_
                refine aw_ret ?_
                refine in_r ?_
                refine th_r ?_
                first
                  | (exfalso; omega)
                  | exact ret_pure rfl (congrArg iv (by unfold checkS; simp_all [rangeB]; done)) rfl (.inr rfl)
                  | (rcases hk with hk | hk
                     all_goals first
                       | (exfalso; omega)
                       | exact ret_pure rfl (congrArg iv (by unfold checkS; simp_all [rangeB])) rfl (.inr rfl))
        · skip
          refine rs_pick rfl rfl rfl ?_
          refine rs_mv rfl rfl ?_
          refine rs_skip rfl ?_
          refine rs_skip rfl ?_
          refine rs_skip rfl ?_
          refine rs_skip rfl ?_
          refine rs_pick rfl rfl rfl ?_
          refine rs_mv rfl rfl ?_
          refine rs_skip rfl ?_
          refine rs_skip rfl ?_
          refine rs_skip rfl ?_
          refine rs_skip rfl ?_
          refine rs_pick rfl rfl rfl ?_
          refine rs_mv rfl rfl ?_
          refine rs_nil fun _ => ?_
          refine th_n ?_
          refine aw_cond rfl (fun _ => ?_) (fun h => by cases h)
          refine aw_seq ?_
          refine aw_reg ?_
          refine rs_mv rfl rfl ?_
          refine rs_nil fun _ => ?_
          refine th_n ?_
          refine aw_ret ?_
          refine in_r ?_
          refine th_r ?_
          first
            | (exfalso; omega)
            | exact ret_pure rfl (congrArg iv (by unfold checkS; simp_all [rangeB]; done)) rfl (.inr rfl)
            | (rcases hk with hk | hk
               all_goals first
                 | (exfalso; omega)
                 | exact ret_pure rfl (congrArg iv (by unfold checkS; simp_all [rangeB])) rfl (.inr rfl))
      · skip
        refine rs_pick rfl rfl rfl ?_
        refine rs_mv rfl rfl ?_
        refine rs_skip rfl ?_
        refine rs_skip rfl ?_
        refine rs_skip rfl ?_
        refine rs_skip rfl ?_
        refine rs_pick rfl rfl rfl ?_
        refine rs_mv rfl rfl ?_
        refine rs_skip rfl ?_
        refine rs_skip rfl ?_
        refine rs_skip rfl ?_
        refine rs_skip rfl ?_
        refine rs_pick rfl rfl rfl ?_
        refine rs_mv rfl rfl ?_
        refine rs_skip rfl ?_
        refine rs_skip rfl ?_
        refine rs_skip rfl ?_
        refine rs_skip rfl ?_
        refine rs_pick rfl rfl rfl ?_
        refine rs_mv rfl rfl ?_
        refine rs_nil fun _ => ?_
        refine th_n ?_
        refine aw_cond rfl (fun _ => ?_) (fun h => by cases h)
        refine aw_seq ?_
        refine aw_reg ?_
        refine rs_mv rfl rfl ?_
        refine rs_nil fun _ => ?_
        refine th_n ?_
        refine aw_ret ?_
        refine in_r ?_
        refine th_r ?_
        first
          | (exfalso; omega)
          | exact ret_pure rfl (congrArg iv (by unfold checkS; simp_all [rangeB]; done)) rfl (.inr rfl)
          | (rcases hk with hk | hk
             all_goals first
               | (exfalso; omega)
               | exact ret_pure rfl (congrArg iv (by unfold checkS; simp_all [rangeB])) rfl (.inr rfl))
    · skip
      refine rs_skip rfl ?_
      refine rs_skip rfl ?_
      refine rs_skip rfl ?_
      refine rs_skip rfl ?_
      refine rs_pick rfl rfl rfl ?_
      refine rs_mv rfl rfl ?_
      refine rs_skip rfl ?_
      refine rs_skip rfl ?_
      refine rs_skip rfl ?_
      refine rs_skip rfl ?_
      refine rs_pick rfl rfl rfl ?_
      refine rs_mv rfl rfl ?_
      refine rs_skip rfl ?_
      refine rs_skip rfl ?_
      refine rs_skip rfl ?_
      refine rs_skip rfl ?_
      refine rs_pick rfl rfl rfl ?_
      refine rs_mv rfl rfl ?_
      refine rs_skip rfl ?_
      refine rs_skip rfl ?_
      refine rs_skip rfl ?_
      refine rs_skip rfl ?_
      refine rs_pick rfl rfl rfl ?_
      refine rs_mv rfl rfl ?_
      refine rs_nil fun _ => ?_
      refine th_n ?_
      refine aw_cond rfl (fun _ => ?_) (fun h => by cases h)
      refine aw_seq ?_
      refine aw_reg ?_
      refine rs_mv rfl rfl ?_
      refine rs_nil fun _ => ?_
      refine th_n ?_
      refine aw_ret ?_
      refine in_r ?_
      refine th_r ?_
      first
        | (exfalso; omega)
        | exact ret_pure rfl (congrArg iv (by unfold checkS; simp_all [rangeB]; done)) rfl (.inr rfl)
        | (rcases hk with hk | hk
           all_goals first
             | (exfalso; omega)
             | exact ret_pure rfl (congrArg iv (by unfold checkS; simp_all [rangeB])) rfl (.inr rfl))
  · first | replace h10 := of_decide_eq_false h10 | skip
    refine aw_skip ?_
    refine th_n ?_
    refine aw_seq ?_
    refine aw_block ?_
    refine aw_seq ?_
    refine aw_reg ?_
    refine rs_mv rfl rfl ?_
    refine rs_ifnil_i rfl rfl ?_
    refine rs_mv rfl rfl ?_
    refine rs_nil fun _ => ?_
    refine th_n ?_
    refine aw_cond rfl (fun h => by cases h) (fun _ => ?_)
    refine aw_seq ?_
    refine aw_reg ?_
    first | refine rs_fa_p rfl rfl ?_ | refine rs_fa_r rfl rfl rfl ?_
    first | refine rs_ld_pa rfl rfl rfl rfl (Nat.le_of_ble_eq_true rfl) rfl ?_ | refine rs_ld_ra rfl rfl (Nat.le_of_ble_eq_true rfl) rfl ?_ | refine rs_ld_ma rfl rfl rfl (by omega) (Nat.le_of_ble_eq_true rfl) rfl ?_
    refine rs_calln [] rfl rfl (fc40 m.fr) (.cons (hv_same rfl) (.nil)) rfl ?_
    refine rs_not rfl rfl ?_
    refine rs_mv rfl rfl ?_
    cases h19 : !inS m.fr
    · skip
      first | refine rs_fa_p rfl rfl ?_ | refine rs_fa_r rfl rfl rfl ?_
      first | refine rs_ld_pa rfl rfl rfl rfl (Nat.le_of_ble_eq_true rfl) rfl ?_ | refine rs_ld_ra rfl rfl (Nat.le_of_ble_eq_true rfl) rfl ?_ | refine rs_ld_ma rfl rfl rfl (by omega) (Nat.le_of_ble_eq_true rfl) rfl ?_
      refine rs_calln [] rfl rfl (fc40 m.to) (.cons (hv_same rfl) (.nil)) rfl ?_
      refine rs_not rfl rfl ?_
      cases h23 : !inS m.to
      · skip
        refine rs_pick rfl rfl rfl ?_
        refine rs_mv rfl rfl ?_
        first | refine rs_fa_p rfl rfl ?_ | refine rs_fa_r rfl rfl rfl ?_
        first | refine rs_ld_pa rfl rfl rfl rfl (Nat.le_of_ble_eq_true rfl) rfl ?_ | refine rs_ld_ra rfl rfl (Nat.le_of_ble_eq_true rfl) rfl ?_ | refine rs_ld_ma rfl rfl rfl (by omega) (Nat.le_of_ble_eq_true rfl) rfl ?_
        refine rs_calln [] rfl rfl (fc40 m.co) (.cons (hv_same rfl) (.nil)) rfl ?_
        refine rs_not rfl rfl ?_
        cases h29 : !inS m.co
        · skip
          refine rs_pick rfl rfl rfl ?_
          refine rs_mv rfl rfl ?_
          first | refine rs_fa_p rfl rfl ?_ | refine rs_fa_r rfl rfl rfl ?_
          first | refine rs_ld_r rfl rfl rfl ?_ | refine rs_ld_p rfl rfl rfl rfl rfl ?_ | refine rs_ld_m rfl rfl rfl (by omega) rfl ?_
          refine rs_mv rfl rfl ?_
          refine rs_cmp rfl rfl rfl rfl (fun h35 => ?_) (fun h35 => ?_)
          · skip
            refine rs_pick rfl rfl rfl ?_
            refine rs_mv rfl rfl ?_
            refine rs_skip rfl ?_
            refine rs_skip rfl ?_
            refine rs_skip rfl ?_
            refine rs_skip rfl ?_
            refine rs_pick rfl rfl rfl ?_
            refine rs_mv rfl rfl ?_
            refine rs_nil fun _ => ?_
            refine th_n ?_
            refine aw_cond rfl (fun _ => ?_) (fun h => by cases h)
            refine aw_seq ?_
            refine aw_reg ?_
            refine rs_mv rfl rfl ?_
            refine rs_nil fun _ => ?_
            refine th_n ?_
            refine aw_ret ?_
            refine in_r ?_
            refine th_r ?_
            first
              | (exfalso; omega)
              | exact ret_pure rfl (congrArg iv (by unfold checkS; simp_all [rangeB]; done)) rfl (.inr rfl)
              | (rcases hk with hk | hk
                 all_goals first
                   | (exfalso; omega)
                   | exact ret_pure rfl (congrArg iv (by unfold checkS; simp_all [rangeB])) rfl (.inr rfl))
          · skip
            refine rs_pick rfl rfl rfl ?_
            refine rs_mv rfl rfl ?_
            first | refine rs_fa_p rfl rfl ?_ | refine rs_fa_r rfl rfl rfl ?_
            first | refine rs_ld_r rfl rfl rfl ?_ | refine rs_ld_p rfl rfl rfl rfl rfl ?_ | refine rs_ld_m rfl rfl rfl (by omega) rfl ?_
            refine rs_mv rfl rfl ?_
            refine rs_cmp rfl rfl rfl rfl (fun h41 => ?_) (fun h41 => ?_)
            · skip
              refine rs_pick rfl rfl rfl ?_
              refine rs_mv rfl rfl ?_
              refine rs_nil fun _ => ?_
              refine th_n ?_
              refine aw_cond rfl (fun _ => ?_) (fun h => by cases h)
              refine aw_seq ?_
              refine aw_reg ?_
              refine rs_mv rfl rfl ?_
              refine rs_nil fun _ => ?_
              refine th_n ?_
              refine aw_ret ?_
              refine in_r ?_
              refine th_r ?_
              first
                | (exfalso; omega)
                | exact ret_pure rfl (congrArg iv (by unfold checkS; simp_all [rangeB]; done)) rfl (.inr rfl)
                | (rcases hk with hk | hk
                   all_goals first
                     | (exfalso; omega)
                     | exact ret_pure rfl (congrArg iv (by unfold checkS; simp_all [rangeB])) rfl (.inr rfl))
            · skip
              refine rs_pick rfl rfl rfl ?_
              refine rs_mv rfl rfl ?_
              refine rs_nil fun _ => ?_
              refine th_n ?_
              refine aw_cond rfl (fun h => by cases h) (fun _ => ?_)
              refine aw_seq ?_
              refine aw_reg ?_
              refine rs_mv rfl rfl ?_
              refine rs_invn [] rfl rfl (by kernel_rfl) (by kernel_rfl) rfl (fc73 m) (.cons (hv_same rfl) (.nil)) rfl ?_
              refine rs_not rfl rfl ?_
              cases h46 : !fitsL m
              · skip
                refine rs_mv rfl rfl ?_
                refine rs_nil fun _ => ?_
                refine th_n ?_
                refine aw_cond rfl (fun h => by cases h) (fun _ => ?_)
                refine aw_skip ?_
                refine in_n ?_
                refine th_n ?_
                refine aw_seq ?_
                refine aw_reg ?_
                refine rs_mv rfl rfl ?_
                refine rs_nil fun _ => ?_
                refine th_n ?_
                refine aw_ret ?_
                first
                  | (exfalso; omega)
                  | exact ret_pure rfl (congrArg iv (by unfold checkS; simp_all [rangeB]; done)) rfl (.inr rfl)
                  | (rcases hk with hk | hk
                     all_goals first
                       | (exfalso; omega)
                       | exact ret_pure rfl (congrArg iv (by unfold checkS; simp_all [rangeB])) rfl (.inr rfl))
              · skip
                refine rs_mv rfl rfl ?_
                refine rs_nil fun _ => ?_
                refine th_n ?_
                refine aw_cond rfl (fun _ => ?_) (fun h => by cases h)
                refine aw_seq ?_
                refine aw_reg ?_
                refine rs_mv rfl rfl ?_
                refine rs_nil fun _ => ?_
                refine th_n ?_
                refine aw_ret ?_
                refine in_r ?_
                refine th_r ?_
                first
                  | (exfalso; omega)
                  | exact ret_pure rfl (congrArg iv (by unfold checkS; simp_all [rangeB]; done)) rfl (.inr rfl)
                  | (rcases hk with hk | hk
                     all_goals first
                       | (exfalso; omega)
                       | exact ret_pure rfl (congrArg iv (by unfold checkS; simp_all [rangeB])) rfl (.inr rfl))
        · skip
          refine rs_pick rfl rfl rfl ?_
          refine rs_mv rfl rfl ?_
          refine rs_skip rfl ?_
          refine rs_skip rfl ?_
          refine rs_skip rfl ?_
          refine rs_skip rfl ?_
          refine rs_pick rfl rfl rfl ?_
          refine rs_mv rfl rfl ?_
          refine rs_skip rfl ?_
          refine rs_skip rfl ?_
          refine rs_skip rfl ?_
          refine rs_skip rfl ?_
          refine rs_pick rfl rfl rfl ?_
          refine rs_mv rfl rfl ?_
          refine rs_nil fun _ => ?_
          refine th_n ?_
          refine aw_cond rfl (fun _ => ?_) (fun h => by cases h)
          refine aw_seq ?_
          refine aw_reg ?_
          refine rs_mv rfl rfl ?_
          refine rs_nil fun _ => ?_
          refine th_n ?_
          refine aw_ret ?_
          refine in_r ?_
          refine th_r ?_
          first
            | (exfalso; omega)
            | exact ret_pure rfl (congrArg iv (by unfold checkS; simp_all [rangeB]; done)) rfl (.inr rfl)
            | (rcases hk with hk | hk
               all_goals first
                 | (exfalso; omega)
                 | exact ret_pure rfl (congrArg iv (by unfold checkS; simp_all [rangeB])) rfl (.inr rfl))
      · skip
        refine rs_pick rfl rfl rfl ?_
        refine rs_mv rfl rfl ?_
        refine rs_skip rfl ?_
        refine rs_skip rfl ?_
        refine rs_skip rfl ?_
        refine rs_skip rfl ?_
        refine rs_pick rfl rfl rfl ?_
        refine rs_mv rfl rfl ?_
        refine rs_skip rfl ?_
        refine rs_skip rfl ?_
        refine rs_skip rfl ?_
        refine rs_skip rfl ?_
        refine rs_pick rfl rfl rfl ?_
        refine rs_mv rfl rfl ?_
        refine rs_skip rfl ?_
        refine rs_skip rfl ?_
        refine rs_skip rfl ?_
        refine rs_skip rfl ?_
        refine rs_pick rfl rfl rfl ?_
        refine rs_mv rfl rfl ?_
        refine rs_nil fun _ => ?_
        refine th_n ?_
        refine aw_cond rfl (fun _ => ?_) (fun h => by cases h)
        refine aw_seq ?_
        refine aw_reg ?_
        refine rs_mv rfl rfl ?_
        refine rs_nil fun _ => ?_
        refine th_n ?_
        refine aw_ret ?_
        refine in_r ?_
        refine th_r ?_
        first
          | (exfalso; omega)
          | exact ret_pure rfl (congrArg iv (by unfold checkS; simp_all [rangeB]; done)) rfl (.inr rfl)
          | (rcases hk with hk | hk
             all_goals first
               | (exfalso; omega)
               | exact ret_pure rfl (congrArg iv (by unfold checkS; simp_all [rangeB])) rfl (.inr rfl))
    · skip
      refine rs_skip rfl ?_
      refine rs_skip rfl ?_
      refine rs_skip rfl ?_
      refine rs_skip rfl ?_
      refine rs_pick rfl rfl rfl ?_
      refine rs_mv rfl rfl ?_
      refine rs_skip rfl ?_
      refine rs_skip rfl ?_
      refine rs_skip rfl ?_
      refine rs_skip rfl ?_
      refine rs_pick rfl rfl rfl ?_
      refine rs_mv rfl rfl ?_
      refine rs_skip rfl ?_
      refine rs_skip rfl ?_
      refine rs_skip rfl ?_
      refine rs_skip rfl ?_
      refine rs_pick rfl rfl rfl ?_
      refine rs_mv rfl rfl ?_
      refine rs_skip rfl ?_
      refine rs_skip rfl ?_
      refine rs_skip rfl ?_
      refine rs_skip rfl ?_
      refine rs_pick rfl rfl rfl ?_
      refine rs_mv rfl rfl ?_
      refine rs_nil fun _ => ?_
      refine th_n ?_
      refine aw_cond rfl (fun _ => ?_) (fun h => by cases h)
      refine aw_seq ?_
      refine aw_reg ?_
      refine rs_mv rfl rfl ?_
      refine rs_nil fun _ => ?_
      refine th_n ?_
      refine aw_ret ?_
      refine in_r ?_
      refine th_r ?_
      first
        | (exfalso; omega)
        | exact ret_pure rfl (congrArg iv (by unfold checkS; simp_all [rangeB]; done)) rfl (.inr rfl)
        | (rcases hk with hk | hk
           all_goals first
             | (exfalso; omega)
             | exact ret_pure rfl (congrArg iv (by unfold checkS; simp_all [rangeB])) rfl (.inr rfl))

theorem fc12_a (m : Mv) (hk : m.kind = 3) : FC Try.prog 12 [aM m] [] (iv (checkS m)) [] false := by
  refine fc_run (nt := 47) Try.func12 rfl rfl mcOk12 (Nat.le_of_ble_eq_true rfl) ?_
  delta mc12
  refine aw_seq ?_
  refine aw_reg ?_
  refine rs_box rfl rfl rfl rfl rfl rfl ?_
  refine rs_mv rfl rfl ?_
  refine rs_nil fun _ => ?_
  refine th_n ?_
  refine aw_seq ?_
  refine aw_reg ?_
  first | refine rs_ld_pa rfl rfl rfl rfl (Nat.le_of_ble_eq_true rfl) rfl ?_ | refine rs_ld_ra rfl rfl (Nat.le_of_ble_eq_true rfl) rfl ?_ | refine rs_ld_ma rfl rfl rfl (by omega) (Nat.le_of_ble_eq_true rfl) rfl ?_
  refine rs_calln [] rfl rfl (fc39_a m hk) (.cons (hv_same rfl) (.nil)) rfl ?_
  refine rs_mv rfl rfl ?_
  refine rs_nil fun _ => ?_
  refine th_n ?_
  refine aw_seq ?_
  refine aw_reg ?_
  refine rs_mv rfl rfl ?_
  refine rs_mv rfl rfl ?_
  refine rs_nil fun _ => ?_
  refine th_n ?_
  refine aw_seq ?_
  refine aw_seq ?_
  refine aw_reg ?_
  first | refine rs_fa_p rfl rfl ?_ | refine rs_fa_r rfl rfl rfl ?_
  first | refine rs_ld_r rfl rfl rfl ?_ | refine rs_ld_p rfl rfl rfl rfl rfl ?_ | refine rs_ld_m rfl rfl rfl (by omega) rfl ?_
  refine rs_eql rfl rfl rfl ?_
  refine rs_nil fun _ => ?_
  refine th_n ?_
  refine aw_cond rfl (fun h10 => ?_) (fun h10 => ?_)
  · first | replace h10 := of_decide_eq_true h10 | skip
    refine aw_reg ?_
    refine rs_mv rfl rfl ?_
    refine rs_mv rfl rfl ?_
    refine rs_nil fun _ => ?_
    refine th_n ?_
    refine aw_seq ?_
    refine aw_block ?_
    refine aw_seq ?_
    refine aw_reg ?_
    refine rs_mv rfl rfl ?_
    refine rs_ifnil_i rfl rfl ?_
    refine rs_mv rfl rfl ?_
    refine rs_nil fun _ => ?_
    refine th_n ?_
    refine aw_cond rfl (fun h => by cases h) (fun _ => ?_)
    refine aw_seq ?_
    refine aw_reg ?_
    first | refine rs_fa_p rfl rfl ?_ | refine rs_fa_r rfl rfl rfl ?_
    first | refine rs_ld_pa rfl rfl rfl rfl (Nat.le_of_ble_eq_true rfl) rfl ?_ | refine rs_ld_ra rfl rfl (Nat.le_of_ble_eq_true rfl) rfl ?_ | refine rs_ld_ma rfl rfl rfl (by omega) (Nat.le_of_ble_eq_true rfl) rfl ?_
    refine rs_calln [] rfl rfl (fc40 m.fr) (.cons (hv_same rfl) (.nil)) rfl ?_
    refine rs_not rfl rfl ?_
    refine rs_mv rfl rfl ?_
    cases h19 : !inS m.fr
    · skip
      first | refine rs_fa_p rfl rfl ?_ | refine rs_fa_r rfl rfl rfl ?_
      first | refine rs_ld_pa rfl rfl rfl rfl (Nat.le_of_ble_eq_true rfl) rfl ?_ | refine rs_ld_ra rfl rfl (Nat.le_of_ble_eq_true rfl) rfl ?_ | refine rs_ld_ma rfl rfl rfl (by omega) (Nat.le_of_ble_eq_true rfl) rfl ?_
      refine rs_calln [] rfl rfl (fc40 m.to) (.cons (hv_same rfl) (.nil)) rfl ?_
      refine rs_not rfl rfl ?_
      cases h23 : !inS m.to
      · skip
        refine rs_pick rfl rfl rfl ?_
        refine rs_mv rfl rfl ?_
        first | refine rs_fa_p rfl rfl ?_ | refine rs_fa_r rfl rfl rfl ?_
        first | refine rs_ld_pa rfl rfl rfl rfl (Nat.le_of_ble_eq_true rfl) rfl ?_ | refine rs_ld_ra rfl rfl (Nat.le_of_ble_eq_true rfl) rfl ?_ | refine rs_ld_ma rfl rfl rfl (by omega) (Nat.le_of_ble_eq_true rfl) rfl ?_
        refine rs_calln [] rfl rfl (fc40 m.co) (.cons (hv_same rfl) (.nil)) rfl ?_
        refine rs_not rfl rfl ?_
        cases h29 : !inS m.co
        · skip
          refine rs_pick rfl rfl rfl ?_
          refine rs_mv rfl rfl ?_
          first | refine rs_fa_p rfl rfl ?_ | refine rs_fa_r rfl rfl rfl ?_
          first | refine rs_ld_r rfl rfl rfl ?_ | refine rs_ld_p rfl rfl rfl rfl rfl ?_ | refine rs_ld_m rfl rfl rfl (by omega) rfl ?_
          refine rs_mv rfl rfl ?_
          refine rs_cmp rfl rfl rfl rfl (fun h35 => ?_) (fun h35 => ?_)
          · skip
            refine rs_pick rfl rfl rfl ?_
            refine rs_mv rfl rfl ?_
            refine rs_skip rfl ?_
            refine rs_skip rfl ?_
            refine rs_skip rfl ?_
            refine rs_skip rfl ?_
            refine rs_pick rfl rfl rfl ?_
            refine rs_mv rfl rfl ?_
            refine rs_nil fun _ => ?_
            refine th_n ?_
            refine aw_cond rfl (fun _ => ?_) (fun h => by cases h)
            refine aw_seq ?_
            refine aw_reg ?_
            refine rs_mv rfl rfl ?_
            refine rs_nil fun _ => ?_
            refine th_n ?_
            refine aw_ret ?_
            refine in_r ?_
            refine th_r ?_
            first
              | (exfalso; omega)
              | exact ret_pure rfl (congrArg iv (by unfold checkS; simp_all [rangeB]; done)) rfl (.inr rfl)
              | (rcases hk with hk | hk
                 all_goals first
                   | (exfalso; omega)
                   | exact ret_pure rfl (congrArg iv (by unfold checkS; simp_all [rangeB])) rfl (.inr rfl))
          · skip
            refine rs_pick rfl rfl rfl ?_
            refine rs_mv rfl rfl ?_
            first | refine rs_fa_p rfl rfl ?_ | refine rs_fa_r rfl rfl rfl ?_
            first | refine rs_ld_r rfl rfl rfl ?_ | refine rs_ld_p rfl rfl rfl rfl rfl ?_ | refine rs_ld_m rfl rfl rfl (by omega) rfl ?_
            refine rs_mv rfl rfl ?_
            refine rs_cmp rfl rfl rfl rfl (fun h41 => ?_) (fun h41 => ?_)
            · skip
              refine rs_pick rfl rfl rfl ?_
              refine rs_mv rfl rfl ?_
              refine rs_nil fun _ => ?_
              refine th_n ?_
              refine aw_cond rfl (fun _ => ?_) (fun h => by cases h)
              refine aw_seq ?_
              refine aw_reg ?_
              refine rs_mv rfl rfl ?_
              refine rs_nil fun _ => ?_
              refine th_n ?_
              refine aw_ret ?_
              refine in_r ?_
              refine th_r ?_
              first
                | (exfalso; omega)
                | exact ret_pure rfl (congrArg iv (by unfold checkS; simp_all [rangeB]; done)) rfl (.inr rfl)
                | (rcases hk with hk | hk
                   all_goals first
                     | (exfalso; omega)
                     | exact ret_pure rfl (congrArg iv (by unfold checkS; simp_all [rangeB])) rfl (.inr rfl))
            · skip
              refine rs_pick rfl rfl rfl ?_
              refine rs_mv rfl rfl ?_
              refine rs_nil fun _ => ?_
              refine th_n ?_
              refine aw_cond rfl (fun h => by cases h) (fun _ => ?_)
              refine aw_seq ?_
              refine aw_reg ?_
              refine rs_mv rfl rfl ?_
              refine rs_invn [] rfl rfl (by kernel_rfl) (by kernel_rfl) rfl (fc79 m (inM_of h19 h23 h29)) (.cons (hv_same rfl) (.nil)) rfl ?_
              refine rs_not rfl rfl ?_
              cases h46 : !fitsA m
              · skip
                refine rs_mv rfl rfl ?_
                refine rs_nil fun _ => ?_
                refine th_n ?_
                refine aw_cond rfl (fun h => by cases h) (fun _ => ?_)
                refine aw_skip ?_
                refine in_n ?_
                refine th_n ?_
                refine aw_seq ?_
                refine aw_reg ?_
                refine rs_mv rfl rfl ?_
                refine rs_nil fun _ => ?_
                refine th_n ?_
                refine aw_ret ?_
                first
                  | (exfalso; omega)
                  | exact ret_pure rfl (congrArg iv (by unfold checkS; simp_all [rangeB]; done)) rfl (.inr rfl)
                  | (rcases hk with hk | hk
                     all_goals first
                       | (exfalso; omega)
                       | exact ret_pure rfl (congrArg iv (by unfold checkS; simp_all [rangeB])) rfl (.inr rfl))
              · skip
                refine rs_mv rfl rfl ?_
                refine rs_nil fun _ => ?_
                refine th_n ?_
                refine aw_cond rfl (fun _ => ?_) (fun h => by cases h)
                refine aw_seq ?_
                refine aw_reg ?_
                refine rs_mv rfl rfl ?_
                refine rs_nil fun _ => ?_
                refine th_n ?_
                refine aw_ret ?_
                refine in_r ?_
                refine th_r ?_
                first
                  | (exfalso; omega)
                  | exact ret_pure rfl (congrArg iv (by unfold checkS; simp_all [rangeB]; done)) rfl (.inr rfl)
                  | (rcases hk with hk | hk
                     all_goals first
                       | (exfalso; omega)
                       | exact ret_pure rfl (congrArg iv (by unfold checkS; simp_all [rangeB])) rfl (.inr rfl))
        · skip
          refine rs_pick rfl rfl rfl ?_
          refine rs_mv rfl rfl ?_
          refine rs_skip rfl ?_
          refine rs_skip rfl ?_
          refine rs_skip rfl ?_
          refine rs_skip rfl ?_
          refine rs_pick rfl rfl rfl ?_
          refine rs_mv rfl rfl ?_
          refine rs_skip rfl ?_
          refine rs_skip rfl ?_
          refine rs_skip rfl ?_
          refine rs_skip rfl ?_
          refine rs_pick rfl rfl rfl ?_
          refine rs_mv rfl rfl ?_
          refine rs_nil fun _ => ?_
          refine th_n ?_
          refine aw_cond rfl (fun _ => ?_) (fun h => by cases h)
          refine aw_seq ?_
          refine aw_reg ?_
          refine rs_mv rfl rfl ?_
          refine rs_nil fun _ => ?_
          refine th_n ?_
          refine aw_ret ?_
          refine in_r ?_
          refine th_r ?_
          first
            | (exfalso; omega)
            | exact ret_pure rfl (congrArg iv (by unfold checkS; simp_all [rangeB]; done)) rfl (.inr rfl)
            | (rcases hk with hk | hk
               all_goals first
                 | (exfalso; omega)
                 | exact ret_pure rfl (congrArg iv (by unfold checkS; simp_all [rangeB])) rfl (.inr rfl))
      · skip
        refine rs_pick rfl rfl rfl ?_
        refine rs_mv rfl rfl ?_
        refine rs_skip rfl ?_
        refine rs_skip rfl ?_
        refine rs_skip rfl ?_
        refine rs_skip rfl ?_
        refine rs_pick rfl rfl rfl ?_
        refine rs_mv rfl rfl ?_
        refine rs_skip rfl ?_
        refine rs_skip rfl ?_
        refine rs_skip rfl ?_
        refine rs_skip rfl ?_
        refine rs_pick rfl rfl rfl ?_
        refine rs_mv rfl rfl ?_
        refine rs_skip rfl ?_
        refine rs_skip rfl ?_
        refine rs_skip rfl ?_
        refine rs_skip rfl ?_
        refine rs_pick rfl rfl rfl ?_
        refine rs_mv rfl rfl ?_
        refine rs_nil fun _ => ?_
        refine th_n ?_
        refine aw_cond rfl (fun _ => ?_) (fun h => by cases h)
        refine aw_seq ?_
        refine aw_reg ?_
        refine rs_mv rfl rfl ?_
        refine rs_nil fun _ => ?_
        refine th_n ?_
        refine aw_ret ?_
        refine in_r ?_
        refine th_r ?_
        first
          | (exfalso; omega)
          | exact ret_pure rfl (congrArg iv (by unfold checkS; simp_all [rangeB]; done)) rfl (.inr rfl)
          | (rcases hk with hk | hk
             all_goals first
               | (exfalso; omega)
               | exact ret_pure rfl (congrArg iv (by unfold checkS; simp_all [rangeB])) rfl (.inr rfl))
    · skip
      refine rs_skip rfl ?_
      refine rs_skip rfl ?_
      refine rs_skip rfl ?_
      refine rs_skip rfl ?_
      refine rs_pick rfl rfl rfl ?_
      refine rs_mv rfl rfl ?_
      refine rs_skip rfl ?_
      refine rs_skip rfl ?_
      refine rs_skip rfl ?_
      refine rs_skip rfl ?_
      refine rs_pick rfl rfl rfl ?_
      refine rs_mv rfl rfl ?_
      refine rs_skip rfl ?_
      refine rs_skip rfl ?_
      refine rs_skip rfl ?_
      refine rs_skip rfl ?_
      refine rs_pick rfl rfl rfl ?_
      refine rs_mv rfl rfl ?_
      refine rs_skip rfl ?_
      refine rs_skip rfl ?_
      refine rs_skip rfl ?_
      refine rs_skip rfl ?_
      refine rs_pick rfl rfl rfl ?_
      refine rs_mv rfl rfl ?_
      refine rs_nil fun _ => ?_
      refine th_n ?_
      refine aw_cond rfl (fun _ => ?_) (fun h => by cases h)
      refine aw_seq ?_
      refine aw_reg ?_
      refine rs_mv rfl rfl ?_
      refine rs_nil fun _ => ?_
      refine th_n ?_
      refine aw_ret ?_
      refine in_r ?_
      refine th_r ?_
      first
        | (exfalso; omega)
        | exact ret_pure rfl (congrArg iv (by unfold checkS; simp_all [rangeB]; done)) rfl (.inr rfl)
        | (rcases hk with hk | hk
           all_goals first
             | (exfalso; omega)
             | exact ret_pure rfl (congrArg iv (by unfold checkS; simp_all [rangeB])) rfl (.inr rfl))
  · first | replace h10 := of_decide_eq_false h10 | skip
    refine aw_skip ?_
    refine th_n ?_
    refine aw_seq ?_
    refine aw_block ?_
    refine aw_seq ?_
    refine aw_reg ?_
    refine rs_mv rfl rfl ?_
    refine rs_ifnil_i rfl rfl ?_
    refine rs_mv rfl rfl ?_
    refine rs_nil fun _ => ?_
    refine th_n ?_
    refine aw_cond rfl (fun h => by cases h) (fun _ => ?_)
    refine aw_seq ?_
    refine aw_reg ?_
    first | refine rs_fa_p rfl rfl ?_ | refine rs_fa_r rfl rfl rfl ?_
    first | refine rs_ld_pa rfl rfl rfl rfl (Nat.le_of_ble_eq_true rfl) rfl ?_ | refine rs_ld_ra rfl rfl (Nat.le_of_ble_eq_true rfl) rfl ?_ | refine rs_ld_ma rfl rfl rfl (by omega) (Nat.le_of_ble_eq_true rfl) rfl ?_
    refine rs_calln [] rfl rfl (fc40 m.fr) (.cons (hv_same rfl) (.nil)) rfl ?_
    refine rs_not rfl rfl ?_
    refine rs_mv rfl rfl ?_
    cases h19 : !inS m.fr
    · skip
      first | refine rs_fa_p rfl rfl ?_ | refine rs_fa_r rfl rfl rfl ?_
      first | refine rs_ld_pa rfl rfl rfl rfl (Nat.le_of_ble_eq_true rfl) rfl ?_ | refine rs_ld_ra rfl rfl (Nat.le_of_ble_eq_true rfl) rfl ?_ | refine rs_ld_ma rfl rfl rfl (by omega) (Nat.le_of_ble_eq_true rfl) rfl ?_
      refine rs_calln [] rfl rfl (fc40 m.to) (.cons (hv_same rfl) (.nil)) rfl ?_
      refine rs_not rfl rfl ?_
      cases h23 : !inS m.to
      · skip
        refine rs_pick rfl rfl rfl ?_
        refine rs_mv rfl rfl ?_
        first | refine rs_fa_p rfl rfl ?_ | refine rs_fa_r rfl rfl rfl ?_
        first | refine rs_ld_pa rfl rfl rfl rfl (Nat.le_of_ble_eq_true rfl) rfl ?_ | refine rs_ld_ra rfl rfl (Nat.le_of_ble_eq_true rfl) rfl ?_ | refine rs_ld_ma rfl rfl rfl (by omega) (Nat.le_of_ble_eq_true rfl) rfl ?_
        refine rs_calln [] rfl rfl (fc40 m.co) (.cons (hv_same rfl) (.nil)) rfl ?_
        refine rs_not rfl rfl ?_
        cases h29 : !inS m.co
        · skip
          refine rs_pick rfl rfl rfl ?_
          refine rs_mv rfl rfl ?_
          first | refine rs_fa_p rfl rfl ?_ | refine rs_fa_r rfl rfl rfl ?_
          first | refine rs_ld_r rfl rfl rfl ?_ | refine rs_ld_p rfl rfl rfl rfl rfl ?_ | refine rs_ld_m rfl rfl rfl (by omega) rfl ?_
          refine rs_mv rfl rfl ?_
          refine rs_cmp rfl rfl rfl rfl (fun h35 => ?_) (fun h35 => ?_)
          · skip
            refine rs_pick rfl rfl rfl ?_
            refine rs_mv rfl rfl ?_
            refine rs_skip rfl ?_
            refine rs_skip rfl ?_
            refine rs_skip rfl ?_
            refine rs_skip rfl ?_
            refine rs_pick rfl rfl rfl ?_
            refine rs_mv rfl rfl ?_
            refine rs_nil fun _ => ?_
            refine th_n ?_
            refine aw_cond rfl (fun _ => ?_) (fun h => by cases h)
            refine aw_seq ?_
            refine aw_reg ?_
            refine rs_mv rfl rfl ?_
            refine rs_nil fun _ => ?_
            refine th_n ?_
            refine aw_ret ?_
            refine in_r ?_
            refine th_r ?_
            first
              | (exfalso; omega)
              | exact ret_pure rfl (congrArg iv (by unfold checkS; simp_all [rangeB]; done)) rfl (.inr rfl)
              | (rcases hk with hk | hk
                 all_goals first
                   | (exfalso; omega)
                   | exact ret_pure rfl (congrArg iv (by unfold checkS; simp_all [rangeB])) rfl (.inr rfl))
          · skip
            refine rs_pick rfl rfl rfl ?_
            refine rs_mv rfl rfl ?_
            first | refine rs_fa_p rfl rfl ?_ | refine rs_fa_r rfl rfl rfl ?_
            first | refine rs_ld_r rfl rfl rfl ?_ | refine rs_ld_p rfl rfl rfl rfl rfl ?_ | refine rs_ld_m rfl rfl rfl (by omega) rfl ?_
            refine rs_mv rfl rfl ?_
            refine rs_cmp rfl rfl rfl rfl (fun h41 => ?_) (fun h41 => ?_)
            · skip
              refine rs_pick rfl rfl rfl ?_
              refine rs_mv rfl rfl ?_
              refine rs_nil fun _ => ?_
              refine th_n ?_
              refine aw_cond rfl (fun _ => ?_) (fun h => by cases h)
              refine aw_seq ?_
              refine aw_reg ?_
              refine rs_mv rfl rfl ?_
              refine rs_nil fun _ => ?_
              refine th_n ?_
              refine aw_ret ?_
              refine in_r ?_
              refine th_r ?_
              first
                | (exfalso; omega)
                | exact ret_pure rfl (congrArg iv (by unfold checkS; simp_all [rangeB]; done)) rfl (.inr rfl)
                | (rcases hk with hk | hk
                   all_goals first
                     | (exfalso; omega)
                     | exact ret_pure rfl (congrArg iv (by unfold checkS; simp_all [rangeB])) rfl (.inr rfl))
            · skip
              refine rs_pick rfl rfl rfl ?_
              refine rs_mv rfl rfl ?_
              refine rs_nil fun _ => ?_
              refine th_n ?_
              refine aw_cond rfl (fun h => by cases h) (fun _ => ?_)
              refine aw_seq ?_
              refine aw_reg ?_
              refine rs_mv rfl rfl ?_
              refine rs_invn [] rfl rfl (by kernel_rfl) (by kernel_rfl) rfl (fc79 m (inM_of h19 h23 h29)) (.cons (hv_same rfl) (.nil)) rfl ?_
              refine rs_not rfl rfl ?_
              cases h46 : !fitsA m
              · skip
                refine rs_mv rfl rfl ?_
                refine rs_nil fun _ => ?_
                refine th_n ?_
                refine aw_cond rfl (fun h => by cases h) (fun _ => ?_)
                refine aw_skip ?_
                refine in_n ?_
                refine th_n ?_
                refine aw_seq ?_
                refine aw_reg ?_
                refine rs_mv rfl rfl ?_
                refine rs_nil fun _ => ?_
                refine th_n ?_
                refine aw_ret ?_
                first
                  | (exfalso; omega)
                  | exact ret_pure rfl (congrArg iv (by unfold checkS; simp_all [rangeB]; done)) rfl (.inr rfl)
                  | (rcases hk with hk | hk
                     all_goals first
                       | (exfalso; omega)
                       | exact ret_pure rfl (congrArg iv (by unfold checkS; simp_all [rangeB])) rfl (.inr rfl))
              · skip
                refine rs_mv rfl rfl ?_
                refine rs_nil fun _ => ?_
                refine th_n ?_
                refine aw_cond rfl (fun _ => ?_) (fun h => by cases h)
                refine aw_seq ?_
                refine aw_reg ?_
                refine rs_mv rfl rfl ?_
                refine rs_nil fun _ => ?_
                refine th_n ?_
                refine aw_ret ?_
                refine in_r ?_
                refine th_r ?_
                first
                  | (exfalso; omega)
                  | exact ret_pure rfl (congrArg iv (by unfold checkS; simp_all [rangeB]; done)) rfl (.inr rfl)
                  | (rcases hk with hk | hk
                     all_goals first
                       | (exfalso; omega)
                       | exact ret_pure rfl (congrArg iv (by unfold checkS; simp_all [rangeB])) rfl (.inr rfl))
        · skip
          refine rs_pick rfl rfl rfl ?_
          refine rs_mv rfl rfl ?_
          refine rs_skip rfl ?_
          refine rs_skip rfl ?_
          refine rs_skip rfl ?_
          refine rs_skip rfl ?_
          refine rs_pick rfl rfl rfl ?_
          refine rs_mv rfl rfl ?_
          refine rs_skip rfl ?_
          refine rs_skip rfl ?_
          refine rs_skip rfl ?_
          refine rs_skip rfl ?_
          refine rs_pick rfl rfl rfl ?_
          refine rs_mv rfl rfl ?_
          refine rs_nil fun _ => ?_
          refine th_n ?_
          refine aw_cond rfl (fun _ => ?_) (fun h => by cases h)
          refine aw_seq ?_
          refine aw_reg ?_
          refine rs_mv rfl rfl ?_
          refine rs_nil fun _ => ?_
          refine th_n ?_
          refine aw_ret ?_
          refine in_r ?_
          refine th_r ?_
          first
            | (exfalso; omega)
            | exact ret_pure rfl (congrArg iv (by unfold checkS; simp_all [rangeB]; done)) rfl (.inr rfl)
            | (rcases hk with hk | hk
               all_goals first
                 | (exfalso; omega)
                 | exact ret_pure rfl (congrArg iv (by unfold checkS; simp_all [rangeB])) rfl (.inr rfl))
      · skip
        refine rs_pick rfl rfl rfl ?_
        refine rs_mv rfl rfl ?_
        refine rs_skip rfl ?_
        refine rs_skip rfl ?_
        refine rs_skip rfl ?_
        refine rs_skip rfl ?_
        refine rs_pick rfl rfl rfl ?_
        refine rs_mv rfl rfl ?_
        refine rs_skip rfl ?_
        refine rs_skip rfl ?_
        refine rs_skip rfl ?_
        refine rs_skip rfl ?_
        refine rs_pick rfl rfl rfl ?_
        refine rs_mv rfl rfl ?_
        refine rs_skip rfl ?_
        refine rs_skip rfl ?_
        refine rs_skip rfl ?_
        refine rs_skip rfl ?_
        refine rs_pick rfl rfl rfl ?_
        refine rs_mv rfl rfl ?_
        refine rs_nil fun _ => ?_
        refine th_n ?_
        refine aw_cond rfl (fun _ => ?_) (fun h => by cases h)
        refine aw_seq ?_
        refine aw_reg ?_
        refine rs_mv rfl rfl ?_
        refine rs_nil fun _ => ?_
        refine th_n ?_
        refine aw_ret ?_
        refine in_r ?_
        refine th_r ?_
        first
          | (exfalso; omega)
          | exact ret_pure rfl (congrArg iv (by unfold checkS; simp_all [rangeB]; done)) rfl (.inr rfl)
          | (rcases hk with hk | hk
             all_goals first
               | (exfalso; omega)
               | exact ret_pure rfl (congrArg iv (by unfold checkS; simp_all [rangeB])) rfl (.inr rfl))
    · skip
      refine rs_skip rfl ?_
      refine rs_skip rfl ?_
      refine rs_skip rfl ?_
      refine rs_skip rfl ?_
      refine rs_pick rfl rfl rfl ?_
      refine rs_mv rfl rfl ?_
      refine rs_skip rfl ?_
      refine rs_skip rfl ?_
      refine rs_skip rfl ?_
      refine rs_skip rfl ?_
      refine rs_pick rfl rfl rfl ?_
      refine rs_mv rfl rfl ?_
      refine rs_skip rfl ?_
      refine rs_skip rfl ?_
      refine rs_skip rfl ?_
      refine rs_skip rfl ?_
      refine rs_pick rfl rfl rfl ?_
      refine rs_mv rfl rfl ?_
      refine rs_skip rfl ?_
      refine rs_skip rfl ?_
      refine rs_skip rfl ?_
      refine rs_skip rfl ?_
      refine rs_pick rfl rfl rfl ?_
      refine rs_mv rfl rfl ?_
      refine rs_nil fun _ => ?_
      refine th_n ?_
      refine aw_cond rfl (fun _ => ?_) (fun h => by cases h)
      refine aw_seq ?_
      refine aw_reg ?_
      refine rs_mv rfl rfl ?_
      refine rs_nil fun _ => ?_
      refine th_n ?_
      refine aw_ret ?_
      refine in_r ?_
      refine th_r ?_
      first
        | (exfalso; omega)
        | exact ret_pure rfl (congrArg iv (by unfold checkS; simp_all [rangeB]; done)) rfl (.inr rfl)
        | (rcases hk with hk | hk
           all_goals first
             | (exfalso; omega)
             | exact ret_pure rfl (congrArg iv (by unfold checkS; simp_all [rangeB])) rfl (.inr rfl))

theorem fc12_n (m : Mv) (hk : ¬ m.kind = 1 ∧ ¬ m.kind = 2 ∧ ¬ m.kind = 3) : FC Try.prog 12 [aM m] [] (iv (checkS m)) [] false := by
  refine fc_run (nt := 47) Try.func12 rfl rfl mcOk12 (Nat.le_of_ble_eq_true rfl) ?_
  delta mc12
  refine aw_seq ?_
  refine aw_reg ?_
  refine rs_box rfl rfl rfl rfl rfl rfl ?_
  refine rs_mv rfl rfl ?_
  refine rs_nil fun _ => ?_
  refine th_n ?_
  refine aw_seq ?_
  refine aw_reg ?_
  first | refine rs_ld_pa rfl rfl rfl rfl (Nat.le_of_ble_eq_true rfl) rfl ?_ | refine rs_ld_ra rfl rfl (Nat.le_of_ble_eq_true rfl) rfl ?_ | refine rs_ld_ma rfl rfl rfl (by omega) (Nat.le_of_ble_eq_true rfl) rfl ?_
  refine rs_calln [] rfl rfl (fc39_n m hk) (.cons (hv_same rfl) (.nil)) rfl ?_
  refine rs_mv rfl rfl ?_
  refine rs_nil fun _ => ?_
  refine th_n ?_
  refine aw_seq ?_
  refine aw_reg ?_
  refine rs_mv rfl rfl ?_
  refine rs_mv rfl rfl ?_
  refine rs_nil fun _ => ?_
  refine th_n ?_
  refine aw_seq ?_
  refine aw_seq ?_
  refine aw_reg ?_
  first | refine rs_fa_p rfl rfl ?_ | refine rs_fa_r rfl rfl rfl ?_
  first | refine rs_ld_r rfl rfl rfl ?_ | refine rs_ld_p rfl rfl rfl rfl rfl ?_ | refine rs_ld_m rfl rfl rfl (by omega) rfl ?_
  refine rs_eql rfl rfl rfl ?_
  refine rs_nil fun _ => ?_
  refine th_n ?_
  refine aw_cond rfl (fun h10 => ?_) (fun h10 => ?_)
  · first | replace h10 := of_decide_eq_true h10 | skip
    refine aw_reg ?_
    refine rs_mv rfl rfl ?_
    refine rs_mv rfl rfl ?_
    refine rs_nil fun _ => ?_
    refine th_n ?_
    refine aw_seq ?_
    refine aw_block ?_
    refine aw_seq ?_
    refine aw_reg ?_
    refine rs_mv rfl rfl ?_
    refine rs_ifnil_n rfl rfl ?_
    refine rs_mv rfl rfl ?_
    refine rs_nil fun _ => ?_
    refine th_n ?_
    refine aw_cond rfl (fun _ => ?_) (fun h => by cases h)
    refine aw_seq ?_
    refine aw_reg ?_
    refine rs_mv rfl rfl ?_
    refine rs_nil fun _ => ?_
    refine th_n ?_
    refine aw_ret ?_
    refine in_r ?_
    refine th_r ?_
    first
      | (exfalso; omega)
      | exact ret_pure rfl (congrArg iv (by unfold checkS; simp_all [rangeB]; done)) rfl (.inr rfl)
      | (rcases hk with hk | hk
         all_goals first
           | (exfalso; omega)
           | exact ret_pure rfl (congrArg iv (by unfold checkS; simp_all [rangeB])) rfl (.inr rfl))
  · first | replace h10 := of_decide_eq_false h10 | skip
    refine aw_skip ?_
    refine th_n ?_
    refine aw_seq ?_
    refine aw_block ?_
    refine aw_seq ?_
    refine aw_reg ?_
    refine rs_mv rfl rfl ?_
    refine rs_ifnil_n rfl rfl ?_
    refine rs_mv rfl rfl ?_
    refine rs_nil fun _ => ?_
    refine th_n ?_
    refine aw_cond rfl (fun _ => ?_) (fun h => by cases h)
    refine aw_seq ?_
    refine aw_reg ?_
    refine rs_mv rfl rfl ?_
    refine rs_nil fun _ => ?_
    refine th_n ?_
    refine aw_ret ?_
    refine in_r ?_
    refine th_r ?_
    first
      | (exfalso; omega)
      | exact ret_pure rfl (congrArg iv (by unfold checkS; simp_all [rangeB]; done)) rfl (.inr rfl)
      | (rcases hk with hk | hk
         all_goals first
           | (exfalso; omega)
           | exact ret_pure rfl (congrArg iv (by unfold checkS; simp_all [rangeB])) rfl (.inr rfl))

theorem fc12 (m : Mv) : FC Try.prog 12 [aM m] [] (iv (checkS m)) [] false := by
  by_cases h1 : m.kind = 1 ∨ m.kind = 2
  · exact fc12_l m h1
  · by_cases h3 : m.kind = 3
    · exact fc12_a m h3
    · exact fc12_n m (by omega)

def mc42 : MC := (.seq (.reg [⟨(some 1), (.box 28 11 (.t 0)), none, []⟩, ⟨(some 2), (.mv (.c (.bool false))), none, []⟩] false) (.seq (.reg [⟨(some 5), (.fa 1 (.t 1)), none, []⟩, ⟨(some 6), (.ld true 3 (.t 5)), none, [0]⟩, ⟨(some 7), (.fa 7 (.t 1)), none, []⟩, ⟨(some 8), (.ld true 3 (.t 7)), none, [2]⟩, ⟨(some 9), (.call 50 [(.t 6), (.t 8)]), none, [1, 3]⟩, ⟨(some 3), (.alloc 26 3 [(.int .i64 0), (.int .i64 0), (.int .i64 0)]), none, []⟩, ⟨none, (.st 3 (.t 3) (.t 9)), none, [5, 4, 4, 0, 1, 2, 3, 4, 5]⟩] false) (.seq (.reg [⟨(some 10), (.fa 4 (.t 1)), none, []⟩, ⟨(some 11), (.ld true 3 (.t 10)), none, [0]⟩, ⟨(some 12), (.fa 7 (.t 1)), none, []⟩, ⟨(some 13), (.ld true 3 (.t 12)), none, [2]⟩, ⟨(some 14), (.call 50 [(.t 11), (.t 13)]), none, [1, 3]⟩, ⟨(some 4), (.alloc 26 3 [(.int .i64 0), (.int .i64 0), (.int .i64 0)]), none, []⟩, ⟨none, (.st 3 (.t 4) (.t 14)), none, [5, 4, 4, 0, 1, 2, 3, 4, 5]⟩] false) (.seq (.reg [⟨(some 15), (.ld true 3 (.t 3)), none, []⟩, ⟨(some 16), (.call 51 [(.t 15)]), none, [0]⟩, ⟨(some 17), (.bin .geq (.t 16) (.c (.int .i64 1))), none, [1]⟩, ⟨(some 18), (.mv (.t 17)), none, [2, 1]⟩, ⟨(some 19), (.ld true 3 (.t 3)), (some (18, true)), [3]⟩, ⟨(some 20), (.call 51 [(.t 19)]), (some (18, true)), [4, 3, 3]⟩, ⟨(some 21), (.ld true 3 (.t 4)), (some (18, true)), [3]⟩, ⟨(some 22), (.call 51 [(.t 21)]), (some (18, true)), [6, 5, 3]⟩, ⟨(some 23), (.bin .eql (.t 20) (.t 22)), (some (18, true)), [5, 7, 3]⟩, ⟨(some 24), (.pick (.t 18) (.t 23) (.c (.bool false))), none, [3, 8]⟩, ⟨(some 25), (.mv (.t 24)), none, [9, 7]⟩, ⟨(some 26), (.ld true 3 (.t 3)), (some (25, true)), [10]⟩, ⟨(some 27), (.ld true 3 (.t 4)), (some (25, true)), [10]⟩, ⟨(some 28), (.call 52 [(.t 26), (.t 27)]), (some (25, true)), [11, 12, 10, 10]⟩, ⟨(some 29), (.bin .eql (.t 28) (.c (.int .i64 0))), (some (25, true)), [13, 10]⟩, ⟨(some 30), (.pick (.t 25) (.t 29) (.c (.bool false))), none, [10, 14]⟩, ⟨(some 2), (.mv (.t 30)), none, [15, 13, 0, 1, 2, 3, 4, 5, 6, 7, 8, 9, 10, 11, 12, 13, 14, 15]⟩] true) .ret))))
theorem mcOk42 : (match Try.f42.body with | some c => compC Try.prog 31 c | none => none) = some mc42 := by kernel_rfl

theorem fc42 (m : Mv) (h : InM m) : FC Try.prog 42 [aM m] [] (.bool (quarterS m)) [] false := by
  have ha : Bd 1000 (sub m.fr m.co) := (h.fr.sub h.co).mono (by omega)
  have hb : Bd 1000 (sub m.to m.co) := (h.to.sub h.co).mono (by omega)
  refine fc_run (nt := 31) Try.func42 rfl rfl mcOk42 (Nat.le_of_ble_eq_true rfl) ?_
  delta mc42
  refine aw_seq ?_
  refine aw_reg ?_
  refine rs_box rfl rfl rfl rfl rfl rfl ?_
  refine rs_mv rfl rfl ?_
  refine rs_nil fun _ => ?_
  refine th_n ?_
  refine aw_seq ?_
  refine aw_reg ?_
  first | refine rs_fa_p rfl rfl ?_ | refine rs_fa_r rfl rfl rfl ?_
  first | refine rs_ld_pa rfl rfl rfl rfl (Nat.le_of_ble_eq_true rfl) rfl ?_ | refine rs_ld_ra rfl rfl (Nat.le_of_ble_eq_true rfl) rfl ?_ | refine rs_ld_ma rfl rfl rfl (by omega) (Nat.le_of_ble_eq_true rfl) rfl ?_
  first | refine rs_fa_p rfl rfl ?_ | refine rs_fa_r rfl rfl rfl ?_
  first | refine rs_ld_pa rfl rfl rfl rfl (Nat.le_of_ble_eq_true rfl) rfl ?_ | refine rs_ld_ra rfl rfl (Nat.le_of_ble_eq_true rfl) rfl ?_ | refine rs_ld_ma rfl rfl rfl (by omega) (Nat.le_of_ble_eq_true rfl) rfl ?_
  refine rs_calln [] rfl rfl (fc50s h.fr.big h.co.big) (.cons (hv_same rfl) (.cons (hv_same rfl) (.nil))) rfl ?_
  refine rs_alloc rfl rfl rfl ?_
  refine rs_st rfl rfl rfl rfl rfl rfl rfl (Nat.le_of_ble_eq_true rfl) rfl rfl ?_
  refine rs_nil fun _ => ?_
  refine th_n ?_
  refine aw_seq ?_
  refine aw_reg ?_
  first | refine rs_fa_p rfl rfl ?_ | refine rs_fa_r rfl rfl rfl ?_
  first | refine rs_ld_pa rfl rfl rfl rfl (Nat.le_of_ble_eq_true rfl) rfl ?_ | refine rs_ld_ra rfl rfl (Nat.le_of_ble_eq_true rfl) rfl ?_ | refine rs_ld_ma rfl rfl rfl (by omega) (Nat.le_of_ble_eq_true rfl) rfl ?_
  first | refine rs_fa_p rfl rfl ?_ | refine rs_fa_r rfl rfl rfl ?_
  first | refine rs_ld_pa rfl rfl rfl rfl (Nat.le_of_ble_eq_true rfl) rfl ?_ | refine rs_ld_ra rfl rfl (Nat.le_of_ble_eq_true rfl) rfl ?_ | refine rs_ld_ma rfl rfl rfl (by omega) (Nat.le_of_ble_eq_true rfl) rfl ?_
  refine rs_calln [] rfl rfl (fc50s h.to.big h.co.big) (.cons (hv_same rfl) (.cons (hv_same rfl) (.nil))) rfl ?_
  refine rs_alloc rfl rfl rfl ?_
  refine rs_st rfl rfl rfl rfl rfl rfl rfl (Nat.le_of_ble_eq_true rfl) rfl rfl ?_
  refine rs_nil fun _ => ?_
  refine th_n ?_
  refine aw_seq ?_
  refine aw_draw hmix ?_
  first | refine rs_ld_pa rfl rfl rfl rfl (Nat.le_of_ble_eq_true rfl) rfl ?_ | refine rs_ld_ra rfl rfl (Nat.le_of_ble_eq_true rfl) rfl ?_ | refine rs_ld_ma rfl rfl rfl (by omega) (Nat.le_of_ble_eq_true rfl) rfl ?_
  refine rs_calln [] rfl rfl (fc51 _ ha.big) (.cons (hv_same rfl) (.nil)) rfl ?_
  refine rs_cmp rfl rfl rfl rfl (fun h17 => ?_) (fun h17 => ?_)
  · skip
    refine rs_mv rfl rfl ?_
    first | refine rs_ld_pa rfl rfl rfl rfl (Nat.le_of_ble_eq_true rfl) rfl ?_ | refine rs_ld_ra rfl rfl (Nat.le_of_ble_eq_true rfl) rfl ?_ | refine rs_ld_ma rfl rfl rfl (by omega) (Nat.le_of_ble_eq_true rfl) rfl ?_
    refine rs_calln [] rfl rfl (fc51 _ ha.big) (.cons (hv_same rfl) (.nil)) rfl ?_
    first | refine rs_ld_pa rfl rfl rfl rfl (Nat.le_of_ble_eq_true rfl) rfl ?_ | refine rs_ld_ra rfl rfl (Nat.le_of_ble_eq_true rfl) rfl ?_ | refine rs_ld_ma rfl rfl rfl (by omega) (Nat.le_of_ble_eq_true rfl) rfl ?_
    refine rs_calln [] rfl rfl (fc51 _ hb.big) (.cons (hv_same rfl) (.nil)) rfl ?_
    refine rs_cmp rfl rfl rfl rfl (fun h23 => ?_) (fun h23 => ?_)
    · skip
      refine rs_pick rfl rfl rfl ?_
      refine rs_mv rfl rfl ?_
      first | refine rs_ld_pa rfl rfl rfl rfl (Nat.le_of_ble_eq_true rfl) rfl ?_ | refine rs_ld_ra rfl rfl (Nat.le_of_ble_eq_true rfl) rfl ?_ | refine rs_ld_ma rfl rfl rfl (by omega) (Nat.le_of_ble_eq_true rfl) rfl ?_
      first | refine rs_ld_pa rfl rfl rfl rfl (Nat.le_of_ble_eq_true rfl) rfl ?_ | refine rs_ld_ra rfl rfl (Nat.le_of_ble_eq_true rfl) rfl ?_ | refine rs_ld_ma rfl rfl rfl (by omega) (Nat.le_of_ble_eq_true rfl) rfl ?_
      refine rs_calln [] rfl rfl (fc52s ha.big hb.big) (.cons (hv_same rfl) (.cons (hv_same rfl) (.nil))) rfl ?_
      refine rs_cmp rfl rfl rfl rfl (fun h29 => ?_) (fun h29 => ?_)
      · skip
        refine rs_pick rfl rfl rfl ?_
        refine rs_mv rfl rfl ?_
        refine rs_nil ⟨by kernel_rfl, fun _ => ?_⟩
        refine th_n ?_
        refine aw_ret ?_
        exact ret_pure rfl (congrArg AV.bool (by first | (simp_all [quarterS]; done) | (simp_all [quarterS]; intros; omega))) rfl (.inr rfl)
      · skip
        refine rs_pick rfl rfl rfl ?_
        refine rs_mv rfl rfl ?_
        refine rs_nil ⟨by kernel_rfl, fun _ => ?_⟩
        refine th_n ?_
        refine aw_ret ?_
        exact ret_pure rfl (congrArg AV.bool (by first | (simp_all [quarterS]; done) | (simp_all [quarterS]; intros; omega))) rfl (.inr rfl)
    · skip
      refine rs_pick rfl rfl rfl ?_
      refine rs_mv rfl rfl ?_
      refine rs_skip rfl ?_
      refine rs_skip rfl ?_
      refine rs_skip rfl ?_
      refine rs_skip rfl ?_
      refine rs_pick rfl rfl rfl ?_
      refine rs_mv rfl rfl ?_
      refine rs_nil ⟨by kernel_rfl, fun _ => ?_⟩
      refine th_n ?_
      refine aw_ret ?_
      exact ret_pure rfl (congrArg AV.bool (by first | (simp_all [quarterS]; done) | (simp_all [quarterS]; intros; omega))) rfl (.inr rfl)
  · skip
    refine rs_mv rfl rfl ?_
    refine rs_skip rfl ?_
    refine rs_skip rfl ?_
    refine rs_skip rfl ?_
    refine rs_skip rfl ?_
    refine rs_skip rfl ?_
    refine rs_pick rfl rfl rfl ?_
    refine rs_mv rfl rfl ?_
    refine rs_skip rfl ?_
    refine rs_skip rfl ?_
    refine rs_skip rfl ?_
    refine rs_skip rfl ?_
    refine rs_pick rfl rfl rfl ?_
    refine rs_mv rfl rfl ?_
    refine rs_nil ⟨by kernel_rfl, fun _ => ?_⟩
    refine th_n ?_
    refine aw_ret ?_
    exact ret_pure rfl (congrArg AV.bool (by first | (simp_all [quarterS]; done) | (simp_all [quarterS]; intros; omega))) rfl (.inr rfl)

def mc13 : MC := (.seq (.reg [⟨(some 1), (.box 28 11 (.t 0)), none, []⟩, ⟨(some 2), (.mv (.c (.int .i64 0))), none, []⟩] false) (.seq (.seq (.reg [⟨(some 3), (.fa 0 (.t 1)), none, []⟩, ⟨(some 4), (.ld false 1 (.t 3)), none, [0]⟩, ⟨(some 5), (.bin .lss (.t 4) (.c (.int .i64 1))), none, [1]⟩, ⟨(some 6), (.mv (.t 5)), none, [2]⟩, ⟨(some 7), (.fa 0 (.t 1)), (some (6, false)), [3]⟩, ⟨(some 8), (.ld false 1 (.t 7)), (some (6, false)), [4, 3]⟩, ⟨(some 9), (.bin .gtr (.t 8) (.c (.int .i64 3))), (some (6, false)), [5, 3]⟩, ⟨(some 10), (.pick (.t 6) (.c (.bool true)) (.t 9)), none, [3, 6]⟩] false) (.cond (.t 10) (.seq (.reg [⟨(some 2), (.mv (.c (.int .i64 16))), none, []⟩] false) .ret) .skip)) (.seq (.seq (.reg [⟨(some 11), (.fa 1 (.t 1)), none, []⟩, ⟨(some 12), (.ld true 3 (.t 11)), none, [0]⟩, ⟨(some 13), (.call 41 [(.t 12)]), none, [1]⟩, ⟨(some 14), (.un .not (.t 13)), none, [2]⟩, ⟨(some 15), (.mv (.t 14)), none, [3, 2]⟩, ⟨(some 16), (.fa 4 (.t 1)), (some (15, false)), [4]⟩, ⟨(some 17), (.ld true 3 (.t 16)), (some (15, false)), [5, 4]⟩, ⟨(some 18), (.call 41 [(.t 17)]), (some (15, false)), [6, 4, 4]⟩, ⟨(some 19), (.un .not (.t 18)), (some (15, false)), [7, 4]⟩, ⟨(some 20), (.pick (.t 15) (.c (.bool true)) (.t 19)), none, [4, 8]⟩, ⟨(some 21), (.mv (.t 20)), none, [9, 7]⟩, ⟨(some 22), (.fa 7 (.t 1)), (some (21, false)), [10]⟩, ⟨(some 23), (.ld true 3 (.t 22)), (some (21, false)), [11, 10]⟩, ⟨(some 24), (.call 41 [(.t 23)]), (some (21, false)), [12, 10, 10]⟩, ⟨(some 25), (.un .not (.t 24)), (some (21, false)), [13, 10]⟩, ⟨(some 26), (.pick (.t 21) (.c (.bool true)) (.t 25)), none, [10, 14]⟩] false) (.cond (.t 26) (.seq (.reg [⟨(some 2), (.mv (.c (.int .i64 3))), none, []⟩] false) .ret) .skip)) (.seq (.seq (.reg [⟨(some 27), (.fa 0 (.t 1)), none, []⟩, ⟨(some 28), (.ld false 1 (.t 27)), none, [0]⟩, ⟨(some 29), (.bin .eql (.t 28) (.c (.int .i64 1))), none, [1]⟩, ⟨(some 30), (.mv (.t 29)), none, [2]⟩, ⟨(some 31), (.fa 10 (.t 1)), (some (30, true)), [3]⟩, ⟨(some 32), (.ld false 1 (.t 31)), (some (30, true)), [4, 3]⟩, ⟨(some 33), (.bin .neq (.t 32) (.c (.int .i64 0))), (some (30, true)), [5, 3]⟩, ⟨(some 34), (.pick (.t 30) (.t 33) (.c (.bool false))), none, [3, 6]⟩, ⟨(some 35), (.mv (.t 34)), none, [7, 3]⟩, ⟨(some 36), (.fa 0 (.t 1)), (some (35, false)), [8]⟩, ⟨(some 37), (.ld false 1 (.t 36)), (some (35, false)), [9, 8]⟩, ⟨(some 38), (.bin .neq (.t 37) (.c (.int .i64 1))), (some (35, false)), [10, 8]⟩, ⟨(some 39), (.mv (.t 38)), (some (35, false)), [11, 8, 8]⟩, ⟨(some 40), (.fa 10 (.t 1)), (some (39, true)), [12]⟩, ⟨(some 41), (.ld false 1 (.t 40)), (some (39, true)), [13, 12]⟩, ⟨(some 42), (.bin .lss (.t 41) (.c (.int .i64 1))), (some (39, true)), [14, 12]⟩, ⟨(some 43), (.mv (.t 42)), (some (39, true)), [15, 12, 12]⟩, ⟨(some 44), (.fa 10 (.t 1)), (some (43, false)), [16]⟩, ⟨(some 45), (.ld false 1 (.t 44)), (some (43, false)), [17, 16]⟩, ⟨(some 46), (.bin .gtr (.t 45) (.c (.int .i64 100))), (some (43, false)), [18, 16]⟩, ⟨(some 47), (.pick (.t 43) (.c (.bool true)) (.t 46)), (some (39, true)), [16, 19, 12]⟩, ⟨(some 48), (.pick (.t 39) (.t 47) (.c (.bool false))), (some (35, false)), [12, 20, 8]⟩, ⟨(some 49), (.pick (.t 35) (.c (.bool true)) (.t 48)), none, [8, 21]⟩] false) (.cond (.t 49) (.seq (.reg [⟨(some 2), (.mv (.c (.int .i64 3))), none, []⟩] false) .ret) .skip)) (.seq (.seq (.reg [⟨(some 50), (.fa 1 (.t 1)), none, []⟩, ⟨(some 51), (.ld true 3 (.t 50)), none, [0]⟩, ⟨(some 52), (.fa 4 (.t 1)), none, []⟩, ⟨(some 53), (.ld true 3 (.t 52)), none, [2]⟩, ⟨(some 54), (.aeq false 3 (.t 51) (.t 53)), none, [1, 3]⟩, ⟨(some 55), (.mv (.t 54)), none, [4]⟩, ⟨(some 56), (.fa 0 (.t 1)), (some (55, false)), [5]⟩, ⟨(some 57), (.ld false 1 (.t 56)), (some (55, false)), [6, 5]⟩, ⟨(some 58), (.bin .neq (.t 57) (.c (.int .i64 3))), (some (55, false)), [7, 5]⟩, ⟨(some 59), (.mv (.t 58)), (some (55, false)), [8, 5, 5]⟩, ⟨(some 60), (.fa 7 (.t 1)), (some (59, true)), [9]⟩, ⟨(some 61), (.ld true 3 (.t 60)), (some (59, true)), [10, 9]⟩, ⟨(some 62), (.build [(.int .i64 0), (.int .i64 0), (.int .i64 0)] []), (some (59, true)), [9]⟩, ⟨(some 63), (.aeq true 3 (.t 61) (.t 62)), (some (59, true)), [11, 12, 9]⟩, ⟨(some 64), (.pick (.t 59) (.t 63) (.c (.bool false))), (some (55, false)), [9, 13, 5]⟩, ⟨(some 65), (.pick (.t 55) (.c (.bool true)) (.t 64)), none, [5, 14]⟩, ⟨(some 66), (.mv (.t 65)), none, [15, 9]⟩, ⟨(some 67), (.fa 0 (.t 1)), (some (66, false)), [16]⟩, ⟨(some 68), (.ld false 1 (.t 67)), (some (66, false)), [17, 16]⟩, ⟨(some 69), (.bin .eql (.t 68) (.c (.int .i64 3))), (some (66, false)), [18, 16]⟩, ⟨(some 70), (.mv (.t 69)), (some (66, false)), [19, 16, 16]⟩, ⟨(some 71), (.ld true 11 (.t 1)), (some (70, true)), [20]⟩, ⟨(some 72), (.call 42 [(.t 71)]), (some (70, true)), [21, 20, 20]⟩, ⟨(some 73), (.un .not (.t 72)), (some (70, true)), [22, 20]⟩, ⟨(some 74), (.pick (.t 70) (.t 73) (.c (.bool false))), (some (66, false)), [20, 23, 16]⟩, ⟨(some 75), (.pick (.t 66) (.c (.bool true)) (.t 74)), none, [16, 24]⟩] false) (.cond (.t 75) (.seq (.reg [⟨(some 2), (.mv (.c (.int .i64 16))), none, []⟩] false) .ret) .skip)) (.seq (.reg [⟨(some 2), (.mv (.c (.int .i64 0))), none, []⟩] false) .ret))))))
theorem mcOk13 : (match Try.f13.body with | some c => compC Try.prog 76 c | none => none) = some mc13 := by kernel_rfl

theorem fc13 (m : Mv) : FC Try.prog 13 [aM m] [] (iv (checkR m)) [] false := by
  refine fc_run (nt := 76) Try.func13 rfl rfl mcOk13 (Nat.le_of_ble_eq_true rfl) ?_
  delta mc13
  refine aw_seq ?_
  refine aw_reg ?_
  refine rs_box rfl rfl rfl rfl rfl rfl ?_
  refine rs_mv rfl rfl ?_
  refine rs_nil fun _ => ?_
  refine th_n ?_
  refine aw_seq ?_
  refine aw_seq ?_
  refine aw_reg ?_
  first | refine rs_fa_p rfl rfl ?_ | refine rs_fa_r rfl rfl rfl ?_
  first | refine rs_ld_r rfl rfl rfl ?_ | refine rs_ld_p rfl rfl rfl rfl rfl ?_ | refine rs_ld_m rfl rfl rfl (by omega) rfl ?_
  refine rs_cmp rfl rfl rfl rfl (fun h5 => ?_) (fun h5 => ?_)
  · skip
    refine rs_mv rfl rfl ?_
    refine rs_skip rfl ?_
    refine rs_skip rfl ?_
    refine rs_skip rfl ?_
    refine rs_pick rfl rfl rfl ?_
    refine rs_nil fun _ => ?_
    refine th_n ?_
    refine aw_cond rfl (fun _ => ?_) (fun h => by cases h)
    refine aw_seq ?_
    refine aw_reg ?_
    refine rs_mv rfl rfl ?_
    refine rs_nil fun _ => ?_
    refine th_n ?_
    refine aw_ret ?_
    refine th_r ?_
    first
      | (exfalso; omega)
      | exact ret_pure rfl (congrArg iv (by
          have hm1 : m.kind < 1 ∨ 3 < m.kind ∨ ¬ (m.kind < 1 ∨ 3 < m.kind) := by omega
          unfold checkR
          first
            | rw [if_pos (by omega)]
            | (rw [if_neg (by omega)]; simp_all [feedR, lastR]; done)
            | (rw [if_neg (by omega)]; simp_all [feedR, lastR]; omega))) rfl (.inr rfl)
  · skip
    refine rs_mv rfl rfl ?_
    first | refine rs_fa_p rfl rfl ?_ | refine rs_fa_r rfl rfl rfl ?_
    first | refine rs_ld_r rfl rfl rfl ?_ | refine rs_ld_p rfl rfl rfl rfl rfl ?_ | refine rs_ld_m rfl rfl rfl (by omega) rfl ?_
    refine rs_cmp rfl rfl rfl rfl (fun h9 => ?_) (fun h9 => ?_)
    · skip
      refine rs_pick rfl rfl rfl ?_
      refine rs_nil fun _ => ?_
      refine th_n ?_
      refine aw_cond rfl (fun _ => ?_) (fun h => by cases h)
      refine aw_seq ?_
      refine aw_reg ?_
      refine rs_mv rfl rfl ?_
      refine rs_nil fun _ => ?_
      refine th_n ?_
      refine aw_ret ?_
      refine th_r ?_
      first
        | (exfalso; omega)
        | exact ret_pure rfl (congrArg iv (by
            have hm1 : m.kind < 1 ∨ 3 < m.kind ∨ ¬ (m.kind < 1 ∨ 3 < m.kind) := by omega
            unfold checkR
            first
              | rw [if_pos (by omega)]
              | (rw [if_neg (by omega)]; simp_all [feedR, lastR]; done)
              | (rw [if_neg (by omega)]; simp_all [feedR, lastR]; omega))) rfl (.inr rfl)
    · skip
      refine rs_pick rfl rfl rfl ?_
      refine rs_nil fun _ => ?_
      refine th_n ?_
      refine aw_cond rfl (fun h => by cases h) (fun _ => ?_)
      refine aw_skip ?_
      refine th_n ?_
      refine aw_seq ?_
      refine aw_seq ?_
      refine aw_reg ?_
      first | refine rs_fa_p rfl rfl ?_ | refine rs_fa_r rfl rfl rfl ?_
      first | refine rs_ld_pa rfl rfl rfl rfl (Nat.le_of_ble_eq_true rfl) rfl ?_ | refine rs_ld_ra rfl rfl (Nat.le_of_ble_eq_true rfl) rfl ?_ | refine rs_ld_ma rfl rfl rfl (by omega) (Nat.le_of_ble_eq_true rfl) rfl ?_
      refine rs_calln [] rfl rfl (fc41 m.fr) (.cons (hv_same rfl) (.nil)) rfl ?_
      refine rs_not rfl rfl ?_
      refine rs_mv rfl rfl ?_
      cases h15 : !inS m.fr
      · skip
        first | refine rs_fa_p rfl rfl ?_ | refine rs_fa_r rfl rfl rfl ?_
        first | refine rs_ld_pa rfl rfl rfl rfl (Nat.le_of_ble_eq_true rfl) rfl ?_ | refine rs_ld_ra rfl rfl (Nat.le_of_ble_eq_true rfl) rfl ?_ | refine rs_ld_ma rfl rfl rfl (by omega) (Nat.le_of_ble_eq_true rfl) rfl ?_
        refine rs_calln [] rfl rfl (fc41 m.to) (.cons (hv_same rfl) (.nil)) rfl ?_
        refine rs_not rfl rfl ?_
        cases h19 : !inS m.to
        · skip
          refine rs_pick rfl rfl rfl ?_
          refine rs_mv rfl rfl ?_
          first | refine rs_fa_p rfl rfl ?_ | refine rs_fa_r rfl rfl rfl ?_
          first | refine rs_ld_pa rfl rfl rfl rfl (Nat.le_of_ble_eq_true rfl) rfl ?_ | refine rs_ld_ra rfl rfl (Nat.le_of_ble_eq_true rfl) rfl ?_ | refine rs_ld_ma rfl rfl rfl (by omega) (Nat.le_of_ble_eq_true rfl) rfl ?_
          refine rs_calln [] rfl rfl (fc41 m.co) (.cons (hv_same rfl) (.nil)) rfl ?_
          refine rs_not rfl rfl ?_
          cases h25 : !inS m.co
          · skip
            refine rs_pick rfl rfl rfl ?_
            refine rs_nil fun _ => ?_
            refine th_n ?_
            refine aw_cond rfl (fun h => by cases h) (fun _ => ?_)
            refine aw_skip ?_
            refine th_n ?_
            refine aw_seq ?_
            refine aw_seq ?_
            refine aw_reg ?_
            first | refine rs_fa_p rfl rfl ?_ | refine rs_fa_r rfl rfl rfl ?_
            first | refine rs_ld_r rfl rfl rfl ?_ | refine rs_ld_p rfl rfl rfl rfl rfl ?_ | refine rs_ld_m rfl rfl rfl (by omega) rfl ?_
            refine rs_cmp rfl rfl rfl rfl (fun h29 => ?_) (fun h29 => ?_)
            · skip
              refine rs_mv rfl rfl ?_
              first | refine rs_fa_p rfl rfl ?_ | refine rs_fa_r rfl rfl rfl ?_
              first | refine rs_ld_r rfl rfl rfl ?_ | refine rs_ld_p rfl rfl rfl rfl rfl ?_ | refine rs_ld_m rfl rfl rfl (by omega) rfl ?_
              refine rs_cmp rfl rfl rfl rfl (fun h33 => ?_) (fun h33 => ?_)
              · skip
                refine rs_pick rfl rfl rfl ?_
                refine rs_mv rfl rfl ?_
                refine rs_skip rfl ?_
                refine rs_skip rfl ?_
                refine rs_skip rfl ?_
                refine rs_skip rfl ?_
                refine rs_skip rfl ?_
                refine rs_skip rfl ?_
                refine rs_skip rfl ?_
                refine rs_skip rfl ?_
                refine rs_skip rfl ?_
                refine rs_skip rfl ?_
                refine rs_skip rfl ?_
                refine rs_skip rfl ?_
                refine rs_skip rfl ?_
                refine rs_pick rfl rfl rfl ?_
                refine rs_nil fun _ => ?_
                refine th_n ?_
                refine aw_cond rfl (fun _ => ?_) (fun h => by cases h)
                refine aw_seq ?_
                refine aw_reg ?_
                refine rs_mv rfl rfl ?_
                refine rs_nil fun _ => ?_
                refine th_n ?_
                refine aw_ret ?_
                refine th_r ?_
                first
                  | (exfalso; omega)
                  | exact ret_pure rfl (congrArg iv (by
                      have hm1 : m.kind < 1 ∨ 3 < m.kind ∨ ¬ (m.kind < 1 ∨ 3 < m.kind) := by omega
                      unfold checkR
                      first
                        | rw [if_pos (by omega)]
                        | (rw [if_neg (by omega)]; simp_all [feedR, lastR]; done)
                        | (rw [if_neg (by omega)]; simp_all [feedR, lastR]; omega))) rfl (.inr rfl)
              · skip
                refine rs_pick rfl rfl rfl ?_
                refine rs_mv rfl rfl ?_
                first | refine rs_fa_p rfl rfl ?_ | refine rs_fa_r rfl rfl rfl ?_
                first | refine rs_ld_r rfl rfl rfl ?_ | refine rs_ld_p rfl rfl rfl rfl rfl ?_ | refine rs_ld_m rfl rfl rfl (by omega) rfl ?_
                refine rs_cmp rfl rfl rfl rfl (fun h38 => ?_) (fun h38 => ?_)
                · skip
                  refine rs_mv rfl rfl ?_
                  first | refine rs_fa_p rfl rfl ?_ | refine rs_fa_r rfl rfl rfl ?_
                  first | refine rs_ld_r rfl rfl rfl ?_ | refine rs_ld_p rfl rfl rfl rfl rfl ?_ | refine rs_ld_m rfl rfl rfl (by omega) rfl ?_
                  refine rs_cmp rfl rfl rfl rfl (fun h42 => ?_) (fun h42 => ?_)
                  · skip
                    refine rs_mv rfl rfl ?_
                    refine rs_skip rfl ?_
                    refine rs_skip rfl ?_
                    refine rs_skip rfl ?_
                    refine rs_pick rfl rfl rfl ?_
                    refine rs_pick rfl rfl rfl ?_
                    refine rs_pick rfl rfl rfl ?_
                    refine rs_nil fun _ => ?_
                    refine th_n ?_
                    refine aw_cond rfl (fun _ => ?_) (fun h => by cases h)
                    refine aw_seq ?_
                    refine aw_reg ?_
                    refine rs_mv rfl rfl ?_
                    refine rs_nil fun _ => ?_
                    refine th_n ?_
                    refine aw_ret ?_
                    refine th_r ?_
                    first
                      | (exfalso; omega)
                      | exact ret_pure rfl (congrArg iv (by
                          have hm1 : m.kind < 1 ∨ 3 < m.kind ∨ ¬ (m.kind < 1 ∨ 3 < m.kind) := by omega
                          unfold checkR
                          first
                            | rw [if_pos (by omega)]
                            | (rw [if_neg (by omega)]; simp_all [feedR, lastR]; done)
                            | (rw [if_neg (by omega)]; simp_all [feedR, lastR]; omega))) rfl (.inr rfl)
                  · skip
                    refine rs_mv rfl rfl ?_
                    first | refine rs_fa_p rfl rfl ?_ | refine rs_fa_r rfl rfl rfl ?_
                    first | refine rs_ld_r rfl rfl rfl ?_ | refine rs_ld_p rfl rfl rfl rfl rfl ?_ | refine rs_ld_m rfl rfl rfl (by omega) rfl ?_
                    refine rs_cmp rfl rfl rfl rfl (fun h46 => ?_) (fun h46 => ?_)
                    · skip
                      refine rs_pick rfl rfl rfl ?_
                      refine rs_pick rfl rfl rfl ?_
                      refine rs_pick rfl rfl rfl ?_
                      refine rs_nil fun _ => ?_
                      refine th_n ?_
                      refine aw_cond rfl (fun _ => ?_) (fun h => by cases h)
                      refine aw_seq ?_
                      refine aw_reg ?_
                      refine rs_mv rfl rfl ?_
                      refine rs_nil fun _ => ?_
                      refine th_n ?_
                      refine aw_ret ?_
                      refine th_r ?_
                      first
                        | (exfalso; omega)
                        | exact ret_pure rfl (congrArg iv (by
                            have hm1 : m.kind < 1 ∨ 3 < m.kind ∨ ¬ (m.kind < 1 ∨ 3 < m.kind) := by omega
                            unfold checkR
                            first
                              | rw [if_pos (by omega)]
                              | (rw [if_neg (by omega)]; simp_all [feedR, lastR]; done)
                              | (rw [if_neg (by omega)]; simp_all [feedR, lastR]; omega))) rfl (.inr rfl)
                    · skip
                      refine rs_pick rfl rfl rfl ?_
                      refine rs_pick rfl rfl rfl ?_
                      refine rs_pick rfl rfl rfl ?_
                      refine rs_nil fun _ => ?_
                      refine th_n ?_
                      refine aw_cond rfl (fun h => by cases h) (fun _ => ?_)
                      refine aw_skip ?_
                      refine th_n ?_
                      refine aw_seq ?_
                      refine aw_seq ?_
                      refine aw_reg ?_
                      first | refine rs_fa_p rfl rfl ?_ | refine rs_fa_r rfl rfl rfl ?_
                      first | refine rs_ld_pa rfl rfl rfl rfl (Nat.le_of_ble_eq_true rfl) rfl ?_ | refine rs_ld_ra rfl rfl (Nat.le_of_ble_eq_true rfl) rfl ?_ | refine rs_ld_ma rfl rfl rfl (by omega) (Nat.le_of_ble_eq_true rfl) rfl ?_
                      first | refine rs_fa_p rfl rfl ?_ | refine rs_fa_r rfl rfl rfl ?_
                      first | refine rs_ld_pa rfl rfl rfl rfl (Nat.le_of_ble_eq_true rfl) rfl ?_ | refine rs_ld_ra rfl rfl (Nat.le_of_ble_eq_true rfl) rfl ?_ | refine rs_ld_ma rfl rfl rfl (by omega) (Nat.le_of_ble_eq_true rfl) rfl ?_
                      refine rs_aeqv rfl rfl rfl ?_
                      cases h54 : (false != decide (m.fr = m.to))
                      · skip
                        refine rs_mv rfl rfl ?_
                        first | refine rs_fa_p rfl rfl ?_ | refine rs_fa_r rfl rfl rfl ?_
                        first | refine rs_ld_r rfl rfl rfl ?_ | refine rs_ld_p rfl rfl rfl rfl rfl ?_ | refine rs_ld_m rfl rfl rfl (by omega) rfl ?_
                        refine rs_cmp rfl rfl rfl rfl (fun h58 => ?_) (fun h58 => ?_)
                        · skip
                          refine rs_mv rfl rfl ?_
                          first | refine rs_fa_p rfl rfl ?_ | refine rs_fa_r rfl rfl rfl ?_
                          first | refine rs_ld_pa rfl rfl rfl rfl (Nat.le_of_ble_eq_true rfl) rfl ?_ | refine rs_ld_ra rfl rfl (Nat.le_of_ble_eq_true rfl) rfl ?_ | refine rs_ld_ma rfl rfl rfl (by omega) (Nat.le_of_ble_eq_true rfl) rfl ?_
                          refine rs_build rfl rfl ?_
                          refine rs_aeqv (v := ⟨0, 0, 0⟩) rfl rfl rfl ?_
                          cases h63 : (true != decide (m.co = ⟨0, 0, 0⟩))
                          · skip
                            refine rs_pick rfl rfl rfl ?_
                            refine rs_pick rfl rfl rfl ?_
                            refine rs_mv rfl rfl ?_
                            first | refine rs_fa_p rfl rfl ?_ | refine rs_fa_r rfl rfl rfl ?_
                            first | refine rs_ld_r rfl rfl rfl ?_ | refine rs_ld_p rfl rfl rfl rfl rfl ?_ | refine rs_ld_m rfl rfl rfl (by omega) rfl ?_
                            refine rs_cmp rfl rfl rfl rfl (fun h69 => ?_) (fun h69 => ?_)
                            · skip
                              refine rs_mv rfl rfl ?_
                              first | refine rs_ld_pa rfl rfl rfl rfl (Nat.le_of_ble_eq_true rfl) rfl ?_ | refine rs_ld_ra rfl rfl (Nat.le_of_ble_eq_true rfl) rfl ?_ | refine rs_ld_ma rfl rfl rfl (by omega) (Nat.le_of_ble_eq_true rfl) rfl ?_
                              refine rs_calln [] rfl rfl (fc42 m (inM_of h15 h19 h25)) (.cons (hv_same rfl) (.nil)) rfl ?_
                              refine rs_not rfl rfl ?_
                              cases h73 : !quarterS m
                              · skip
                                refine rs_pick rfl rfl rfl ?_
                                refine rs_pick rfl rfl rfl ?_
                                refine rs_nil fun _ => ?_
                                refine th_n ?_
                                refine aw_cond rfl (fun h => by cases h) (fun _ => ?_)
                                refine aw_skip ?_
                                refine th_n ?_
                                refine aw_seq ?_
                                refine aw_reg ?_
                                refine rs_mv rfl rfl ?_
                                refine rs_nil fun _ => ?_
                                refine th_n ?_
                                refine aw_ret ?_
                                first
                                  | (exfalso; omega)
                                  | exact ret_pure rfl (congrArg iv (by
                                      have hm1 : m.kind < 1 ∨ 3 < m.kind ∨ ¬ (m.kind < 1 ∨ 3 < m.kind) := by omega
                                      unfold checkR
                                      first
                                        | rw [if_pos (by omega)]
                                        | (rw [if_neg (by omega)]; simp_all [feedR, lastR]; done)
                                        | (rw [if_neg (by omega)]; simp_all [feedR, lastR]; omega))) rfl (.inr rfl)
                              · skip
                                refine rs_pick rfl rfl rfl ?_
                                refine rs_pick rfl rfl rfl ?_
                                refine rs_nil fun _ => ?_
                                refine th_n ?_
                                refine aw_cond rfl (fun _ => ?_) (fun h => by cases h)
                                refine aw_seq ?_
                                refine aw_reg ?_
                                refine rs_mv rfl rfl ?_
                                refine rs_nil fun _ => ?_
                                refine th_n ?_
                                refine aw_ret ?_
                                refine th_r ?_
                                first
                                  | (exfalso; omega)
                                  | exact ret_pure rfl (congrArg iv (by
                                      have hm1 : m.kind < 1 ∨ 3 < m.kind ∨ ¬ (m.kind < 1 ∨ 3 < m.kind) := by omega
                                      unfold checkR
                                      first
                                        | rw [if_pos (by omega)]
                                        | (rw [if_neg (by omega)]; simp_all [feedR, lastR]; done)
                                        | (rw [if_neg (by omega)]; simp_all [feedR, lastR]; omega))) rfl (.inr rfl)
                            · skip
                              refine rs_mv rfl rfl ?_
                              refine rs_skip rfl ?_
                              refine rs_skip rfl ?_
                              refine rs_skip rfl ?_
                              refine rs_pick rfl rfl rfl ?_
                              refine rs_pick rfl rfl rfl ?_
                              refine rs_nil fun _ => ?_
                              refine th_n ?_
                              refine aw_cond rfl (fun h => by cases h) (fun _ => ?_)
                              refine aw_skip ?_
                              refine th_n ?_
                              refine aw_seq ?_
                              refine aw_reg ?_
                              refine rs_mv rfl rfl ?_
                              refine rs_nil fun _ => ?_
                              refine th_n ?_
                              refine aw_ret ?_
                              first
                                | (exfalso; omega)
                                | exact ret_pure rfl (congrArg iv (by
                                    have hm1 : m.kind < 1 ∨ 3 < m.kind ∨ ¬ (m.kind < 1 ∨ 3 < m.kind) := by omega
                                    unfold checkR
                                    first
                                      | rw [if_pos (by omega)]
                                      | (rw [if_neg (by omega)]; simp_all [feedR, lastR]; done)
                                      | (rw [if_neg (by omega)]; simp_all [feedR, lastR]; omega))) rfl (.inr rfl)
                          · skip
                            refine rs_pick rfl rfl rfl ?_
                            refine rs_pick rfl rfl rfl ?_
                            refine rs_mv rfl rfl ?_
                            refine rs_skip rfl ?_
                            refine rs_skip rfl ?_
                            refine rs_skip rfl ?_
                            refine rs_skip rfl ?_
                            refine rs_skip rfl ?_
                            refine rs_skip rfl ?_
                            refine rs_skip rfl ?_
                            refine rs_skip rfl ?_
                            refine rs_pick rfl rfl rfl ?_
                            refine rs_nil fun _ => ?_
                            refine th_n ?_
                            refine aw_cond rfl (fun _ => ?_) (fun h => by cases h)
                            refine aw_seq ?_
                            refine aw_reg ?_
                            refine rs_mv rfl rfl ?_
                            refine rs_nil fun _ => ?_
                            refine th_n ?_
                            refine aw_ret ?_
                            refine th_r ?_
                            first
                              | (exfalso; omega)
                              | exact ret_pure rfl (congrArg iv (by
                                  have hm1 : m.kind < 1 ∨ 3 < m.kind ∨ ¬ (m.kind < 1 ∨ 3 < m.kind) := by omega
                                  unfold checkR
                                  first
                                    | rw [if_pos (by omega)]
                                    | (rw [if_neg (by omega)]; simp_all [feedR, lastR]; done)
                                    | (rw [if_neg (by omega)]; simp_all [feedR, lastR]; omega))) rfl (.inr rfl)
                        · skip
                          refine rs_mv rfl rfl ?_
                          refine rs_skip rfl ?_
                          refine rs_skip rfl ?_
                          refine rs_skip rfl ?_
                          refine rs_skip rfl ?_
                          refine rs_pick rfl rfl rfl ?_
                          refine rs_pick rfl rfl rfl ?_
                          refine rs_mv rfl rfl ?_
                          first | refine rs_fa_p rfl rfl ?_ | refine rs_fa_r rfl rfl rfl ?_
                          first | refine rs_ld_r rfl rfl rfl ?_ | refine rs_ld_p rfl rfl rfl rfl rfl ?_ | refine rs_ld_m rfl rfl rfl (by omega) rfl ?_
                          refine rs_cmp rfl rfl rfl rfl (fun h69 => ?_) (fun h69 => ?_)
                          · skip
                            refine rs_mv rfl rfl ?_
                            first | refine rs_ld_pa rfl rfl rfl rfl (Nat.le_of_ble_eq_true rfl) rfl ?_ | refine rs_ld_ra rfl rfl (Nat.le_of_ble_eq_true rfl) rfl ?_ | refine rs_ld_ma rfl rfl rfl (by omega) (Nat.le_of_ble_eq_true rfl) rfl ?_
                            refine rs_calln [] rfl rfl (fc42 m (inM_of h15 h19 h25)) (.cons (hv_same rfl) (.nil)) rfl ?_
                            refine rs_not rfl rfl ?_
                            cases h73 : !quarterS m
                            · skip
                              refine rs_pick rfl rfl rfl ?_
                              refine rs_pick rfl rfl rfl ?_
                              refine rs_nil fun _ => ?_
                              refine th_n ?_
                              refine aw_cond rfl (fun h => by cases h) (fun _ => ?_)
                              refine aw_skip ?_
                              refine th_n ?_
                              refine aw_seq ?_
                              refine aw_reg ?_
                              refine rs_mv rfl rfl ?_
                              refine rs_nil fun _ => ?_
                              refine th_n ?_
                              refine aw_ret ?_
                              first
                                | (exfalso; omega)
                                | exact ret_pure rfl (congrArg iv (by
                                    have hm1 : m.kind < 1 ∨ 3 < m.kind ∨ ¬ (m.kind < 1 ∨ 3 < m.kind) := by omega
                                    unfold checkR
                                    first
                                      | rw [if_pos (by omega)]
                                      | (rw [if_neg (by omega)]; simp_all [feedR, lastR]; done)
                                      | (rw [if_neg (by omega)]; simp_all [feedR, lastR]; omega))) rfl (.inr rfl)
                            · skip
                              refine rs_pick rfl rfl rfl ?_
                              refine rs_pick rfl rfl rfl ?_
                              refine rs_nil fun _ => ?_
                              refine th_n ?_
                              refine aw_cond rfl (fun _ => ?_) (fun h => by cases h)
                              refine aw_seq ?_
                              refine aw_reg ?_
                              refine rs_mv rfl rfl ?_
                              refine rs_nil fun _ => ?_
                              refine th_n ?_
                              refine aw_ret ?_
                              refine th_r ?_
                              first
                                | (exfalso; omega)
                                | exact ret_pure rfl (congrArg iv (by
                                    have hm1 : m.kind < 1 ∨ 3 < m.kind ∨ ¬ (m.kind < 1 ∨ 3 < m.kind) := by omega
                                    unfold checkR
                                    first
                                      | rw [if_pos (by omega)]
                                      | (rw [if_neg (by omega)]; simp_all [feedR, lastR]; done)
                                      | (rw [if_neg (by omega)]; simp_all [feedR, lastR]; omega))) rfl (.inr rfl)
                          · skip
                            refine rs_mv rfl rfl ?_
                            refine rs_skip rfl ?_
                            refine rs_skip rfl ?_
                            refine rs_skip rfl ?_
                            refine rs_pick rfl rfl rfl ?_
                            refine rs_pick rfl rfl rfl ?_
                            refine rs_nil fun _ => ?_
                            refine th_n ?_
                            refine aw_cond rfl (fun h => by cases h) (fun _ => ?_)
                            refine aw_skip ?_
                            refine th_n ?_
                            refine aw_seq ?_
                            refine aw_reg ?_
                            refine rs_mv rfl rfl ?_
                            refine rs_nil fun _ => ?_
                            refine th_n ?_
                            refine aw_ret ?_
                            first
                              | (exfalso; omega)
                              | exact ret_pure rfl (congrArg iv (by
                                  have hm1 : m.kind < 1 ∨ 3 < m.kind ∨ ¬ (m.kind < 1 ∨ 3 < m.kind) := by omega
                                  unfold checkR
                                  first
                                    | rw [if_pos (by omega)]
                                    | (rw [if_neg (by omega)]; simp_all [feedR, lastR]; done)
                                    | (rw [if_neg (by omega)]; simp_all [feedR, lastR]; omega))) rfl (.inr rfl)
                      · skip
                        refine rs_mv rfl rfl ?_
                        refine rs_skip rfl ?_
                        refine rs_skip rfl ?_
                        refine rs_skip rfl ?_
                        refine rs_skip rfl ?_
                        refine rs_skip rfl ?_
                        refine rs_skip rfl ?_
                        refine rs_skip rfl ?_
                        refine rs_skip rfl ?_
                        refine rs_skip rfl ?_
                        refine rs_pick rfl rfl rfl ?_
                        refine rs_mv rfl rfl ?_
                        refine rs_skip rfl ?_
                        refine rs_skip rfl ?_
                        refine rs_skip rfl ?_
                        refine rs_skip rfl ?_
                        refine rs_skip rfl ?_
                        refine rs_skip rfl ?_
                        refine rs_skip rfl ?_
                        refine rs_skip rfl ?_
                        refine rs_pick rfl rfl rfl ?_
                        refine rs_nil fun _ => ?_
                        refine th_n ?_
                        refine aw_cond rfl (fun _ => ?_) (fun h => by cases h)
                        refine aw_seq ?_
                        refine aw_reg ?_
                        refine rs_mv rfl rfl ?_
                        refine rs_nil fun _ => ?_
                        refine th_n ?_
                        refine aw_ret ?_
                        refine th_r ?_
                        first
                          | (exfalso; omega)
                          | exact ret_pure rfl (congrArg iv (by
                              have hm1 : m.kind < 1 ∨ 3 < m.kind ∨ ¬ (m.kind < 1 ∨ 3 < m.kind) := by omega
                              unfold checkR
                              first
                                | rw [if_pos (by omega)]
                                | (rw [if_neg (by omega)]; simp_all [feedR, lastR]; done)
                                | (rw [if_neg (by omega)]; simp_all [feedR, lastR]; omega))) rfl (.inr rfl)
                · skip
                  refine rs_mv rfl rfl ?_
                  refine rs_skip rfl ?_
                  refine rs_skip rfl ?_
                  refine rs_skip rfl ?_
                  refine rs_skip rfl ?_
                  refine rs_skip rfl ?_
                  refine rs_skip rfl ?_
                  refine rs_skip rfl ?_
                  refine rs_skip rfl ?_
                  refine rs_pick rfl rfl rfl ?_
                  refine rs_pick rfl rfl rfl ?_
                  refine rs_nil fun _ => ?_
                  refine th_n ?_
                  refine aw_cond rfl (fun h => by cases h) (fun _ => ?_)
                  refine aw_skip ?_
                  refine th_n ?_
                  refine aw_seq ?_
                  refine aw_seq ?_
                  refine aw_reg ?_
                  first | refine rs_fa_p rfl rfl ?_ | refine rs_fa_r rfl rfl rfl ?_
                  first | refine rs_ld_pa rfl rfl rfl rfl (Nat.le_of_ble_eq_true rfl) rfl ?_ | refine rs_ld_ra rfl rfl (Nat.le_of_ble_eq_true rfl) rfl ?_ | refine rs_ld_ma rfl rfl rfl (by omega) (Nat.le_of_ble_eq_true rfl) rfl ?_
                  first | refine rs_fa_p rfl rfl ?_ | refine rs_fa_r rfl rfl rfl ?_
                  first | refine rs_ld_pa rfl rfl rfl rfl (Nat.le_of_ble_eq_true rfl) rfl ?_ | refine rs_ld_ra rfl rfl (Nat.le_of_ble_eq_true rfl) rfl ?_ | refine rs_ld_ma rfl rfl rfl (by omega) (Nat.le_of_ble_eq_true rfl) rfl ?_
                  refine rs_aeqv rfl rfl rfl ?_
                  cases h54 : (false != decide (m.fr = m.to))
                  · skip
                    refine rs_mv rfl rfl ?_
                    first | refine rs_fa_p rfl rfl ?_ | refine rs_fa_r rfl rfl rfl ?_
                    first | refine rs_ld_r rfl rfl rfl ?_ | refine rs_ld_p rfl rfl rfl rfl rfl ?_ | refine rs_ld_m rfl rfl rfl (by omega) rfl ?_
                    refine rs_cmp rfl rfl rfl rfl (fun h58 => ?_) (fun h58 => ?_)
                    · skip
                      refine rs_mv rfl rfl ?_
                      first | refine rs_fa_p rfl rfl ?_ | refine rs_fa_r rfl rfl rfl ?_
                      first | refine rs_ld_pa rfl rfl rfl rfl (Nat.le_of_ble_eq_true rfl) rfl ?_ | refine rs_ld_ra rfl rfl (Nat.le_of_ble_eq_true rfl) rfl ?_ | refine rs_ld_ma rfl rfl rfl (by omega) (Nat.le_of_ble_eq_true rfl) rfl ?_
                      refine rs_build rfl rfl ?_
                      refine rs_aeqv (v := ⟨0, 0, 0⟩) rfl rfl rfl ?_
                      cases h63 : (true != decide (m.co = ⟨0, 0, 0⟩))
                      · skip
                        refine rs_pick rfl rfl rfl ?_
                        refine rs_pick rfl rfl rfl ?_
                        refine rs_mv rfl rfl ?_
                        first | refine rs_fa_p rfl rfl ?_ | refine rs_fa_r rfl rfl rfl ?_
                        first | refine rs_ld_r rfl rfl rfl ?_ | refine rs_ld_p rfl rfl rfl rfl rfl ?_ | refine rs_ld_m rfl rfl rfl (by omega) rfl ?_
                        refine rs_cmp rfl rfl rfl rfl (fun h69 => ?_) (fun h69 => ?_)
                        · skip
                          refine rs_mv rfl rfl ?_
                          first | refine rs_ld_pa rfl rfl rfl rfl (Nat.le_of_ble_eq_true rfl) rfl ?_ | refine rs_ld_ra rfl rfl (Nat.le_of_ble_eq_true rfl) rfl ?_ | refine rs_ld_ma rfl rfl rfl (by omega) (Nat.le_of_ble_eq_true rfl) rfl ?_
                          refine rs_calln [] rfl rfl (fc42 m (inM_of h15 h19 h25)) (.cons (hv_same rfl) (.nil)) rfl ?_
                          refine rs_not rfl rfl ?_
                          cases h73 : !quarterS m
                          · skip
                            refine rs_pick rfl rfl rfl ?_
                            refine rs_pick rfl rfl rfl ?_
                            refine rs_nil fun _ => ?_
                            refine th_n ?_
                            refine aw_cond rfl (fun h => by cases h) (fun _ => ?_)
                            refine aw_skip ?_
                            refine th_n ?_
                            refine aw_seq ?_
                            refine aw_reg ?_
                            refine rs_mv rfl rfl ?_
                            refine rs_nil fun _ => ?_
                            refine th_n ?_
                            refine aw_ret ?_
                            first
                              | (exfalso; omega)
                              | exact ret_pure rfl (congrArg iv (by
                                  have hm1 : m.kind < 1 ∨ 3 < m.kind ∨ ¬ (m.kind < 1 ∨ 3 < m.kind) := by omega
                                  unfold checkR
                                  first
                                    | rw [if_pos (by omega)]
                                    | (rw [if_neg (by omega)]; simp_all [feedR, lastR]; done)
                                    | (rw [if_neg (by omega)]; simp_all [feedR, lastR]; omega))) rfl (.inr rfl)
                          · skip
                            refine rs_pick rfl rfl rfl ?_
                            refine rs_pick rfl rfl rfl ?_
                            refine rs_nil fun _ => ?_
                            refine th_n ?_
                            refine aw_cond rfl (fun _ => ?_) (fun h => by cases h)
                            refine aw_seq ?_
                            refine aw_reg ?_
                            refine rs_mv rfl rfl ?_
                            refine rs_nil fun _ => ?_
                            refine th_n ?_
                            refine aw_ret ?_
                            refine th_r ?_
                            first
                              | (exfalso; omega)
                              | exact ret_pure rfl (congrArg iv (by
                                  have hm1 : m.kind < 1 ∨ 3 < m.kind ∨ ¬ (m.kind < 1 ∨ 3 < m.kind) := by omega
                                  unfold checkR
                                  first
                                    | rw [if_pos (by omega)]
                                    | (rw [if_neg (by omega)]; simp_all [feedR, lastR]; done)
                                    | (rw [if_neg (by omega)]; simp_all [feedR, lastR]; omega))) rfl (.inr rfl)
                        · skip
                          refine rs_mv rfl rfl ?_
                          refine rs_skip rfl ?_
                          refine rs_skip rfl ?_
                          refine rs_skip rfl ?_
                          refine rs_pick rfl rfl rfl ?_
                          refine rs_pick rfl rfl rfl ?_
                          refine rs_nil fun _ => ?_
                          refine th_n ?_
                          refine aw_cond rfl (fun h => by cases h) (fun _ => ?_)
                          refine aw_skip ?_
                          refine th_n ?_
                          refine aw_seq ?_
                          refine aw_reg ?_
                          refine rs_mv rfl rfl ?_
                          refine rs_nil fun _ => ?_
                          refine th_n ?_
                          refine aw_ret ?_
                          first
                            | (exfalso; omega)
                            | exact ret_pure rfl (congrArg iv (by
                                have hm1 : m.kind < 1 ∨ 3 < m.kind ∨ ¬ (m.kind < 1 ∨ 3 < m.kind) := by omega
                                unfold checkR
                                first
                                  | rw [if_pos (by omega)]
                                  | (rw [if_neg (by omega)]; simp_all [feedR, lastR]; done)
                                  | (rw [if_neg (by omega)]; simp_all [feedR, lastR]; omega))) rfl (.inr rfl)
                      · skip
                        refine rs_pick rfl rfl rfl ?_
                        refine rs_pick rfl rfl rfl ?_
                        refine rs_mv rfl rfl ?_
                        refine rs_skip rfl ?_
                        refine rs_skip rfl ?_
                        refine rs_skip rfl ?_
                        refine rs_skip rfl ?_
                        refine rs_skip rfl ?_
                        refine rs_skip rfl ?_
                        refine rs_skip rfl ?_
                        refine rs_skip rfl ?_
                        refine rs_pick rfl rfl rfl ?_
                        refine rs_nil fun _ => ?_
                        refine th_n ?_
                        refine aw_cond rfl (fun _ => ?_) (fun h => by cases h)
                        refine aw_seq ?_
                        refine aw_reg ?_
                        refine rs_mv rfl rfl ?_
                        refine rs_nil fun _ => ?_
                        refine th_n ?_
                        refine aw_ret ?_
                        refine th_r ?_
                        first
                          | (exfalso; omega)
                          | exact ret_pure rfl (congrArg iv (by
                              have hm1 : m.kind < 1 ∨ 3 < m.kind ∨ ¬ (m.kind < 1 ∨ 3 < m.kind) := by omega
                              unfold checkR
                              first
                                | rw [if_pos (by omega)]
                                | (rw [if_neg (by omega)]; simp_all [feedR, lastR]; done)
                                | (rw [if_neg (by omega)]; simp_all [feedR, lastR]; omega))) rfl (.inr rfl)
                    · skip
                      refine rs_mv rfl rfl ?_
                      refine rs_skip rfl ?_
                      refine rs_skip rfl ?_
                      refine rs_skip rfl ?_
                      refine rs_skip rfl ?_
                      refine rs_pick rfl rfl rfl ?_
                      refine rs_pick rfl rfl rfl ?_
                      refine rs_mv rfl rfl ?_
                      first | refine rs_fa_p rfl rfl ?_ | refine rs_fa_r rfl rfl rfl ?_
                      first | refine rs_ld_r rfl rfl rfl ?_ | refine rs_ld_p rfl rfl rfl rfl rfl ?_ | refine rs_ld_m rfl rfl rfl (by omega) rfl ?_
                      refine rs_cmp rfl rfl rfl rfl (fun h69 => ?_) (fun h69 => ?_)
                      · skip
                        refine rs_mv rfl rfl ?_
                        first | refine rs_ld_pa rfl rfl rfl rfl (Nat.le_of_ble_eq_true rfl) rfl ?_ | refine rs_ld_ra rfl rfl (Nat.le_of_ble_eq_true rfl) rfl ?_ | refine rs_ld_ma rfl rfl rfl (by omega) (Nat.le_of_ble_eq_true rfl) rfl ?_
                        refine rs_calln [] rfl rfl (fc42 m (inM_of h15 h19 h25)) (.cons (hv_same rfl) (.nil)) rfl ?_
                        refine rs_not rfl rfl ?_
                        cases h73 : !quarterS m
                        · skip
                          refine rs_pick rfl rfl rfl ?_
                          refine rs_pick rfl rfl rfl ?_
                          refine rs_nil fun _ => ?_
                          refine th_n ?_
                          refine aw_cond rfl (fun h => by cases h) (fun _ => ?_)
                          refine aw_skip ?_
                          refine th_n ?_
                          refine aw_seq ?_
                          refine aw_reg ?_
                          refine rs_mv rfl rfl ?_
                          refine rs_nil fun _ => ?_
                          refine th_n ?_
                          refine aw_ret ?_
                          first
                            | (exfalso; omega)
                            | exact ret_pure rfl (congrArg iv (by
                                have hm1 : m.kind < 1 ∨ 3 < m.kind ∨ ¬ (m.kind < 1 ∨ 3 < m.kind) := by omega
                                unfold checkR
                                first
                                  | rw [if_pos (by omega)]
                                  | (rw [if_neg (by omega)]; simp_all [feedR, lastR]; done)
                                  | (rw [if_neg (by omega)]; simp_all [feedR, lastR]; omega))) rfl (.inr rfl)
                        · skip
                          refine rs_pick rfl rfl rfl ?_
                          refine rs_pick rfl rfl rfl ?_
                          refine rs_nil fun _ => ?_
                          refine th_n ?_
                          refine aw_cond rfl (fun _ => ?_) (fun h => by cases h)
                          refine aw_seq ?_
                          refine aw_reg ?_
                          refine rs_mv rfl rfl ?_
                          refine rs_nil fun _ => ?_
                          refine th_n ?_
                          refine aw_ret ?_
                          refine th_r ?_
                          first
                            | (exfalso; omega)
                            | exact ret_pure rfl (congrArg iv (by
                                have hm1 : m.kind < 1 ∨ 3 < m.kind ∨ ¬ (m.kind < 1 ∨ 3 < m.kind) := by omega
                                unfold checkR
                                first
                                  | rw [if_pos (by omega)]
                                  | (rw [if_neg (by omega)]; simp_all [feedR, lastR]; done)
                                  | (rw [if_neg (by omega)]; simp_all [feedR, lastR]; omega))) rfl (.inr rfl)
                      · skip
                        refine rs_mv rfl rfl ?_
                        refine rs_skip rfl ?_
                        refine rs_skip rfl ?_
                        refine rs_skip rfl ?_
                        refine rs_pick rfl rfl rfl ?_
                        refine rs_pick rfl rfl rfl ?_
                        refine rs_nil fun _ => ?_
                        refine th_n ?_
                        refine aw_cond rfl (fun h => by cases h) (fun _ => ?_)
                        refine aw_skip ?_
                        refine th_n ?_
                        refine aw_seq ?_
                        refine aw_reg ?_
                        refine rs_mv rfl rfl ?_
                        refine rs_nil fun _ => ?_
                        refine th_n ?_
                        refine aw_ret ?_
                        first
                          | (exfalso; omega)
                          | exact ret_pure rfl (congrArg iv (by
                              have hm1 : m.kind < 1 ∨ 3 < m.kind ∨ ¬ (m.kind < 1 ∨ 3 < m.kind) := by omega
                              unfold checkR
                              first
                                | rw [if_pos (by omega)]
                                | (rw [if_neg (by omega)]; simp_all [feedR, lastR]; done)
                                | (rw [if_neg (by omega)]; simp_all [feedR, lastR]; omega))) rfl (.inr rfl)
                  · skip
                    refine rs_mv rfl rfl ?_
                    refine rs_skip rfl ?_
                    refine rs_skip rfl ?_
                    refine rs_skip rfl ?_
                    refine rs_skip rfl ?_
                    refine rs_skip rfl ?_
                    refine rs_skip rfl ?_
                    refine rs_skip rfl ?_
                    refine rs_skip rfl ?_
                    refine rs_skip rfl ?_
                    refine rs_pick rfl rfl rfl ?_
                    refine rs_mv rfl rfl ?_
                    refine rs_skip rfl ?_
                    refine rs_skip rfl ?_
                    refine rs_skip rfl ?_
                    refine rs_skip rfl ?_
                    refine rs_skip rfl ?_
                    refine rs_skip rfl ?_
                    refine rs_skip rfl ?_
                    refine rs_skip rfl ?_
                    refine rs_pick rfl rfl rfl ?_
                    refine rs_nil fun _ => ?_
                    refine th_n ?_
                    refine aw_cond rfl (fun _ => ?_) (fun h => by cases h)
                    refine aw_seq ?_
                    refine aw_reg ?_
                    refine rs_mv rfl rfl ?_
                    refine rs_nil fun _ => ?_
                    refine th_n ?_
                    refine aw_ret ?_
                    refine th_r ?_
                    first
                      | (exfalso; omega)
                      | exact ret_pure rfl (congrArg iv (by
                          have hm1 : m.kind < 1 ∨ 3 < m.kind ∨ ¬ (m.kind < 1 ∨ 3 < m.kind) := by omega
                          unfold checkR
                          first
                            | rw [if_pos (by omega)]
                            | (rw [if_neg (by omega)]; simp_all [feedR, lastR]; done)
                            | (rw [if_neg (by omega)]; simp_all [feedR, lastR]; omega))) rfl (.inr rfl)
            · skip
              refine rs_mv rfl rfl ?_
              refine rs_skip rfl ?_
              refine rs_skip rfl ?_
              refine rs_skip rfl ?_
              refine rs_pick rfl rfl rfl ?_
              refine rs_mv rfl rfl ?_
              first | refine rs_fa_p rfl rfl ?_ | refine rs_fa_r rfl rfl rfl ?_
              first | refine rs_ld_r rfl rfl rfl ?_ | refine rs_ld_p rfl rfl rfl rfl rfl ?_ | refine rs_ld_m rfl rfl rfl (by omega) rfl ?_
              refine rs_cmp rfl rfl rfl rfl (fun h38 => ?_) (fun h38 => ?_)
              · skip
                refine rs_mv rfl rfl ?_
                first | refine rs_fa_p rfl rfl ?_ | refine rs_fa_r rfl rfl rfl ?_
                first | refine rs_ld_r rfl rfl rfl ?_ | refine rs_ld_p rfl rfl rfl rfl rfl ?_ | refine rs_ld_m rfl rfl rfl (by omega) rfl ?_
                refine rs_cmp rfl rfl rfl rfl (fun h42 => ?_) (fun h42 => ?_)
                · skip
                  refine rs_mv rfl rfl ?_
                  refine rs_skip rfl ?_
                  refine rs_skip rfl ?_
                  refine rs_skip rfl ?_
                  refine rs_pick rfl rfl rfl ?_
                  refine rs_pick rfl rfl rfl ?_
                  refine rs_pick rfl rfl rfl ?_
                  refine rs_nil fun _ => ?_
                  refine th_n ?_
                  refine aw_cond rfl (fun _ => ?_) (fun h => by cases h)
                  refine aw_seq ?_
                  refine aw_reg ?_
                  refine rs_mv rfl rfl ?_
                  refine rs_nil fun _ => ?_
                  refine th_n ?_
                  refine aw_ret ?_
                  refine th_r ?_
                  first
                    | (exfalso; omega)
                    | exact ret_pure rfl (congrArg iv (by
                        have hm1 : m.kind < 1 ∨ 3 < m.kind ∨ ¬ (m.kind < 1 ∨ 3 < m.kind) := by omega
                        unfold checkR
                        first
                          | rw [if_pos (by omega)]
                          | (rw [if_neg (by omega)]; simp_all [feedR, lastR]; done)
                          | (rw [if_neg (by omega)]; simp_all [feedR, lastR]; omega))) rfl (.inr rfl)
                · skip
                  refine rs_mv rfl rfl ?_
                  first | refine rs_fa_p rfl rfl ?_ | refine rs_fa_r rfl rfl rfl ?_
                  first | refine rs_ld_r rfl rfl rfl ?_ | refine rs_ld_p rfl rfl rfl rfl rfl ?_ | refine rs_ld_m rfl rfl rfl (by omega) rfl ?_
                  refine rs_cmp rfl rfl rfl rfl (fun h46 => ?_) (fun h46 => ?_)
                  · skip
                    refine rs_pick rfl rfl rfl ?_
                    refine rs_pick rfl rfl rfl ?_
                    refine rs_pick rfl rfl rfl ?_
                    refine rs_nil fun _ => ?_
                    refine th_n ?_
                    refine aw_cond rfl (fun _ => ?_) (fun h => by cases h)
                    refine aw_seq ?_
                    refine aw_reg ?_
                    refine rs_mv rfl rfl ?_
                    refine rs_nil fun _ => ?_
                    refine th_n ?_
                    refine aw_ret ?_
                    refine th_r ?_
                    first
                      | (exfalso; omega)
                      | exact ret_pure rfl (congrArg iv (by
                          have hm1 : m.kind < 1 ∨ 3 < m.kind ∨ ¬ (m.kind < 1 ∨ 3 < m.kind) := by omega
                          unfold checkR
                          first
                            | rw [if_pos (by omega)]
                            | (rw [if_neg (by omega)]; simp_all [feedR, lastR]; done)
                            | (rw [if_neg (by omega)]; simp_all [feedR, lastR]; omega))) rfl (.inr rfl)
                  · skip
                    refine rs_pick rfl rfl rfl ?_
                    refine rs_pick rfl rfl rfl ?_
                    refine rs_pick rfl rfl rfl ?_
                    refine rs_nil fun _ => ?_
                    refine th_n ?_
                    refine aw_cond rfl (fun h => by cases h) (fun _ => ?_)
                    refine aw_skip ?_
                    refine th_n ?_
                    refine aw_seq ?_
                    refine aw_seq ?_
                    refine aw_reg ?_
                    first | refine rs_fa_p rfl rfl ?_ | refine rs_fa_r rfl rfl rfl ?_
                    first | refine rs_ld_pa rfl rfl rfl rfl (Nat.le_of_ble_eq_true rfl) rfl ?_ | refine rs_ld_ra rfl rfl (Nat.le_of_ble_eq_true rfl) rfl ?_ | refine rs_ld_ma rfl rfl rfl (by omega) (Nat.le_of_ble_eq_true rfl) rfl ?_
                    first | refine rs_fa_p rfl rfl ?_ | refine rs_fa_r rfl rfl rfl ?_
                    first | refine rs_ld_pa rfl rfl rfl rfl (Nat.le_of_ble_eq_true rfl) rfl ?_ | refine rs_ld_ra rfl rfl (Nat.le_of_ble_eq_true rfl) rfl ?_ | refine rs_ld_ma rfl rfl rfl (by omega) (Nat.le_of_ble_eq_true rfl) rfl ?_
                    refine rs_aeqv rfl rfl rfl ?_
                    cases h54 : (false != decide (m.fr = m.to))
                    · skip
                      refine rs_mv rfl rfl ?_
                      first | refine rs_fa_p rfl rfl ?_ | refine rs_fa_r rfl rfl rfl ?_
                      first | refine rs_ld_r rfl rfl rfl ?_ | refine rs_ld_p rfl rfl rfl rfl rfl ?_ | refine rs_ld_m rfl rfl rfl (by omega) rfl ?_
                      refine rs_cmp rfl rfl rfl rfl (fun h58 => ?_) (fun h58 => ?_)
                      · skip
                        refine rs_mv rfl rfl ?_
                        first | refine rs_fa_p rfl rfl ?_ | refine rs_fa_r rfl rfl rfl ?_
                        first | refine rs_ld_pa rfl rfl rfl rfl (Nat.le_of_ble_eq_true rfl) rfl ?_ | refine rs_ld_ra rfl rfl (Nat.le_of_ble_eq_true rfl) rfl ?_ | refine rs_ld_ma rfl rfl rfl (by omega) (Nat.le_of_ble_eq_true rfl) rfl ?_
                        refine rs_build rfl rfl ?_
                        refine rs_aeqv (v := ⟨0, 0, 0⟩) rfl rfl rfl ?_
                        cases h63 : (true != decide (m.co = ⟨0, 0, 0⟩))
                        · skip
                          refine rs_pick rfl rfl rfl ?_
                          refine rs_pick rfl rfl rfl ?_
                          refine rs_mv rfl rfl ?_
                          first | refine rs_fa_p rfl rfl ?_ | refine rs_fa_r rfl rfl rfl ?_
                          first | refine rs_ld_r rfl rfl rfl ?_ | refine rs_ld_p rfl rfl rfl rfl rfl ?_ | refine rs_ld_m rfl rfl rfl (by omega) rfl ?_
                          refine rs_cmp rfl rfl rfl rfl (fun h69 => ?_) (fun h69 => ?_)
                          · skip
                            refine rs_mv rfl rfl ?_
                            first | refine rs_ld_pa rfl rfl rfl rfl (Nat.le_of_ble_eq_true rfl) rfl ?_ | refine rs_ld_ra rfl rfl (Nat.le_of_ble_eq_true rfl) rfl ?_ | refine rs_ld_ma rfl rfl rfl (by omega) (Nat.le_of_ble_eq_true rfl) rfl ?_
                            refine rs_calln [] rfl rfl (fc42 m (inM_of h15 h19 h25)) (.cons (hv_same rfl) (.nil)) rfl ?_
                            refine rs_not rfl rfl ?_
                            cases h73 : !quarterS m
                            · skip
                              refine rs_pick rfl rfl rfl ?_
                              refine rs_pick rfl rfl rfl ?_
                              refine rs_nil fun _ => ?_
                              refine th_n ?_
                              refine aw_cond rfl (fun h => by cases h) (fun _ => ?_)
                              refine aw_skip ?_
                              refine th_n ?_
                              refine aw_seq ?_
                              refine aw_reg ?_
                              refine rs_mv rfl rfl ?_
                              refine rs_nil fun _ => ?_
                              refine th_n ?_
                              refine aw_ret ?_
                              first
                                | (exfalso; omega)
                                | exact ret_pure rfl (congrArg iv (by
                                    have hm1 : m.kind < 1 ∨ 3 < m.kind ∨ ¬ (m.kind < 1 ∨ 3 < m.kind) := by omega
                                    unfold checkR
                                    first
                                      | rw [if_pos (by omega)]
                                      | (rw [if_neg (by omega)]; simp_all [feedR, lastR]; done)
                                      | (rw [if_neg (by omega)]; simp_all [feedR, lastR]; omega))) rfl (.inr rfl)
                            · skip
                              refine rs_pick rfl rfl rfl ?_
                              refine rs_pick rfl rfl rfl ?_
                              refine rs_nil fun _ => ?_
                              refine th_n ?_
                              refine aw_cond rfl (fun _ => ?_) (fun h => by cases h)
                              refine aw_seq ?_
                              refine aw_reg ?_
                              refine rs_mv rfl rfl ?_
                              refine rs_nil fun _ => ?_
                              refine th_n ?_
                              refine aw_ret ?_
                              refine th_r ?_
                              first
                                | (exfalso; omega)
                                | exact ret_pure rfl (congrArg iv (by
                                    have hm1 : m.kind < 1 ∨ 3 < m.kind ∨ ¬ (m.kind < 1 ∨ 3 < m.kind) := by omega
                                    unfold checkR
                                    first
                                      | rw [if_pos (by omega)]
                                      | (rw [if_neg (by omega)]; simp_all [feedR, lastR]; done)
                                      | (rw [if_neg (by omega)]; simp_all [feedR, lastR]; omega))) rfl (.inr rfl)
                          · skip
                            refine rs_mv rfl rfl ?_
                            refine rs_skip rfl ?_
                            refine rs_skip rfl ?_
                            refine rs_skip rfl ?_
                            refine rs_pick rfl rfl rfl ?_
                            refine rs_pick rfl rfl rfl ?_
                            refine rs_nil fun _ => ?_
                            refine th_n ?_
                            refine aw_cond rfl (fun h => by cases h) (fun _ => ?_)
                            refine aw_skip ?_
                            refine th_n ?_
                            refine aw_seq ?_
                            refine aw_reg ?_
                            refine rs_mv rfl rfl ?_
                            refine rs_nil fun _ => ?_
                            refine th_n ?_
                            refine aw_ret ?_
                            first
                              | (exfalso; omega)
                              | exact ret_pure rfl (congrArg iv (by
                                  have hm1 : m.kind < 1 ∨ 3 < m.kind ∨ ¬ (m.kind < 1 ∨ 3 < m.kind) := by omega
                                  unfold checkR
                                  first
                                    | rw [if_pos (by omega)]
                                    | (rw [if_neg (by omega)]; simp_all [feedR, lastR]; done)
                                    | (rw [if_neg (by omega)]; simp_all [feedR, lastR]; omega))) rfl (.inr rfl)
                        · skip
                          refine rs_pick rfl rfl rfl ?_
                          refine rs_pick rfl rfl rfl ?_
                          refine rs_mv rfl rfl ?_
                          refine rs_skip rfl ?_
                          refine rs_skip rfl ?_
                          refine rs_skip rfl ?_
                          refine rs_skip rfl ?_
                          refine rs_skip rfl ?_
                          refine rs_skip rfl ?_
                          refine rs_skip rfl ?_
                          refine rs_skip rfl ?_
                          refine rs_pick rfl rfl rfl ?_
                          refine rs_nil fun _ => ?_
                          refine th_n ?_
                          refine aw_cond rfl (fun _ => ?_) (fun h => by cases h)
                          refine aw_seq ?_
                          refine aw_reg ?_
                          refine rs_mv rfl rfl ?_
                          refine rs_nil fun _ => ?_
                          refine th_n ?_
                          refine aw_ret ?_
                          refine th_r ?_
                          first
                            | (exfalso; omega)
                            | exact ret_pure rfl (congrArg iv (by
                                have hm1 : m.kind < 1 ∨ 3 < m.kind ∨ ¬ (m.kind < 1 ∨ 3 < m.kind) := by omega
                                unfold checkR
                                first
                                  | rw [if_pos (by omega)]
                                  | (rw [if_neg (by omega)]; simp_all [feedR, lastR]; done)
                                  | (rw [if_neg (by omega)]; simp_all [feedR, lastR]; omega))) rfl (.inr rfl)
                      · skip
                        refine rs_mv rfl rfl ?_
                        refine rs_skip rfl ?_
                        refine rs_skip rfl ?_
                        refine rs_skip rfl ?_
                        refine rs_skip rfl ?_
                        refine rs_pick rfl rfl rfl ?_
                        refine rs_pick rfl rfl rfl ?_
                        refine rs_mv rfl rfl ?_
                        first | refine rs_fa_p rfl rfl ?_ | refine rs_fa_r rfl rfl rfl ?_
                        first | refine rs_ld_r rfl rfl rfl ?_ | refine rs_ld_p rfl rfl rfl rfl rfl ?_ | refine rs_ld_m rfl rfl rfl (by omega) rfl ?_
                        refine rs_cmp rfl rfl rfl rfl (fun h69 => ?_) (fun h69 => ?_)
                        · skip
                          refine rs_mv rfl rfl ?_
                          first | refine rs_ld_pa rfl rfl rfl rfl (Nat.le_of_ble_eq_true rfl) rfl ?_ | refine rs_ld_ra rfl rfl (Nat.le_of_ble_eq_true rfl) rfl ?_ | refine rs_ld_ma rfl rfl rfl (by omega) (Nat.le_of_ble_eq_true rfl) rfl ?_
                          refine rs_calln [] rfl rfl (fc42 m (inM_of h15 h19 h25)) (.cons (hv_same rfl) (.nil)) rfl ?_
                          refine rs_not rfl rfl ?_
                          cases h73 : !quarterS m
                          · skip
                            refine rs_pick rfl rfl rfl ?_
                            refine rs_pick rfl rfl rfl ?_
                            refine rs_nil fun _ => ?_
                            refine th_n ?_
                            refine aw_cond rfl (fun h => by cases h) (fun _ => ?_)
                            refine aw_skip ?_
                            refine th_n ?_
                            refine aw_seq ?_
                            refine aw_reg ?_
                            refine rs_mv rfl rfl ?_
                            refine rs_nil fun _ => ?_
                            refine th_n ?_
                            refine aw_ret ?_
                            first
                              | (exfalso; omega)
                              | exact ret_pure rfl (congrArg iv (by
                                  have hm1 : m.kind < 1 ∨ 3 < m.kind ∨ ¬ (m.kind < 1 ∨ 3 < m.kind) := by omega
                                  unfold checkR
                                  first
                                    | rw [if_pos (by omega)]
                                    | (rw [if_neg (by omega)]; simp_all [feedR, lastR]; done)
                                    | (rw [if_neg (by omega)]; simp_all [feedR, lastR]; omega))) rfl (.inr rfl)
                          · skip
                            refine rs_pick rfl rfl rfl ?_
                            refine rs_pick rfl rfl rfl ?_
                            refine rs_nil fun _ => ?_
                            refine th_n ?_
                            refine aw_cond rfl (fun _ => ?_) (fun h => by cases h)
                            refine aw_seq ?_
                            refine aw_reg ?_
                            refine rs_mv rfl rfl ?_
                            refine rs_nil fun _ => ?_
                            refine th_n ?_
                            refine aw_ret ?_
                            refine th_r ?_
                            first
                              | (exfalso; omega)
                              | exact ret_pure rfl (congrArg iv (by
                                  have hm1 : m.kind < 1 ∨ 3 < m.kind ∨ ¬ (m.kind < 1 ∨ 3 < m.kind) := by omega
                                  unfold checkR
                                  first
                                    | rw [if_pos (by omega)]
                                    | (rw [if_neg (by omega)]; simp_all [feedR, lastR]; done)
                                    | (rw [if_neg (by omega)]; simp_all [feedR, lastR]; omega))) rfl (.inr rfl)
                        · skip
                          refine rs_mv rfl rfl ?_
                          refine rs_skip rfl ?_
                          refine rs_skip rfl ?_
                          refine rs_skip rfl ?_
                          refine rs_pick rfl rfl rfl ?_
                          refine rs_pick rfl rfl rfl ?_
                          refine rs_nil fun _ => ?_
                          refine th_n ?_
                          refine aw_cond rfl (fun h => by cases h) (fun _ => ?_)
                          refine aw_skip ?_
                          refine th_n ?_
                          refine aw_seq ?_
                          refine aw_reg ?_
                          refine rs_mv rfl rfl ?_
                          refine rs_nil fun _ => ?_
                          refine th_n ?_
                          refine aw_ret ?_
                          first
                            | (exfalso; omega)
                            | exact ret_pure rfl (congrArg iv (by
                                have hm1 : m.kind < 1 ∨ 3 < m.kind ∨ ¬ (m.kind < 1 ∨ 3 < m.kind) := by omega
                                unfold checkR
                                first
                                  | rw [if_pos (by omega)]
                                  | (rw [if_neg (by omega)]; simp_all [feedR, lastR]; done)
                                  | (rw [if_neg (by omega)]; simp_all [feedR, lastR]; omega))) rfl (.inr rfl)
                    · skip
                      refine rs_mv rfl rfl ?_
                      refine rs_skip rfl ?_
                      refine rs_skip rfl ?_
                      refine rs_skip rfl ?_
                      refine rs_skip rfl ?_
                      refine rs_skip rfl ?_
                      refine rs_skip rfl ?_
                      refine rs_skip rfl ?_
                      refine rs_skip rfl ?_
                      refine rs_skip rfl ?_
                      refine rs_pick rfl rfl rfl ?_
                      refine rs_mv rfl rfl ?_
                      refine rs_skip rfl ?_
                      refine rs_skip rfl ?_
                      refine rs_skip rfl ?_
                      refine rs_skip rfl ?_
                      refine rs_skip rfl ?_
                      refine rs_skip rfl ?_
                      refine rs_skip rfl ?_
                      refine rs_skip rfl ?_
                      refine rs_pick rfl rfl rfl ?_
                      refine rs_nil fun _ => ?_
                      refine th_n ?_
                      refine aw_cond rfl (fun _ => ?_) (fun h => by cases h)
                      refine aw_seq ?_
                      refine aw_reg ?_
                      refine rs_mv rfl rfl ?_
                      refine rs_nil fun _ => ?_
                      refine th_n ?_
                      refine aw_ret ?_
                      refine th_r ?_
                      first
                        | (exfalso; omega)
                        | exact ret_pure rfl (congrArg iv (by
                            have hm1 : m.kind < 1 ∨ 3 < m.kind ∨ ¬ (m.kind < 1 ∨ 3 < m.kind) := by omega
                            unfold checkR
                            first
                              | rw [if_pos (by omega)]
                              | (rw [if_neg (by omega)]; simp_all [feedR, lastR]; done)
                              | (rw [if_neg (by omega)]; simp_all [feedR, lastR]; omega))) rfl (.inr rfl)
              · skip
                refine rs_mv rfl rfl ?_
                refine rs_skip rfl ?_
                refine rs_skip rfl ?_
                refine rs_skip rfl ?_
                refine rs_skip rfl ?_
                refine rs_skip rfl ?_
                refine rs_skip rfl ?_
                refine rs_skip rfl ?_
                refine rs_skip rfl ?_
                refine rs_pick rfl rfl rfl ?_
                refine rs_pick rfl rfl rfl ?_
                refine rs_nil fun _ => ?_
                refine th_n ?_
                refine aw_cond rfl (fun h => by cases h) (fun _ => ?_)
                refine aw_skip ?_
                refine th_n ?_
                refine aw_seq ?_
                refine aw_seq ?_
                refine aw_reg ?_
                first | refine rs_fa_p rfl rfl ?_ | refine rs_fa_r rfl rfl rfl ?_
                first | refine rs_ld_pa rfl rfl rfl rfl (Nat.le_of_ble_eq_true rfl) rfl ?_ | refine rs_ld_ra rfl rfl (Nat.le_of_ble_eq_true rfl) rfl ?_ | refine rs_ld_ma rfl rfl rfl (by omega) (Nat.le_of_ble_eq_true rfl) rfl ?_
                first | refine rs_fa_p rfl rfl ?_ | refine rs_fa_r rfl rfl rfl ?_
                first | refine rs_ld_pa rfl rfl rfl rfl (Nat.le_of_ble_eq_true rfl) rfl ?_ | refine rs_ld_ra rfl rfl (Nat.le_of_ble_eq_true rfl) rfl ?_ | refine rs_ld_ma rfl rfl rfl (by omega) (Nat.le_of_ble_eq_true rfl) rfl ?_
                refine rs_aeqv rfl rfl rfl ?_
                cases h54 : (false != decide (m.fr = m.to))
                · skip
                  refine rs_mv rfl rfl ?_
                  first | refine rs_fa_p rfl rfl ?_ | refine rs_fa_r rfl rfl rfl ?_
                  first | refine rs_ld_r rfl rfl rfl ?_ | refine rs_ld_p rfl rfl rfl rfl rfl ?_ | refine rs_ld_m rfl rfl rfl (by omega) rfl ?_
                  refine rs_cmp rfl rfl rfl rfl (fun h58 => ?_) (fun h58 => ?_)
                  · skip
                    refine rs_mv rfl rfl ?_
                    first | refine rs_fa_p rfl rfl ?_ | refine rs_fa_r rfl rfl rfl ?_
                    first | refine rs_ld_pa rfl rfl rfl rfl (Nat.le_of_ble_eq_true rfl) rfl ?_ | refine rs_ld_ra rfl rfl (Nat.le_of_ble_eq_true rfl) rfl ?_ | refine rs_ld_ma rfl rfl rfl (by omega) (Nat.le_of_ble_eq_true rfl) rfl ?_
                    refine rs_build rfl rfl ?_
                    refine rs_aeqv (v := ⟨0, 0, 0⟩) rfl rfl rfl ?_
                    cases h63 : (true != decide (m.co = ⟨0, 0, 0⟩))
                    · skip
                      refine rs_pick rfl rfl rfl ?_
                      refine rs_pick rfl rfl rfl ?_
                      refine rs_mv rfl rfl ?_
                      first | refine rs_fa_p rfl rfl ?_ | refine rs_fa_r rfl rfl rfl ?_
                      first | refine rs_ld_r rfl rfl rfl ?_ | refine rs_ld_p rfl rfl rfl rfl rfl ?_ | refine rs_ld_m rfl rfl rfl (by omega) rfl ?_
                      refine rs_cmp rfl rfl rfl rfl (fun h69 => ?_) (fun h69 => ?_)
                      · skip
                        refine rs_mv rfl rfl ?_
                        first | refine rs_ld_pa rfl rfl rfl rfl (Nat.le_of_ble_eq_true rfl) rfl ?_ | refine rs_ld_ra rfl rfl (Nat.le_of_ble_eq_true rfl) rfl ?_ | refine rs_ld_ma rfl rfl rfl (by omega) (Nat.le_of_ble_eq_true rfl) rfl ?_
                        refine rs_calln [] rfl rfl (fc42 m (inM_of h15 h19 h25)) (.cons (hv_same rfl) (.nil)) rfl ?_
                        refine rs_not rfl rfl ?_
                        cases h73 : !quarterS m
                        · skip
                          refine rs_pick rfl rfl rfl ?_
                          refine rs_pick rfl rfl rfl ?_
                          refine rs_nil fun _ => ?_
                          refine th_n ?_
                          refine aw_cond rfl (fun h => by cases h) (fun _ => ?_)
                          refine aw_skip ?_
                          refine th_n ?_
                          refine aw_seq ?_
                          refine aw_reg ?_
                          refine rs_mv rfl rfl ?_
                          refine rs_nil fun _ => ?_
                          refine th_n ?_
                          refine aw_ret ?_
                          first
                            | (exfalso; omega)
                            | exact ret_pure rfl (congrArg iv (by
                                have hm1 : m.kind < 1 ∨ 3 < m.kind ∨ ¬ (m.kind < 1 ∨ 3 < m.kind) := by omega
                                unfold checkR
                                first
                                  | rw [if_pos (by omega)]
                                  | (rw [if_neg (by omega)]; simp_all [feedR, lastR]; done)
                                  | (rw [if_neg (by omega)]; simp_all [feedR, lastR]; omega))) rfl (.inr rfl)
                        · skip
                          refine rs_pick rfl rfl rfl ?_
                          refine rs_pick rfl rfl rfl ?_
                          refine rs_nil fun _ => ?_
                          refine th_n ?_
                          refine aw_cond rfl (fun _ => ?_) (fun h => by cases h)
                          refine aw_seq ?_
                          refine aw_reg ?_
                          refine rs_mv rfl rfl ?_
                          refine rs_nil fun _ => ?_
                          refine th_n ?_
                          refine aw_ret ?_
                          refine th_r ?_
                          first
                            | (exfalso; omega)
                            | exact ret_pure rfl (congrArg iv (by
                                have hm1 : m.kind < 1 ∨ 3 < m.kind ∨ ¬ (m.kind < 1 ∨ 3 < m.kind) := by omega
                                unfold checkR
                                first
                                  | rw [if_pos (by omega)]
                                  | (rw [if_neg (by omega)]; simp_all [feedR, lastR]; done)
                                  | (rw [if_neg (by omega)]; simp_all [feedR, lastR]; omega))) rfl (.inr rfl)
                      · skip
                        refine rs_mv rfl rfl ?_
                        refine rs_skip rfl ?_
                        refine rs_skip rfl ?_
                        refine rs_skip rfl ?_
                        refine rs_pick rfl rfl rfl ?_
                        refine rs_pick rfl rfl rfl ?_
                        refine rs_nil fun _ => ?_
                        refine th_n ?_
                        refine aw_cond rfl (fun h => by cases h) (fun _ => ?_)
                        refine aw_skip ?_
                        refine th_n ?_
                        refine aw_seq ?_
                        refine aw_reg ?_
                        refine rs_mv rfl rfl ?_
                        refine rs_nil fun _ => ?_
                        refine th_n ?_
                        refine aw_ret ?_
                        first
                          | (exfalso; omega)
                          | exact ret_pure rfl (congrArg iv (by
                              have hm1 : m.kind < 1 ∨ 3 < m.kind ∨ ¬ (m.kind < 1 ∨ 3 < m.kind) := by omega
                              unfold checkR
                              first
                                | rw [if_pos (by omega)]
                                | (rw [if_neg (by omega)]; simp_all [feedR, lastR]; done)
                                | (rw [if_neg (by omega)]; simp_all [feedR, lastR]; omega))) rfl (.inr rfl)
                    · skip
                      refine rs_pick rfl rfl rfl ?_
                      refine rs_pick rfl rfl rfl ?_
                      refine rs_mv rfl rfl ?_
                      refine rs_skip rfl ?_
                      refine rs_skip rfl ?_
                      refine rs_skip rfl ?_
                      refine rs_skip rfl ?_
                      refine rs_skip rfl ?_
                      refine rs_skip rfl ?_
                      refine rs_skip rfl ?_
                      refine rs_skip rfl ?_
                      refine rs_pick rfl rfl rfl ?_
                      refine rs_nil fun _ => ?_
                      refine th_n ?_
                      refine aw_cond rfl (fun _ => ?_) (fun h => by cases h)
                      refine aw_seq ?_
                      refine aw_reg ?_
                      refine rs_mv rfl rfl ?_
                      refine rs_nil fun _ => ?_
                      refine th_n ?_
                      refine aw_ret ?_
                      refine th_r ?_
                      first
                        | (exfalso; omega)
                        | exact ret_pure rfl (congrArg iv (by
                            have hm1 : m.kind < 1 ∨ 3 < m.kind ∨ ¬ (m.kind < 1 ∨ 3 < m.kind) := by omega
                            unfold checkR
                            first
                              | rw [if_pos (by omega)]
                              | (rw [if_neg (by omega)]; simp_all [feedR, lastR]; done)
                              | (rw [if_neg (by omega)]; simp_all [feedR, lastR]; omega))) rfl (.inr rfl)
                  · skip
                    refine rs_mv rfl rfl ?_
                    refine rs_skip rfl ?_
                    refine rs_skip rfl ?_
                    refine rs_skip rfl ?_
                    refine rs_skip rfl ?_
                    refine rs_pick rfl rfl rfl ?_
                    refine rs_pick rfl rfl rfl ?_
                    refine rs_mv rfl rfl ?_
                    first | refine rs_fa_p rfl rfl ?_ | refine rs_fa_r rfl rfl rfl ?_
                    first | refine rs_ld_r rfl rfl rfl ?_ | refine rs_ld_p rfl rfl rfl rfl rfl ?_ | refine rs_ld_m rfl rfl rfl (by omega) rfl ?_
                    refine rs_cmp rfl rfl rfl rfl (fun h69 => ?_) (fun h69 => ?_)
                    · skip
                      refine rs_mv rfl rfl ?_
                      first | refine rs_ld_pa rfl rfl rfl rfl (Nat.le_of_ble_eq_true rfl) rfl ?_ | refine rs_ld_ra rfl rfl (Nat.le_of_ble_eq_true rfl) rfl ?_ | refine rs_ld_ma rfl rfl rfl (by omega) (Nat.le_of_ble_eq_true rfl) rfl ?_
                      refine rs_calln [] rfl rfl (fc42 m (inM_of h15 h19 h25)) (.cons (hv_same rfl) (.nil)) rfl ?_
                      refine rs_not rfl rfl ?_
                      cases h73 : !quarterS m
                      · skip
                        refine rs_pick rfl rfl rfl ?_
                        refine rs_pick rfl rfl rfl ?_
                        refine rs_nil fun _ => ?_
                        refine th_n ?_
                        refine aw_cond rfl (fun h => by cases h) (fun _ => ?_)
                        refine aw_skip ?_
                        refine th_n ?_
                        refine aw_seq ?_
                        refine aw_reg ?_
                        refine rs_mv rfl rfl ?_
                        refine rs_nil fun _ => ?_
                        refine th_n ?_
                        refine aw_ret ?_
                        first
                          | (exfalso; omega)
                          | exact ret_pure rfl (congrArg iv (by
                              have hm1 : m.kind < 1 ∨ 3 < m.kind ∨ ¬ (m.kind < 1 ∨ 3 < m.kind) := by omega
                              unfold checkR
                              first
                                | rw [if_pos (by omega)]
                                | (rw [if_neg (by omega)]; simp_all [feedR, lastR]; done)
                                | (rw [if_neg (by omega)]; simp_all [feedR, lastR]; omega))) rfl (.inr rfl)
                      · skip
                        refine rs_pick rfl rfl rfl ?_
                        refine rs_pick rfl rfl rfl ?_
                        refine rs_nil fun _ => ?_
                        refine th_n ?_
                        refine aw_cond rfl (fun _ => ?_) (fun h => by cases h)
                        refine aw_seq ?_
                        refine aw_reg ?_
                        refine rs_mv rfl rfl ?_
                        refine rs_nil fun _ => ?_
                        refine th_n ?_
                        refine aw_ret ?_
                        refine th_r ?_
                        first
                          | (exfalso; omega)
                          | exact ret_pure rfl (congrArg iv (by
                              have hm1 : m.kind < 1 ∨ 3 < m.kind ∨ ¬ (m.kind < 1 ∨ 3 < m.kind) := by omega
                              unfold checkR
                              first
                                | rw [if_pos (by omega)]
                                | (rw [if_neg (by omega)]; simp_all [feedR, lastR]; done)
                                | (rw [if_neg (by omega)]; simp_all [feedR, lastR]; omega))) rfl (.inr rfl)
                    · skip
                      refine rs_mv rfl rfl ?_
                      refine rs_skip rfl ?_
                      refine rs_skip rfl ?_
                      refine rs_skip rfl ?_
                      refine rs_pick rfl rfl rfl ?_
                      refine rs_pick rfl rfl rfl ?_
                      refine rs_nil fun _ => ?_
                      refine th_n ?_
                      refine aw_cond rfl (fun h => by cases h) (fun _ => ?_)
                      refine aw_skip ?_
                      refine th_n ?_
                      refine aw_seq ?_
                      refine aw_reg ?_
                      refine rs_mv rfl rfl ?_
                      refine rs_nil fun _ => ?_
                      refine th_n ?_
                      refine aw_ret ?_
                      first
                        | (exfalso; omega)
                        | exact ret_pure rfl (congrArg iv (by
                            have hm1 : m.kind < 1 ∨ 3 < m.kind ∨ ¬ (m.kind < 1 ∨ 3 < m.kind) := by omega
                            unfold checkR
                            first
                              | rw [if_pos (by omega)]
                              | (rw [if_neg (by omega)]; simp_all [feedR, lastR]; done)
                              | (rw [if_neg (by omega)]; simp_all [feedR, lastR]; omega))) rfl (.inr rfl)
                · skip
                  refine rs_mv rfl rfl ?_
                  refine rs_skip rfl ?_
                  refine rs_skip rfl ?_
                  refine rs_skip rfl ?_
                  refine rs_skip rfl ?_
                  refine rs_skip rfl ?_
                  refine rs_skip rfl ?_
                  refine rs_skip rfl ?_
                  refine rs_skip rfl ?_
                  refine rs_skip rfl ?_
                  refine rs_pick rfl rfl rfl ?_
                  refine rs_mv rfl rfl ?_
                  refine rs_skip rfl ?_
                  refine rs_skip rfl ?_
                  refine rs_skip rfl ?_
                  refine rs_skip rfl ?_
                  refine rs_skip rfl ?_
                  refine rs_skip rfl ?_
                  refine rs_skip rfl ?_
                  refine rs_skip rfl ?_
                  refine rs_pick rfl rfl rfl ?_
                  refine rs_nil fun _ => ?_
                  refine th_n ?_
                  refine aw_cond rfl (fun _ => ?_) (fun h => by cases h)
                  refine aw_seq ?_
                  refine aw_reg ?_
                  refine rs_mv rfl rfl ?_
                  refine rs_nil fun _ => ?_
                  refine th_n ?_
                  refine aw_ret ?_
                  refine th_r ?_
                  first
                    | (exfalso; omega)
                    | exact ret_pure rfl (congrArg iv (by
                        have hm1 : m.kind < 1 ∨ 3 < m.kind ∨ ¬ (m.kind < 1 ∨ 3 < m.kind) := by omega
                        unfold checkR
                        first
                          | rw [if_pos (by omega)]
                          | (rw [if_neg (by omega)]; simp_all [feedR, lastR]; done)
                          | (rw [if_neg (by omega)]; simp_all [feedR, lastR]; omega))) rfl (.inr rfl)
          · skip
            refine rs_pick rfl rfl rfl ?_
            refine rs_nil fun _ => ?_
            refine th_n ?_
            refine aw_cond rfl (fun _ => ?_) (fun h => by cases h)
            refine aw_seq ?_
            refine aw_reg ?_
            refine rs_mv rfl rfl ?_
            refine rs_nil fun _ => ?_
            refine th_n ?_
            refine aw_ret ?_
            refine th_r ?_
            first
              | (exfalso; omega)
              | exact ret_pure rfl (congrArg iv (by
                  have hm1 : m.kind < 1 ∨ 3 < m.kind ∨ ¬ (m.kind < 1 ∨ 3 < m.kind) := by omega
                  unfold checkR
                  first
                    | rw [if_pos (by omega)]
                    | (rw [if_neg (by omega)]; simp_all [feedR, lastR]; done)
                    | (rw [if_neg (by omega)]; simp_all [feedR, lastR]; omega))) rfl (.inr rfl)
        · skip
          refine rs_pick rfl rfl rfl ?_
          refine rs_mv rfl rfl ?_
          refine rs_skip rfl ?_
          refine rs_skip rfl ?_
          refine rs_skip rfl ?_
          refine rs_skip rfl ?_
          refine rs_pick rfl rfl rfl ?_
          refine rs_nil fun _ => ?_
          refine th_n ?_
          refine aw_cond rfl (fun _ => ?_) (fun h => by cases h)
          refine aw_seq ?_
          refine aw_reg ?_
          refine rs_mv rfl rfl ?_
          refine rs_nil fun _ => ?_
          refine th_n ?_
          refine aw_ret ?_
          refine th_r ?_
          first
            | (exfalso; omega)
            | exact ret_pure rfl (congrArg iv (by
                have hm1 : m.kind < 1 ∨ 3 < m.kind ∨ ¬ (m.kind < 1 ∨ 3 < m.kind) := by omega
                unfold checkR
                first
                  | rw [if_pos (by omega)]
                  | (rw [if_neg (by omega)]; simp_all [feedR, lastR]; done)
                  | (rw [if_neg (by omega)]; simp_all [feedR, lastR]; omega))) rfl (.inr rfl)
      · skip
        refine rs_skip rfl ?_
        refine rs_skip rfl ?_
        refine rs_skip rfl ?_
        refine rs_skip rfl ?_
        refine rs_pick rfl rfl rfl ?_
        refine rs_mv rfl rfl ?_
        refine rs_skip rfl ?_
        refine rs_skip rfl ?_
        refine rs_skip rfl ?_
        refine rs_skip rfl ?_
        refine rs_pick rfl rfl rfl ?_
        refine rs_nil fun _ => ?_
        refine th_n ?_
        refine aw_cond rfl (fun _ => ?_) (fun h => by cases h)
        refine aw_seq ?_
        refine aw_reg ?_
        refine rs_mv rfl rfl ?_
        refine rs_nil fun _ => ?_
        refine th_n ?_
        refine aw_ret ?_
        refine th_r ?_
        first
          | (exfalso; omega)
          | exact ret_pure rfl (congrArg iv (by
              have hm1 : m.kind < 1 ∨ 3 < m.kind ∨ ¬ (m.kind < 1 ∨ 3 < m.kind) := by omega
              unfold checkR
              first
                | rw [if_pos (by omega)]
                | (rw [if_neg (by omega)]; simp_all [feedR, lastR]; done)
                | (rw [if_neg (by omega)]; simp_all [feedR, lastR]; omega))) rfl (.inr rfl)

end Go.Proofs.Yteommcdafifckaa

/-! Plain law: the form of an arc, told in both ways. -/
namespace Go.Proofs.Yteommcdafifckaa
open Go.RowKit

theorem gS_eq (v : V3) : gS v = Nat.gcd (Nat.gcd v.x.natAbs v.y.natAbs) v.z.natAbs := by simp [gS, gL]
theorem gS_dvd (v : V3) : (gS v : Int) ∣ v.x ∧ (gS v : Int) ∣ v.y ∧ (gS v : Int) ∣ v.z := by
  rw [gS_eq]
  refine ⟨?_, ?_, ?_⟩ <;> rw [Int.ofNat_dvd_left]
  · exact Nat.dvd_trans (Nat.gcd_dvd_left _ _) (Nat.gcd_dvd_left _ _)
  · exact Nat.dvd_trans (Nat.gcd_dvd_left _ _) (Nat.gcd_dvd_right _ _)
  · exact Nat.gcd_dvd_right _ _
theorem prim_mul (v : V3) : v.x = gS v * (primV v).x ∧ v.y = gS v * (primV v).y ∧ v.z = gS v * (primV v).z := by
  obtain ⟨h1, h2, h3⟩ := gS_dvd v
  unfold primV
  split
  · rename_i h
    rw [h] at h1 h2 h3 ⊢
    simp only [Int.natCast_zero, Int.zero_mul]
    exact ⟨Int.zero_dvd.1 h1, Int.zero_dvd.1 h2, Int.zero_dvd.1 h3⟩
  · exact ⟨(Int.mul_tdiv_cancel' h1).symm, (Int.mul_tdiv_cancel' h2).symm, (Int.mul_tdiv_cancel' h3).symm⟩
theorem sq_nonneg (a : Int) : 0 ≤ a * a := by
  rcases Int.le_total 0 a with h | h
  · exact Int.mul_nonneg h h
  · rw [← Int.neg_mul_neg]; exact Int.mul_nonneg (by omega) (by omega)
theorem sq_le1 {a : Int} (h : a * a ≤ 1) : a = -1 ∨ a = 0 ∨ a = 1 := by
  have h1 : ¬ 2 ≤ a := fun h2 => by
    have := Int.mul_le_mul h2 h2 (by omega) (by omega)
    omega
  have h2 : ¬ a ≤ -2 := fun h2 => by
    have := Int.mul_le_mul (show 2 ≤ -a by omega) (show 2 ≤ -a by omega) (by omega) (by omega)
    rw [Int.neg_mul_neg] at this
    omega
  omega
/-- Unit vectors along an axis. -/
theorem unit_cases {p : V3} (h : dot p p = 1) : p = ⟨1, 0, 0⟩ ∨ p = ⟨-1, 0, 0⟩ ∨ p = ⟨0, 1, 0⟩ ∨ p = ⟨0, -1, 0⟩ ∨ p = ⟨0, 0, 1⟩ ∨ p = ⟨0, 0, -1⟩ := by
  obtain ⟨x, y, z⟩ := p
  unfold dot at h
  dsimp only at h
  have h1 := sq_nonneg x
  have h2 := sq_nonneg y
  have h3 := sq_nonneg z
  rcases sq_le1 (a := x) (by omega) with rfl | rfl | rfl <;> rcases sq_le1 (a := y) (by omega) with rfl | rfl | rfl <;> rcases sq_le1 (a := z) (by omega) with rfl | rfl | rfl <;> simp at h ⊢
theorem tdiv_abs {a : Int} (h : a ≠ 0) : a.tdiv a.natAbs = 1 ∨ a.tdiv a.natAbs = -1 := by
  rcases Int.lt_trichotomy a 0 with h1 | h1 | h1
  · right
    have : ((a.natAbs : Nat) : Int) = -a := by omega
    rw [this, Int.tdiv_neg, Int.tdiv_self h]
  · exact absurd h1 h
  · left
    have : ((a.natAbs : Nat) : Int) = a := by omega
    rw [this, Int.tdiv_self h]
/-- A vector is parallel to an axis: told by its length, and by its primitive vector. -/
theorem unit_len (v : V3) : dot (primV v) (primV v) = 1 ↔ 1 ≤ lenS v := by
  constructor
  · intro h
    obtain ⟨e1, e2, e3⟩ := prim_mul v
    have hg : gS v ≠ 0 := fun e => by
      unfold primV at h
      rw [if_pos e] at h
      simp [dot] at h
    have hg1 : 1 ≤ (gS v : Int) := by omega
    generalize (gS v : Int) = g at e1 e2 e3 hg1
    rcases unit_cases h with e | e | e | e | e | e <;> rw [e] at e1 e2 e3 <;> simp only [Int.mul_one, Int.mul_zero, Int.mul_neg] at e1 e2 e3 <;> unfold lenS <;> dsimp only <;> rw [e1, e2, e3, if_pos (by omega)] <;> omega
  · intro h
    have h0 : (v.x ≠ 0 ∧ v.y = 0 ∧ v.z = 0) ∨ (v.x = 0 ∧ v.y ≠ 0 ∧ v.z = 0) ∨ (v.x = 0 ∧ v.y = 0 ∧ v.z ≠ 0) := by
      unfold lenS at h
      dsimp only at h
      split at h <;> omega
    have hg := gS_eq v
    rcases h0 with ⟨h1, h2, h3⟩ | ⟨h1, h2, h3⟩ | ⟨h1, h2, h3⟩
    · have e : gS v = v.x.natAbs := by rw [hg, h2, h3]; simp
      unfold primV
      rw [if_neg (by omega), e, h2, h3]
      rcases tdiv_abs h1 with q | q <;> simp [dot, q]
    · have e : gS v = v.y.natAbs := by rw [hg, h1, h3]; simp
      unfold primV
      rw [if_neg (by omega), e, h1, h3]
      rcases tdiv_abs h2 with q | q <;> simp [dot, q]
    · have e : gS v = v.z.natAbs := by rw [hg, h1, h2]; simp
      unfold primV
      rw [if_neg (by omega), e, h1, h2]
      rcases tdiv_abs h3 with q | q <;> simp [dot, q]
theorem len_g {v : V3} (h : 1 ≤ lenS v) : (gS v : Int) = lenS v := by
  have h0 : (v.x ≠ 0 ∧ v.y = 0 ∧ v.z = 0) ∨ (v.x = 0 ∧ v.y ≠ 0 ∧ v.z = 0) ∨ (v.x = 0 ∧ v.y = 0 ∧ v.z ≠ 0) := by
    unfold lenS at h
    dsimp only at h
    split at h <;> omega
  have hg := gS_eq v
  unfold lenS at h ⊢
  dsimp only at h ⊢
  rcases h0 with ⟨h1, h2, h3⟩ | ⟨h1, h2, h3⟩ | ⟨h1, h2, h3⟩
  · have e : gS v = v.x.natAbs := by rw [hg, h2, h3]; simp
    rw [e]; split <;> omega
  · have e : gS v = v.y.natAbs := by rw [hg, h1, h3]; simp
    rw [e]; split <;> omega
  · have e : gS v = v.z.natAbs := by rw [hg, h1, h2]; simp
    rw [e]; split <;> omega
theorem lenS_neg (a b : V3) : lenS (sub a b) = lenS (sub b a) := by
  unfold lenS sub
  dsimp only
  have h1 : max (a.x - b.x) (-(a.x - b.x)) = max (b.x - a.x) (-(b.x - a.x)) := by omega
  have h2 : max (a.y - b.y) (-(a.y - b.y)) = max (b.y - a.y) (-(b.y - a.y)) := by omega
  have h3 : max (a.z - b.z) (-(a.z - b.z)) = max (b.z - a.z) (-(b.z - a.z)) := by omega
  rw [h1, h2, h3]
theorem dot_neg2 (a b c : V3) : dot (sub a c) (sub b c) = dot (sub c a) (sub c b) := by
  unfold dot sub
  dsimp only
  rw [← Int.neg_mul_neg (a.x - c.x), ← Int.neg_mul_neg (a.y - c.y), ← Int.neg_mul_neg (a.z - c.z)]
  simp only [Int.neg_sub]
theorem dot_comm (a b : V3) : dot a b = dot b a := by
  unfold dot
  rw [Int.mul_comm a.x, Int.mul_comm a.y, Int.mul_comm a.z]
theorem dot_prim (u v : V3) : dot u v = gS u * gS v * dot (primV u) (primV v) := by
  obtain ⟨a1, a2, a3⟩ := prim_mul u
  obtain ⟨b1, b2, b3⟩ := prim_mul v
  have key : ∀ g h p q : Int, g * p * (h * q) = g * h * (p * q) := fun g h p q => by rw [Int.mul_assoc, Int.mul_assoc, ← Int.mul_assoc p, Int.mul_comm p, Int.mul_assoc]
  have e : ∀ ux uy uz vx vy vz g h px py pz qx qy qz : Int, ux = g * px → uy = g * py → uz = g * pz → vx = h * qx → vy = h * qy → vz = h * qz → ux * vx + uy * vy + uz * vz = g * h * (px * qx + py * qy + pz * qz) := by
    intro ux uy uz vx vy vz g h px py pz qx qy qz e1 e2 e3 e4 e5 e6
    rw [e1, e2, e3, e4, e5, e6, Int.mul_add, Int.mul_add, key g h px qx, key g h py qy, key g h pz qz]
  exact e _ _ _ _ _ _ _ _ _ _ _ _ _ _ a1 a2 a3 b1 b2 b3
theorem prim_sub (u v : V3) : sub v u = ⟨-(sub u v).x, -(sub u v).y, -(sub u v).z⟩ := by
  unfold sub; simp only [Int.neg_sub]
/-- Both forms of an arc. -/
theorem fits_quarter (m : Mv) : fitsA m = quarterS m := by
  unfold fitsA quarterS
  have hu1 := unit_len (sA m)
  have hu2 := unit_len (sB m)
  have e1 : lenS (sub m.fr m.co) = lenS (sB m) := lenS_neg _ _
  have e2 : lenS (sub m.to m.co) = lenS (sA m) := lenS_neg _ _
  have e3 : dot (sub m.fr m.co) (sub m.to m.co) = dot (sA m) (sB m) := by rw [dot_neg2, dot_comm]; rfl
  rw [e1, e2, e3]
  apply Bool.eq_iff_iff.2
  simp only [Bool.and_eq_true, decide_eq_true_eq]
  rw [hu1, hu2]
  have hd := dot_prim (sA m) (sB m)
  constructor
  · rintro ⟨h1, h2, h3, h4⟩
    rw [len_g h1, len_g h2] at h3
    exact ⟨h2, h3.symm, by rw [hd, h4, Int.mul_zero]⟩
  · rintro ⟨h1, h2, h3⟩
    have h4 : 1 ≤ lenS (sA m) := by omega
    refine ⟨h4, h1, by rw [len_g h4, len_g h1]; exact h2.symm, ?_⟩
    rw [hd] at h3
    have g1 := len_g h4
    have g2 := len_g h1
    rcases Int.mul_eq_zero.1 h3 with h | h
    · rcases Int.mul_eq_zero.1 h with h | h <;> omega
    · exact h
theorem quarter_ne {m : Mv} (h : quarterS m = true) : m.fr ≠ m.to := fun e => by
  unfold quarterS at h
  simp only [Bool.and_eq_true, decide_eq_true_eq] at h
  obtain ⟨h1, _, h3⟩ := h
  rw [e] at h1 h3
  have hx : (sub m.to m.co).x ≠ 0 ∨ (sub m.to m.co).y ≠ 0 ∨ (sub m.to m.co).z ≠ 0 := by
    unfold lenS at h1
    dsimp only at h1
    split at h1 <;> omega
  have p1 := sq_nonneg (sub m.to m.co).x
  have p2 := sq_nonneg (sub m.to m.co).y
  have p3 := sq_nonneg (sub m.to m.co).z
  unfold dot at h3
  have z : ∀ a : Int, a * a = 0 → a = 0 := fun a h => (Int.mul_eq_zero.1 h).elim id id
  rcases hx with h | h | h
  · exact h (z _ (by omega))
  · exact h (z _ (by omega))
  · exact h (z _ (by omega))
theorem check_eq (m : Mv) : checkR m = checkS m := by
  unfold checkR checkS rangeB feedR lastR
  rw [fits_quarter]
  have hq := @quarter_ne m
  unfold fitsL
  by_cases h1 : m.kind = 1
  · simp only [h1]
    cases inS m.fr <;> cases inS m.to <;> cases inS m.co <;> by_cases hf : m.feed = 0 <;> simp [hf] <;> by_cases q1 : m.fr = m.to <;> by_cases q2 : m.co = ⟨0, 0, 0⟩ <;> simp [q1, q2] <;> omega
  · by_cases h2 : m.kind = 2
    · simp only [h2]
      cases inS m.fr <;> cases inS m.to <;> cases inS m.co <;> by_cases hf : m.feed < 1 <;> by_cases hg : 100 < m.feed <;> simp [hf, hg] <;> by_cases q1 : m.fr = m.to <;> by_cases q2 : m.co = ⟨0, 0, 0⟩ <;> simp [q1, q2]
    · by_cases h3 : m.kind = 3
      · simp only [h3]
        cases inS m.fr <;> cases inS m.to <;> cases inS m.co <;> by_cases hf : m.feed < 1 <;> by_cases hg : 100 < m.feed <;> simp [hf, hg]
        cases h4 : quarterS m
        · simp
        · simp [hq h4]
      · rw [if_pos (by omega), if_neg h1, if_neg h2, if_neg h3]
end Go.Proofs.Yteommcdafifckaa

/-! Walks: M2. -/
namespace Go.Proofs.Yteommcdafifckaa
open Go.RowKit

theorem gS_le {n : Nat} {v : V3} (h : Bd n v) : gS v ≤ n := by
  obtain ⟨h1, h2, h3⟩ := gS_dvd v
  rw [Int.ofNat_dvd_left] at h1 h2 h3
  have := h.x; have := h.y; have := h.z
  by_cases hx : v.x = 0
  · by_cases hy : v.y = 0
    · by_cases hz : v.z = 0
      · rw [gS_eq, hx, hy, hz]; simp
      · have := Nat.le_of_dvd (by omega) h3; omega
    · have := Nat.le_of_dvd (by omega) h2; omega
  · have := Nat.le_of_dvd (by omega) h1; omega
theorem InM.a48 {m : Mv} (h : InM m) : Bd 48 (sA m) := h.co.sub h.to
theorem InM.b48 {m : Mv} (h : InM m) : Bd 48 (sB m) := h.co.sub h.fr
def dS (m : Mv) : V3 := sub m.to m.fr
theorem InM.d48 {m : Mv} (h : InM m) : Bd 48 (dS m) := h.to.sub h.fr
def cenS (m : Mv) : V3 := plus m.fr (primV (sA m)) (-(gS (sA m) : Int))
theorem InM.c {m : Mv} (h : InM m) : Bd 100 (cenS m) := by
  obtain ⟨h1, h2, h3⟩ := prim_mul (sA m)
  have := h.a48.x; have := h.a48.y; have := h.a48.z; have := h.fr.x; have := h.fr.y; have := h.fr.z
  exact ⟨by simp only [cenS, plus, Int.neg_mul]; rw [← h1]; omega, by simp only [cenS, plus, Int.neg_mul]; rw [← h2]; omega, by simp only [cenS, plus, Int.neg_mul]; rw [← h3]; omega⟩
/-- The steps of a line, and of an arc, as far as they have come. -/
def linQ (fr b : V3) (k : Nat) : List V3 := (List.range k).map fun (j : Nat) => plus fr b j
theorem linQ_succ (fr b : V3) (k : Nat) : linQ fr b (k + 1) = linQ fr b k ++ [plus fr b k] := by simp [linQ, List.range_succ]
theorem linQ_len (fr b : V3) (k : Nat) : (linQ fr b k).length = k := by simp [linQ]
theorem linQ_at {fr b : V3} {k n : Nat} (h : k < n) : (linQ fr b n)[k]? = some (plus fr b k) := by simp [linQ, h]
def dn (r j : Nat) : Nat → Nat
  | 0 => 0
  | i + 1 => if r * r < (i + 1) * (i + 1) + j * j then dn r j i else i + 1
def iP (r : Nat) : Nat → Nat
  | 0 => r
  | j + 1 => dn r j (iP r j)
theorem dn_le (r j : Nat) : ∀ i, dn r j i ≤ i
  | 0 => Nat.le_refl _
  | i + 1 => by
    unfold dn
    split
    · exact Nat.le_trans (dn_le r j i) (by omega)
    · exact Nat.le_refl _
theorem iP_le (r : Nat) : ∀ j, iP r j ≤ r
  | 0 => Nat.le_refl _
  | j + 1 => Nat.le_trans (dn_le r j _) (iP_le r j)
theorem dn_stop {r j i : Nat} (h : ¬ r * r < i * i + j * j) : dn r j i = i := by
  cases i with
  | zero => rfl
  | succ i => unfold dn; rw [if_neg h]
theorem dn_next {r j i : Nat} (h : r * r < (i + 1) * (i + 1) + j * j) : dn r j (i + 1) = dn r j i := by
  conv => lhs; unfold dn
  rw [if_pos h]
def arcQ (r n : Nat) : List (Nat × Nat) := (List.range n).filterMap fun j => if iP r (j + 1) * iP r (j + 1) + j * j = r * r then some (iP r (j + 1), j) else none
def arcV (c a b : V3) (r n : Nat) : List V3 := (arcQ r n).map fun p => plus (plus c a p.1) b p.2
theorem arcQ_t {r j i : Nat} (hi : iP r (j + 1) = i) (h : i * i + j * j = r * r) : arcQ r (j + 1) = arcQ r j ++ [(i, j)] := by
  unfold arcQ
  rw [List.range_succ, List.filterMap_append]
  simp [hi, h]
theorem arcQ_f {r j i : Nat} (hi : iP r (j + 1) = i) (h : ¬ i * i + j * j = r * r) : arcQ r (j + 1) = arcQ r j := by
  unfold arcQ
  rw [List.range_succ, List.filterMap_append]
  simp [hi, h]
theorem arcV_t {c a b : V3} {r j i : Nat} (hi : iP r (j + 1) = i) (h : i * i + j * j = r * r) : arcV c a b r (j + 1) = arcV c a b r j ++ [plus (plus c a i) b j] := by
  unfold arcV; rw [arcQ_t hi h, List.map_append]; rfl
theorem arcV_f {c a b : V3} {r j i : Nat} (hi : iP r (j + 1) = i) (h : ¬ i * i + j * j = r * r) : arcV c a b r (j + 1) = arcV c a b r j := by
  unfold arcV; rw [arcQ_f hi h]
theorem arcV_len (c a b : V3) (r : Nat) : ∀ n, (arcV c a b r n).length ≤ n
  | 0 => Nat.le_refl _
  | n + 1 => by
    have := arcV_len c a b r n
    by_cases h : iP r (n + 1) * iP r (n + 1) + n * n = r * r
    · rw [arcV_t rfl h]; simp; omega
    · rw [arcV_f rfl h]; omega
theorem arcV_pre (c a b : V3) (r n : Nat) {k : Nat} {v : V3} (h : (arcV c a b r n)[k]? = some v) : ∀ m, n ≤ m → (arcV c a b r m)[k]? = some v := by
  intro m hm
  induction m with
  | zero => obtain rfl : n = 0 := by omega
            exact h
  | succ m ih =>
    by_cases e : n = m + 1
    · rw [← e]; exact h
    · have h1 := ih (by omega)
      by_cases hc : iP r (m + 1) * iP r (m + 1) + m * m = r * r
      · rw [arcV_t rfl hc, List.getElem?_append_left (lt_of_at h1)]; exact h1
      · rw [arcV_f rfl hc]; exact h1
theorem sqW {i : Nat} (h : i ≤ 1000) : W ((i : Int) * (i : Int)) = ((i * i : Nat) : Int) := by
  have : i * i ≤ 1000 * 1000 := Nat.mul_le_mul h h
  rw [W_eq (by rw [← Int.natCast_mul]; omega), Int.natCast_mul]
def pathS (m : Mv) : List V3 := if checkS m = 0 then (if m.kind = 3 then arcV (cenS m) (primV (sA m)) (primV (sB m)) (gS (sA m)) (gS (sA m) + 1) else linQ m.fr (primV (dS m)) (gS (dS m) + 1)) else []
theorem ck_in {m : Mv} (h : checkS m = 0) : InM m := by
  have key : ∀ lo hi, ¬ rangeB lo hi m = true → InM m := fun lo hi h => by
    unfold rangeB at h
    simp only [Bool.not_eq_true, Bool.or_eq_false_iff] at h
    exact inM_of h.1 h.2.1 h.2.2.1
  unfold checkS at h
  split at h
  · split at h
    · cases h
    · exact key _ _ ‹_›
  · split at h
    · split at h
      · cases h
      · exact key _ _ ‹_›
    · split at h
      · split at h
        · cases h
        · exact key _ _ ‹_›
      · cases h
theorem ck_n {m : Mv} (h : ¬ m.kind = 1 ∧ ¬ m.kind = 2 ∧ ¬ m.kind = 3) : checkS m = 16 := by unfold checkS; rw [if_neg h.1, if_neg h.2.1, if_neg h.2.2]
theorem ck_fit {m : Mv} (h : checkS m = 0) (h3 : m.kind = 3) : fitsA m = true := by
  unfold checkS at h
  rw [if_neg (by omega), if_neg (by omega), if_pos h3] at h
  split at h
  · cases h
  · split at h
    · assumption
    · cases h

def mc76 : MC := (.seq (.reg [⟨(some 1), (.box 87 11 (.t 0)), none, []⟩, ⟨(some 2), (.mv (.c .nilf)), none, []⟩] false) (.seq (.reg [⟨(some 6), (.fa 0 (.t 1)), none, []⟩, ⟨(some 7), (.fa 4 (.t 6)), none, [0]⟩, ⟨(some 8), (.ld true 3 (.t 7)), none, [1]⟩, ⟨(some 9), (.fa 0 (.t 1)), none, []⟩, ⟨(some 10), (.fa 1 (.t 9)), none, [3]⟩, ⟨(some 11), (.ld true 3 (.t 10)), none, [4]⟩, ⟨(some 12), (.call 27 [(.t 8), (.t 11)]), none, [2, 5]⟩, ⟨(some 13), (.call 29 [(.t 12)]), none, [6, 6]⟩, ⟨(some 5), (.mv (.t 13)), none, [7]⟩, ⟨(some 14), (.ext (.t 5) 0), none, [8]⟩, ⟨(some 15), (.ext (.t 5) 1), none, [8]⟩, ⟨(some 3), (.alloc 26 3 [(.int .i64 0), (.int .i64 0), (.int .i64 0)]), none, []⟩, ⟨(some 4), (.alloc 3 1 [(.int .i64 0)]), none, []⟩, ⟨none, (.st 3 (.t 3) (.t 14)), none, [11, 9, 7, 0, 1, 2, 3, 4, 5, 6, 7, 8, 9, 11, 12]⟩, ⟨none, (.st 1 (.t 4) (.t 15)), none, [12, 10, 13, 0, 1, 2, 3, 4, 5, 6, 7, 8, 9, 10, 11, 12, 13]⟩] false) (.seq (.reg [⟨(some 16), (.mkfn (.func 77) [(.t 4), (.t 1), (.t 3)]), none, []⟩, ⟨(some 2), (.mv (.t 16)), none, [0, 0]⟩] false) .ret)))
theorem mcOk76 : (match Try.f76.body with | some c => compC Try.prog 17 c | none => none) = some mc76 := by kernel_rfl

theorem fc76 (m : Mv) (h : InM m) : FC Try.prog 76 [aM m] [] (.fn (.func 77) [.rp [iv (gS (dS m) : Int)], .rp (cM m), .rp (cV (primV (dS m)))]) [] false := by
  refine fc_run (nt := 17) Try.func76 rfl rfl mcOk76 (Nat.le_of_ble_eq_true rfl) ?_
  delta mc76
  refine aw_seq ?_
  refine aw_reg ?_
  refine rs_box rfl rfl rfl rfl rfl rfl ?_
  refine rs_mv rfl rfl ?_
  refine rs_nil fun _ => ?_
  refine th_n ?_
  refine aw_seq ?_
  refine aw_reg ?_
  first | refine rs_fa_p rfl rfl ?_ | refine rs_fa_r rfl rfl rfl ?_
  first | refine rs_fa_p rfl rfl ?_ | refine rs_fa_r rfl rfl rfl ?_
  first | refine rs_ld_pa rfl rfl rfl rfl (Nat.le_of_ble_eq_true rfl) rfl ?_ | refine rs_ld_ra rfl rfl (Nat.le_of_ble_eq_true rfl) rfl ?_ | refine rs_ld_ma rfl rfl rfl (by omega) (Nat.le_of_ble_eq_true rfl) rfl ?_
  first | refine rs_fa_p rfl rfl ?_ | refine rs_fa_r rfl rfl rfl ?_
  first | refine rs_fa_p rfl rfl ?_ | refine rs_fa_r rfl rfl rfl ?_
  first | refine rs_ld_pa rfl rfl rfl rfl (Nat.le_of_ble_eq_true rfl) rfl ?_ | refine rs_ld_ra rfl rfl (Nat.le_of_ble_eq_true rfl) rfl ?_ | refine rs_ld_ma rfl rfl rfl (by omega) (Nat.le_of_ble_eq_true rfl) rfl ?_
  refine rs_calln [] rfl rfl (fc27s h.to.big h.fr.big) (.cons (hv_same rfl) (.cons (hv_same rfl) (.nil))) rfl ?_
  refine rs_calln [] rfl rfl (fc29 (dS m) h.d48.big) (.cons (hv_same rfl) (.nil)) rfl ?_
  refine rs_mv rfl rfl ?_
  refine rs_ext rfl rfl rfl ?_
  refine rs_ext rfl rfl rfl ?_
  refine rs_alloc rfl rfl rfl ?_
  refine rs_alloc rfl rfl rfl ?_
  refine rs_st rfl rfl rfl rfl rfl rfl rfl (Nat.le_of_ble_eq_true rfl) rfl rfl ?_
  refine rs_st rfl rfl rfl rfl rfl rfl rfl (Nat.le_of_ble_eq_true rfl) rfl rfl ?_
  refine rs_nil fun _ => ?_
  refine th_n ?_
  refine aw_seq ?_
  refine aw_reg ?_
  refine rs_mkfn rfl rfl ?_
  refine rs_mv rfl rfl ?_
  refine rs_nil fun _ => ?_
  refine th_n ?_
  refine aw_ret ?_
  exact ret_new rfl (rc_fnr (.cons (rc_pfrz rfl rfl (.inr rfl)) (.cons (rc_pfrz rfl rfl (.inr rfl)) (.cons (rc_pfrz rfl rfl (.inr rfl)) .nil)))) .nil

def mc82 : MC := (.seq (.reg [⟨(some 1), (.box 88 11 (.t 0)), none, []⟩, ⟨(some 2), (.mv (.c .nilf)), none, []⟩] false) (.seq (.reg [⟨(some 9), (.ld true 11 (.t 1)), none, []⟩, ⟨(some 10), (.call 83 [(.t 9)]), none, [0]⟩, ⟨(some 8), (.mv (.t 10)), none, [1]⟩, ⟨(some 11), (.ext (.t 8) 0), none, [2]⟩, ⟨(some 12), (.ext (.t 8) 1), none, [2]⟩, ⟨(some 13), (.ext (.t 8) 2), none, [2]⟩, ⟨(some 14), (.ext (.t 8) 3), none, [2]⟩, ⟨(some 3), (.alloc 26 3 [(.int .i64 0), (.int .i64 0), (.int .i64 0)]), none, []⟩, ⟨(some 4), (.alloc 26 3 [(.int .i64 0), (.int .i64 0), (.int .i64 0)]), none, []⟩, ⟨(some 5), (.alloc 3 1 [(.int .i64 0)]), none, []⟩, ⟨none, (.st 3 (.t 3) (.t 11)), none, [7, 3, 1, 0, 1, 2, 3, 7, 8, 9]⟩, ⟨none, (.st 3 (.t 4) (.t 12)), none, [8, 4, 10, 0, 1, 2, 3, 4, 7, 8, 9, 10]⟩, ⟨none, (.st 1 (.t 5) (.t 13)), none, [9, 5, 11, 0, 1, 2, 3, 4, 5, 7, 8, 9, 10, 11]⟩, ⟨(some 6), (.mv (.t 14)), none, [6, 12, 0, 1, 2, 3, 4, 5, 6, 7, 8, 9, 10, 11, 12]⟩] false) (.seq (.reg [⟨(some 15), (.fa 0 (.t 1)), none, []⟩, ⟨(some 16), (.fa 1 (.t 15)), none, [0]⟩, ⟨(some 17), (.ld true 3 (.t 16)), none, [1]⟩, ⟨(some 18), (.ld true 3 (.t 3)), none, []⟩, ⟨(some 19), (.ld false 1 (.t 5)), none, []⟩, ⟨(some 20), (.un .neg (.t 19)), none, [4]⟩, ⟨(some 21), (.call 78 [(.t 17), (.t 18), (.t 20)]), none, [2, 3, 5]⟩, ⟨(some 7), (.alloc 26 3 [(.int .i64 0), (.int .i64 0), (.int .i64 0)]), none, []⟩, ⟨none, (.st 3 (.t 7) (.t 21)), none, [7, 6, 6, 0, 1, 2, 3, 4, 5, 6, 7]⟩] false) (.seq (.reg [⟨(some 22), (.mkfn (.func 85) [(.t 5), (.t 7), (.t 3), (.t 4)]), none, []⟩, ⟨(some 2), (.mv (.t 22)), none, [0, 0]⟩] false) .ret))))
theorem mcOk82 : (match Try.f82.body with | some c => compC Try.prog 23 c | none => none) = some mc82 := by kernel_rfl

theorem fc82 (m : Mv) (h : InM m) : FC Try.prog 82 [aM m] [] (.fn (.func 85) [.rp [iv (gS (sA m) : Int)], .rp (cV (cenS m)), .rp (cV (primV (sA m))), .rp (cV (primV (sB m)))]) [] false := by
  have hr := gS_le (n := 48) h.a48
  refine fc_run (nt := 23) Try.func82 rfl rfl mcOk82 (Nat.le_of_ble_eq_true rfl) ?_
  delta mc82
  refine aw_seq ?_
  refine aw_reg ?_
  refine rs_box rfl rfl rfl rfl rfl rfl ?_
  refine rs_mv rfl rfl ?_
  refine rs_nil fun _ => ?_
  refine th_n ?_
  refine aw_seq ?_
  refine aw_reg ?_
  first | refine rs_ld_pa rfl rfl rfl rfl (Nat.le_of_ble_eq_true rfl) rfl ?_ | refine rs_ld_ra rfl rfl (Nat.le_of_ble_eq_true rfl) rfl ?_ | refine rs_ld_ma rfl rfl rfl (by omega) (Nat.le_of_ble_eq_true rfl) rfl ?_
  refine rs_calln [] rfl rfl (fc83 m h) (.cons (hv_same rfl) (.nil)) rfl ?_
  refine rs_mv rfl rfl ?_
  refine rs_ext rfl rfl rfl ?_
  refine rs_ext rfl rfl rfl ?_
  refine rs_ext rfl rfl rfl ?_
  refine rs_ext rfl rfl rfl ?_
  refine rs_alloc rfl rfl rfl ?_
  refine rs_alloc rfl rfl rfl ?_
  refine rs_alloc rfl rfl rfl ?_
  refine rs_st rfl rfl rfl rfl rfl rfl rfl (Nat.le_of_ble_eq_true rfl) rfl rfl ?_
  refine rs_st rfl rfl rfl rfl rfl rfl rfl (Nat.le_of_ble_eq_true rfl) rfl rfl ?_
  refine rs_st rfl rfl rfl rfl rfl rfl rfl (Nat.le_of_ble_eq_true rfl) rfl rfl ?_
  refine rs_mv rfl rfl ?_
  refine rs_nil fun _ => ?_
  refine th_n ?_
  refine aw_seq ?_
  refine aw_reg ?_
  first | refine rs_fa_p rfl rfl ?_ | refine rs_fa_r rfl rfl rfl ?_
  first | refine rs_fa_p rfl rfl ?_ | refine rs_fa_r rfl rfl rfl ?_
  first | refine rs_ld_pa rfl rfl rfl rfl (Nat.le_of_ble_eq_true rfl) rfl ?_ | refine rs_ld_ra rfl rfl (Nat.le_of_ble_eq_true rfl) rfl ?_ | refine rs_ld_ma rfl rfl rfl (by omega) (Nat.le_of_ble_eq_true rfl) rfl ?_
  first | refine rs_ld_pa rfl rfl rfl rfl (Nat.le_of_ble_eq_true rfl) rfl ?_ | refine rs_ld_ra rfl rfl (Nat.le_of_ble_eq_true rfl) rfl ?_ | refine rs_ld_ma rfl rfl rfl (by omega) (Nat.le_of_ble_eq_true rfl) rfl ?_
  first | refine rs_ld_r rfl rfl rfl ?_ | refine rs_ld_p rfl rfl rfl rfl rfl ?_ | refine rs_ld_m rfl rfl rfl (by omega) rfl ?_
  refine rs_neg rfl rfl (by omega) ?_
  refine rs_calln [] rfl rfl (fc78s h.fr.big (prim_bd h.a48).big (by omega)) (.cons (hv_same rfl) (.cons (hv_same rfl) (.cons (hv_same rfl) (.nil)))) rfl ?_
  refine rs_alloc rfl rfl rfl ?_
  refine rs_st rfl rfl rfl rfl rfl rfl rfl (Nat.le_of_ble_eq_true rfl) rfl rfl ?_
  refine rs_nil fun _ => ?_
  refine th_n ?_
  refine aw_seq ?_
  refine aw_reg ?_
  refine rs_mkfn rfl rfl ?_
  refine rs_mv rfl rfl ?_
  refine rs_nil fun _ => ?_
  refine th_n ?_
  refine aw_ret ?_
  exact ret_new rfl (rc_fnr (.cons (rc_pfrz rfl rfl (.inr rfl)) (.cons (rc_pfrz rfl rfl (.inr rfl)) (.cons (rc_pfrz rfl rfl (.inr rfl)) (.cons (rc_pfrz rfl rfl (.inr rfl)) .nil))))) .nil

def as56 : MC := (.reg [⟨(some 5), (.alloc 26 3 [(.int .i64 0), (.int .i64 0), (.int .i64 0)]), none, []⟩, ⟨none, (.st 3 (.t 5) (.t 7)), none, [0, 0]⟩] false)
def bd56 : MC := (.block 1 (.reg [⟨(some 8), (.ld false 1 (.t 2)), none, []⟩, ⟨(some 9), (.ld true 3 (.t 5)), none, []⟩, ⟨(some 10), (.bslice 26 3 [(.int .i64 0), (.int .i64 0), (.int .i64 0)] 1 [(0, (.t 9))]), none, [1]⟩, ⟨(some 11), (.app 26 3 24 [(.int .i64 0), (.int .i64 0), (.int .i64 0)] (.t 8) (.t 10)), none, [0, 2]⟩, ⟨none, (.st 1 (.t 2) (.t 11)), none, [3, 3, 0, 1, 2, 3]⟩] false))

theorem as56w (g : AV) (hg : ∀ D, scopedV D g = true) (l : List V3) (v : V3) (o : Loop) (lb : Nat) : AW Try.prog 13 [900, 2, 903] (some lb) as56 (fun e F' H' => e = .normal ∧ Weak 13 [900, 2, 903] F' H' [(2, .ptr 2 0 0), (5, .ptr 5 0 0)] [(900, .lp o [(6, g), (2, .ptr 2 0 0)]), (2, .cells 42 1 [[.sl 903 0 (l).length]] false), (903, .cells 26 3 ((l).map cV) true), (5, .cells 26 3 [cV v] true)]) [(7, aV v), (6, g), (2, .ptr 2 0 0)] [(900, .lp o [(6, g), (2, .ptr 2 0 0)]), (2, .cells 42 1 [[.sl 903 0 (l).length]] false), (903, .cells 26 3 ((l).map cV) true)] := by
  delta as56
  refine aw_reg ?_
  refine rs_alloc rfl rfl rfl ?_
  refine rs_st rfl rfl rfl rfl rfl rfl rfl (Nat.le_of_ble_eq_true rfl) rfl rfl ?_
  refine rs_nil fun _ => ?_
  exact ⟨rfl, weak_to (.cons rfl (rc_same rfl (.inl rfl)) (.cons rfl (rc_same rfl (.inl rfl)) (.nil))) (.keep rfl (by simp [scopedOb, scopedL, scopedV, hg, keysOf]) (.keep rfl (rfl) (.keep rfl (rfl) (.keep rfl (rfl) (.nil))))) (fun i hi => by simp [keysOf] at hi ⊢; omega)⟩

theorem bd56w (g : AV) (hg : ∀ D, scopedV D g = true) (l : List V3) (hl : l.length ≤ 1000) (v : V3) (o : Loop) (lb : Nat) : AW Try.prog 13 [900, 2, 903] (some lb) bd56 (fun e F' H' => e = .normal ∧ Weak 13 [900, 2, 903] F' H' [] [(900, .lp o [(6, g), (2, .ptr 2 0 0)]), (2, .cells 42 1 [[.sl 11 0 (l ++ [v]).length]] false), (11, .cells 26 3 ((l ++ [v]).map cV) true), (903, .dead)]) [(2, .ptr 2 0 0), (5, .ptr 5 0 0)] [(900, .lp o [(6, g), (2, .ptr 2 0 0)]), (2, .cells 42 1 [[.sl 903 0 (l).length]] false), (903, .cells 26 3 ((l).map cV) true), (5, .cells 26 3 [cV v] true)] := by
  delta bd56
  refine aw_block ?_
  refine aw_reg ?_
  first | refine rs_ld_r rfl rfl rfl ?_ | refine rs_ld_p rfl rfl rfl rfl rfl ?_ | refine rs_ld_m rfl rfl rfl (by omega) rfl ?_
  first | refine rs_ld_pa rfl rfl rfl rfl (Nat.le_of_ble_eq_true rfl) rfl ?_ | refine rs_ld_ra rfl rfl (Nat.le_of_ble_eq_true rfl) rfl ?_ | refine rs_ld_ma rfl rfl rfl (by omega) (Nat.le_of_ble_eq_true rfl) rfl ?_
  refine rs_bslice rfl rfl rfl rfl rfl rfl ?_
  refine rs_app_m (f := cV) (xs := l) (y := v) rfl rfl rfl rfl rfl rfl rfl rfl (by decide) rfl (by omega) (by omega) rfl ?_
  refine rs_st rfl rfl rfl rfl rfl rfl rfl (Nat.le_of_ble_eq_true rfl) rfl rfl ?_
  refine rs_nil fun _ => ?_
  refine in_n ?_
  rw [show l.length + 1 = (l ++ [v]).length by simp]
  exact ⟨rfl, weak_to (.nil) (.keep rfl (by simp [scopedOb, scopedL, scopedV, hg, keysOf]) (.keep rfl (rfl) (.keep rfl (rfl) (.keep rfl (rfl) (.nil))))) (fun i hi => by simp [keysOf] at hi ⊢; omega)⟩

theorem y56 (g : AV) (hg : ∀ D, scopedV D g = true) (l : List V3) (hl : l.length ≤ 1000) (v : V3) (r0 : Loop) (h : Rec0 Try.prog 13 [7] as56 bd56 r0) :
    FCg (yieldSem Try.prog) [.yl 900, aV v] [(900, .lp r0 [(6, g), (2, .ptr 2 0 0)]), (2, .cells 42 1 [[.sl 903 0 (l).length]] false), (903, .cells 26 3 ((l).map cV) true)] (.bool true) [(900, .lp r0 [(6, g), (2, .ptr 2 0 0)]), (2, .cells 42 1 [[.sl 11 0 (l ++ [v]).length]] false), (11, .cells 26 3 ((l ++ [v]).map cV) true), (903, .dead)] true := by
  have := round_yield (P := Try.prog) (F := [(6, g), (2, .ptr 2 0 0)]) (N := 13) (x := as56) (y := bd56) h.ca h.cb (li := 900) (ps := [7]) (vs := [aV v]) (J := [(2, .cells 42 1 [[.sl 903 0 (l).length]] false), (903, .cells 26 3 ((l).map cV) true)]) (J1 := [(2, .cells 42 1 [[.sl 903 0 (l).length]] false), (903, .cells 26 3 ((l).map cV) true), (5, .cells 26 3 [cV v] true)]) (J' := [(2, .cells 42 1 [[.sl 11 0 (l ++ [v]).length]] false), (11, .cells 26 3 ((l ++ [v]).map cV) true), (903, .dead)]) (Fb := [(2, .ptr 2 0 0), (5, .ptr 5 0 0)]) (Z0 := [900, 2, 903]) .normal none (.inl ⟨rfl, rfl⟩)
    rfl rfl (fun i hi => mem_keys.1 hi) (by simp) (fun i h => mem_keys.2 h) (fun i hi => mem_keys.1 (by simp [keysOf] at hi ⊢; omega)) h.state h.params rfl rfl h.size (fun t v h => get_mem h) (fun lb o => as56w g hg l v o lb) (fun lb o => bd56w g hg l hl v o lb)
  rw [rec_same h.state h.pending] at this
  exact this

def as17 : MC := (.reg [⟨(some 7), (.alloc 26 3 [(.int .i64 0), (.int .i64 0), (.int .i64 0)]), none, []⟩, ⟨none, (.st 3 (.t 7) (.t 15)), none, [0, 0]⟩] false)
def bd17 : MC := (.block 1 (.seq (.seq (.reg [⟨(some 16), (.ld false 1 (.t 6)), none, []⟩, ⟨(some 17), (.ld false 1 (.t 3)), none, []⟩, ⟨(some 18), (.bin .eql (.t 16) (.t 17)), none, [0, 1]⟩] false) (.cond (.t 18) (.seq (.reg [⟨(some 19), (.ld true 3 (.t 7)), none, []⟩, ⟨none, (.st 3 (.t 4) (.t 19)), none, [0, 0]⟩, ⟨none, (.st 1 (.t 5) (.c (.bool true))), none, [1, 0, 1]⟩] false) .ret) .skip)) (.reg [⟨(some 20), (.ld false 1 (.t 6)), none, []⟩, ⟨(some 21), (.bin .add (.t 20) (.c (.int .i64 1))), none, [0]⟩, ⟨none, (.st 1 (.t 6) (.t 21)), none, [1, 0, 1]⟩] false)))

theorem as17w (g : AV) (hg : ∀ D, scopedV D g = true) (step : Int) (k : Nat) (v : V3) (o : Loop) (lb : Nat) : AW Try.prog 23 [900, 6, 3, 4, 5] (some lb) as17 (fun e F' H' => e = .normal ∧ Weak 23 [900, 6, 3, 4, 5] F' H' [(6, .ptr 6 0 0), (3, .ptr 3 0 0), (4, .ptr 4 0 0), (5, .ptr 5 0 0), (7, .ptr 7 0 0)] [(900, .lp o [(14, g), (6, .ptr 6 0 0), (3, .ptr 3 0 0), (4, .ptr 4 0 0), (5, .ptr 5 0 0)]), (6, .cells 3 1 [[iv (((k) : Nat) : Int)]] true), (3, .cells 3 1 [[iv step]] true), (4, .cells 26 3 [cV ⟨0, 0, 0⟩] true), (5, .cells 4 1 [[.bool false]] true), (7, .cells 26 3 [cV v] true)]) [(15, aV v), (14, g), (6, .ptr 6 0 0), (3, .ptr 3 0 0), (4, .ptr 4 0 0), (5, .ptr 5 0 0)] [(900, .lp o [(14, g), (6, .ptr 6 0 0), (3, .ptr 3 0 0), (4, .ptr 4 0 0), (5, .ptr 5 0 0)]), (6, .cells 3 1 [[iv (((k) : Nat) : Int)]] true), (3, .cells 3 1 [[iv step]] true), (4, .cells 26 3 [cV ⟨0, 0, 0⟩] true), (5, .cells 4 1 [[.bool false]] true)] := by
  delta as17
  refine aw_reg ?_
  refine rs_alloc rfl rfl rfl ?_
  refine rs_st rfl rfl rfl rfl rfl rfl rfl (Nat.le_of_ble_eq_true rfl) rfl rfl ?_
  refine rs_nil fun _ => ?_
  exact ⟨rfl, weak_to (.cons rfl (rc_same rfl (.inl rfl)) (.cons rfl (rc_same rfl (.inl rfl)) (.cons rfl (rc_same rfl (.inl rfl)) (.cons rfl (rc_same rfl (.inl rfl)) (.cons rfl (rc_same rfl (.inl rfl)) (.nil)))))) (.keep rfl (by simp [scopedOb, scopedL, scopedV, hg, keysOf]) (.keep rfl (rfl) (.keep rfl (rfl) (.keep rfl (rfl) (.keep rfl (rfl) (.keep rfl (rfl) (.nil))))))) (fun i hi => by simp [keysOf] at hi ⊢; omega)⟩

theorem bd17w_n (g : AV) (hg : ∀ D, scopedV D g = true) (step : Int) (k : Nat) (hk : k ≤ 1000) (hs : (k : Int) ≠ step) (v : V3) (o : Loop) (lb : Nat) : AW Try.prog 23 [900, 6, 3, 4, 5] (some lb) bd17 (fun e F' H' => e = .normal ∧ Weak 23 [900, 6, 3, 4, 5] F' H' [] [(900, .lp o [(14, g), (6, .ptr 6 0 0), (3, .ptr 3 0 0), (4, .ptr 4 0 0), (5, .ptr 5 0 0)]), (6, .cells 3 1 [[iv (((k + 1) : Nat) : Int)]] true), (3, .cells 3 1 [[iv step]] true), (4, .cells 26 3 [cV ⟨0, 0, 0⟩] true), (5, .cells 4 1 [[.bool false]] true)]) [(6, .ptr 6 0 0), (3, .ptr 3 0 0), (4, .ptr 4 0 0), (5, .ptr 5 0 0), (7, .ptr 7 0 0)] [(900, .lp o [(14, g), (6, .ptr 6 0 0), (3, .ptr 3 0 0), (4, .ptr 4 0 0), (5, .ptr 5 0 0)]), (6, .cells 3 1 [[iv (((k) : Nat) : Int)]] true), (3, .cells 3 1 [[iv step]] true), (4, .cells 26 3 [cV ⟨0, 0, 0⟩] true), (5, .cells 4 1 [[.bool false]] true), (7, .cells 26 3 [cV v] true)] := by
  delta bd17
  refine aw_block ?_
  refine aw_seq ?_
  refine aw_seq ?_
  refine aw_reg ?_
  first | refine rs_ld_r rfl rfl rfl ?_ | refine rs_ld_p rfl rfl rfl rfl rfl ?_ | refine rs_ld_m rfl rfl rfl (by omega) rfl ?_
  first | refine rs_ld_r rfl rfl rfl ?_ | refine rs_ld_p rfl rfl rfl rfl rfl ?_ | refine rs_ld_m rfl rfl rfl (by omega) rfl ?_
  refine rs_cmp_f rfl rfl rfl rfl hs ?_
  refine rs_nil fun _ => ?_
  refine th_n ?_
  refine aw_cond rfl (fun h => by cases h) (fun _ => ?_)
  refine aw_skip ?_
  refine th_n ?_
  refine aw_reg ?_
  first | refine rs_ld_r rfl rfl rfl ?_ | refine rs_ld_p rfl rfl rfl rfl rfl ?_ | refine rs_ld_m rfl rfl rfl (by omega) rfl ?_
  first | refine rs_add rfl rfl rfl (by omega) ?_ | refine rs_addw rfl rfl rfl rfl ?_
  refine rs_st rfl rfl rfl rfl rfl rfl rfl (Nat.le_of_ble_eq_true rfl) rfl rfl ?_
  refine rs_nil fun _ => ?_
  refine in_n ?_
  rw [show (k : Int) + 1 = ((k + 1 : Nat) : Int) by omega]
  exact ⟨rfl, weak_to (.nil) (.keep rfl (by simp [scopedOb, scopedL, scopedV, hg, keysOf]) (.keep rfl (rfl) (.keep rfl (rfl) (.keep rfl (rfl) (.keep rfl (rfl) (.nil)))))) (fun i hi => by simp [keysOf] at hi ⊢; omega)⟩

theorem y17_n (g : AV) (hg : ∀ D, scopedV D g = true) (step : Int) (k : Nat) (hk : k ≤ 1000) (hs : (k : Int) ≠ step) (v : V3) (r0 : Loop) (h : Rec0 Try.prog 23 [15] as17 bd17 r0) :
    FCg (yieldSem Try.prog) [.yl 900, aV v] [(900, .lp r0 [(14, g), (6, .ptr 6 0 0), (3, .ptr 3 0 0), (4, .ptr 4 0 0), (5, .ptr 5 0 0)]), (6, .cells 3 1 [[iv (((k) : Nat) : Int)]] true), (3, .cells 3 1 [[iv step]] true), (4, .cells 26 3 [cV ⟨0, 0, 0⟩] true), (5, .cells 4 1 [[.bool false]] true)] (.bool true) [(900, .lp r0 [(14, g), (6, .ptr 6 0 0), (3, .ptr 3 0 0), (4, .ptr 4 0 0), (5, .ptr 5 0 0)]), (6, .cells 3 1 [[iv (((k + 1) : Nat) : Int)]] true), (3, .cells 3 1 [[iv step]] true), (4, .cells 26 3 [cV ⟨0, 0, 0⟩] true), (5, .cells 4 1 [[.bool false]] true)] true := by
  have := round_yield (P := Try.prog) (F := [(14, g), (6, .ptr 6 0 0), (3, .ptr 3 0 0), (4, .ptr 4 0 0), (5, .ptr 5 0 0)]) (N := 23) (x := as17) (y := bd17) h.ca h.cb (li := 900) (ps := [15]) (vs := [aV v]) (J := [(6, .cells 3 1 [[iv (((k) : Nat) : Int)]] true), (3, .cells 3 1 [[iv step]] true), (4, .cells 26 3 [cV ⟨0, 0, 0⟩] true), (5, .cells 4 1 [[.bool false]] true)]) (J1 := [(6, .cells 3 1 [[iv (((k) : Nat) : Int)]] true), (3, .cells 3 1 [[iv step]] true), (4, .cells 26 3 [cV ⟨0, 0, 0⟩] true), (5, .cells 4 1 [[.bool false]] true), (7, .cells 26 3 [cV v] true)]) (J' := [(6, .cells 3 1 [[iv (((k + 1) : Nat) : Int)]] true), (3, .cells 3 1 [[iv step]] true), (4, .cells 26 3 [cV ⟨0, 0, 0⟩] true), (5, .cells 4 1 [[.bool false]] true)]) (Fb := [(6, .ptr 6 0 0), (3, .ptr 3 0 0), (4, .ptr 4 0 0), (5, .ptr 5 0 0), (7, .ptr 7 0 0)]) (Z0 := [900, 6, 3, 4, 5]) .normal none (.inl ⟨rfl, rfl⟩)
    rfl rfl (fun i hi => mem_keys.1 hi) (by simp) (fun i h => mem_keys.2 h) (fun i hi => mem_keys.1 (by simp [keysOf] at hi ⊢; omega)) h.state h.params rfl rfl h.size (fun t v h => get_mem h) (fun lb o => as17w g hg step k v o lb) (fun lb o => bd17w_n g hg step k hk hs v o lb)
  rw [rec_same h.state h.pending] at this
  exact this

theorem bd17w_s (g : AV) (hg : ∀ D, scopedV D g = true) (step : Int) (k : Nat) (hk : k ≤ 1000) (hs : (k : Int) = step) (v : V3) (o : Loop) (lb : Nat) : AW Try.prog 23 [900, 6, 3, 4, 5] (some lb) bd17 (fun e F' H' => e = .ret ∧ Weak 23 [900, 6, 3, 4, 5] F' H' [] [(900, .lp o [(14, g), (6, .ptr 6 0 0), (3, .ptr 3 0 0), (4, .ptr 4 0 0), (5, .ptr 5 0 0)]), (6, .cells 3 1 [[iv (((k) : Nat) : Int)]] true), (3, .cells 3 1 [[iv step]] true), (4, .cells 26 3 [cV v] true), (5, .cells 4 1 [[.bool true]] true)]) [(6, .ptr 6 0 0), (3, .ptr 3 0 0), (4, .ptr 4 0 0), (5, .ptr 5 0 0), (7, .ptr 7 0 0)] [(900, .lp o [(14, g), (6, .ptr 6 0 0), (3, .ptr 3 0 0), (4, .ptr 4 0 0), (5, .ptr 5 0 0)]), (6, .cells 3 1 [[iv (((k) : Nat) : Int)]] true), (3, .cells 3 1 [[iv step]] true), (4, .cells 26 3 [cV ⟨0, 0, 0⟩] true), (5, .cells 4 1 [[.bool false]] true), (7, .cells 26 3 [cV v] true)] := by
  delta bd17
  refine aw_block ?_
  refine aw_seq ?_
  refine aw_seq ?_
  refine aw_reg ?_
  first | refine rs_ld_r rfl rfl rfl ?_ | refine rs_ld_p rfl rfl rfl rfl rfl ?_ | refine rs_ld_m rfl rfl rfl (by omega) rfl ?_
  first | refine rs_ld_r rfl rfl rfl ?_ | refine rs_ld_p rfl rfl rfl rfl rfl ?_ | refine rs_ld_m rfl rfl rfl (by omega) rfl ?_
  refine rs_cmp_t rfl rfl rfl rfl hs ?_
  refine rs_nil fun _ => ?_
  refine th_n ?_
  refine aw_cond rfl (fun _ => ?_) (fun h => by cases h)
  refine aw_seq ?_
  refine aw_reg ?_
  first | refine rs_ld_pa rfl rfl rfl rfl (Nat.le_of_ble_eq_true rfl) rfl ?_ | refine rs_ld_ra rfl rfl (Nat.le_of_ble_eq_true rfl) rfl ?_ | refine rs_ld_ma rfl rfl rfl (by omega) (Nat.le_of_ble_eq_true rfl) rfl ?_
  refine rs_st rfl rfl rfl rfl rfl rfl rfl (Nat.le_of_ble_eq_true rfl) rfl rfl ?_
  refine rs_st rfl rfl rfl rfl rfl rfl rfl (Nat.le_of_ble_eq_true rfl) rfl rfl ?_
  refine rs_nil fun _ => ?_
  refine th_n ?_
  refine aw_ret ?_
  refine th_r ?_
  refine in_r ?_
  exact ⟨rfl, weak_to (.nil) (.keep rfl (by simp [scopedOb, scopedL, scopedV, hg, keysOf]) (.keep rfl (rfl) (.keep rfl (rfl) (.keep rfl (rfl) (.keep rfl (rfl) (.nil)))))) (fun i hi => by simp [keysOf] at hi ⊢; omega)⟩

theorem y17_s (g : AV) (hg : ∀ D, scopedV D g = true) (step : Int) (k : Nat) (hk : k ≤ 1000) (hs : (k : Int) = step) (v : V3) (r0 : Loop) (h : Rec0 Try.prog 23 [15] as17 bd17 r0) :
    FCg (yieldSem Try.prog) [.yl 900, aV v] [(900, .lp r0 [(14, g), (6, .ptr 6 0 0), (3, .ptr 3 0 0), (4, .ptr 4 0 0), (5, .ptr 5 0 0)]), (6, .cells 3 1 [[iv (((k) : Nat) : Int)]] true), (3, .cells 3 1 [[iv step]] true), (4, .cells 26 3 [cV ⟨0, 0, 0⟩] true), (5, .cells 4 1 [[.bool false]] true)] (.bool false) [(900, .lp { r0 with state := .done, pending := some .ret } [(14, g), (6, .ptr 6 0 0), (3, .ptr 3 0 0), (4, .ptr 4 0 0), (5, .ptr 5 0 0)]), (6, .cells 3 1 [[iv (((k) : Nat) : Int)]] true), (3, .cells 3 1 [[iv step]] true), (4, .cells 26 3 [cV v] true), (5, .cells 4 1 [[.bool true]] true)] true := by
  have := round_yield (P := Try.prog) (F := [(14, g), (6, .ptr 6 0 0), (3, .ptr 3 0 0), (4, .ptr 4 0 0), (5, .ptr 5 0 0)]) (N := 23) (x := as17) (y := bd17) h.ca h.cb (li := 900) (ps := [15]) (vs := [aV v]) (J := [(6, .cells 3 1 [[iv (((k) : Nat) : Int)]] true), (3, .cells 3 1 [[iv step]] true), (4, .cells 26 3 [cV ⟨0, 0, 0⟩] true), (5, .cells 4 1 [[.bool false]] true)]) (J1 := [(6, .cells 3 1 [[iv (((k) : Nat) : Int)]] true), (3, .cells 3 1 [[iv step]] true), (4, .cells 26 3 [cV ⟨0, 0, 0⟩] true), (5, .cells 4 1 [[.bool false]] true), (7, .cells 26 3 [cV v] true)]) (J' := [(6, .cells 3 1 [[iv (((k) : Nat) : Int)]] true), (3, .cells 3 1 [[iv step]] true), (4, .cells 26 3 [cV v] true), (5, .cells 4 1 [[.bool true]] true)]) (Fb := [(6, .ptr 6 0 0), (3, .ptr 3 0 0), (4, .ptr 4 0 0), (5, .ptr 5 0 0), (7, .ptr 7 0 0)]) (Z0 := [900, 6, 3, 4, 5]) .ret (some .ret) (.inr ⟨rfl, rfl⟩)
    rfl rfl (fun i hi => mem_keys.1 hi) (by simp) (fun i h => mem_keys.2 h) (fun i hi => mem_keys.1 (by simp [keysOf] at hi ⊢; omega)) h.state h.params rfl rfl h.size (fun t v h => get_mem h) (fun lb o => as17w g hg step k v o lb) (fun lb o => bd17w_s g hg step k hk hs v o lb)
  exact this

end Go.Proofs.Yteommcdafifckaa
