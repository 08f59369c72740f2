/-
  Proved: colletlaw15.MoveTurned returns true for every input, and its arguments read as before, where the package variable turn.identity reads as its initialiser lays it (tied to the program's text: the tied card). No other condition.
-/
import Derived.Test.YteommcdafifckaaDoorK5
import Derived.Test.YteommcdafifckaaDoorRows
import Derived.ProofKit
import Derived.LaidMore
import Derived.OpenShut
import Derived.MakeChecks
import Derived.Test.YteommcdafifckaaDoorCards
import Derived.Test.YteommcdafifckaaDoorTie
import Derived.SevenTiedAt
set_option linter.unusedVariables false
set_option linter.unusedSimpArgs false

/-! Walks: T2. -/
namespace Go.Proofs.YteommcdafifckaaDoor
open Go.RowKit
set_option maxRecDepth 100000
set_option linter.unusedVariables false

abbrev cT (p : V3 × V3) : List AV := [iv p.1.x, iv p.1.y, iv p.1.z, iv p.2.x, iv p.2.y, iv p.2.z, iv (cross p.1 p.2).x, iv (cross p.1 p.2).y, iv (cross p.1 p.2).z, iv 1]
def rM (p : V3 × V3) : Nat → Int
  | 0 => p.1.x
  | 1 => p.1.y
  | 2 => p.1.z
  | 3 => p.2.x
  | 4 => p.2.y
  | 5 => p.2.z
  | 6 => (cross p.1 p.2).x
  | 7 => (cross p.1 p.2).y
  | 8 => (cross p.1 p.2).z
  | _ => 0
def okB (M : Nat → Int) : Bool := ((List.range 9).all fun q => decide (-1 ≤ M q ∧ M q ≤ 1)) && decide ([tq M (trM M) 0 3, tq M (trM M) 1 3, tq M (trM M) 2 3, tq M (trM M) 3 3, tq M (trM M) 4 3, tq M (trM M) 5 3, tq M (trM M) 6 3, tq M (trM M) 7 3, tq M (trM M) 8 3] = [1, 0, 0, 0, 1, 0, 0, 0, 1]) && decide (detS M = 1)
  && (decide (dotW ⟨M 0, M 1, M 2⟩ ⟨M 0, M 1, M 2⟩ = 1) && decide (dotW ⟨M 0, M 1, M 2⟩ ⟨M 3, M 4, M 5⟩ = 0) && decide (dotW ⟨M 0, M 1, M 2⟩ ⟨M 6, M 7, M 8⟩ = 0) && decide (dotW ⟨M 3, M 4, M 5⟩ ⟨M 0, M 1, M 2⟩ = 0) && decide (dotW ⟨M 3, M 4, M 5⟩ ⟨M 3, M 4, M 5⟩ = 1) && decide (dotW ⟨M 3, M 4, M 5⟩ ⟨M 6, M 7, M 8⟩ = 0) && decide (dotW ⟨M 6, M 7, M 8⟩ ⟨M 0, M 1, M 2⟩ = 0) && decide (dotW ⟨M 6, M 7, M 8⟩ ⟨M 3, M 4, M 5⟩ = 0) && decide (dotW ⟨M 6, M 7, M 8⟩ ⟨M 6, M 7, M 8⟩ = 1)) && decide (dotW (crossW ⟨M 0, M 1, M 2⟩ ⟨M 3, M 4, M 5⟩) ⟨M 6, M 7, M 8⟩ = 1)
theorem okM_of {M : Nat → Int} (h : okB M = true) : OkM M := by
  simp only [okB, Bool.and_eq_true, decide_eq_true_eq, List.all_eq_true, List.mem_range] at h
  obtain ⟨⟨⟨⟨h1, h2⟩, h3⟩, h4⟩, h5⟩ := h
  obtain ⟨⟨⟨⟨⟨⟨⟨⟨a, b⟩, c⟩, d⟩, e⟩, f⟩, g⟩, i⟩, j⟩ := h4
  exact ⟨h1, h2, h3, a, b, c, d, e, f, g, i, j, h5⟩
theorem ok_all : (turnL.all fun p => okB (rM p)) = true := by
  rw [turnL_eq]
  kernel_rfl
theorem ok_turn {p : V3 × V3} (hp : p ∈ turnL) : OkM (rM p) := okM_of (List.all_eq_true.1 ok_all p hp)
theorem unit_bd {a : V3} (h : a ∈ unitL) : Bd 1 a := by
  simp only [unitL, List.mem_cons, List.not_mem_nil, or_false] at h
  rcases h with rfl | rfl | rfl | rfl | rfl | rfl <;> exact ⟨by decide, by decide, by decide⟩
/-- What has been found. -/
def prF (a : V3) (L : List V3) : List (V3 × V3) := (L.filter fun b => decide (dot a b = 0)).map fun b => (a, b)
def tl1 (i : Nat) : List (V3 × V3) := (unitL.take i).flatMap fun a => prF a unitL
theorem prF_len (a : V3) (L : List V3) : (prF a L).length ≤ L.length := by
  unfold prF
  rw [List.length_map]
  exact List.length_filter_le _ _
theorem prF_t {a b : V3} {j : Nat} (hb : unitL[j]? = some b) (h : dot a b = 0) : prF a (unitL.take (j + 1)) = prF a (unitL.take j) ++ [(a, b)] := by
  rw [take_succ_at hb]
  simp [prF, h]
theorem prF_f {a b : V3} {j : Nat} (hb : unitL[j]? = some b) (h : ¬ dot a b = 0) : prF a (unitL.take (j + 1)) = prF a (unitL.take j) := by
  rw [take_succ_at hb]
  simp [prF, h]
theorem tl1_s {i : Nat} {a : V3} (ha : unitL[i]? = some a) : tl1 (i + 1) = tl1 i ++ prF a (unitL.take 6) := by
  unfold tl1
  rw [take_succ_at ha, List.flatMap_append]
  simp [unitL]
theorem tl1_len : ∀ i, i ≤ 6 → (tl1 i).length ≤ 24 := by
  intro i hi
  obtain rfl | rfl | rfl | rfl | rfl | rfl | rfl : i = 0 ∨ i = 1 ∨ i = 2 ∨ i = 3 ∨ i = 4 ∨ i = 5 ∨ i = 6 := by omega
  all_goals decide +kernel
theorem turnL_len : turnL.length = 24 := by rw [turnL_eq]; rfl

def mct6 : MC := (.seq (.reg [⟨(some 0), (.mv (.c .nils)), none, []⟩] false) (.seq (.reg [⟨(some 11), (.build [(.int .i64 0), (.int .i64 0), (.int .i64 0)] [(0, (1, (.c (.int .i64 1))))]), none, []⟩, ⟨(some 12), (.build [(.int .i64 0), (.int .i64 0), (.int .i64 0)] [(1, (1, (.c (.int .i64 1))))]), none, []⟩, ⟨(some 13), (.build [(.int .i64 0), (.int .i64 0), (.int .i64 0)] [(2, (1, (.c (.int .i64 1))))]), none, []⟩, ⟨(some 14), (.build [(.int .i64 0), (.int .i64 0), (.int .i64 0), (.int .i64 0), (.int .i64 0), (.int .i64 0), (.int .i64 0), (.int .i64 0), (.int .i64 0)] [(0, (3, (.t 11))), (3, (3, (.t 12))), (6, (3, (.t 13)))]), none, [0, 1, 2]⟩, ⟨(some 1), (.alloc 64 9 [(.int .i64 0), (.int .i64 0), (.int .i64 0), (.int .i64 0), (.int .i64 0), (.int .i64 0), (.int .i64 0), (.int .i64 0), (.int .i64 0)]), none, []⟩, ⟨none, (.st 9 (.t 1) (.t 14)), none, [4, 3, 0, 1, 2, 3, 4]⟩] false) (.seq (.reg [⟨(some 2), (.mv (.c .nils)), none, []⟩] false) (.seq (.seq (.reg [⟨(some 15), (.mv (.c (.int .i64 0))), none, []⟩] false) (.block 0 (.loop (.seq (.reg [⟨(some 16), (.bin .lss (.t 15) (.c (.int .i64 3))), none, []⟩] false) (.seq (.cond (.t 16) .skip (.exit 0)) (.seq (.block 1 (.seq (.reg [⟨(some 17), (.mv (.t 15)), none, []⟩, ⟨(some 3), (.mv (.t 17)), none, [0, 0]⟩] false) (.reg [⟨(some 18), (.mv (.t 2)), none, []⟩, ⟨(some 19), (.build [(.int .i64 0), (.int .i64 0), (.int .i64 0)] []), none, []⟩, ⟨(some 20), (.mv (.t 3)), none, []⟩, ⟨(some 21), (.ixarr 3 3 (.t 1) (.t 20)), none, [2]⟩, ⟨(some 22), (.ld true 3 (.t 21)), none, [3]⟩, ⟨(some 23), (.call 22 [(.t 19), (.t 22)]), none, [1, 4]⟩, ⟨(some 24), (.bslice 26 3 [(.int .i64 0), (.int .i64 0), (.int .i64 0)] 1 [(0, (.t 23))]), none, [5]⟩, ⟨(some 25), (.app 26 3 24 [(.int .i64 0), (.int .i64 0), (.int .i64 0)] (.t 18) (.t 24)), none, [0, 6, 5]⟩, ⟨(some 2), (.mv (.t 25)), none, [7, 7, 0, 1, 2, 3, 4, 5, 6, 7]⟩] false))) (.reg [⟨(some 26), (.bin .add (.t 15) (.c (.int .i64 1))), none, []⟩, ⟨(some 15), (.mv (.t 26)), none, [0]⟩] false))))))) (.seq (.seq (.reg [⟨(some 27), (.mv (.c (.int .i64 0))), none, []⟩] false) (.block 2 (.loop (.seq (.reg [⟨(some 28), (.bin .lss (.t 27) (.c (.int .i64 3))), none, []⟩] false) (.seq (.cond (.t 28) .skip (.exit 2)) (.seq (.block 3 (.seq (.reg [⟨(some 29), (.mv (.t 27)), none, []⟩, ⟨(some 4), (.mv (.t 29)), none, [0, 0]⟩] false) (.reg [⟨(some 30), (.mv (.t 2)), none, []⟩, ⟨(some 31), (.mv (.t 4)), none, []⟩, ⟨(some 32), (.bin .sub (.c (.int .i64 2)) (.t 31)), none, [1]⟩, ⟨(some 33), (.ixarr 3 3 (.t 1) (.t 32)), none, [2]⟩, ⟨(some 34), (.ld true 3 (.t 33)), none, [3]⟩, ⟨(some 35), (.bslice 26 3 [(.int .i64 0), (.int .i64 0), (.int .i64 0)] 1 [(0, (.t 34))]), none, [4]⟩, ⟨(some 36), (.app 26 3 24 [(.int .i64 0), (.int .i64 0), (.int .i64 0)] (.t 30) (.t 35)), none, [0, 5]⟩, ⟨(some 2), (.mv (.t 36)), none, [6, 6, 0, 1, 2, 3, 4, 5, 6]⟩] false))) (.reg [⟨(some 37), (.bin .add (.t 27) (.c (.int .i64 1))), none, []⟩, ⟨(some 27), (.mv (.t 37)), none, [0]⟩] false))))))) (.seq (.reg [⟨(some 5), (.mv (.c .nils)), none, []⟩] false) (.seq (.seq (.reg [⟨(some 38), (.mv (.t 2)), none, []⟩, ⟨(some 39), (.len (.t 38)), none, [0]⟩, ⟨(some 40), (.mv (.c (.int .i64 0))), none, []⟩] false) (.block 4 (.loop (.seq (.reg [⟨(some 41), (.bin .lss (.t 40) (.t 39)), none, []⟩] false) (.seq (.cond (.t 41) .skip (.exit 4)) (.seq (.block 5 (.seq (.reg [⟨(some 42), (.ixsl 3 (.t 38) (.t 40)), none, []⟩, ⟨(some 43), (.ld true 3 (.t 42)), none, [0]⟩, ⟨(some 7), (.alloc 26 3 [(.int .i64 0), (.int .i64 0), (.int .i64 0)]), none, []⟩, ⟨none, (.st 3 (.t 7) (.t 43)), none, [2, 1, 0, 1, 2]⟩] false) (.seq (.reg [⟨(some 44), (.mv (.t 2)), none, []⟩, ⟨(some 45), (.len (.t 44)), none, [0]⟩, ⟨(some 46), (.mv (.c (.int .i64 0))), none, []⟩] false) (.block 6 (.loop (.seq (.reg [⟨(some 47), (.bin .lss (.t 46) (.t 45)), none, []⟩] false) (.seq (.cond (.t 47) .skip (.exit 6)) (.seq (.block 7 (.seq (.reg [⟨(some 48), (.ixsl 3 (.t 44) (.t 46)), none, []⟩, ⟨(some 49), (.ld true 3 (.t 48)), none, [0]⟩, ⟨(some 9), (.alloc 26 3 [(.int .i64 0), (.int .i64 0), (.int .i64 0)]), none, []⟩, ⟨none, (.st 3 (.t 9) (.t 49)), none, [2, 1, 0, 1, 2]⟩] false) (.seq (.reg [⟨(some 50), (.ld true 3 (.t 7)), none, []⟩, ⟨(some 51), (.ld true 3 (.t 9)), none, []⟩, ⟨(some 52), (.call 23 [(.t 50), (.t 51)]), none, [0, 1]⟩, ⟨(some 53), (.bin .eql (.t 52) (.c (.int .i64 0))), none, [2]⟩] false) (.cond (.t 53) (.seq (.reg [⟨(some 54), (.ld true 3 (.t 7)), none, []⟩, ⟨(some 55), (.ld true 3 (.t 9)), none, []⟩, ⟨(some 56), (.call 24 [(.t 54), (.t 55)]), none, [0, 1]⟩, ⟨(some 10), (.alloc 26 3 [(.int .i64 0), (.int .i64 0), (.int .i64 0)]), none, []⟩, ⟨none, (.st 3 (.t 10) (.t 56)), none, [3, 2, 2, 0, 1, 2, 3]⟩] false) (.reg [⟨(some 57), (.mv (.t 5)), none, []⟩, ⟨(some 58), (.fa 0 (.t 7)), none, []⟩, ⟨(some 59), (.ld false 1 (.t 58)), none, [1]⟩, ⟨(some 60), (.fa 1 (.t 7)), none, []⟩, ⟨(some 61), (.ld false 1 (.t 60)), none, [3]⟩, ⟨(some 62), (.fa 2 (.t 7)), none, []⟩, ⟨(some 63), (.ld false 1 (.t 62)), none, [5]⟩, ⟨(some 64), (.build [(.int .i64 0), (.int .i64 0), (.int .i64 0)] [(0, (1, (.t 59))), (1, (1, (.t 61))), (2, (1, (.t 63)))]), none, [2, 4, 6]⟩, ⟨(some 65), (.fa 0 (.t 9)), none, []⟩, ⟨(some 66), (.ld false 1 (.t 65)), none, [8]⟩, ⟨(some 67), (.fa 1 (.t 9)), none, []⟩, ⟨(some 68), (.ld false 1 (.t 67)), none, [10]⟩, ⟨(some 69), (.fa 2 (.t 9)), none, []⟩, ⟨(some 70), (.ld false 1 (.t 69)), none, [12]⟩, ⟨(some 71), (.build [(.int .i64 0), (.int .i64 0), (.int .i64 0)] [(0, (1, (.t 66))), (1, (1, (.t 68))), (2, (1, (.t 70)))]), none, [9, 11, 13]⟩, ⟨(some 72), (.fa 0 (.t 10)), none, []⟩, ⟨(some 73), (.ld false 1 (.t 72)), none, [15]⟩, ⟨(some 74), (.fa 1 (.t 10)), none, []⟩, ⟨(some 75), (.ld false 1 (.t 74)), none, [17]⟩, ⟨(some 76), (.fa 2 (.t 10)), none, []⟩, ⟨(some 77), (.ld false 1 (.t 76)), none, [19]⟩, ⟨(some 78), (.build [(.int .i64 0), (.int .i64 0), (.int .i64 0)] [(0, (1, (.t 73))), (1, (1, (.t 75))), (2, (1, (.t 77)))]), none, [16, 18, 20]⟩, ⟨(some 79), (.build [(.int .i64 0), (.int .i64 0), (.int .i64 0), (.int .i64 0), (.int .i64 0), (.int .i64 0), (.int .i64 0), (.int .i64 0), (.int .i64 0)] [(0, (3, (.t 64))), (3, (3, (.t 71))), (6, (3, (.t 78)))]), none, [7, 14, 21]⟩, ⟨(some 80), (.build [(.int .i64 0), (.int .i64 0), (.int .i64 0), (.int .i64 0), (.int .i64 0), (.int .i64 0), (.int .i64 0), (.int .i64 0), (.int .i64 0), (.int .i64 0)] [(0, (9, (.t 79))), (9, (1, (.c (.int .i64 1))))]), none, [22]⟩, ⟨(some 81), (.bslice 35 10 [(.int .i64 0), (.int .i64 0), (.int .i64 0), (.int .i64 0), (.int .i64 0), (.int .i64 0), (.int .i64 0), (.int .i64 0), (.int .i64 0), (.int .i64 0)] 1 [(0, (.t 80))]), none, [23]⟩, ⟨(some 82), (.app 35 10 80 [(.int .i64 0), (.int .i64 0), (.int .i64 0), (.int .i64 0), (.int .i64 0), (.int .i64 0), (.int .i64 0), (.int .i64 0), (.int .i64 0), (.int .i64 0)] (.t 57) (.t 81)), none, [0, 24]⟩, ⟨(some 5), (.mv (.t 82)), none, [25, 25, 0, 1, 2, 3, 4, 5, 6, 7, 8, 9, 10, 11, 12, 13, 14, 15, 16, 17, 18, 19, 20, 21, 22, 23, 24, 25]⟩] false)) .skip)))) (.reg [⟨(some 83), (.bin .add (.t 46) (.c (.int .i64 1))), none, []⟩, ⟨(some 46), (.mv (.t 83)), none, [0]⟩] false))))))))) (.reg [⟨(some 84), (.bin .add (.t 40) (.c (.int .i64 1))), none, []⟩, ⟨(some 40), (.mv (.t 84)), none, [0]⟩] false))))))) (.seq (.reg [⟨(some 85), (.mv (.t 5)), none, []⟩, ⟨(some 0), (.mv (.t 85)), none, [0, 0]⟩] false) .ret))))))))
theorem mcOkt6 : (match Tryd.f6.body with | some c => compC Tryd.prog 86 c | none => none) = some mct6 := by kernel_rfl

set_option maxHeartbeats 1000000 in
theorem tc6  : FC Tryd.prog 6 [] [] (.rs 10 (turnL.map cT)) [] false := by
  refine fc_run (nt := 86) Tryd.func6 rfl rfl mcOkt6 (Nat.le_of_ble_eq_true rfl) ?_
  delta mct6
  refine aw_seq ?_
  refine aw_reg ?_
  refine rs_mv rfl rfl ?_
  refine rs_nil fun _ => ?_
  refine th_n ?_
  refine aw_seq ?_
  refine aw_reg ?_
  refine rs_build rfl rfl ?_
  refine rs_build rfl rfl ?_
  refine rs_build rfl rfl ?_
  refine rs_build rfl rfl ?_
  refine rs_alloc rfl rfl rfl ?_
  refine rs_st rfl rfl rfl rfl rfl rfl rfl (Nat.le_of_ble_eq_true rfl) rfl rfl ?_
  refine rs_nil fun _ => ?_
  refine th_n ?_
  refine aw_seq ?_
  refine aw_reg ?_
  refine rs_mv rfl rfl ?_
  refine rs_nil fun _ => ?_
  refine th_n ?_
  refine aw_seq ?_
  refine aw_seq ?_
  refine aw_reg ?_
  refine rs_mv rfl rfl ?_
  refine rs_nil fun _ => ?_
  refine th_n ?_
  refine aw_block ?_
  refine aw_fam (α := Nat) (fun k => 3 - k) (fun k => [(1, .ptr 1 0 0), (2, .sl 1005 0 (k)), (15, iv (((k) : Nat) : Int))]) (fun k => [(1, .cells 64 9 [[iv 1, iv 0, iv 0, iv 0, iv 1, iv 0, iv 0, iv 0, iv 1]] true), (1005, .cells 26 3 ((unitL.take (k)).map cV) true)]) (fun k => k ≤ 3) 0 (by omega)
    (weak_to (.cons rfl (rc_same rfl (.inl rfl)) (.cons rfl (rc_virt rfl rfl) (.cons rfl (rc_same rfl (.inl rfl)) (.nil)))) (.keep (rfl) rfl (.virt rfl (.nil))) (fun i h => by cases h)) ?_
  intro k hk
  refine aw_seq ?_
  refine aw_reg ?_
  refine rs_lss rfl rfl rfl ?_
  refine rs_nil fun _ => ?_
  refine th_n ?_
  refine aw_seq ?_
  refine aw_cond rfl (fun h16 => ?_) (fun h16 => ?_)
  · replace h16 := of_decide_eq_true h16
    refine aw_skip ?_
    refine th_n ?_
    refine aw_seq ?_
    refine aw_block ?_
    refine aw_seq ?_
    refine aw_reg ?_
    obtain rfl | rfl | rfl : k = 0 ∨ k = 1 ∨ k = 2 := by omega
    · skip
      refine rs_mv rfl rfl ?_
      refine rs_mv rfl rfl ?_
      refine rs_nil fun _ => ?_
      refine th_n ?_
      refine aw_reg ?_
      refine rs_mv rfl rfl ?_
      refine rs_build rfl rfl ?_
      refine rs_mv rfl rfl ?_
      refine rs_ixarr_p rfl rfl rfl (by decide) (by decide) ?_
      refine rs_ld_pa rfl rfl rfl rfl (Nat.le_of_ble_eq_true rfl) rfl ?_
      refine rs_calln [] rfl rfl (fc27s (a := ⟨0, 0, 0⟩) (b := ⟨1, 0, 0⟩) ⟨by decide, by decide, by decide⟩ ⟨by decide, by decide, by decide⟩) (.cons (hv_same rfl) (.cons (hv_same rfl) (.nil))) rfl ?_
      refine rs_bslice (l := cV (sub ⟨0, 0, 0⟩ ⟨1, 0, 0⟩)) (els := [cV (sub ⟨0, 0, 0⟩ ⟨1, 0, 0⟩)]) (fl := true) rfl (by kernel_rfl) rfl rfl (by kernel_rfl) (by kernel_rfl) ?_
      refine rs_app_m (f := cV) (xs := unitL.take 0) (y := (sub ⟨0, 0, 0⟩ ⟨1, 0, 0⟩)) (fl' := true) rfl rfl rfl rfl rfl rfl rfl rfl (by decide) rfl (by decide) (by decide) rfl ?_
      refine rs_mv rfl rfl ?_
      refine rs_nil fun _ => ?_
      refine in_n ?_
      refine th_n ?_
      refine aw_reg ?_
      refine rs_add rfl rfl rfl (by omega) ?_
      refine rs_mv rfl rfl ?_
      refine rs_nil fun _ => ?_
      refine th_n ?_
      exact ⟨0 + 1, by omega, by omega, weak_to_ren (i := 25) (i' := 1005) (F1 := [(1, .ptr 1 0 0), (2, .sl 25 0 (1)), (15, iv (((1) : Nat) : Int))]) (H1 := [(1, .cells 64 9 [[iv 1, iv 0, iv 0, iv 0, iv 1, iv 0, iv 0, iv 0, iv 1]] true), (25, .cells 26 3 ((unitL.take (1)).map cV) true)]) (.cons rfl (rc_same rfl (.inl rfl)) (.cons rfl (rc_same rfl (.inl rfl)) (.cons rfl (rc_same rfl (.inl rfl)) (.nil)))) (.keep (rfl) rfl (.keep (rfl) rfl (.nil))) (fun i h => by cases h) rfl rfl (.cons rfl (.same _) (.cons rfl (.sl _ _) (.cons rfl (.same _) (.nil)))) (.cons rfl (rc_same rfl (.inl rfl)) (.cons rfl (rc_same rfl (.inl rfl)) (.cons rfl (rc_same rfl (.inl rfl)) (.nil)))) (.keep (rfl) rfl (.keep (rfl) rfl (.nil))) (fun i h => by cases h)⟩
    · skip
      refine rs_mv rfl rfl ?_
      refine rs_mv rfl rfl ?_
      refine rs_nil fun _ => ?_
      refine th_n ?_
      refine aw_reg ?_
      refine rs_mv rfl rfl ?_
      refine rs_build rfl rfl ?_
      refine rs_mv rfl rfl ?_
      refine rs_ixarr_p rfl rfl rfl (by decide) (by decide) ?_
      refine rs_ld_pa rfl rfl rfl rfl (Nat.le_of_ble_eq_true rfl) rfl ?_
      refine rs_calln [] rfl rfl (fc27s (a := ⟨0, 0, 0⟩) (b := ⟨0, 1, 0⟩) ⟨by decide, by decide, by decide⟩ ⟨by decide, by decide, by decide⟩) (.cons (hv_same rfl) (.cons (hv_same rfl) (.nil))) rfl ?_
      refine rs_bslice (l := cV (sub ⟨0, 0, 0⟩ ⟨0, 1, 0⟩)) (els := [cV (sub ⟨0, 0, 0⟩ ⟨0, 1, 0⟩)]) (fl := true) rfl (by kernel_rfl) rfl rfl (by kernel_rfl) (by kernel_rfl) ?_
      refine rs_app_m (f := cV) (xs := unitL.take 1) (y := (sub ⟨0, 0, 0⟩ ⟨0, 1, 0⟩)) (fl' := true) rfl rfl rfl rfl rfl rfl rfl rfl (by decide) rfl (by decide) (by decide) rfl ?_
      refine rs_mv rfl rfl ?_
      refine rs_nil fun _ => ?_
      refine in_n ?_
      refine th_n ?_
      refine aw_reg ?_
      refine rs_add rfl rfl rfl (by omega) ?_
      refine rs_mv rfl rfl ?_
      refine rs_nil fun _ => ?_
      refine th_n ?_
      exact ⟨1 + 1, by omega, by omega, weak_to_ren (i := 25) (i' := 1005) (F1 := [(1, .ptr 1 0 0), (2, .sl 25 0 (2)), (15, iv (((2) : Nat) : Int))]) (H1 := [(1, .cells 64 9 [[iv 1, iv 0, iv 0, iv 0, iv 1, iv 0, iv 0, iv 0, iv 1]] true), (25, .cells 26 3 ((unitL.take (2)).map cV) true)]) (.cons rfl (rc_same rfl (.inl rfl)) (.cons rfl (rc_same rfl (.inl rfl)) (.cons rfl (rc_same rfl (.inl rfl)) (.nil)))) (.keep (rfl) rfl (.keep (rfl) rfl (.nil))) (fun i h => by cases h) rfl rfl (.cons rfl (.same _) (.cons rfl (.sl _ _) (.cons rfl (.same _) (.nil)))) (.cons rfl (rc_same rfl (.inl rfl)) (.cons rfl (rc_same rfl (.inl rfl)) (.cons rfl (rc_same rfl (.inl rfl)) (.nil)))) (.keep (rfl) rfl (.keep (rfl) rfl (.nil))) (fun i h => by cases h)⟩
    · skip
      refine rs_mv rfl rfl ?_
      refine rs_mv rfl rfl ?_
      refine rs_nil fun _ => ?_
      refine th_n ?_
      refine aw_reg ?_
      refine rs_mv rfl rfl ?_
      refine rs_build rfl rfl ?_
      refine rs_mv rfl rfl ?_
      refine rs_ixarr_p rfl rfl rfl (by decide) (by decide) ?_
      refine rs_ld_pa rfl rfl rfl rfl (Nat.le_of_ble_eq_true rfl) rfl ?_
      refine rs_calln [] rfl rfl (fc27s (a := ⟨0, 0, 0⟩) (b := ⟨0, 0, 1⟩) ⟨by decide, by decide, by decide⟩ ⟨by decide, by decide, by decide⟩) (.cons (hv_same rfl) (.cons (hv_same rfl) (.nil))) rfl ?_
      refine rs_bslice (l := cV (sub ⟨0, 0, 0⟩ ⟨0, 0, 1⟩)) (els := [cV (sub ⟨0, 0, 0⟩ ⟨0, 0, 1⟩)]) (fl := true) rfl (by kernel_rfl) rfl rfl (by kernel_rfl) (by kernel_rfl) ?_
      refine rs_app_m (f := cV) (xs := unitL.take 2) (y := (sub ⟨0, 0, 0⟩ ⟨0, 0, 1⟩)) (fl' := true) rfl rfl rfl rfl rfl rfl rfl rfl (by decide) rfl (by decide) (by decide) rfl ?_
      refine rs_mv rfl rfl ?_
      refine rs_nil fun _ => ?_
      refine in_n ?_
      refine th_n ?_
      refine aw_reg ?_
      refine rs_add rfl rfl rfl (by omega) ?_
      refine rs_mv rfl rfl ?_
      refine rs_nil fun _ => ?_
      refine th_n ?_
      exact ⟨2 + 1, by omega, by omega, weak_to_ren (i := 25) (i' := 1005) (F1 := [(1, .ptr 1 0 0), (2, .sl 25 0 (3)), (15, iv (((3) : Nat) : Int))]) (H1 := [(1, .cells 64 9 [[iv 1, iv 0, iv 0, iv 0, iv 1, iv 0, iv 0, iv 0, iv 1]] true), (25, .cells 26 3 ((unitL.take (3)).map cV) true)]) (.cons rfl (rc_same rfl (.inl rfl)) (.cons rfl (rc_same rfl (.inl rfl)) (.cons rfl (rc_same rfl (.inl rfl)) (.nil)))) (.keep (rfl) rfl (.keep (rfl) rfl (.nil))) (fun i h => by cases h) rfl rfl (.cons rfl (.same _) (.cons rfl (.sl _ _) (.cons rfl (.same _) (.nil)))) (.cons rfl (rc_same rfl (.inl rfl)) (.cons rfl (rc_same rfl (.inl rfl)) (.cons rfl (rc_same rfl (.inl rfl)) (.nil)))) (.keep (rfl) rfl (.keep (rfl) rfl (.nil))) (fun i h => by cases h)⟩
  · replace h16 := of_decide_eq_false h16
    refine aw_exit ?_
    refine th_e ?_
    refine th_e ?_
    refine in_hit ?_
    refine th_n ?_
    refine aw_seq ?_
    refine aw_seq ?_
    obtain rfl : k = 3 := by omega
    refine aw_reg ?_
    refine rs_mv rfl rfl ?_
    refine rs_nil fun _ => ?_
    refine th_n ?_
    refine aw_block ?_
    refine aw_fam (α := Nat) (fun k => 3 - k) (fun k => [(1, .ptr 1 0 0), (2, .sl 1005 0 (3 + (k))), (27, iv (((k) : Nat) : Int))]) (fun k => [(1, .cells 64 9 [[iv 1, iv 0, iv 0, iv 0, iv 1, iv 0, iv 0, iv 0, iv 1]] true), (1005, .cells 26 3 ((unitL.take (3 + (k))).map cV) true)]) (fun k => k ≤ 3) 0 (by omega)
      (weak_to (.cons rfl (rc_same rfl (.inl rfl)) (.cons rfl (rc_same rfl (.inl rfl)) (.cons rfl (rc_same rfl (.inl rfl)) (.nil)))) (.keep (rfl) rfl (.keep (rfl) rfl (.nil))) (fun i h => by cases h)) ?_
    intro k hk
    refine aw_seq ?_
    refine aw_reg ?_
    refine rs_lss rfl rfl rfl ?_
    refine rs_nil fun _ => ?_
    refine th_n ?_
    refine aw_seq ?_
    refine aw_cond rfl (fun h28 => ?_) (fun h28 => ?_)
    · replace h28 := of_decide_eq_true h28
      refine aw_skip ?_
      refine th_n ?_
      refine aw_seq ?_
      refine aw_block ?_
      refine aw_seq ?_
      refine aw_reg ?_
      obtain rfl | rfl | rfl : k = 0 ∨ k = 1 ∨ k = 2 := by omega
      · skip
        refine rs_mv rfl rfl ?_
        refine rs_mv rfl rfl ?_
        refine rs_nil fun _ => ?_
        refine th_n ?_
        refine aw_reg ?_
        refine rs_mv rfl rfl ?_
        refine rs_mv rfl rfl ?_
        refine rs_sub rfl rfl rfl (by omega) ?_
        refine rs_ixarr_p rfl rfl rfl (by decide) (by decide) ?_
        refine rs_ld_pa rfl rfl rfl rfl (Nat.le_of_ble_eq_true rfl) rfl ?_
        refine rs_bslice (l := cV ⟨0, 0, 1⟩) (els := [cV ⟨0, 0, 1⟩]) (fl := true) rfl (by kernel_rfl) rfl rfl (by kernel_rfl) (by kernel_rfl) ?_
        refine rs_app_m (f := cV) (xs := unitL.take 3) (y := ⟨0, 0, 1⟩) (fl' := true) rfl rfl rfl rfl rfl rfl rfl rfl (by decide) rfl (by decide) (by decide) rfl ?_
        refine rs_mv rfl rfl ?_
        refine rs_nil fun _ => ?_
        refine in_n ?_
        refine th_n ?_
        refine aw_reg ?_
        refine rs_add rfl rfl rfl (by omega) ?_
        refine rs_mv rfl rfl ?_
        refine rs_nil fun _ => ?_
        refine th_n ?_
        exact ⟨0 + 1, by omega, by omega, weak_to_ren (i := 36) (i' := 1005) (F1 := [(1, .ptr 1 0 0), (2, .sl 36 0 (3 + (1))), (27, iv (((1) : Nat) : Int))]) (H1 := [(1, .cells 64 9 [[iv 1, iv 0, iv 0, iv 0, iv 1, iv 0, iv 0, iv 0, iv 1]] true), (36, .cells 26 3 ((unitL.take (3 + (1))).map cV) true)]) (.cons rfl (rc_same rfl (.inl rfl)) (.cons rfl (rc_same rfl (.inl rfl)) (.cons rfl (rc_same rfl (.inl rfl)) (.nil)))) (.keep (rfl) rfl (.keep (rfl) rfl (.nil))) (fun i h => by cases h) rfl rfl (.cons rfl (.same _) (.cons rfl (.sl _ _) (.cons rfl (.same _) (.nil)))) (.cons rfl (rc_same rfl (.inl rfl)) (.cons rfl (rc_same rfl (.inl rfl)) (.cons rfl (rc_same rfl (.inl rfl)) (.nil)))) (.keep (rfl) rfl (.keep (rfl) rfl (.nil))) (fun i h => by cases h)⟩
      · skip
        refine rs_mv rfl rfl ?_
        refine rs_mv rfl rfl ?_
        refine rs_nil fun _ => ?_
        refine th_n ?_
        refine aw_reg ?_
        refine rs_mv rfl rfl ?_
        refine rs_mv rfl rfl ?_
        refine rs_sub rfl rfl rfl (by omega) ?_
        refine rs_ixarr_p rfl rfl rfl (by decide) (by decide) ?_
        refine rs_ld_pa rfl rfl rfl rfl (Nat.le_of_ble_eq_true rfl) rfl ?_
        refine rs_bslice (l := cV ⟨0, 1, 0⟩) (els := [cV ⟨0, 1, 0⟩]) (fl := true) rfl (by kernel_rfl) rfl rfl (by kernel_rfl) (by kernel_rfl) ?_
        refine rs_app_m (f := cV) (xs := unitL.take 4) (y := ⟨0, 1, 0⟩) (fl' := true) rfl rfl rfl rfl rfl rfl rfl rfl (by decide) rfl (by decide) (by decide) rfl ?_
        refine rs_mv rfl rfl ?_
        refine rs_nil fun _ => ?_
        refine in_n ?_
        refine th_n ?_
        refine aw_reg ?_
        refine rs_add rfl rfl rfl (by omega) ?_
        refine rs_mv rfl rfl ?_
        refine rs_nil fun _ => ?_
        refine th_n ?_
        exact ⟨1 + 1, by omega, by omega, weak_to_ren (i := 36) (i' := 1005) (F1 := [(1, .ptr 1 0 0), (2, .sl 36 0 (3 + (2))), (27, iv (((2) : Nat) : Int))]) (H1 := [(1, .cells 64 9 [[iv 1, iv 0, iv 0, iv 0, iv 1, iv 0, iv 0, iv 0, iv 1]] true), (36, .cells 26 3 ((unitL.take (3 + (2))).map cV) true)]) (.cons rfl (rc_same rfl (.inl rfl)) (.cons rfl (rc_same rfl (.inl rfl)) (.cons rfl (rc_same rfl (.inl rfl)) (.nil)))) (.keep (rfl) rfl (.keep (rfl) rfl (.nil))) (fun i h => by cases h) rfl rfl (.cons rfl (.same _) (.cons rfl (.sl _ _) (.cons rfl (.same _) (.nil)))) (.cons rfl (rc_same rfl (.inl rfl)) (.cons rfl (rc_same rfl (.inl rfl)) (.cons rfl (rc_same rfl (.inl rfl)) (.nil)))) (.keep (rfl) rfl (.keep (rfl) rfl (.nil))) (fun i h => by cases h)⟩
      · skip
        refine rs_mv rfl rfl ?_
        refine rs_mv rfl rfl ?_
        refine rs_nil fun _ => ?_
        refine th_n ?_
        refine aw_reg ?_
        refine rs_mv rfl rfl ?_
        refine rs_mv rfl rfl ?_
        refine rs_sub rfl rfl rfl (by omega) ?_
        refine rs_ixarr_p rfl rfl rfl (by decide) (by decide) ?_
        refine rs_ld_pa rfl rfl rfl rfl (Nat.le_of_ble_eq_true rfl) rfl ?_
        refine rs_bslice (l := cV ⟨1, 0, 0⟩) (els := [cV ⟨1, 0, 0⟩]) (fl := true) rfl (by kernel_rfl) rfl rfl (by kernel_rfl) (by kernel_rfl) ?_
        refine rs_app_m (f := cV) (xs := unitL.take 5) (y := ⟨1, 0, 0⟩) (fl' := true) rfl rfl rfl rfl rfl rfl rfl rfl (by decide) rfl (by decide) (by decide) rfl ?_
        refine rs_mv rfl rfl ?_
        refine rs_nil fun _ => ?_
        refine in_n ?_
        refine th_n ?_
        refine aw_reg ?_
        refine rs_add rfl rfl rfl (by omega) ?_
        refine rs_mv rfl rfl ?_
        refine rs_nil fun _ => ?_
        refine th_n ?_
        exact ⟨2 + 1, by omega, by omega, weak_to_ren (i := 36) (i' := 1005) (F1 := [(1, .ptr 1 0 0), (2, .sl 36 0 (3 + (3))), (27, iv (((3) : Nat) : Int))]) (H1 := [(1, .cells 64 9 [[iv 1, iv 0, iv 0, iv 0, iv 1, iv 0, iv 0, iv 0, iv 1]] true), (36, .cells 26 3 ((unitL.take (3 + (3))).map cV) true)]) (.cons rfl (rc_same rfl (.inl rfl)) (.cons rfl (rc_same rfl (.inl rfl)) (.cons rfl (rc_same rfl (.inl rfl)) (.nil)))) (.keep (rfl) rfl (.keep (rfl) rfl (.nil))) (fun i h => by cases h) rfl rfl (.cons rfl (.same _) (.cons rfl (.sl _ _) (.cons rfl (.same _) (.nil)))) (.cons rfl (rc_same rfl (.inl rfl)) (.cons rfl (rc_same rfl (.inl rfl)) (.cons rfl (rc_same rfl (.inl rfl)) (.nil)))) (.keep (rfl) rfl (.keep (rfl) rfl (.nil))) (fun i h => by cases h)⟩
    · replace h28 := of_decide_eq_false h28
      refine aw_exit ?_
      refine th_e ?_
      refine th_e ?_
      refine in_hit ?_
      refine th_n ?_
      refine aw_seq ?_
      refine aw_reg ?_
      refine rs_mv rfl rfl ?_
      refine rs_nil fun _ => ?_
      refine th_n ?_
      refine aw_seq ?_
      refine aw_seq ?_
      obtain rfl : k = 3 := by omega
      refine aw_reg ?_
      refine rs_mv rfl rfl ?_
      refine rs_len_s rfl rfl ?_
      refine rs_mv rfl rfl ?_
      refine rs_nil fun _ => ?_
      refine th_n ?_
      refine aw_block ?_
      refine aw_fam (α := Nat) (fun i => 6 - i) (fun i => [(2, .sl 1005 0 6), (5, .sl 1006 0 (tl1 (i)).length), (38, .sl 1005 0 6), (39, iv 6), (40, iv (((i) : Nat) : Int))]) (fun i => [(1005, .cells 26 3 (unitL.map cV) true), (1006, .cells 35 10 ((tl1 (i)).map cT) true)]) (fun i => i ≤ 6) 0 (by omega)
        (weak_to (.cons rfl (rc_same rfl (.inl rfl)) (.cons rfl (rc_virt rfl rfl) (.cons rfl (rc_same rfl (.inl rfl)) (.cons rfl (rc_same rfl (.inl rfl)) (.cons rfl (rc_same rfl (.inl rfl)) (.nil)))))) (.keep (rfl) rfl (.virt rfl (.nil))) (fun i h => by cases h)) ?_
      intro i hi
      refine aw_seq ?_
      refine aw_reg ?_
      refine rs_lss rfl rfl rfl ?_
      refine rs_nil fun _ => ?_
      refine th_n ?_
      refine aw_seq ?_
      refine aw_cond rfl (fun h41 => ?_) (fun h41 => ?_)
      · replace h41 := of_decide_eq_true h41
        refine aw_skip ?_
        refine th_n ?_
        refine aw_seq ?_
        refine aw_block ?_
        refine aw_seq ?_
        refine aw_reg ?_
        obtain ⟨a, ha, ham⟩ := at_some (L := unitL) (k := i) (by show i < 6; omega)
        refine rs_ix_s rfl rfl rfl rfl (by omega) (by omega) ?_
        refine rs_ld_ga (f := cV) (xs := unitL) (y := a) rfl rfl rfl (by rw [show 0 + ((i : Nat) : Int).toNat = i by omega]; exact ha) (Nat.le_of_ble_eq_true rfl) rfl ?_
        refine rs_alloc rfl rfl rfl ?_
        refine rs_st rfl rfl rfl rfl rfl rfl rfl (Nat.le_of_ble_eq_true rfl) rfl rfl ?_
        refine rs_nil fun _ => ?_
        refine th_n ?_
        refine aw_seq ?_
        refine aw_reg ?_
        refine rs_mv rfl rfl ?_
        refine rs_len_s rfl rfl ?_
        refine rs_mv rfl rfl ?_
        refine rs_nil fun _ => ?_
        refine th_n ?_
        refine aw_block ?_
        refine aw_fam (α := Nat) (fun j => 6 - j) (fun j => [(2, .sl 1005 0 6), (5, .sl 1006 0 (tl1 (i) ++ prF a (unitL.take (j))).length), (7, .ptr 7 0 0), (38, .sl 1005 0 6), (39, iv 6), (40, iv (((i) : Nat) : Int)), (44, .sl 1005 0 6), (45, iv 6), (46, iv (((j) : Nat) : Int))]) (fun j => [(1005, .cells 26 3 (unitL.map cV) true), (1006, .cells 35 10 ((tl1 (i) ++ prF a (unitL.take (j))).map cT) true), (7, .cells 26 3 [cV a] true)]) (fun j => j ≤ 6) 0 (by omega)
          (weak_to (.cons rfl (rc_same rfl (.inl rfl)) (.cons rfl (rc_eq (congrArg (AV.sl 1006 0) (by simp [prF])) rfl) (.cons rfl (rc_same rfl (.inl rfl)) (.cons rfl (rc_same rfl (.inl rfl)) (.cons rfl (rc_same rfl (.inl rfl)) (.cons rfl (rc_same rfl (.inl rfl)) (.cons rfl (rc_same rfl (.inl rfl)) (.cons rfl (rc_same rfl (.inl rfl)) (.cons rfl (rc_same rfl (.inl rfl)) (.nil)))))))))) (.keep (rfl) rfl (.keep ((by rw [show prF a (unitL.take 0) = [] from rfl, List.append_nil]; rfl)) rfl (.keep (rfl) rfl (.nil)))) (fun i h => by cases h)) ?_
        intro j hj
        refine aw_seq ?_
        refine aw_reg ?_
        refine rs_lss rfl rfl rfl ?_
        refine rs_nil fun _ => ?_
        refine th_n ?_
        refine aw_seq ?_
        refine aw_cond rfl (fun h47 => ?_) (fun h47 => ?_)
        · replace h47 := of_decide_eq_true h47
          refine aw_skip ?_
          refine th_n ?_
          refine aw_seq ?_
          refine aw_block ?_
          refine aw_seq ?_
          refine aw_reg ?_
          obtain ⟨b, hb, hbm⟩ := at_some (L := unitL) (k := j) (by show j < 6; omega)
          have hln := tl1_len i hi
          have hlp := prF_len a (unitL.take j)
          have hlt : (unitL.take j).length ≤ 6 := by rw [List.length_take]; exact Nat.le_trans (Nat.min_le_left _ _) hj
          have hls : (tl1 i ++ prF a (unitL.take j)).length ≤ 30 := by rw [List.length_append]; omega
          refine rs_ix_s rfl rfl rfl rfl (by omega) (by omega) ?_
          refine rs_ld_ga (f := cV) (xs := unitL) (y := b) rfl rfl rfl (by rw [show 0 + ((j : Nat) : Int).toNat = j by omega]; exact hb) (Nat.le_of_ble_eq_true rfl) rfl ?_
          refine rs_alloc rfl rfl rfl ?_
          refine rs_st rfl rfl rfl rfl rfl rfl rfl (Nat.le_of_ble_eq_true rfl) rfl rfl ?_
          refine rs_nil fun _ => ?_
          refine th_n ?_
          refine aw_seq ?_
          refine aw_reg ?_
          refine rs_ld_pa rfl rfl rfl rfl (Nat.le_of_ble_eq_true rfl) rfl ?_
          refine rs_ld_pa rfl rfl rfl rfl (Nat.le_of_ble_eq_true rfl) rfl ?_
          refine rs_calln [] rfl rfl (fc30s (unit_bd ham).big (unit_bd hbm).big) (.cons (hv_same rfl) (.cons (hv_same rfl) (.nil))) rfl ?_
          refine rs_eql rfl rfl rfl ?_
          refine rs_nil fun _ => ?_
          refine th_n ?_
          refine aw_cond rfl (fun h53 => ?_) (fun h53 => ?_)
          · replace h53 := of_decide_eq_true h53
            refine aw_seq ?_
            refine aw_reg ?_
            refine rs_ld_pa rfl rfl rfl rfl (Nat.le_of_ble_eq_true rfl) rfl ?_
            refine rs_ld_pa rfl rfl rfl rfl (Nat.le_of_ble_eq_true rfl) rfl ?_
            refine rs_calln [] rfl rfl (fc31s (unit_bd ham).big (unit_bd hbm).big) (.cons (hv_same rfl) (.cons (hv_same rfl) (.nil))) rfl ?_
            refine rs_alloc rfl rfl rfl ?_
            refine rs_st rfl rfl rfl rfl rfl rfl rfl (Nat.le_of_ble_eq_true rfl) rfl rfl ?_
            refine rs_nil fun _ => ?_
            refine th_n ?_
            refine aw_reg ?_
            refine rs_mv rfl rfl ?_
            refine rs_fa_p rfl rfl ?_
            refine rs_ld_p rfl rfl rfl rfl rfl ?_
            refine rs_fa_p rfl rfl ?_
            refine rs_ld_p rfl rfl rfl rfl rfl ?_
            refine rs_fa_p rfl rfl ?_
            refine rs_ld_p rfl rfl rfl rfl rfl ?_
            refine rs_build rfl rfl ?_
            refine rs_fa_p rfl rfl ?_
            refine rs_ld_p rfl rfl rfl rfl rfl ?_
            refine rs_fa_p rfl rfl ?_
            refine rs_ld_p rfl rfl rfl rfl rfl ?_
            refine rs_fa_p rfl rfl ?_
            refine rs_ld_p rfl rfl rfl rfl rfl ?_
            refine rs_build rfl rfl ?_
            refine rs_fa_p rfl rfl ?_
            refine rs_ld_p rfl rfl rfl rfl rfl ?_
            refine rs_fa_p rfl rfl ?_
            refine rs_ld_p rfl rfl rfl rfl rfl ?_
            refine rs_fa_p rfl rfl ?_
            refine rs_ld_p rfl rfl rfl rfl rfl ?_
            refine rs_build rfl rfl ?_
            refine rs_build rfl rfl ?_
            refine rs_build rfl rfl ?_
            refine rs_bslice (l := ([(a, b)]).flatMap cT) (els := ([(a, b)]).map cT) (fl := true) rfl (by kernel_rfl) rfl rfl (by kernel_rfl) (by kernel_rfl) ?_
            refine rs_app_m (f := cT) (xs := (tl1 (i) ++ prF a (unitL.take (j)))) (y := (a, b)) (fl' := true) rfl rfl rfl rfl rfl rfl rfl rfl (by decide) rfl (by omega) (by omega) rfl ?_
            refine rs_mv rfl rfl ?_
            refine rs_nil fun _ => ?_
            refine in_n ?_
            refine th_n ?_
            
            refine aw_reg ?_
            refine rs_add rfl rfl rfl (by omega) ?_
            refine rs_mv rfl rfl ?_
            refine rs_nil fun _ => ?_
            refine th_n ?_
            (refine ⟨j + 1, by omega, by omega, ?_⟩
             rw [prF_t hb h53, ← List.append_assoc (tl1 i)]
             exact weak_to_ren (i := 82) (i' := 1006) (F1 := [(2, .sl 1005 0 6), (5, .sl 82 0 (tl1 i ++ prF a (unitL.take j) ++ [(a, b)]).length), (7, .ptr 7 0 0), (38, .sl 1005 0 6), (39, iv 6), (40, iv (((i) : Nat) : Int)), (44, .sl 1005 0 6), (45, iv 6), (46, iv (((j + 1) : Nat) : Int))]) (H1 := [(1005, .cells 26 3 (unitL.map cV) true), (82, .cells 35 10 ((tl1 i ++ prF a (unitL.take j) ++ [(a, b)]).map cT) true), (7, .cells 26 3 [cV a] true)]) (.cons rfl (rc_same rfl (.inl rfl)) (.cons rfl (rc_eq (congrArg (AV.sl 82 0) (by simp only [List.length_append, List.length_cons, List.length_nil])) rfl) (.cons rfl (rc_same rfl (.inl rfl)) (.cons rfl (rc_same rfl (.inl rfl)) (.cons rfl (rc_same rfl (.inl rfl)) (.cons rfl (rc_same rfl (.inl rfl)) (.cons rfl (rc_same rfl (.inl rfl)) (.cons rfl (rc_same rfl (.inl rfl)) (.cons rfl (rc_same rfl (.inl rfl)) (.nil)))))))))) (.keep (rfl) rfl (.keep (rfl) rfl (.keep (rfl) rfl (.nil)))) (fun i h => by cases h) rfl rfl (.cons rfl (.same _) (.cons rfl (.sl _ _) (.cons rfl (.same _) (.cons rfl (.same _) (.cons rfl (.same _) (.cons rfl (.same _) (.cons rfl (.same _) (.cons rfl (.same _) (.cons rfl (.same _) (.nil)))))))))) (.cons rfl (rc_same rfl (.inl rfl)) (.cons rfl (rc_same rfl (.inl rfl)) (.cons rfl (rc_same rfl (.inl rfl)) (.cons rfl (rc_same rfl (.inl rfl)) (.cons rfl (rc_same rfl (.inl rfl)) (.cons rfl (rc_same rfl (.inl rfl)) (.cons rfl (rc_same rfl (.inl rfl)) (.cons rfl (rc_same rfl (.inl rfl)) (.cons rfl (rc_same rfl (.inl rfl)) (.nil)))))))))) (.keep (rfl) rfl (.keep (rfl) rfl (.keep (rfl) rfl (.nil)))) (fun i h => by cases h))
          · replace h53 := of_decide_eq_false h53
            refine aw_skip ?_
            refine in_n ?_
            refine th_n ?_
            
            refine aw_reg ?_
            refine rs_add rfl rfl rfl (by omega) ?_
            refine rs_mv rfl rfl ?_
            refine rs_nil fun _ => ?_
            refine th_n ?_
            (refine ⟨j + 1, by omega, by omega, ?_⟩
             rw [prF_f hb h53]
             exact weak_to (.cons rfl (rc_same rfl (.inl rfl)) (.cons rfl (rc_same rfl (.inl rfl)) (.cons rfl (rc_same rfl (.inl rfl)) (.cons rfl (rc_same rfl (.inl rfl)) (.cons rfl (rc_same rfl (.inl rfl)) (.cons rfl (rc_same rfl (.inl rfl)) (.cons rfl (rc_same rfl (.inl rfl)) (.cons rfl (rc_same rfl (.inl rfl)) (.cons rfl (rc_same rfl (.inl rfl)) (.nil)))))))))) (.keep (rfl) rfl (.keep (rfl) rfl (.keep (rfl) rfl (.nil)))) (fun i h => by cases h))
        · replace h47 := of_decide_eq_false h47
          refine aw_exit ?_
          refine th_e ?_
          refine th_e ?_
          refine in_hit ?_
          refine in_n ?_
          refine th_n ?_
          obtain rfl : j = 6 := by omega
          refine aw_reg ?_
          refine rs_add rfl rfl rfl (by omega) ?_
          refine rs_mv rfl rfl ?_
          refine rs_nil fun _ => ?_
          refine th_n ?_
          refine ⟨i + 1, by omega, by omega, ?_⟩
          rw [tl1_s ha]
          exact weak_to (.cons rfl (rc_same rfl (.inl rfl)) (.cons rfl (rc_same rfl (.inl rfl)) (.cons rfl (rc_same rfl (.inl rfl)) (.cons rfl (rc_same rfl (.inl rfl)) (.cons rfl (rc_same rfl (.inl rfl)) (.nil)))))) (.keep (rfl) rfl (.keep (rfl) rfl (.nil))) (fun i h => by cases h)
      · replace h41 := of_decide_eq_false h41
        refine aw_exit ?_
        refine th_e ?_
        refine th_e ?_
        refine in_hit ?_
        refine th_n ?_
        refine aw_seq ?_
        refine aw_reg ?_
        refine rs_mv rfl rfl ?_
        refine rs_mv rfl rfl ?_
        refine rs_nil fun _ => ?_
        refine th_n ?_
        refine aw_ret ?_
        obtain rfl : i = 6 := by omega
        exact ret_new rfl (rc_frz rfl rfl rfl (fun _ => rfl)) .nil

end Go.Proofs.YteommcdafifckaaDoor

/-! Walks: T3. -/
namespace Go.Proofs.YteommcdafifckaaDoor
open Go.RowKit
set_option maxRecDepth 100000
set_option linter.unusedVariables false


def mct41 : MC := (.seq (.reg [⟨(some 2), (.box 33 9 (.t 0)), none, []⟩, ⟨(some 4), (.alloc 26 3 [(.int .i64 0), (.int .i64 0), (.int .i64 0)]), none, []⟩] false) (.seq (.reg [⟨(some 5), (.mv (.t 1)), none, []⟩, ⟨(some 6), (.ixarr 3 3 (.t 2) (.t 5)), none, [0]⟩, ⟨(some 7), (.ixarr 3 1 (.t 6) (.c (.int .i64 0))), none, [1]⟩, ⟨(some 8), (.ld false 1 (.t 7)), none, [2]⟩, ⟨(some 9), (.mv (.t 1)), none, []⟩, ⟨(some 10), (.ixarr 3 3 (.t 2) (.t 9)), none, [4]⟩, ⟨(some 11), (.ixarr 3 1 (.t 10) (.c (.int .i64 1))), none, [5]⟩, ⟨(some 12), (.ld false 1 (.t 11)), none, [6]⟩, ⟨(some 13), (.mv (.t 1)), none, []⟩, ⟨(some 14), (.ixarr 3 3 (.t 2) (.t 13)), none, [8]⟩, ⟨(some 15), (.ixarr 3 1 (.t 14) (.c (.int .i64 2))), none, [9]⟩, ⟨(some 16), (.ld false 1 (.t 15)), none, [10]⟩, ⟨(some 17), (.build [(.int .i64 0), (.int .i64 0), (.int .i64 0)] [(0, (1, (.t 8))), (1, (1, (.t 12))), (2, (1, (.t 16)))]), none, [3, 7, 11]⟩, ⟨none, (.st 3 (.t 4) (.t 17)), none, [12, 0, 1, 2, 3, 4, 5, 6, 7, 8, 9, 10, 11, 12]⟩] true) .ret))
theorem mcOkt41 : (match Tryd.f41.body with | some c => compC Tryd.prog 18 c | none => none) = some mct41 := by kernel_rfl

theorem tc41_0 (M : Nat → Int) : FC Tryd.prog 41 [.agg (mL M), iv 0] [] (aV ⟨M 0, M 1, M 2⟩) [] false := by
  refine fc_run (nt := 18) Tryd.func41 rfl rfl mcOkt41 (Nat.le_of_ble_eq_true rfl) ?_
  delta mct41
  refine aw_seq ?_
  refine aw_reg ?_
  refine rs_box rfl rfl rfl rfl rfl rfl ?_
  refine rs_alloc rfl rfl rfl ?_
  refine rs_nil fun _ => ?_
  refine th_n ?_
  refine aw_seq ?_
  refine aw_draw hmix ?_
  refine rs_mv rfl rfl ?_
  refine rs_ixarr_p rfl rfl rfl (by decide) (by decide) ?_
  refine rs_ixarr_p rfl rfl rfl (by decide) (by decide) ?_
  refine rs_ld_p rfl rfl rfl rfl rfl ?_
  refine rs_mv rfl rfl ?_
  refine rs_ixarr_p rfl rfl rfl (by decide) (by decide) ?_
  refine rs_ixarr_p rfl rfl rfl (by decide) (by decide) ?_
  refine rs_ld_p rfl rfl rfl rfl rfl ?_
  refine rs_mv rfl rfl ?_
  refine rs_ixarr_p rfl rfl rfl (by decide) (by decide) ?_
  refine rs_ixarr_p rfl rfl rfl (by decide) (by decide) ?_
  refine rs_ld_p rfl rfl rfl rfl rfl ?_
  refine rs_build rfl rfl ?_
  refine rs_st rfl rfl rfl rfl rfl rfl rfl (Nat.le_of_ble_eq_true rfl) rfl rfl ?_
  refine rs_nil ⟨by kernel_rfl, fun _ => ?_⟩
  refine th_n ?_
  refine aw_ret ?_
  exact ret_pure rfl rfl rfl (.inr rfl)

theorem tc41_1 (M : Nat → Int) : FC Tryd.prog 41 [.agg (mL M), iv 1] [] (aV ⟨M 3, M 4, M 5⟩) [] false := by
  refine fc_run (nt := 18) Tryd.func41 rfl rfl mcOkt41 (Nat.le_of_ble_eq_true rfl) ?_
  delta mct41
  refine aw_seq ?_
  refine aw_reg ?_
  refine rs_box rfl rfl rfl rfl rfl rfl ?_
  refine rs_alloc rfl rfl rfl ?_
  refine rs_nil fun _ => ?_
  refine th_n ?_
  refine aw_seq ?_
  refine aw_draw hmix ?_
  refine rs_mv rfl rfl ?_
  refine rs_ixarr_p rfl rfl rfl (by decide) (by decide) ?_
  refine rs_ixarr_p rfl rfl rfl (by decide) (by decide) ?_
  refine rs_ld_p rfl rfl rfl rfl rfl ?_
  refine rs_mv rfl rfl ?_
  refine rs_ixarr_p rfl rfl rfl (by decide) (by decide) ?_
  refine rs_ixarr_p rfl rfl rfl (by decide) (by decide) ?_
  refine rs_ld_p rfl rfl rfl rfl rfl ?_
  refine rs_mv rfl rfl ?_
  refine rs_ixarr_p rfl rfl rfl (by decide) (by decide) ?_
  refine rs_ixarr_p rfl rfl rfl (by decide) (by decide) ?_
  refine rs_ld_p rfl rfl rfl rfl rfl ?_
  refine rs_build rfl rfl ?_
  refine rs_st rfl rfl rfl rfl rfl rfl rfl (Nat.le_of_ble_eq_true rfl) rfl rfl ?_
  refine rs_nil ⟨by kernel_rfl, fun _ => ?_⟩
  refine th_n ?_
  refine aw_ret ?_
  exact ret_pure rfl rfl rfl (.inr rfl)

theorem tc41_2 (M : Nat → Int) : FC Tryd.prog 41 [.agg (mL M), iv 2] [] (aV ⟨M 6, M 7, M 8⟩) [] false := by
  refine fc_run (nt := 18) Tryd.func41 rfl rfl mcOkt41 (Nat.le_of_ble_eq_true rfl) ?_
  delta mct41
  refine aw_seq ?_
  refine aw_reg ?_
  refine rs_box rfl rfl rfl rfl rfl rfl ?_
  refine rs_alloc rfl rfl rfl ?_
  refine rs_nil fun _ => ?_
  refine th_n ?_
  refine aw_seq ?_
  refine aw_draw hmix ?_
  refine rs_mv rfl rfl ?_
  refine rs_ixarr_p rfl rfl rfl (by decide) (by decide) ?_
  refine rs_ixarr_p rfl rfl rfl (by decide) (by decide) ?_
  refine rs_ld_p rfl rfl rfl rfl rfl ?_
  refine rs_mv rfl rfl ?_
  refine rs_ixarr_p rfl rfl rfl (by decide) (by decide) ?_
  refine rs_ixarr_p rfl rfl rfl (by decide) (by decide) ?_
  refine rs_ld_p rfl rfl rfl rfl rfl ?_
  refine rs_mv rfl rfl ?_
  refine rs_ixarr_p rfl rfl rfl (by decide) (by decide) ?_
  refine rs_ixarr_p rfl rfl rfl (by decide) (by decide) ?_
  refine rs_ld_p rfl rfl rfl rfl rfl ?_
  refine rs_build rfl rfl ?_
  refine rs_st rfl rfl rfl rfl rfl rfl rfl (Nat.le_of_ble_eq_true rfl) rfl rfl ?_
  refine rs_nil ⟨by kernel_rfl, fun _ => ?_⟩
  refine th_n ?_
  refine aw_ret ?_
  exact ret_pure rfl rfl rfl (.inr rfl)

def mct42 : MC := (.seq (.reg [⟨(some 2), (.box 26 3 (.t 0)), none, []⟩, ⟨(some 3), (.box 26 3 (.t 1)), none, []⟩, ⟨(some 4), (.alloc 26 3 [(.int .i64 0), (.int .i64 0), (.int .i64 0)]), none, []⟩] false) (.seq (.reg [⟨(some 5), (.fa 1 (.t 2)), none, []⟩, ⟨(some 6), (.ld false 1 (.t 5)), none, [0]⟩, ⟨(some 7), (.fa 2 (.t 3)), none, []⟩, ⟨(some 8), (.ld false 1 (.t 7)), none, [2]⟩, ⟨(some 9), (.bin .mul (.t 6) (.t 8)), none, [1, 3]⟩, ⟨(some 10), (.fa 2 (.t 2)), none, []⟩, ⟨(some 11), (.ld false 1 (.t 10)), none, [5]⟩, ⟨(some 12), (.fa 1 (.t 3)), none, []⟩, ⟨(some 13), (.ld false 1 (.t 12)), none, [7]⟩, ⟨(some 14), (.bin .mul (.t 11) (.t 13)), none, [6, 8]⟩, ⟨(some 15), (.bin .sub (.t 9) (.t 14)), none, [4, 9]⟩, ⟨(some 16), (.fa 2 (.t 2)), none, []⟩, ⟨(some 17), (.ld false 1 (.t 16)), none, [11]⟩, ⟨(some 18), (.fa 0 (.t 3)), none, []⟩, ⟨(some 19), (.ld false 1 (.t 18)), none, [13]⟩, ⟨(some 20), (.bin .mul (.t 17) (.t 19)), none, [12, 14]⟩, ⟨(some 21), (.fa 0 (.t 2)), none, []⟩, ⟨(some 22), (.ld false 1 (.t 21)), none, [16]⟩, ⟨(some 23), (.fa 2 (.t 3)), none, []⟩, ⟨(some 24), (.ld false 1 (.t 23)), none, [18]⟩, ⟨(some 25), (.bin .mul (.t 22) (.t 24)), none, [17, 19]⟩, ⟨(some 26), (.bin .sub (.t 20) (.t 25)), none, [15, 20]⟩, ⟨(some 27), (.fa 0 (.t 2)), none, []⟩, ⟨(some 28), (.ld false 1 (.t 27)), none, [22]⟩, ⟨(some 29), (.fa 1 (.t 3)), none, []⟩, ⟨(some 30), (.ld false 1 (.t 29)), none, [24]⟩, ⟨(some 31), (.bin .mul (.t 28) (.t 30)), none, [23, 25]⟩, ⟨(some 32), (.fa 1 (.t 2)), none, []⟩, ⟨(some 33), (.ld false 1 (.t 32)), none, [27]⟩, ⟨(some 34), (.fa 0 (.t 3)), none, []⟩, ⟨(some 35), (.ld false 1 (.t 34)), none, [29]⟩, ⟨(some 36), (.bin .mul (.t 33) (.t 35)), none, [28, 30]⟩, ⟨(some 37), (.bin .sub (.t 31) (.t 36)), none, [26, 31]⟩, ⟨(some 38), (.build [(.int .i64 0), (.int .i64 0), (.int .i64 0)] [(0, (1, (.t 15))), (1, (1, (.t 26))), (2, (1, (.t 37)))]), none, [10, 21, 32]⟩, ⟨none, (.st 3 (.t 4) (.t 38)), none, [33, 0, 1, 2, 3, 4, 5, 6, 7, 8, 9, 10, 11, 12, 13, 14, 15, 16, 17, 18, 19, 20, 21, 22, 23, 24, 25, 26, 27, 28, 29, 30, 31, 32, 33]⟩] false) .ret))
theorem mcOkt42 : (match Tryd.f42.body with | some c => compC Tryd.prog 39 c | none => none) = some mct42 := by kernel_rfl

theorem tc42 (a b : V3) : FC Tryd.prog 42 [aV a, aV b] [] (aV (crossW a b)) [] false := by
  refine fc_run (nt := 39) Tryd.func42 rfl rfl mcOkt42 (Nat.le_of_ble_eq_true rfl) ?_
  delta mct42
  refine aw_seq ?_
  refine aw_reg ?_
  refine rs_box rfl rfl rfl rfl rfl rfl ?_
  refine rs_box rfl rfl rfl rfl rfl rfl ?_
  refine rs_alloc rfl rfl rfl ?_
  refine rs_nil fun _ => ?_
  refine th_n ?_
  refine aw_seq ?_
  refine aw_reg ?_
  refine rs_fa_p rfl rfl ?_
  refine rs_ld_p rfl rfl rfl rfl rfl ?_
  refine rs_fa_p rfl rfl ?_
  refine rs_ld_p rfl rfl rfl rfl rfl ?_
  refine rs_mulw rfl rfl rfl rfl ?_
  refine rs_fa_p rfl rfl ?_
  refine rs_ld_p rfl rfl rfl rfl rfl ?_
  refine rs_fa_p rfl rfl ?_
  refine rs_ld_p rfl rfl rfl rfl rfl ?_
  refine rs_mulw rfl rfl rfl rfl ?_
  refine rs_subw rfl rfl rfl rfl ?_
  refine rs_fa_p rfl rfl ?_
  refine rs_ld_p rfl rfl rfl rfl rfl ?_
  refine rs_fa_p rfl rfl ?_
  refine rs_ld_p rfl rfl rfl rfl rfl ?_
  refine rs_mulw rfl rfl rfl rfl ?_
  refine rs_fa_p rfl rfl ?_
  refine rs_ld_p rfl rfl rfl rfl rfl ?_
  refine rs_fa_p rfl rfl ?_
  refine rs_ld_p rfl rfl rfl rfl rfl ?_
  refine rs_mulw rfl rfl rfl rfl ?_
  refine rs_subw rfl rfl rfl rfl ?_
  refine rs_fa_p rfl rfl ?_
  refine rs_ld_p rfl rfl rfl rfl rfl ?_
  refine rs_fa_p rfl rfl ?_
  refine rs_ld_p rfl rfl rfl rfl rfl ?_
  refine rs_mulw rfl rfl rfl rfl ?_
  refine rs_fa_p rfl rfl ?_
  refine rs_ld_p rfl rfl rfl rfl rfl ?_
  refine rs_fa_p rfl rfl ?_
  refine rs_ld_p rfl rfl rfl rfl rfl ?_
  refine rs_mulw rfl rfl rfl rfl ?_
  refine rs_subw rfl rfl rfl rfl ?_
  refine rs_build rfl rfl ?_
  refine rs_st rfl rfl rfl rfl rfl rfl rfl (Nat.le_of_ble_eq_true rfl) rfl rfl ?_
  refine rs_nil fun _ => ?_
  refine th_n ?_
  refine aw_ret ?_
  exact ret_pure rfl rfl rfl (.inr rfl)

def mct44 : MC := (.seq (.reg [⟨(some 2), (.mv (.c (.int .i64 0))), none, []⟩] false) (.seq (.reg [⟨(some 3), (.mv (.t 0)), none, []⟩, ⟨(some 4), (.mv (.t 0)), none, []⟩, ⟨(some 5), (.un .neg (.t 4)), none, [1]⟩, ⟨(some 6), (.mx (.t 3) (.t 5)), none, [0, 2]⟩, ⟨(some 2), (.mv (.t 6)), none, [3, 0, 1, 2, 3]⟩] false) .ret))
theorem mcOkt44 : (match Tryd.f44.body with | some c => compC Tryd.prog 7 c | none => none) = some mct44 := by kernel_rfl

theorem tc44 (n c : Int) (h : -1000 ≤ n ∧ n ≤ 1000) (hc : max n (-n) = c) : FC Tryd.prog 44 [iv n] [] (iv c) [] false := by
  refine fc_run (nt := 7) Tryd.func44 rfl rfl mcOkt44 (Nat.le_of_ble_eq_true rfl) ?_
  delta mct44
  refine aw_seq ?_
  refine aw_reg ?_
  refine rs_mv rfl rfl ?_
  refine rs_nil fun _ => ?_
  refine th_n ?_
  refine aw_seq ?_
  refine aw_reg ?_
  refine rs_mv rfl rfl ?_
  refine rs_mv rfl rfl ?_
  refine rs_neg rfl rfl (by omega) ?_
  refine rs_mx (c := c) rfl rfl rfl hc ?_
  refine rs_mv rfl rfl ?_
  refine rs_nil fun _ => ?_
  refine th_n ?_
  refine aw_ret ?_
  exact ret_pure rfl rfl rfl (.inr rfl)

def mct52 : MC := (.seq (.reg [⟨(some 4), (.mv (.c (.int .i64 0))), none, []⟩] false) (.seq (.block 0 (.loop (.seq (.seq (.reg [⟨(some 5), (.mv (.t 1)), none, []⟩, ⟨(some 6), (.bin .gtr (.t 5) (.c (.int .i64 0))), none, [0]⟩] false) (.cond (.t 6) .skip (.exit 0))) (.block 1 (.reg [⟨(some 7), (.mv (.t 1)), none, []⟩, ⟨(some 8), (.mv (.t 0)), none, []⟩, ⟨(some 9), (.mv (.t 1)), none, []⟩, ⟨(some 10), (.bin .rem (.t 8) (.t 9)), none, [1, 2]⟩, ⟨(some 0), (.mv (.t 7)), none, [0, 0, 1]⟩, ⟨(some 1), (.mv (.t 10)), none, [3, 4, 0, 1, 2, 3, 4]⟩] true))))) (.seq (.reg [⟨(some 11), (.mv (.t 0)), none, []⟩, ⟨(some 4), (.mv (.t 11)), none, [0, 0]⟩] false) .ret)))
theorem mcOkt52 : (match Tryd.f52.body with | some c => compC Tryd.prog 12 c | none => none) = some mct52 := by kernel_rfl

theorem tc52 (n : Int) (h : 0 ≤ n ∧ n ≤ 1) : FC Tryd.prog 52 [iv 1, iv n] [] (iv 1) [] false := by
  refine fc_run (nt := 12) Tryd.func52 rfl rfl mcOkt52 (Nat.le_of_ble_eq_true rfl) ?_
  delta mct52
  refine aw_seq ?_
  refine aw_reg ?_
  refine rs_mv rfl rfl ?_
  refine rs_nil fun _ => ?_
  refine th_n ?_
  refine aw_seq ?_
  refine aw_block ?_
  refine aw_fam (α := Int) (fun a => a.toNat) (fun a => [(0, iv 1), (1, iv a)]) (fun a => []) (fun a => 0 ≤ a ∧ a ≤ 1) n (h)
    (weak_to (.cons rfl (rc_same rfl (.inl rfl)) (.cons rfl (rc_same rfl (.inl rfl)) (.nil))) (.nil) (fun i h => by cases h)) ?_
  rintro a ⟨ha0, ha1⟩
  refine aw_seq ?_
  refine aw_seq ?_
  refine aw_reg ?_
  refine rs_mv rfl rfl ?_
  refine rs_gtr rfl rfl rfl ?_
  refine rs_nil fun _ => ?_
  refine th_n ?_
  refine aw_cond rfl (fun h6 => ?_) (fun h6 => ?_)
  · replace h6 := of_decide_eq_true h6
    refine aw_skip ?_
    refine th_n ?_
    refine aw_block ?_
    refine aw_draw hmix ?_
    refine rs_mv rfl rfl ?_
    refine rs_mv rfl rfl ?_
    refine rs_mv rfl rfl ?_
    refine rs_rem (c := 0) rfl rfl rfl (by omega) (by rw [show a = 1 by omega]; rfl) ?_
    refine rs_mv rfl rfl ?_
    refine rs_mv rfl rfl ?_
    refine rs_nil ⟨by kernel_rfl, fun _ => ?_⟩
    refine in_n ?_
    refine th_n ?_
    obtain rfl : a = 1 := by omega
    exact ⟨0, by omega, by omega, weak_to (.cons rfl (rc_same rfl (.inl rfl)) (.cons rfl (rc_same rfl (.inl rfl)) (.nil))) (.nil) (fun i h => by cases h)⟩
  · replace h6 := of_decide_eq_false h6
    refine aw_exit ?_
    refine th_e ?_
    refine th_e ?_
    refine in_hit ?_
    refine th_n ?_
    refine aw_seq ?_
    refine aw_reg ?_
    refine rs_mv rfl rfl ?_
    refine rs_mv rfl rfl ?_
    refine rs_nil fun _ => ?_
    refine th_n ?_
    refine aw_ret ?_
    exact ret_pure rfl rfl rfl (.inr rfl)

def mct39 : MC := (.seq (.reg [⟨(some 1), (.box 35 10 (.t 0)), none, []⟩, ⟨(some 2), (.mv (.c (.bool false))), none, []⟩] false) (.seq (.seq (.reg [⟨(some 3), (.mv (.c (.int .i64 0))), none, []⟩] false) (.block 0 (.loop (.seq (.seq (.reg [⟨(some 5), (.mv (.t 3)), none, []⟩, ⟨(some 6), (.bin .lss (.t 5) (.c (.int .i64 3))), none, [0]⟩] false) (.cond (.t 6) .skip (.exit 0))) (.seq (.block 1 (.seq (.reg [⟨(some 4), (.mv (.c (.int .i64 0))), none, []⟩] false) (.block 2 (.loop (.seq (.seq (.reg [⟨(some 9), (.mv (.t 4)), none, []⟩, ⟨(some 10), (.bin .lss (.t 9) (.c (.int .i64 3))), none, [0]⟩] false) (.cond (.t 10) .skip (.exit 2))) (.seq (.block 3 (.seq (.reg [⟨(some 13), (.mv (.t 3)), none, []⟩, ⟨(some 14), (.mv (.t 4)), none, []⟩, ⟨(some 15), (.fa 0 (.t 1)), none, []⟩, ⟨(some 16), (.ixarr 3 3 (.t 15) (.t 13)), none, [2, 0]⟩, ⟨(some 17), (.ixarr 3 1 (.t 16) (.t 14)), none, [3, 1]⟩, ⟨(some 18), (.ld false 1 (.t 17)), none, [4]⟩, ⟨(some 19), (.fa 9 (.t 1)), none, []⟩, ⟨(some 20), (.ld false 1 (.t 19)), none, [6]⟩, ⟨(some 21), (.un .neg (.t 20)), none, [7]⟩, ⟨(some 22), (.bin .lss (.t 18) (.t 21)), none, [5, 8]⟩, ⟨(some 23), (.mv (.t 22)), none, [9]⟩, ⟨(some 24), (.mv (.t 3)), (some (23, false)), [10]⟩, ⟨(some 25), (.mv (.t 4)), (some (23, false)), [10]⟩, ⟨(some 26), (.fa 0 (.t 1)), (some (23, false)), [10]⟩, ⟨(some 27), (.ixarr 3 3 (.t 26) (.t 24)), (some (23, false)), [13, 11, 10]⟩, ⟨(some 28), (.ixarr 3 1 (.t 27) (.t 25)), (some (23, false)), [14, 12, 10]⟩, ⟨(some 29), (.ld false 1 (.t 28)), (some (23, false)), [15, 10]⟩, ⟨(some 30), (.fa 9 (.t 1)), (some (23, false)), [10]⟩, ⟨(some 31), (.ld false 1 (.t 30)), (some (23, false)), [17, 10]⟩, ⟨(some 32), (.bin .gtr (.t 29) (.t 31)), (some (23, false)), [16, 18, 10]⟩, ⟨(some 33), (.pick (.t 23) (.c (.bool true)) (.t 32)), none, [10, 19]⟩] true) (.cond (.t 33) (.seq (.reg [⟨(some 2), (.mv (.c (.bool false))), none, []⟩] false) .ret) .skip))) (.reg [⟨(some 11), (.mv (.t 4)), none, []⟩, ⟨(some 12), (.bin .add (.t 11) (.c (.int .i64 1))), none, [0]⟩, ⟨(some 4), (.mv (.t 12)), none, [1, 0, 1]⟩] false))))))) (.reg [⟨(some 7), (.mv (.t 3)), none, []⟩, ⟨(some 8), (.bin .add (.t 7) (.c (.int .i64 1))), none, [0]⟩, ⟨(some 3), (.mv (.t 8)), none, [1, 0, 1]⟩] false)))))) (.seq (.reg [⟨(some 2), (.mv (.c (.bool true))), none, []⟩] false) .ret)))
theorem mcOkt39 : (match Tryd.f39.body with | some c => compC Tryd.prog 34 c | none => none) = some mct39 := by kernel_rfl

theorem tc39 (M : Nat → Int) (h : OkM M) : FC Tryd.prog 39 [.agg (mL M ++ [iv 1])] [] (.bool true) [] false := by
  refine fc_run (nt := 34) Tryd.func39 rfl rfl mcOkt39 (Nat.le_of_ble_eq_true rfl) ?_
  delta mct39
  refine aw_seq ?_
  refine aw_reg ?_
  refine rs_box rfl rfl rfl rfl rfl rfl ?_
  refine rs_mv rfl rfl ?_
  refine rs_nil fun _ => ?_
  refine th_n ?_
  refine aw_seq ?_
  refine aw_seq ?_
  refine aw_reg ?_
  refine rs_mv rfl rfl ?_
  refine rs_nil fun _ => ?_
  refine th_n ?_
  refine aw_block ?_
  refine aw_fam (α := Nat) (fun i => 3 - i) (fun i => [(1, .ptr 1 0 0), (3, iv (((i) : Nat) : Int))]) (fun i => [(1, .cells 35 10 [mL M ++ [iv 1]] true)]) (fun i => i ≤ 3) 0 (by omega)
    (weak_to (.cons rfl (rc_same rfl (.inl rfl)) (.cons rfl (rc_same rfl (.inl rfl)) (.nil))) (.keep (rfl) rfl (.nil)) (fun i h => by cases h)) ?_
  intro i hi
  refine aw_seq ?_
  refine aw_seq ?_
  refine aw_reg ?_
  refine rs_mv rfl rfl ?_
  refine rs_lss rfl rfl rfl ?_
  refine rs_nil fun _ => ?_
  refine th_n ?_
  refine aw_cond rfl (fun h6 => ?_) (fun h6 => ?_)
  · replace h6 := of_decide_eq_true h6
    refine aw_skip ?_
    refine th_n ?_
    refine aw_seq ?_
    refine aw_block ?_
    refine aw_seq ?_
    refine aw_reg ?_
    refine rs_mv rfl rfl ?_
    refine rs_nil fun _ => ?_
    refine th_n ?_
    refine aw_block ?_
    refine aw_fam (α := Nat) (fun j => 3 - j) (fun j => [(1, .ptr 1 0 0), (3, iv (((i) : Nat) : Int)), (4, iv (((j) : Nat) : Int))]) (fun j => [(1, .cells 35 10 [mL M ++ [iv 1]] true)]) (fun j => j ≤ 3) 0 (by omega)
      (weak_to (.cons rfl (rc_same rfl (.inl rfl)) (.cons rfl (rc_same rfl (.inl rfl)) (.cons rfl (rc_same rfl (.inl rfl)) (.nil)))) (.keep (rfl) rfl (.nil)) (fun i h => by cases h)) ?_
    intro j hj
    refine aw_seq ?_
    refine aw_seq ?_
    refine aw_reg ?_
    refine rs_mv rfl rfl ?_
    refine rs_lss rfl rfl rfl ?_
    refine rs_nil fun _ => ?_
    refine th_n ?_
    refine aw_cond rfl (fun h10 => ?_) (fun h10 => ?_)
    · replace h10 := of_decide_eq_true h10
      refine aw_skip ?_
      refine th_n ?_
      refine aw_seq ?_
      refine aw_block ?_
      refine aw_seq ?_
      refine aw_draw hmix ?_
      obtain ⟨rfl, rfl⟩ | ⟨rfl, rfl⟩ | ⟨rfl, rfl⟩ | ⟨rfl, rfl⟩ | ⟨rfl, rfl⟩ | ⟨rfl, rfl⟩ | ⟨rfl, rfl⟩ | ⟨rfl, rfl⟩ | ⟨rfl, rfl⟩ : (i = 0 ∧ j = 0) ∨ (i = 0 ∧ j = 1) ∨ (i = 0 ∧ j = 2) ∨ (i = 1 ∧ j = 0) ∨ (i = 1 ∧ j = 1) ∨ (i = 1 ∧ j = 2) ∨ (i = 2 ∧ j = 0) ∨ (i = 2 ∧ j = 1) ∨ (i = 2 ∧ j = 2) := by omega
      · skip
        refine rs_mv rfl rfl ?_
        refine rs_mv rfl rfl ?_
        refine rs_fa_p rfl rfl ?_
        refine rs_ixarr_p rfl rfl rfl (by decide) (by decide) ?_
        refine rs_ixarr_p rfl rfl rfl (by decide) (by decide) ?_
        have hq := h.w 0 (by decide)
        refine rs_ld_p rfl rfl rfl rfl rfl ?_
        refine rs_fa_p rfl rfl ?_
        refine rs_ld_p rfl rfl rfl rfl rfl ?_
        refine rs_neg rfl rfl (by omega) ?_
        refine rs_cmp_f rfl rfl rfl rfl (by omega) ?_
        refine rs_mv rfl rfl ?_
        refine rs_mv rfl rfl ?_
        refine rs_mv rfl rfl ?_
        refine rs_fa_p rfl rfl ?_
        refine rs_ixarr_p rfl rfl rfl (by decide) (by decide) ?_
        refine rs_ixarr_p rfl rfl rfl (by decide) (by decide) ?_
        refine rs_ld_p rfl rfl rfl rfl rfl ?_
        refine rs_fa_p rfl rfl ?_
        refine rs_ld_p rfl rfl rfl rfl rfl ?_
        refine rs_cmp_f rfl rfl rfl rfl (by omega) ?_
        refine rs_pick rfl rfl rfl ?_
        refine rs_nil ⟨by kernel_rfl, fun _ => ?_⟩
        refine th_n ?_
        refine aw_cond rfl (fun h => by cases h) (fun _ => ?_)
        refine aw_skip ?_
        refine in_n ?_
        refine th_n ?_
        refine aw_reg ?_
        refine rs_mv rfl rfl ?_
        refine rs_add rfl rfl rfl (by omega) ?_
        refine rs_mv rfl rfl ?_
        refine rs_nil fun _ => ?_
        refine th_n ?_
        exact ⟨0 + 1, by omega, by omega, weak_to (.cons rfl (rc_same rfl (.inl rfl)) (.cons rfl (rc_same rfl (.inl rfl)) (.cons rfl (rc_same rfl (.inl rfl)) (.nil)))) (.keep (rfl) rfl (.nil)) (fun i h => by cases h)⟩
      · skip
        refine rs_mv rfl rfl ?_
        refine rs_mv rfl rfl ?_
        refine rs_fa_p rfl rfl ?_
        refine rs_ixarr_p rfl rfl rfl (by decide) (by decide) ?_
        refine rs_ixarr_p rfl rfl rfl (by decide) (by decide) ?_
        have hq := h.w 1 (by decide)
        refine rs_ld_p rfl rfl rfl rfl rfl ?_
        refine rs_fa_p rfl rfl ?_
        refine rs_ld_p rfl rfl rfl rfl rfl ?_
        refine rs_neg rfl rfl (by omega) ?_
        refine rs_cmp_f rfl rfl rfl rfl (by omega) ?_
        refine rs_mv rfl rfl ?_
        refine rs_mv rfl rfl ?_
        refine rs_mv rfl rfl ?_
        refine rs_fa_p rfl rfl ?_
        refine rs_ixarr_p rfl rfl rfl (by decide) (by decide) ?_
        refine rs_ixarr_p rfl rfl rfl (by decide) (by decide) ?_
        refine rs_ld_p rfl rfl rfl rfl rfl ?_
        refine rs_fa_p rfl rfl ?_
        refine rs_ld_p rfl rfl rfl rfl rfl ?_
        refine rs_cmp_f rfl rfl rfl rfl (by omega) ?_
        refine rs_pick rfl rfl rfl ?_
        refine rs_nil ⟨by kernel_rfl, fun _ => ?_⟩
        refine th_n ?_
        refine aw_cond rfl (fun h => by cases h) (fun _ => ?_)
        refine aw_skip ?_
        refine in_n ?_
        refine th_n ?_
        refine aw_reg ?_
        refine rs_mv rfl rfl ?_
        refine rs_add rfl rfl rfl (by omega) ?_
        refine rs_mv rfl rfl ?_
        refine rs_nil fun _ => ?_
        refine th_n ?_
        exact ⟨1 + 1, by omega, by omega, weak_to (.cons rfl (rc_same rfl (.inl rfl)) (.cons rfl (rc_same rfl (.inl rfl)) (.cons rfl (rc_same rfl (.inl rfl)) (.nil)))) (.keep (rfl) rfl (.nil)) (fun i h => by cases h)⟩
      · skip
        refine rs_mv rfl rfl ?_
        refine rs_mv rfl rfl ?_
        refine rs_fa_p rfl rfl ?_
        refine rs_ixarr_p rfl rfl rfl (by decide) (by decide) ?_
        refine rs_ixarr_p rfl rfl rfl (by decide) (by decide) ?_
        have hq := h.w 2 (by decide)
        refine rs_ld_p rfl rfl rfl rfl rfl ?_
        refine rs_fa_p rfl rfl ?_
        refine rs_ld_p rfl rfl rfl rfl rfl ?_
        refine rs_neg rfl rfl (by omega) ?_
        refine rs_cmp_f rfl rfl rfl rfl (by omega) ?_
        refine rs_mv rfl rfl ?_
        refine rs_mv rfl rfl ?_
        refine rs_mv rfl rfl ?_
        refine rs_fa_p rfl rfl ?_
        refine rs_ixarr_p rfl rfl rfl (by decide) (by decide) ?_
        refine rs_ixarr_p rfl rfl rfl (by decide) (by decide) ?_
        refine rs_ld_p rfl rfl rfl rfl rfl ?_
        refine rs_fa_p rfl rfl ?_
        refine rs_ld_p rfl rfl rfl rfl rfl ?_
        refine rs_cmp_f rfl rfl rfl rfl (by omega) ?_
        refine rs_pick rfl rfl rfl ?_
        refine rs_nil ⟨by kernel_rfl, fun _ => ?_⟩
        refine th_n ?_
        refine aw_cond rfl (fun h => by cases h) (fun _ => ?_)
        refine aw_skip ?_
        refine in_n ?_
        refine th_n ?_
        refine aw_reg ?_
        refine rs_mv rfl rfl ?_
        refine rs_add rfl rfl rfl (by omega) ?_
        refine rs_mv rfl rfl ?_
        refine rs_nil fun _ => ?_
        refine th_n ?_
        exact ⟨2 + 1, by omega, by omega, weak_to (.cons rfl (rc_same rfl (.inl rfl)) (.cons rfl (rc_same rfl (.inl rfl)) (.cons rfl (rc_same rfl (.inl rfl)) (.nil)))) (.keep (rfl) rfl (.nil)) (fun i h => by cases h)⟩
      · skip
        refine rs_mv rfl rfl ?_
        refine rs_mv rfl rfl ?_
        refine rs_fa_p rfl rfl ?_
        refine rs_ixarr_p rfl rfl rfl (by decide) (by decide) ?_
        refine rs_ixarr_p rfl rfl rfl (by decide) (by decide) ?_
        have hq := h.w 3 (by decide)
        refine rs_ld_p rfl rfl rfl rfl rfl ?_
        refine rs_fa_p rfl rfl ?_
        refine rs_ld_p rfl rfl rfl rfl rfl ?_
        refine rs_neg rfl rfl (by omega) ?_
        refine rs_cmp_f rfl rfl rfl rfl (by omega) ?_
        refine rs_mv rfl rfl ?_
        refine rs_mv rfl rfl ?_
        refine rs_mv rfl rfl ?_
        refine rs_fa_p rfl rfl ?_
        refine rs_ixarr_p rfl rfl rfl (by decide) (by decide) ?_
        refine rs_ixarr_p rfl rfl rfl (by decide) (by decide) ?_
        refine rs_ld_p rfl rfl rfl rfl rfl ?_
        refine rs_fa_p rfl rfl ?_
        refine rs_ld_p rfl rfl rfl rfl rfl ?_
        refine rs_cmp_f rfl rfl rfl rfl (by omega) ?_
        refine rs_pick rfl rfl rfl ?_
        refine rs_nil ⟨by kernel_rfl, fun _ => ?_⟩
        refine th_n ?_
        refine aw_cond rfl (fun h => by cases h) (fun _ => ?_)
        refine aw_skip ?_
        refine in_n ?_
        refine th_n ?_
        refine aw_reg ?_
        refine rs_mv rfl rfl ?_
        refine rs_add rfl rfl rfl (by omega) ?_
        refine rs_mv rfl rfl ?_
        refine rs_nil fun _ => ?_
        refine th_n ?_
        exact ⟨0 + 1, by omega, by omega, weak_to (.cons rfl (rc_same rfl (.inl rfl)) (.cons rfl (rc_same rfl (.inl rfl)) (.cons rfl (rc_same rfl (.inl rfl)) (.nil)))) (.keep (rfl) rfl (.nil)) (fun i h => by cases h)⟩
      · skip
        refine rs_mv rfl rfl ?_
        refine rs_mv rfl rfl ?_
        refine rs_fa_p rfl rfl ?_
        refine rs_ixarr_p rfl rfl rfl (by decide) (by decide) ?_
        refine rs_ixarr_p rfl rfl rfl (by decide) (by decide) ?_
        have hq := h.w 4 (by decide)
        refine rs_ld_p rfl rfl rfl rfl rfl ?_
        refine rs_fa_p rfl rfl ?_
        refine rs_ld_p rfl rfl rfl rfl rfl ?_
        refine rs_neg rfl rfl (by omega) ?_
        refine rs_cmp_f rfl rfl rfl rfl (by omega) ?_
        refine rs_mv rfl rfl ?_
        refine rs_mv rfl rfl ?_
        refine rs_mv rfl rfl ?_
        refine rs_fa_p rfl rfl ?_
        refine rs_ixarr_p rfl rfl rfl (by decide) (by decide) ?_
        refine rs_ixarr_p rfl rfl rfl (by decide) (by decide) ?_
        refine rs_ld_p rfl rfl rfl rfl rfl ?_
        refine rs_fa_p rfl rfl ?_
        refine rs_ld_p rfl rfl rfl rfl rfl ?_
        refine rs_cmp_f rfl rfl rfl rfl (by omega) ?_
        refine rs_pick rfl rfl rfl ?_
        refine rs_nil ⟨by kernel_rfl, fun _ => ?_⟩
        refine th_n ?_
        refine aw_cond rfl (fun h => by cases h) (fun _ => ?_)
        refine aw_skip ?_
        refine in_n ?_
        refine th_n ?_
        refine aw_reg ?_
        refine rs_mv rfl rfl ?_
        refine rs_add rfl rfl rfl (by omega) ?_
        refine rs_mv rfl rfl ?_
        refine rs_nil fun _ => ?_
        refine th_n ?_
        exact ⟨1 + 1, by omega, by omega, weak_to (.cons rfl (rc_same rfl (.inl rfl)) (.cons rfl (rc_same rfl (.inl rfl)) (.cons rfl (rc_same rfl (.inl rfl)) (.nil)))) (.keep (rfl) rfl (.nil)) (fun i h => by cases h)⟩
      · skip
        refine rs_mv rfl rfl ?_
        refine rs_mv rfl rfl ?_
        refine rs_fa_p rfl rfl ?_
        refine rs_ixarr_p rfl rfl rfl (by decide) (by decide) ?_
        refine rs_ixarr_p rfl rfl rfl (by decide) (by decide) ?_
        have hq := h.w 5 (by decide)
        refine rs_ld_p rfl rfl rfl rfl rfl ?_
        refine rs_fa_p rfl rfl ?_
        refine rs_ld_p rfl rfl rfl rfl rfl ?_
        refine rs_neg rfl rfl (by omega) ?_
        refine rs_cmp_f rfl rfl rfl rfl (by omega) ?_
        refine rs_mv rfl rfl ?_
        refine rs_mv rfl rfl ?_
        refine rs_mv rfl rfl ?_
        refine rs_fa_p rfl rfl ?_
        refine rs_ixarr_p rfl rfl rfl (by decide) (by decide) ?_
        refine rs_ixarr_p rfl rfl rfl (by decide) (by decide) ?_
        refine rs_ld_p rfl rfl rfl rfl rfl ?_
        refine rs_fa_p rfl rfl ?_
        refine rs_ld_p rfl rfl rfl rfl rfl ?_
        refine rs_cmp_f rfl rfl rfl rfl (by omega) ?_
        refine rs_pick rfl rfl rfl ?_
        refine rs_nil ⟨by kernel_rfl, fun _ => ?_⟩
        refine th_n ?_
        refine aw_cond rfl (fun h => by cases h) (fun _ => ?_)
        refine aw_skip ?_
        refine in_n ?_
        refine th_n ?_
        refine aw_reg ?_
        refine rs_mv rfl rfl ?_
        refine rs_add rfl rfl rfl (by omega) ?_
        refine rs_mv rfl rfl ?_
        refine rs_nil fun _ => ?_
        refine th_n ?_
        exact ⟨2 + 1, by omega, by omega, weak_to (.cons rfl (rc_same rfl (.inl rfl)) (.cons rfl (rc_same rfl (.inl rfl)) (.cons rfl (rc_same rfl (.inl rfl)) (.nil)))) (.keep (rfl) rfl (.nil)) (fun i h => by cases h)⟩
      · skip
        refine rs_mv rfl rfl ?_
        refine rs_mv rfl rfl ?_
        refine rs_fa_p rfl rfl ?_
        refine rs_ixarr_p rfl rfl rfl (by decide) (by decide) ?_
        refine rs_ixarr_p rfl rfl rfl (by decide) (by decide) ?_
        have hq := h.w 6 (by decide)
        refine rs_ld_p rfl rfl rfl rfl rfl ?_
        refine rs_fa_p rfl rfl ?_
        refine rs_ld_p rfl rfl rfl rfl rfl ?_
        refine rs_neg rfl rfl (by omega) ?_
        refine rs_cmp_f rfl rfl rfl rfl (by omega) ?_
        refine rs_mv rfl rfl ?_
        refine rs_mv rfl rfl ?_
        refine rs_mv rfl rfl ?_
        refine rs_fa_p rfl rfl ?_
        refine rs_ixarr_p rfl rfl rfl (by decide) (by decide) ?_
        refine rs_ixarr_p rfl rfl rfl (by decide) (by decide) ?_
        refine rs_ld_p rfl rfl rfl rfl rfl ?_
        refine rs_fa_p rfl rfl ?_
        refine rs_ld_p rfl rfl rfl rfl rfl ?_
        refine rs_cmp_f rfl rfl rfl rfl (by omega) ?_
        refine rs_pick rfl rfl rfl ?_
        refine rs_nil ⟨by kernel_rfl, fun _ => ?_⟩
        refine th_n ?_
        refine aw_cond rfl (fun h => by cases h) (fun _ => ?_)
        refine aw_skip ?_
        refine in_n ?_
        refine th_n ?_
        refine aw_reg ?_
        refine rs_mv rfl rfl ?_
        refine rs_add rfl rfl rfl (by omega) ?_
        refine rs_mv rfl rfl ?_
        refine rs_nil fun _ => ?_
        refine th_n ?_
        exact ⟨0 + 1, by omega, by omega, weak_to (.cons rfl (rc_same rfl (.inl rfl)) (.cons rfl (rc_same rfl (.inl rfl)) (.cons rfl (rc_same rfl (.inl rfl)) (.nil)))) (.keep (rfl) rfl (.nil)) (fun i h => by cases h)⟩
      · skip
        refine rs_mv rfl rfl ?_
        refine rs_mv rfl rfl ?_
        refine rs_fa_p rfl rfl ?_
        refine rs_ixarr_p rfl rfl rfl (by decide) (by decide) ?_
        refine rs_ixarr_p rfl rfl rfl (by decide) (by decide) ?_
        have hq := h.w 7 (by decide)
        refine rs_ld_p rfl rfl rfl rfl rfl ?_
        refine rs_fa_p rfl rfl ?_
        refine rs_ld_p rfl rfl rfl rfl rfl ?_
        refine rs_neg rfl rfl (by omega) ?_
        refine rs_cmp_f rfl rfl rfl rfl (by omega) ?_
        refine rs_mv rfl rfl ?_
        refine rs_mv rfl rfl ?_
        refine rs_mv rfl rfl ?_
        refine rs_fa_p rfl rfl ?_
        refine rs_ixarr_p rfl rfl rfl (by decide) (by decide) ?_
        refine rs_ixarr_p rfl rfl rfl (by decide) (by decide) ?_
        refine rs_ld_p rfl rfl rfl rfl rfl ?_
        refine rs_fa_p rfl rfl ?_
        refine rs_ld_p rfl rfl rfl rfl rfl ?_
        refine rs_cmp_f rfl rfl rfl rfl (by omega) ?_
        refine rs_pick rfl rfl rfl ?_
        refine rs_nil ⟨by kernel_rfl, fun _ => ?_⟩
        refine th_n ?_
        refine aw_cond rfl (fun h => by cases h) (fun _ => ?_)
        refine aw_skip ?_
        refine in_n ?_
        refine th_n ?_
        refine aw_reg ?_
        refine rs_mv rfl rfl ?_
        refine rs_add rfl rfl rfl (by omega) ?_
        refine rs_mv rfl rfl ?_
        refine rs_nil fun _ => ?_
        refine th_n ?_
        exact ⟨1 + 1, by omega, by omega, weak_to (.cons rfl (rc_same rfl (.inl rfl)) (.cons rfl (rc_same rfl (.inl rfl)) (.cons rfl (rc_same rfl (.inl rfl)) (.nil)))) (.keep (rfl) rfl (.nil)) (fun i h => by cases h)⟩
      · skip
        refine rs_mv rfl rfl ?_
        refine rs_mv rfl rfl ?_
        refine rs_fa_p rfl rfl ?_
        refine rs_ixarr_p rfl rfl rfl (by decide) (by decide) ?_
        refine rs_ixarr_p rfl rfl rfl (by decide) (by decide) ?_
        have hq := h.w 8 (by decide)
        refine rs_ld_p rfl rfl rfl rfl rfl ?_
        refine rs_fa_p rfl rfl ?_
        refine rs_ld_p rfl rfl rfl rfl rfl ?_
        refine rs_neg rfl rfl (by omega) ?_
        refine rs_cmp_f rfl rfl rfl rfl (by omega) ?_
        refine rs_mv rfl rfl ?_
        refine rs_mv rfl rfl ?_
        refine rs_mv rfl rfl ?_
        refine rs_fa_p rfl rfl ?_
        refine rs_ixarr_p rfl rfl rfl (by decide) (by decide) ?_
        refine rs_ixarr_p rfl rfl rfl (by decide) (by decide) ?_
        refine rs_ld_p rfl rfl rfl rfl rfl ?_
        refine rs_fa_p rfl rfl ?_
        refine rs_ld_p rfl rfl rfl rfl rfl ?_
        refine rs_cmp_f rfl rfl rfl rfl (by omega) ?_
        refine rs_pick rfl rfl rfl ?_
        refine rs_nil ⟨by kernel_rfl, fun _ => ?_⟩
        refine th_n ?_
        refine aw_cond rfl (fun h => by cases h) (fun _ => ?_)
        refine aw_skip ?_
        refine in_n ?_
        refine th_n ?_
        refine aw_reg ?_
        refine rs_mv rfl rfl ?_
        refine rs_add rfl rfl rfl (by omega) ?_
        refine rs_mv rfl rfl ?_
        refine rs_nil fun _ => ?_
        refine th_n ?_
        exact ⟨2 + 1, by omega, by omega, weak_to (.cons rfl (rc_same rfl (.inl rfl)) (.cons rfl (rc_same rfl (.inl rfl)) (.cons rfl (rc_same rfl (.inl rfl)) (.nil)))) (.keep (rfl) rfl (.nil)) (fun i h => by cases h)⟩
    · replace h10 := of_decide_eq_false h10
      refine aw_exit ?_
      refine th_e ?_
      refine th_e ?_
      refine in_hit ?_
      refine in_n ?_
      refine th_n ?_
      refine aw_reg ?_
      refine rs_mv rfl rfl ?_
      refine rs_add rfl rfl rfl (by omega) ?_
      refine rs_mv rfl rfl ?_
      refine rs_nil fun _ => ?_
      refine th_n ?_
      exact ⟨i + 1, by omega, by omega, weak_to (.cons rfl (rc_same rfl (.inl rfl)) (.cons rfl (rc_same rfl (.inl rfl)) (.nil))) (.keep (rfl) rfl (.nil)) (fun i h => by cases h)⟩
  · replace h6 := of_decide_eq_false h6
    refine aw_exit ?_
    refine th_e ?_
    refine th_e ?_
    refine in_hit ?_
    refine th_n ?_
    refine aw_seq ?_
    refine aw_reg ?_
    refine rs_mv rfl rfl ?_
    refine rs_nil fun _ => ?_
    refine th_n ?_
    refine aw_ret ?_
    exact ret_pure rfl rfl rfl (.inr rfl)

def mct43 : MC := (.seq (.reg [⟨(some 1), (.box 35 10 (.t 0)), none, []⟩, ⟨(some 2), (.mv (.c (.int .i64 0))), none, []⟩] false) (.seq (.reg [⟨(some 6), (.fa 9 (.t 1)), none, []⟩, ⟨(some 7), (.ld false 1 (.t 6)), none, [0]⟩, ⟨(some 8), (.call 44 [(.t 7)]), none, [1]⟩, ⟨(some 3), (.mv (.t 8)), none, [2, 2, 0, 1, 2]⟩] false) (.seq (.seq (.reg [⟨(some 4), (.mv (.c (.int .i64 0))), none, []⟩] false) (.block 0 (.loop (.seq (.seq (.reg [⟨(some 9), (.mv (.t 4)), none, []⟩, ⟨(some 10), (.bin .lss (.t 9) (.c (.int .i64 3))), none, [0]⟩] false) (.cond (.t 10) .skip (.exit 0))) (.seq (.block 1 (.seq (.reg [⟨(some 5), (.mv (.c (.int .i64 0))), none, []⟩] false) (.block 2 (.loop (.seq (.seq (.reg [⟨(some 13), (.mv (.t 5)), none, []⟩, ⟨(some 14), (.bin .lss (.t 13) (.c (.int .i64 3))), none, [0]⟩] false) (.cond (.t 14) .skip (.exit 2))) (.seq (.block 3 (.reg [⟨(some 17), (.mv (.t 3)), none, []⟩, ⟨(some 18), (.mv (.t 4)), none, []⟩, ⟨(some 19), (.mv (.t 5)), none, []⟩, ⟨(some 20), (.fa 0 (.t 1)), none, []⟩, ⟨(some 21), (.ixarr 3 3 (.t 20) (.t 18)), none, [3, 1]⟩, ⟨(some 22), (.ixarr 3 1 (.t 21) (.t 19)), none, [4, 2]⟩, ⟨(some 23), (.ld false 1 (.t 22)), none, [5]⟩, ⟨(some 24), (.call 44 [(.t 23)]), none, [6]⟩, ⟨(some 25), (.call 52 [(.t 17), (.t 24)]), none, [0, 7, 7]⟩, ⟨(some 3), (.mv (.t 25)), none, [8, 8, 0, 1, 2, 3, 4, 5, 6, 7, 8]⟩] false)) (.reg [⟨(some 15), (.mv (.t 5)), none, []⟩, ⟨(some 16), (.bin .add (.t 15) (.c (.int .i64 1))), none, [0]⟩, ⟨(some 5), (.mv (.t 16)), none, [1, 0, 1]⟩] false))))))) (.reg [⟨(some 11), (.mv (.t 4)), none, []⟩, ⟨(some 12), (.bin .add (.t 11) (.c (.int .i64 1))), none, [0]⟩, ⟨(some 4), (.mv (.t 12)), none, [1, 0, 1]⟩] false)))))) (.seq (.reg [⟨(some 26), (.mv (.t 3)), none, []⟩, ⟨(some 2), (.mv (.t 26)), none, [0, 0]⟩] false) .ret))))
theorem mcOkt43 : (match Tryd.f43.body with | some c => compC Tryd.prog 27 c | none => none) = some mct43 := by kernel_rfl

theorem tc43 (M : Nat → Int) (h : OkM M) : FC Tryd.prog 43 [.agg (mL M ++ [iv 1])] [] (iv 1) [] false := by
  refine fc_run (nt := 27) Tryd.func43 rfl rfl mcOkt43 (Nat.le_of_ble_eq_true rfl) ?_
  delta mct43
  refine aw_seq ?_
  refine aw_reg ?_
  refine rs_box rfl rfl rfl rfl rfl rfl ?_
  refine rs_mv rfl rfl ?_
  refine rs_nil fun _ => ?_
  refine th_n ?_
  refine aw_seq ?_
  refine aw_reg ?_
  refine rs_fa_p rfl rfl ?_
  refine rs_ld_p rfl rfl rfl rfl rfl ?_
  refine rs_calln [] rfl rfl (tc44 1 1 (by decide) (by decide)) (.cons (hv_same rfl) (.nil)) rfl ?_
  refine rs_mv rfl rfl ?_
  refine rs_nil fun _ => ?_
  refine th_n ?_
  refine aw_seq ?_
  refine aw_seq ?_
  refine aw_reg ?_
  refine rs_mv rfl rfl ?_
  refine rs_nil fun _ => ?_
  refine th_n ?_
  refine aw_block ?_
  refine aw_fam (α := Nat) (fun i => 3 - i) (fun i => [(1, .ptr 1 0 0), (3, iv 1), (4, iv (((i) : Nat) : Int))]) (fun i => [(1, .cells 35 10 [mL M ++ [iv 1]] true)]) (fun i => i ≤ 3) 0 (by omega)
    (weak_to (.cons rfl (rc_same rfl (.inl rfl)) (.cons rfl (rc_same rfl (.inl rfl)) (.cons rfl (rc_same rfl (.inl rfl)) (.nil)))) (.keep (rfl) rfl (.nil)) (fun i h => by cases h)) ?_
  intro i hi
  refine aw_seq ?_
  refine aw_seq ?_
  refine aw_reg ?_
  refine rs_mv rfl rfl ?_
  refine rs_lss rfl rfl rfl ?_
  refine rs_nil fun _ => ?_
  refine th_n ?_
  refine aw_cond rfl (fun h10 => ?_) (fun h10 => ?_)
  · replace h10 := of_decide_eq_true h10
    refine aw_skip ?_
    refine th_n ?_
    refine aw_seq ?_
    refine aw_block ?_
    refine aw_seq ?_
    refine aw_reg ?_
    refine rs_mv rfl rfl ?_
    refine rs_nil fun _ => ?_
    refine th_n ?_
    refine aw_block ?_
    refine aw_fam (α := Nat) (fun j => 3 - j) (fun j => [(1, .ptr 1 0 0), (3, iv 1), (4, iv (((i) : Nat) : Int)), (5, iv (((j) : Nat) : Int))]) (fun j => [(1, .cells 35 10 [mL M ++ [iv 1]] true)]) (fun j => j ≤ 3) 0 (by omega)
      (weak_to (.cons rfl (rc_same rfl (.inl rfl)) (.cons rfl (rc_same rfl (.inl rfl)) (.cons rfl (rc_same rfl (.inl rfl)) (.cons rfl (rc_same rfl (.inl rfl)) (.nil))))) (.keep (rfl) rfl (.nil)) (fun i h => by cases h)) ?_
    intro j hj
    refine aw_seq ?_
    refine aw_seq ?_
    refine aw_reg ?_
    refine rs_mv rfl rfl ?_
    refine rs_lss rfl rfl rfl ?_
    refine rs_nil fun _ => ?_
    refine th_n ?_
    refine aw_cond rfl (fun h14 => ?_) (fun h14 => ?_)
    · replace h14 := of_decide_eq_true h14
      refine aw_skip ?_
      refine th_n ?_
      refine aw_seq ?_
      refine aw_block ?_
      refine aw_reg ?_
      obtain ⟨rfl, rfl⟩ | ⟨rfl, rfl⟩ | ⟨rfl, rfl⟩ | ⟨rfl, rfl⟩ | ⟨rfl, rfl⟩ | ⟨rfl, rfl⟩ | ⟨rfl, rfl⟩ | ⟨rfl, rfl⟩ | ⟨rfl, rfl⟩ : (i = 0 ∧ j = 0) ∨ (i = 0 ∧ j = 1) ∨ (i = 0 ∧ j = 2) ∨ (i = 1 ∧ j = 0) ∨ (i = 1 ∧ j = 1) ∨ (i = 1 ∧ j = 2) ∨ (i = 2 ∧ j = 0) ∨ (i = 2 ∧ j = 1) ∨ (i = 2 ∧ j = 2) := by omega
      · skip
        refine rs_mv rfl rfl ?_
        refine rs_mv rfl rfl ?_
        refine rs_mv rfl rfl ?_
        refine rs_fa_p rfl rfl ?_
        refine rs_ixarr_p rfl rfl rfl (by decide) (by decide) ?_
        refine rs_ixarr_p rfl rfl rfl (by decide) (by decide) ?_
        refine rs_ld_p rfl rfl rfl rfl rfl ?_
        have hq := h.w 0 (by decide)
        refine rs_calln [] rfl rfl (tc44 (M 0) _ (by omega) rfl) (.cons (hv_same rfl) (.nil)) rfl ?_
        refine rs_calln [] rfl rfl (tc52 (max (M 0) (-(M 0))) (by omega)) (.cons (hv_same rfl) (.cons (hv_same rfl) (.nil))) rfl ?_
        refine rs_mv rfl rfl ?_
        refine rs_nil fun _ => ?_
        refine in_n ?_
        refine th_n ?_
        refine aw_reg ?_
        refine rs_mv rfl rfl ?_
        refine rs_add rfl rfl rfl (by omega) ?_
        refine rs_mv rfl rfl ?_
        refine rs_nil fun _ => ?_
        refine th_n ?_
        exact ⟨0 + 1, by omega, by omega, weak_to (.cons rfl (rc_same rfl (.inl rfl)) (.cons rfl (rc_same rfl (.inl rfl)) (.cons rfl (rc_same rfl (.inl rfl)) (.cons rfl (rc_same rfl (.inl rfl)) (.nil))))) (.keep (rfl) rfl (.nil)) (fun i h => by cases h)⟩
      · skip
        refine rs_mv rfl rfl ?_
        refine rs_mv rfl rfl ?_
        refine rs_mv rfl rfl ?_
        refine rs_fa_p rfl rfl ?_
        refine rs_ixarr_p rfl rfl rfl (by decide) (by decide) ?_
        refine rs_ixarr_p rfl rfl rfl (by decide) (by decide) ?_
        refine rs_ld_p rfl rfl rfl rfl rfl ?_
        have hq := h.w 1 (by decide)
        refine rs_calln [] rfl rfl (tc44 (M 1) _ (by omega) rfl) (.cons (hv_same rfl) (.nil)) rfl ?_
        refine rs_calln [] rfl rfl (tc52 (max (M 1) (-(M 1))) (by omega)) (.cons (hv_same rfl) (.cons (hv_same rfl) (.nil))) rfl ?_
        refine rs_mv rfl rfl ?_
        refine rs_nil fun _ => ?_
        refine in_n ?_
        refine th_n ?_
        refine aw_reg ?_
        refine rs_mv rfl rfl ?_
        refine rs_add rfl rfl rfl (by omega) ?_
        refine rs_mv rfl rfl ?_
        refine rs_nil fun _ => ?_
        refine th_n ?_
        exact ⟨1 + 1, by omega, by omega, weak_to (.cons rfl (rc_same rfl (.inl rfl)) (.cons rfl (rc_same rfl (.inl rfl)) (.cons rfl (rc_same rfl (.inl rfl)) (.cons rfl (rc_same rfl (.inl rfl)) (.nil))))) (.keep (rfl) rfl (.nil)) (fun i h => by cases h)⟩
      · skip
        refine rs_mv rfl rfl ?_
        refine rs_mv rfl rfl ?_
        refine rs_mv rfl rfl ?_
        refine rs_fa_p rfl rfl ?_
        refine rs_ixarr_p rfl rfl rfl (by decide) (by decide) ?_
        refine rs_ixarr_p rfl rfl rfl (by decide) (by decide) ?_
        refine rs_ld_p rfl rfl rfl rfl rfl ?_
        have hq := h.w 2 (by decide)
        refine rs_calln [] rfl rfl (tc44 (M 2) _ (by omega) rfl) (.cons (hv_same rfl) (.nil)) rfl ?_
        refine rs_calln [] rfl rfl (tc52 (max (M 2) (-(M 2))) (by omega)) (.cons (hv_same rfl) (.cons (hv_same rfl) (.nil))) rfl ?_
        refine rs_mv rfl rfl ?_
        refine rs_nil fun _ => ?_
        refine in_n ?_
        refine th_n ?_
        refine aw_reg ?_
        refine rs_mv rfl rfl ?_
        refine rs_add rfl rfl rfl (by omega) ?_
        refine rs_mv rfl rfl ?_
        refine rs_nil fun _ => ?_
        refine th_n ?_
        exact ⟨2 + 1, by omega, by omega, weak_to (.cons rfl (rc_same rfl (.inl rfl)) (.cons rfl (rc_same rfl (.inl rfl)) (.cons rfl (rc_same rfl (.inl rfl)) (.cons rfl (rc_same rfl (.inl rfl)) (.nil))))) (.keep (rfl) rfl (.nil)) (fun i h => by cases h)⟩
      · skip
        refine rs_mv rfl rfl ?_
        refine rs_mv rfl rfl ?_
        refine rs_mv rfl rfl ?_
        refine rs_fa_p rfl rfl ?_
        refine rs_ixarr_p rfl rfl rfl (by decide) (by decide) ?_
        refine rs_ixarr_p rfl rfl rfl (by decide) (by decide) ?_
        refine rs_ld_p rfl rfl rfl rfl rfl ?_
        have hq := h.w 3 (by decide)
        refine rs_calln [] rfl rfl (tc44 (M 3) _ (by omega) rfl) (.cons (hv_same rfl) (.nil)) rfl ?_
        refine rs_calln [] rfl rfl (tc52 (max (M 3) (-(M 3))) (by omega)) (.cons (hv_same rfl) (.cons (hv_same rfl) (.nil))) rfl ?_
        refine rs_mv rfl rfl ?_
        refine rs_nil fun _ => ?_
        refine in_n ?_
        refine th_n ?_
        refine aw_reg ?_
        refine rs_mv rfl rfl ?_
        refine rs_add rfl rfl rfl (by omega) ?_
        refine rs_mv rfl rfl ?_
        refine rs_nil fun _ => ?_
        refine th_n ?_
        exact ⟨0 + 1, by omega, by omega, weak_to (.cons rfl (rc_same rfl (.inl rfl)) (.cons rfl (rc_same rfl (.inl rfl)) (.cons rfl (rc_same rfl (.inl rfl)) (.cons rfl (rc_same rfl (.inl rfl)) (.nil))))) (.keep (rfl) rfl (.nil)) (fun i h => by cases h)⟩
      · skip
        refine rs_mv rfl rfl ?_
        refine rs_mv rfl rfl ?_
        refine rs_mv rfl rfl ?_
        refine rs_fa_p rfl rfl ?_
        refine rs_ixarr_p rfl rfl rfl (by decide) (by decide) ?_
        refine rs_ixarr_p rfl rfl rfl (by decide) (by decide) ?_
        refine rs_ld_p rfl rfl rfl rfl rfl ?_
        have hq := h.w 4 (by decide)
        refine rs_calln [] rfl rfl (tc44 (M 4) _ (by omega) rfl) (.cons (hv_same rfl) (.nil)) rfl ?_
        refine rs_calln [] rfl rfl (tc52 (max (M 4) (-(M 4))) (by omega)) (.cons (hv_same rfl) (.cons (hv_same rfl) (.nil))) rfl ?_
        refine rs_mv rfl rfl ?_
        refine rs_nil fun _ => ?_
        refine in_n ?_
        refine th_n ?_
        refine aw_reg ?_
        refine rs_mv rfl rfl ?_
        refine rs_add rfl rfl rfl (by omega) ?_
        refine rs_mv rfl rfl ?_
        refine rs_nil fun _ => ?_
        refine th_n ?_
        exact ⟨1 + 1, by omega, by omega, weak_to (.cons rfl (rc_same rfl (.inl rfl)) (.cons rfl (rc_same rfl (.inl rfl)) (.cons rfl (rc_same rfl (.inl rfl)) (.cons rfl (rc_same rfl (.inl rfl)) (.nil))))) (.keep (rfl) rfl (.nil)) (fun i h => by cases h)⟩
      · skip
        refine rs_mv rfl rfl ?_
        refine rs_mv rfl rfl ?_
        refine rs_mv rfl rfl ?_
        refine rs_fa_p rfl rfl ?_
        refine rs_ixarr_p rfl rfl rfl (by decide) (by decide) ?_
        refine rs_ixarr_p rfl rfl rfl (by decide) (by decide) ?_
        refine rs_ld_p rfl rfl rfl rfl rfl ?_
        have hq := h.w 5 (by decide)
        refine rs_calln [] rfl rfl (tc44 (M 5) _ (by omega) rfl) (.cons (hv_same rfl) (.nil)) rfl ?_
        refine rs_calln [] rfl rfl (tc52 (max (M 5) (-(M 5))) (by omega)) (.cons (hv_same rfl) (.cons (hv_same rfl) (.nil))) rfl ?_
        refine rs_mv rfl rfl ?_
        refine rs_nil fun _ => ?_
        refine in_n ?_
        refine th_n ?_
        refine aw_reg ?_
        refine rs_mv rfl rfl ?_
        refine rs_add rfl rfl rfl (by omega) ?_
        refine rs_mv rfl rfl ?_
        refine rs_nil fun _ => ?_
        refine th_n ?_
        exact ⟨2 + 1, by omega, by omega, weak_to (.cons rfl (rc_same rfl (.inl rfl)) (.cons rfl (rc_same rfl (.inl rfl)) (.cons rfl (rc_same rfl (.inl rfl)) (.cons rfl (rc_same rfl (.inl rfl)) (.nil))))) (.keep (rfl) rfl (.nil)) (fun i h => by cases h)⟩
      · skip
        refine rs_mv rfl rfl ?_
        refine rs_mv rfl rfl ?_
        refine rs_mv rfl rfl ?_
        refine rs_fa_p rfl rfl ?_
        refine rs_ixarr_p rfl rfl rfl (by decide) (by decide) ?_
        refine rs_ixarr_p rfl rfl rfl (by decide) (by decide) ?_
        refine rs_ld_p rfl rfl rfl rfl rfl ?_
        have hq := h.w 6 (by decide)
        refine rs_calln [] rfl rfl (tc44 (M 6) _ (by omega) rfl) (.cons (hv_same rfl) (.nil)) rfl ?_
        refine rs_calln [] rfl rfl (tc52 (max (M 6) (-(M 6))) (by omega)) (.cons (hv_same rfl) (.cons (hv_same rfl) (.nil))) rfl ?_
        refine rs_mv rfl rfl ?_
        refine rs_nil fun _ => ?_
        refine in_n ?_
        refine th_n ?_
        refine aw_reg ?_
        refine rs_mv rfl rfl ?_
        refine rs_add rfl rfl rfl (by omega) ?_
        refine rs_mv rfl rfl ?_
        refine rs_nil fun _ => ?_
        refine th_n ?_
        exact ⟨0 + 1, by omega, by omega, weak_to (.cons rfl (rc_same rfl (.inl rfl)) (.cons rfl (rc_same rfl (.inl rfl)) (.cons rfl (rc_same rfl (.inl rfl)) (.cons rfl (rc_same rfl (.inl rfl)) (.nil))))) (.keep (rfl) rfl (.nil)) (fun i h => by cases h)⟩
      · skip
        refine rs_mv rfl rfl ?_
        refine rs_mv rfl rfl ?_
        refine rs_mv rfl rfl ?_
        refine rs_fa_p rfl rfl ?_
        refine rs_ixarr_p rfl rfl rfl (by decide) (by decide) ?_
        refine rs_ixarr_p rfl rfl rfl (by decide) (by decide) ?_
        refine rs_ld_p rfl rfl rfl rfl rfl ?_
        have hq := h.w 7 (by decide)
        refine rs_calln [] rfl rfl (tc44 (M 7) _ (by omega) rfl) (.cons (hv_same rfl) (.nil)) rfl ?_
        refine rs_calln [] rfl rfl (tc52 (max (M 7) (-(M 7))) (by omega)) (.cons (hv_same rfl) (.cons (hv_same rfl) (.nil))) rfl ?_
        refine rs_mv rfl rfl ?_
        refine rs_nil fun _ => ?_
        refine in_n ?_
        refine th_n ?_
        refine aw_reg ?_
        refine rs_mv rfl rfl ?_
        refine rs_add rfl rfl rfl (by omega) ?_
        refine rs_mv rfl rfl ?_
        refine rs_nil fun _ => ?_
        refine th_n ?_
        exact ⟨1 + 1, by omega, by omega, weak_to (.cons rfl (rc_same rfl (.inl rfl)) (.cons rfl (rc_same rfl (.inl rfl)) (.cons rfl (rc_same rfl (.inl rfl)) (.cons rfl (rc_same rfl (.inl rfl)) (.nil))))) (.keep (rfl) rfl (.nil)) (fun i h => by cases h)⟩
      · skip
        refine rs_mv rfl rfl ?_
        refine rs_mv rfl rfl ?_
        refine rs_mv rfl rfl ?_
        refine rs_fa_p rfl rfl ?_
        refine rs_ixarr_p rfl rfl rfl (by decide) (by decide) ?_
        refine rs_ixarr_p rfl rfl rfl (by decide) (by decide) ?_
        refine rs_ld_p rfl rfl rfl rfl rfl ?_
        have hq := h.w 8 (by decide)
        refine rs_calln [] rfl rfl (tc44 (M 8) _ (by omega) rfl) (.cons (hv_same rfl) (.nil)) rfl ?_
        refine rs_calln [] rfl rfl (tc52 (max (M 8) (-(M 8))) (by omega)) (.cons (hv_same rfl) (.cons (hv_same rfl) (.nil))) rfl ?_
        refine rs_mv rfl rfl ?_
        refine rs_nil fun _ => ?_
        refine in_n ?_
        refine th_n ?_
        refine aw_reg ?_
        refine rs_mv rfl rfl ?_
        refine rs_add rfl rfl rfl (by omega) ?_
        refine rs_mv rfl rfl ?_
        refine rs_nil fun _ => ?_
        refine th_n ?_
        exact ⟨2 + 1, by omega, by omega, weak_to (.cons rfl (rc_same rfl (.inl rfl)) (.cons rfl (rc_same rfl (.inl rfl)) (.cons rfl (rc_same rfl (.inl rfl)) (.cons rfl (rc_same rfl (.inl rfl)) (.nil))))) (.keep (rfl) rfl (.nil)) (fun i h => by cases h)⟩
    · replace h14 := of_decide_eq_false h14
      refine aw_exit ?_
      refine th_e ?_
      refine th_e ?_
      refine in_hit ?_
      refine in_n ?_
      refine th_n ?_
      refine aw_reg ?_
      refine rs_mv rfl rfl ?_
      refine rs_add rfl rfl rfl (by omega) ?_
      refine rs_mv rfl rfl ?_
      refine rs_nil fun _ => ?_
      refine th_n ?_
      exact ⟨i + 1, by omega, by omega, weak_to (.cons rfl (rc_same rfl (.inl rfl)) (.cons rfl (rc_same rfl (.inl rfl)) (.cons rfl (rc_same rfl (.inl rfl)) (.nil)))) (.keep (rfl) rfl (.nil)) (fun i h => by cases h)⟩
  · replace h10 := of_decide_eq_false h10
    refine aw_exit ?_
    refine th_e ?_
    refine th_e ?_
    refine in_hit ?_
    refine th_n ?_
    refine aw_seq ?_
    refine aw_reg ?_
    refine rs_mv rfl rfl ?_
    refine rs_mv rfl rfl ?_
    refine rs_nil fun _ => ?_
    refine th_n ?_
    refine aw_ret ?_
    exact ret_pure rfl rfl rfl (.inr rfl)

def mct31 : MC := (.seq (.reg [⟨(some 1), (.box 26 3 (.t 0)), none, []⟩, ⟨(some 2), (.mv (.c (.bool false))), none, []⟩] false) (.seq (.reg [⟨(some 3), (.fa 0 (.t 1)), none, []⟩, ⟨(some 4), (.ld false 1 (.t 3)), none, [0]⟩, ⟨(some 5), (.call 44 [(.t 4)]), none, [1]⟩, ⟨(some 6), (.bin .leq (.t 5) (.c (.int .i64 96))), none, [2]⟩, ⟨(some 7), (.mv (.t 6)), none, [3, 2]⟩, ⟨(some 8), (.fa 1 (.t 1)), (some (7, true)), [4]⟩, ⟨(some 9), (.ld false 1 (.t 8)), (some (7, true)), [5, 4]⟩, ⟨(some 10), (.call 44 [(.t 9)]), (some (7, true)), [6, 4, 4]⟩, ⟨(some 11), (.bin .leq (.t 10) (.c (.int .i64 96))), (some (7, true)), [7, 4]⟩, ⟨(some 12), (.pick (.t 7) (.t 11) (.c (.bool false))), none, [4, 8]⟩, ⟨(some 13), (.mv (.t 12)), none, [9, 7]⟩, ⟨(some 14), (.fa 2 (.t 1)), (some (13, true)), [10]⟩, ⟨(some 15), (.ld false 1 (.t 14)), (some (13, true)), [11, 10]⟩, ⟨(some 16), (.call 44 [(.t 15)]), (some (13, true)), [12, 10, 10]⟩, ⟨(some 17), (.bin .leq (.t 16) (.c (.int .i64 96))), (some (13, true)), [13, 10]⟩, ⟨(some 18), (.pick (.t 13) (.t 17) (.c (.bool false))), none, [10, 14]⟩, ⟨(some 19), (.mv (.t 18)), none, [15, 13]⟩, ⟨(some 20), (.fa 0 (.t 1)), (some (19, true)), [16]⟩, ⟨(some 21), (.ld false 1 (.t 20)), (some (19, true)), [17, 16]⟩, ⟨(some 22), (.bin .geq (.t 21) (.c (.int .i64 (-96)))), (some (19, true)), [18, 16]⟩, ⟨(some 23), (.pick (.t 19) (.t 22) (.c (.bool false))), none, [16, 19]⟩, ⟨(some 24), (.mv (.t 23)), none, [20, 16]⟩, ⟨(some 25), (.fa 1 (.t 1)), (some (24, true)), [21]⟩, ⟨(some 26), (.ld false 1 (.t 25)), (some (24, true)), [22, 21]⟩, ⟨(some 27), (.bin .geq (.t 26) (.c (.int .i64 (-96)))), (some (24, true)), [23, 21]⟩, ⟨(some 28), (.pick (.t 24) (.t 27) (.c (.bool false))), none, [21, 24]⟩, ⟨(some 29), (.mv (.t 28)), none, [25, 21]⟩, ⟨(some 30), (.fa 2 (.t 1)), (some (29, true)), [26]⟩, ⟨(some 31), (.ld false 1 (.t 30)), (some (29, true)), [27, 26]⟩, ⟨(some 32), (.bin .geq (.t 31) (.c (.int .i64 (-96)))), (some (29, true)), [28, 26]⟩, ⟨(some 33), (.pick (.t 29) (.t 32) (.c (.bool false))), none, [26, 29]⟩, ⟨(some 2), (.mv (.t 33)), none, [30, 26, 0, 1, 2, 3, 4, 5, 6, 7, 8, 9, 10, 11, 12, 13, 14, 15, 16, 17, 18, 19, 20, 21, 22, 23, 24, 25, 26, 27, 28, 29, 30]⟩] false) .ret))
theorem mcOkt31 : (match Tryd.f31.body with | some c => compC Tryd.prog 34 c | none => none) = some mct31 := by kernel_rfl

theorem tc31 (v : V3) (hv : Bd 96 v) : FC Tryd.prog 31 [aV v] [] (.bool true) [] false := by
  have hx := hv.x; have hy := hv.y; have hz := hv.z
  refine fc_run (nt := 34) Tryd.func31 rfl rfl mcOkt31 (Nat.le_of_ble_eq_true rfl) ?_
  delta mct31
  refine aw_seq ?_
  refine aw_reg ?_
  refine rs_box rfl rfl rfl rfl rfl rfl ?_
  refine rs_mv rfl rfl ?_
  refine rs_nil fun _ => ?_
  refine th_n ?_
  refine aw_seq ?_
  refine aw_reg ?_
  refine rs_fa_p rfl rfl ?_
  refine rs_ld_p rfl rfl rfl rfl rfl ?_
  refine rs_calln [] rfl rfl (tc44 v.x _ (by omega) rfl) (.cons (hv_same rfl) (.nil)) rfl ?_
  refine rs_cmp_t rfl rfl rfl rfl (by omega) ?_
  refine rs_mv rfl rfl ?_
  refine rs_fa_p rfl rfl ?_
  refine rs_ld_p rfl rfl rfl rfl rfl ?_
  refine rs_calln [] rfl rfl (tc44 v.y _ (by omega) rfl) (.cons (hv_same rfl) (.nil)) rfl ?_
  refine rs_cmp_t rfl rfl rfl rfl (by omega) ?_
  refine rs_pick rfl rfl rfl ?_
  refine rs_mv rfl rfl ?_
  refine rs_fa_p rfl rfl ?_
  refine rs_ld_p rfl rfl rfl rfl rfl ?_
  refine rs_calln [] rfl rfl (tc44 v.z _ (by omega) rfl) (.cons (hv_same rfl) (.nil)) rfl ?_
  refine rs_cmp_t rfl rfl rfl rfl (by omega) ?_
  refine rs_pick rfl rfl rfl ?_
  refine rs_mv rfl rfl ?_
  refine rs_fa_p rfl rfl ?_
  refine rs_ld_p rfl rfl rfl rfl rfl ?_
  refine rs_cmp_t rfl rfl rfl rfl (by omega) ?_
  refine rs_pick rfl rfl rfl ?_
  refine rs_mv rfl rfl ?_
  refine rs_fa_p rfl rfl ?_
  refine rs_ld_p rfl rfl rfl rfl rfl ?_
  refine rs_cmp_t rfl rfl rfl rfl (by omega) ?_
  refine rs_pick rfl rfl rfl ?_
  refine rs_mv rfl rfl ?_
  refine rs_fa_p rfl rfl ?_
  refine rs_ld_p rfl rfl rfl rfl rfl ?_
  refine rs_cmp_t rfl rfl rfl rfl (by omega) ?_
  refine rs_pick rfl rfl rfl ?_
  refine rs_mv rfl rfl ?_
  refine rs_nil fun _ => ?_
  refine th_n ?_
  refine aw_ret ?_
  exact ret_pure rfl rfl rfl (.inr rfl)

def mct30 : MC := (.seq (.reg [⟨(some 1), (.box 35 10 (.t 0)), none, []⟩, ⟨(some 2), (.mv (.c (.bool false))), none, []⟩] false) (.seq (.seq (.reg [⟨(some 7), (.fa 9 (.t 1)), none, []⟩, ⟨(some 8), (.ld false 1 (.t 7)), none, [0]⟩, ⟨(some 9), (.bin .lss (.t 8) (.c (.int .i64 1))), none, [1]⟩, ⟨(some 10), (.mv (.t 9)), none, [2]⟩, ⟨(some 11), (.fa 9 (.t 1)), (some (10, false)), [3]⟩, ⟨(some 12), (.ld false 1 (.t 11)), (some (10, false)), [4, 3]⟩, ⟨(some 13), (.bin .gtr (.t 12) (.c (.int .i64 25))), (some (10, false)), [5, 3]⟩, ⟨(some 14), (.pick (.t 10) (.c (.bool true)) (.t 13)), none, [3, 6]⟩, ⟨(some 15), (.mv (.t 14)), none, [7, 3]⟩, ⟨(some 16), (.ld true 10 (.t 1)), (some (15, false)), [8]⟩, ⟨(some 17), (.call 39 [(.t 16)]), (some (15, false)), [9, 8, 8]⟩, ⟨(some 18), (.un .not (.t 17)), (some (15, false)), [10, 8]⟩, ⟨(some 19), (.pick (.t 15) (.c (.bool true)) (.t 18)), none, [8, 11]⟩] false) (.cond (.t 19) (.seq (.reg [⟨(some 2), (.mv (.c (.bool false))), none, []⟩] false) .ret) .skip)) (.seq (.seq (.reg [⟨(some 3), (.mv (.c (.int .i64 0))), none, []⟩] false) (.block 0 (.loop (.seq (.seq (.reg [⟨(some 20), (.mv (.t 3)), none, []⟩, ⟨(some 21), (.bin .lss (.t 20) (.c (.int .i64 3))), none, [0]⟩] false) (.cond (.t 21) .skip (.exit 0))) (.seq (.block 1 (.seq (.reg [⟨(some 4), (.mv (.c (.int .i64 0))), none, []⟩] false) (.block 2 (.loop (.seq (.seq (.reg [⟨(some 24), (.mv (.t 4)), none, []⟩, ⟨(some 25), (.bin .lss (.t 24) (.c (.int .i64 3))), none, [0]⟩] false) (.cond (.t 25) .skip (.exit 2))) (.seq (.block 3 (.seq (.reg [⟨(some 5), (.mv (.c (.int .i64 0))), none, []⟩] false) (.seq (.seq (.reg [⟨(some 28), (.mv (.t 3)), none, []⟩, ⟨(some 29), (.mv (.t 4)), none, []⟩, ⟨(some 30), (.bin .eql (.t 28) (.t 29)), none, [0, 1]⟩] false) (.cond (.t 30) (.reg [⟨(some 31), (.fa 9 (.t 1)), none, []⟩, ⟨(some 32), (.ld false 1 (.t 31)), none, [0]⟩, ⟨(some 33), (.fa 9 (.t 1)), none, []⟩, ⟨(some 34), (.ld false 1 (.t 33)), none, [2]⟩, ⟨(some 35), (.bin .mul (.t 32) (.t 34)), none, [1, 3]⟩, ⟨(some 5), (.mv (.t 35)), none, [4, 0, 1, 2, 3, 4]⟩] false) .skip)) (.seq (.reg [⟨(some 36), (.fa 0 (.t 1)), none, []⟩, ⟨(some 37), (.ld true 9 (.t 36)), none, [0]⟩, ⟨(some 38), (.mv (.t 3)), none, []⟩, ⟨(some 39), (.call 41 [(.t 37), (.t 38)]), none, [1, 2]⟩, ⟨(some 40), (.fa 0 (.t 1)), none, []⟩, ⟨(some 41), (.ld true 9 (.t 40)), none, [4]⟩, ⟨(some 42), (.mv (.t 4)), none, []⟩, ⟨(some 43), (.call 41 [(.t 41), (.t 42)]), none, [5, 6, 3]⟩, ⟨(some 44), (.call 40 [(.t 39), (.t 43)]), none, [3, 7, 7]⟩, ⟨(some 45), (.mv (.t 5)), none, []⟩, ⟨(some 46), (.bin .neq (.t 44) (.t 45)), none, [8, 9]⟩] true) (.cond (.t 46) (.seq (.reg [⟨(some 2), (.mv (.c (.bool false))), none, []⟩] false) .ret) .skip))))) (.reg [⟨(some 26), (.mv (.t 4)), none, []⟩, ⟨(some 27), (.bin .add (.t 26) (.c (.int .i64 1))), none, [0]⟩, ⟨(some 4), (.mv (.t 27)), none, [1, 0, 1]⟩] false))))))) (.reg [⟨(some 22), (.mv (.t 3)), none, []⟩, ⟨(some 23), (.bin .add (.t 22) (.c (.int .i64 1))), none, [0]⟩, ⟨(some 3), (.mv (.t 23)), none, [1, 0, 1]⟩] false)))))) (.seq (.reg [⟨(some 47), (.fa 0 (.t 1)), none, []⟩, ⟨(some 48), (.ld true 9 (.t 47)), none, [0]⟩, ⟨(some 49), (.call 41 [(.t 48), (.c (.int .i64 0))]), none, [1]⟩, ⟨(some 50), (.fa 0 (.t 1)), none, []⟩, ⟨(some 51), (.ld true 9 (.t 50)), none, [3]⟩, ⟨(some 52), (.call 41 [(.t 51), (.c (.int .i64 1))]), none, [4, 2]⟩, ⟨(some 53), (.call 42 [(.t 49), (.t 52)]), none, [2, 5, 5]⟩, ⟨(some 54), (.fa 0 (.t 1)), none, []⟩, ⟨(some 55), (.ld true 9 (.t 54)), none, [7]⟩, ⟨(some 56), (.call 41 [(.t 55), (.c (.int .i64 2))]), none, [8, 6]⟩, ⟨(some 57), (.call 40 [(.t 53), (.t 56)]), none, [6, 9, 9]⟩, ⟨(some 6), (.mv (.t 57)), none, [10, 10, 0, 1, 2, 3, 4, 5, 6, 7, 8, 9, 10]⟩] true) (.seq (.reg [⟨(some 58), (.mv (.t 6)), none, []⟩, ⟨(some 59), (.fa 9 (.t 1)), none, []⟩, ⟨(some 60), (.ld false 1 (.t 59)), none, [1]⟩, ⟨(some 61), (.fa 9 (.t 1)), none, []⟩, ⟨(some 62), (.ld false 1 (.t 61)), none, [3]⟩, ⟨(some 63), (.bin .mul (.t 60) (.t 62)), none, [2, 4]⟩, ⟨(some 64), (.fa 9 (.t 1)), none, []⟩, ⟨(some 65), (.ld false 1 (.t 64)), none, [6]⟩, ⟨(some 66), (.bin .mul (.t 63) (.t 65)), none, [5, 7]⟩, ⟨(some 67), (.bin .eql (.t 58) (.t 66)), none, [0, 8]⟩, ⟨(some 68), (.mv (.t 67)), none, [9]⟩, ⟨(some 69), (.ld true 10 (.t 1)), (some (68, true)), [10]⟩, ⟨(some 70), (.call 43 [(.t 69)]), (some (68, true)), [11, 10, 10]⟩, ⟨(some 71), (.bin .eql (.t 70) (.c (.int .i64 1))), (some (68, true)), [12, 10]⟩, ⟨(some 72), (.pick (.t 68) (.t 71) (.c (.bool false))), none, [10, 13]⟩, ⟨(some 2), (.mv (.t 72)), none, [14, 12, 0, 1, 2, 3, 4, 5, 6, 7, 8, 9, 10, 11, 12, 13, 14]⟩] false) .ret)))))
theorem mcOkt30 : (match Tryd.f30.body with | some c => compC Tryd.prog 73 c | none => none) = some mct30 := by kernel_rfl

set_option maxHeartbeats 1000000 in
theorem tc30 (M : Nat → Int) (h : OkM M) : FC Tryd.prog 30 [.agg (mL M ++ [iv 1])] [] (.bool true) [] false := by
  refine fc_run (nt := 73) Tryd.func30 rfl rfl mcOkt30 (Nat.le_of_ble_eq_true rfl) ?_
  delta mct30
  refine aw_seq ?_
  refine aw_reg ?_
  refine rs_box rfl rfl rfl rfl rfl rfl ?_
  refine rs_mv rfl rfl ?_
  refine rs_nil fun _ => ?_
  refine th_n ?_
  refine aw_seq ?_
  refine aw_seq ?_
  refine aw_reg ?_
  refine rs_fa_p rfl rfl ?_
  refine rs_ld_p rfl rfl rfl rfl rfl ?_
  refine rs_cmp_f rfl rfl rfl rfl (by omega) ?_
  refine rs_mv rfl rfl ?_
  refine rs_fa_p rfl rfl ?_
  refine rs_ld_p rfl rfl rfl rfl rfl ?_
  refine rs_cmp_f rfl rfl rfl rfl (by omega) ?_
  refine rs_pick rfl rfl rfl ?_
  refine rs_mv rfl rfl ?_
  refine rs_ld_pa rfl rfl rfl rfl (Nat.le_of_ble_eq_true rfl) rfl ?_
  refine rs_calln [] rfl rfl (tc39 M h) (.cons (hv_same rfl) (.nil)) rfl ?_
  refine rs_not rfl rfl ?_
  refine rs_pick rfl rfl rfl ?_
  refine rs_nil fun _ => ?_
  refine th_n ?_
  refine aw_cond rfl (fun h => by cases h) (fun _ => ?_)
  refine aw_skip ?_
  refine th_n ?_
  refine aw_seq ?_
  refine aw_seq ?_
  refine aw_reg ?_
  refine rs_mv rfl rfl ?_
  refine rs_nil fun _ => ?_
  refine th_n ?_
  refine aw_block ?_
  refine aw_fam (α := Nat) (fun i => 3 - i) (fun i => [(1, .ptr 1 0 0), (3, iv (((i) : Nat) : Int))]) (fun i => [(1, .cells 35 10 [mL M ++ [iv 1]] true)]) (fun i => i ≤ 3) 0 (by omega)
    (weak_to (.cons rfl (rc_same rfl (.inl rfl)) (.cons rfl (rc_same rfl (.inl rfl)) (.nil))) (.keep (rfl) rfl (.nil)) (fun i h => by cases h)) ?_
  intro i hi
  refine aw_seq ?_
  refine aw_seq ?_
  refine aw_reg ?_
  refine rs_mv rfl rfl ?_
  refine rs_lss rfl rfl rfl ?_
  refine rs_nil fun _ => ?_
  refine th_n ?_
  refine aw_cond rfl (fun h21 => ?_) (fun h21 => ?_)
  · replace h21 := of_decide_eq_true h21
    refine aw_skip ?_
    refine th_n ?_
    refine aw_seq ?_
    refine aw_block ?_
    refine aw_seq ?_
    refine aw_reg ?_
    refine rs_mv rfl rfl ?_
    refine rs_nil fun _ => ?_
    refine th_n ?_
    refine aw_block ?_
    refine aw_fam (α := Nat) (fun j => 3 - j) (fun j => [(1, .ptr 1 0 0), (3, iv (((i) : Nat) : Int)), (4, iv (((j) : Nat) : Int))]) (fun j => [(1, .cells 35 10 [mL M ++ [iv 1]] true)]) (fun j => j ≤ 3) 0 (by omega)
      (weak_to (.cons rfl (rc_same rfl (.inl rfl)) (.cons rfl (rc_same rfl (.inl rfl)) (.cons rfl (rc_same rfl (.inl rfl)) (.nil)))) (.keep (rfl) rfl (.nil)) (fun i h => by cases h)) ?_
    intro j hj
    refine aw_seq ?_
    refine aw_seq ?_
    refine aw_reg ?_
    refine rs_mv rfl rfl ?_
    refine rs_lss rfl rfl rfl ?_
    refine rs_nil fun _ => ?_
    refine th_n ?_
    refine aw_cond rfl (fun h25 => ?_) (fun h25 => ?_)
    · replace h25 := of_decide_eq_true h25
      refine aw_skip ?_
      refine th_n ?_
      refine aw_seq ?_
      refine aw_block ?_
      refine aw_seq ?_
      refine aw_reg ?_
      refine rs_mv rfl rfl ?_
      refine rs_nil fun _ => ?_
      refine th_n ?_
      refine aw_seq ?_
      refine aw_seq ?_
      refine aw_reg ?_
      obtain ⟨rfl, rfl⟩ | ⟨rfl, rfl⟩ | ⟨rfl, rfl⟩ | ⟨rfl, rfl⟩ | ⟨rfl, rfl⟩ | ⟨rfl, rfl⟩ | ⟨rfl, rfl⟩ | ⟨rfl, rfl⟩ | ⟨rfl, rfl⟩ : (i = 0 ∧ j = 0) ∨ (i = 0 ∧ j = 1) ∨ (i = 0 ∧ j = 2) ∨ (i = 1 ∧ j = 0) ∨ (i = 1 ∧ j = 1) ∨ (i = 1 ∧ j = 2) ∨ (i = 2 ∧ j = 0) ∨ (i = 2 ∧ j = 1) ∨ (i = 2 ∧ j = 2) := by omega
      · skip
        refine rs_mv rfl rfl ?_
        refine rs_mv rfl rfl ?_
        refine rs_cmp_t rfl rfl rfl rfl rfl ?_
        refine rs_nil fun _ => ?_
        refine th_n ?_
        refine aw_cond rfl (fun _ => ?_) (fun h => by cases h)
        refine aw_reg ?_
        refine rs_fa_p rfl rfl ?_
        refine rs_ld_p rfl rfl rfl rfl rfl ?_
        refine rs_fa_p rfl rfl ?_
        refine rs_ld_p rfl rfl rfl rfl rfl ?_
        refine rs_mulw (c := 1) rfl rfl rfl rfl ?_
        refine rs_mv rfl rfl ?_
        refine rs_nil fun _ => ?_
        refine th_n ?_
        refine aw_seq ?_
        refine aw_draw hmix ?_
        refine rs_fa_p rfl rfl ?_
        refine rs_ld_pa rfl rfl rfl rfl (Nat.le_of_ble_eq_true rfl) rfl ?_
        refine rs_mv rfl rfl ?_
        refine rs_calln [] rfl rfl (tc41_0 M) (.cons (hv_same rfl) (.cons (hv_same rfl) (.nil))) rfl ?_
        refine rs_fa_p rfl rfl ?_
        refine rs_ld_pa rfl rfl rfl rfl (Nat.le_of_ble_eq_true rfl) rfl ?_
        refine rs_mv rfl rfl ?_
        refine rs_calln [] rfl rfl (tc41_0 M) (.cons (hv_same rfl) (.cons (hv_same rfl) (.nil))) rfl ?_
        refine rs_calln [] rfl rfl (fc52 ⟨M 0, M 1, M 2⟩ ⟨M 0, M 1, M 2⟩) (.cons (hv_same rfl) (.cons (hv_same rfl) (.nil))) rfl ?_
        refine rs_mv rfl rfl ?_
        refine rs_cmp_f rfl rfl rfl rfl (fun hh => hh h.r00) ?_
        refine rs_nil ⟨by kernel_rfl, fun _ => ?_⟩
        refine th_n ?_
        refine aw_cond rfl (fun h => by cases h) (fun _ => ?_)
        refine aw_skip ?_
        refine in_n ?_
        refine th_n ?_
        refine aw_reg ?_
        refine rs_mv rfl rfl ?_
        refine rs_add rfl rfl rfl (by omega) ?_
        refine rs_mv rfl rfl ?_
        refine rs_nil fun _ => ?_
        refine th_n ?_
        exact ⟨0 + 1, by omega, by omega, weak_to (.cons rfl (rc_same rfl (.inl rfl)) (.cons rfl (rc_same rfl (.inl rfl)) (.cons rfl (rc_same rfl (.inl rfl)) (.nil)))) (.keep (rfl) rfl (.nil)) (fun i h => by cases h)⟩
      · skip
        refine rs_mv rfl rfl ?_
        refine rs_mv rfl rfl ?_
        refine rs_cmp_f rfl rfl rfl rfl (by decide) ?_
        refine rs_nil fun _ => ?_
        refine th_n ?_
        refine aw_cond rfl (fun h => by cases h) (fun _ => ?_)
        refine aw_skip ?_
        refine th_n ?_
        refine aw_seq ?_
        refine aw_draw hmix ?_
        refine rs_fa_p rfl rfl ?_
        refine rs_ld_pa rfl rfl rfl rfl (Nat.le_of_ble_eq_true rfl) rfl ?_
        refine rs_mv rfl rfl ?_
        refine rs_calln [] rfl rfl (tc41_0 M) (.cons (hv_same rfl) (.cons (hv_same rfl) (.nil))) rfl ?_
        refine rs_fa_p rfl rfl ?_
        refine rs_ld_pa rfl rfl rfl rfl (Nat.le_of_ble_eq_true rfl) rfl ?_
        refine rs_mv rfl rfl ?_
        refine rs_calln [] rfl rfl (tc41_1 M) (.cons (hv_same rfl) (.cons (hv_same rfl) (.nil))) rfl ?_
        refine rs_calln [] rfl rfl (fc52 ⟨M 0, M 1, M 2⟩ ⟨M 3, M 4, M 5⟩) (.cons (hv_same rfl) (.cons (hv_same rfl) (.nil))) rfl ?_
        refine rs_mv rfl rfl ?_
        refine rs_cmp_f rfl rfl rfl rfl (fun hh => hh h.r01) ?_
        refine rs_nil ⟨by kernel_rfl, fun _ => ?_⟩
        refine th_n ?_
        refine aw_cond rfl (fun h => by cases h) (fun _ => ?_)
        refine aw_skip ?_
        refine in_n ?_
        refine th_n ?_
        refine aw_reg ?_
        refine rs_mv rfl rfl ?_
        refine rs_add rfl rfl rfl (by omega) ?_
        refine rs_mv rfl rfl ?_
        refine rs_nil fun _ => ?_
        refine th_n ?_
        exact ⟨1 + 1, by omega, by omega, weak_to (.cons rfl (rc_same rfl (.inl rfl)) (.cons rfl (rc_same rfl (.inl rfl)) (.cons rfl (rc_same rfl (.inl rfl)) (.nil)))) (.keep (rfl) rfl (.nil)) (fun i h => by cases h)⟩
      · skip
        refine rs_mv rfl rfl ?_
        refine rs_mv rfl rfl ?_
        refine rs_cmp_f rfl rfl rfl rfl (by decide) ?_
        refine rs_nil fun _ => ?_
        refine th_n ?_
        refine aw_cond rfl (fun h => by cases h) (fun _ => ?_)
        refine aw_skip ?_
        refine th_n ?_
        refine aw_seq ?_
        refine aw_draw hmix ?_
        refine rs_fa_p rfl rfl ?_
        refine rs_ld_pa rfl rfl rfl rfl (Nat.le_of_ble_eq_true rfl) rfl ?_
        refine rs_mv rfl rfl ?_
        refine rs_calln [] rfl rfl (tc41_0 M) (.cons (hv_same rfl) (.cons (hv_same rfl) (.nil))) rfl ?_
        refine rs_fa_p rfl rfl ?_
        refine rs_ld_pa rfl rfl rfl rfl (Nat.le_of_ble_eq_true rfl) rfl ?_
        refine rs_mv rfl rfl ?_
        refine rs_calln [] rfl rfl (tc41_2 M) (.cons (hv_same rfl) (.cons (hv_same rfl) (.nil))) rfl ?_
        refine rs_calln [] rfl rfl (fc52 ⟨M 0, M 1, M 2⟩ ⟨M 6, M 7, M 8⟩) (.cons (hv_same rfl) (.cons (hv_same rfl) (.nil))) rfl ?_
        refine rs_mv rfl rfl ?_
        refine rs_cmp_f rfl rfl rfl rfl (fun hh => hh h.r02) ?_
        refine rs_nil ⟨by kernel_rfl, fun _ => ?_⟩
        refine th_n ?_
        refine aw_cond rfl (fun h => by cases h) (fun _ => ?_)
        refine aw_skip ?_
        refine in_n ?_
        refine th_n ?_
        refine aw_reg ?_
        refine rs_mv rfl rfl ?_
        refine rs_add rfl rfl rfl (by omega) ?_
        refine rs_mv rfl rfl ?_
        refine rs_nil fun _ => ?_
        refine th_n ?_
        exact ⟨2 + 1, by omega, by omega, weak_to (.cons rfl (rc_same rfl (.inl rfl)) (.cons rfl (rc_same rfl (.inl rfl)) (.cons rfl (rc_same rfl (.inl rfl)) (.nil)))) (.keep (rfl) rfl (.nil)) (fun i h => by cases h)⟩
      · skip
        refine rs_mv rfl rfl ?_
        refine rs_mv rfl rfl ?_
        refine rs_cmp_f rfl rfl rfl rfl (by decide) ?_
        refine rs_nil fun _ => ?_
        refine th_n ?_
        refine aw_cond rfl (fun h => by cases h) (fun _ => ?_)
        refine aw_skip ?_
        refine th_n ?_
        refine aw_seq ?_
        refine aw_draw hmix ?_
        refine rs_fa_p rfl rfl ?_
        refine rs_ld_pa rfl rfl rfl rfl (Nat.le_of_ble_eq_true rfl) rfl ?_
        refine rs_mv rfl rfl ?_
        refine rs_calln [] rfl rfl (tc41_1 M) (.cons (hv_same rfl) (.cons (hv_same rfl) (.nil))) rfl ?_
        refine rs_fa_p rfl rfl ?_
        refine rs_ld_pa rfl rfl rfl rfl (Nat.le_of_ble_eq_true rfl) rfl ?_
        refine rs_mv rfl rfl ?_
        refine rs_calln [] rfl rfl (tc41_0 M) (.cons (hv_same rfl) (.cons (hv_same rfl) (.nil))) rfl ?_
        refine rs_calln [] rfl rfl (fc52 ⟨M 3, M 4, M 5⟩ ⟨M 0, M 1, M 2⟩) (.cons (hv_same rfl) (.cons (hv_same rfl) (.nil))) rfl ?_
        refine rs_mv rfl rfl ?_
        refine rs_cmp_f rfl rfl rfl rfl (fun hh => hh h.r10) ?_
        refine rs_nil ⟨by kernel_rfl, fun _ => ?_⟩
        refine th_n ?_
        refine aw_cond rfl (fun h => by cases h) (fun _ => ?_)
        refine aw_skip ?_
        refine in_n ?_
        refine th_n ?_
        refine aw_reg ?_
        refine rs_mv rfl rfl ?_
        refine rs_add rfl rfl rfl (by omega) ?_
        refine rs_mv rfl rfl ?_
        refine rs_nil fun _ => ?_
        refine th_n ?_
        exact ⟨0 + 1, by omega, by omega, weak_to (.cons rfl (rc_same rfl (.inl rfl)) (.cons rfl (rc_same rfl (.inl rfl)) (.cons rfl (rc_same rfl (.inl rfl)) (.nil)))) (.keep (rfl) rfl (.nil)) (fun i h => by cases h)⟩
      · skip
        refine rs_mv rfl rfl ?_
        refine rs_mv rfl rfl ?_
        refine rs_cmp_t rfl rfl rfl rfl rfl ?_
        refine rs_nil fun _ => ?_
        refine th_n ?_
        refine aw_cond rfl (fun _ => ?_) (fun h => by cases h)
        refine aw_reg ?_
        refine rs_fa_p rfl rfl ?_
        refine rs_ld_p rfl rfl rfl rfl rfl ?_
        refine rs_fa_p rfl rfl ?_
        refine rs_ld_p rfl rfl rfl rfl rfl ?_
        refine rs_mulw (c := 1) rfl rfl rfl rfl ?_
        refine rs_mv rfl rfl ?_
        refine rs_nil fun _ => ?_
        refine th_n ?_
        refine aw_seq ?_
        refine aw_draw hmix ?_
        refine rs_fa_p rfl rfl ?_
        refine rs_ld_pa rfl rfl rfl rfl (Nat.le_of_ble_eq_true rfl) rfl ?_
        refine rs_mv rfl rfl ?_
        refine rs_calln [] rfl rfl (tc41_1 M) (.cons (hv_same rfl) (.cons (hv_same rfl) (.nil))) rfl ?_
        refine rs_fa_p rfl rfl ?_
        refine rs_ld_pa rfl rfl rfl rfl (Nat.le_of_ble_eq_true rfl) rfl ?_
        refine rs_mv rfl rfl ?_
        refine rs_calln [] rfl rfl (tc41_1 M) (.cons (hv_same rfl) (.cons (hv_same rfl) (.nil))) rfl ?_
        refine rs_calln [] rfl rfl (fc52 ⟨M 3, M 4, M 5⟩ ⟨M 3, M 4, M 5⟩) (.cons (hv_same rfl) (.cons (hv_same rfl) (.nil))) rfl ?_
        refine rs_mv rfl rfl ?_
        refine rs_cmp_f rfl rfl rfl rfl (fun hh => hh h.r11) ?_
        refine rs_nil ⟨by kernel_rfl, fun _ => ?_⟩
        refine th_n ?_
        refine aw_cond rfl (fun h => by cases h) (fun _ => ?_)
        refine aw_skip ?_
        refine in_n ?_
        refine th_n ?_
        refine aw_reg ?_
        refine rs_mv rfl rfl ?_
        refine rs_add rfl rfl rfl (by omega) ?_
        refine rs_mv rfl rfl ?_
        refine rs_nil fun _ => ?_
        refine th_n ?_
        exact ⟨1 + 1, by omega, by omega, weak_to (.cons rfl (rc_same rfl (.inl rfl)) (.cons rfl (rc_same rfl (.inl rfl)) (.cons rfl (rc_same rfl (.inl rfl)) (.nil)))) (.keep (rfl) rfl (.nil)) (fun i h => by cases h)⟩
      · skip
        refine rs_mv rfl rfl ?_
        refine rs_mv rfl rfl ?_
        refine rs_cmp_f rfl rfl rfl rfl (by decide) ?_
        refine rs_nil fun _ => ?_
        refine th_n ?_
        refine aw_cond rfl (fun h => by cases h) (fun _ => ?_)
        refine aw_skip ?_
        refine th_n ?_
        refine aw_seq ?_
        refine aw_draw hmix ?_
        refine rs_fa_p rfl rfl ?_
        refine rs_ld_pa rfl rfl rfl rfl (Nat.le_of_ble_eq_true rfl) rfl ?_
        refine rs_mv rfl rfl ?_
        refine rs_calln [] rfl rfl (tc41_1 M) (.cons (hv_same rfl) (.cons (hv_same rfl) (.nil))) rfl ?_
        refine rs_fa_p rfl rfl ?_
        refine rs_ld_pa rfl rfl rfl rfl (Nat.le_of_ble_eq_true rfl) rfl ?_
        refine rs_mv rfl rfl ?_
        refine rs_calln [] rfl rfl (tc41_2 M) (.cons (hv_same rfl) (.cons (hv_same rfl) (.nil))) rfl ?_
        refine rs_calln [] rfl rfl (fc52 ⟨M 3, M 4, M 5⟩ ⟨M 6, M 7, M 8⟩) (.cons (hv_same rfl) (.cons (hv_same rfl) (.nil))) rfl ?_
        refine rs_mv rfl rfl ?_
        refine rs_cmp_f rfl rfl rfl rfl (fun hh => hh h.r12) ?_
        refine rs_nil ⟨by kernel_rfl, fun _ => ?_⟩
        refine th_n ?_
        refine aw_cond rfl (fun h => by cases h) (fun _ => ?_)
        refine aw_skip ?_
        refine in_n ?_
        refine th_n ?_
        refine aw_reg ?_
        refine rs_mv rfl rfl ?_
        refine rs_add rfl rfl rfl (by omega) ?_
        refine rs_mv rfl rfl ?_
        refine rs_nil fun _ => ?_
        refine th_n ?_
        exact ⟨2 + 1, by omega, by omega, weak_to (.cons rfl (rc_same rfl (.inl rfl)) (.cons rfl (rc_same rfl (.inl rfl)) (.cons rfl (rc_same rfl (.inl rfl)) (.nil)))) (.keep (rfl) rfl (.nil)) (fun i h => by cases h)⟩
      · skip
        refine rs_mv rfl rfl ?_
        refine rs_mv rfl rfl ?_
        refine rs_cmp_f rfl rfl rfl rfl (by decide) ?_
        refine rs_nil fun _ => ?_
        refine th_n ?_
        refine aw_cond rfl (fun h => by cases h) (fun _ => ?_)
        refine aw_skip ?_
        refine th_n ?_
        refine aw_seq ?_
        refine aw_draw hmix ?_
        refine rs_fa_p rfl rfl ?_
        refine rs_ld_pa rfl rfl rfl rfl (Nat.le_of_ble_eq_true rfl) rfl ?_
        refine rs_mv rfl rfl ?_
        refine rs_calln [] rfl rfl (tc41_2 M) (.cons (hv_same rfl) (.cons (hv_same rfl) (.nil))) rfl ?_
        refine rs_fa_p rfl rfl ?_
        refine rs_ld_pa rfl rfl rfl rfl (Nat.le_of_ble_eq_true rfl) rfl ?_
        refine rs_mv rfl rfl ?_
        refine rs_calln [] rfl rfl (tc41_0 M) (.cons (hv_same rfl) (.cons (hv_same rfl) (.nil))) rfl ?_
        refine rs_calln [] rfl rfl (fc52 ⟨M 6, M 7, M 8⟩ ⟨M 0, M 1, M 2⟩) (.cons (hv_same rfl) (.cons (hv_same rfl) (.nil))) rfl ?_
        refine rs_mv rfl rfl ?_
        refine rs_cmp_f rfl rfl rfl rfl (fun hh => hh h.r20) ?_
        refine rs_nil ⟨by kernel_rfl, fun _ => ?_⟩
        refine th_n ?_
        refine aw_cond rfl (fun h => by cases h) (fun _ => ?_)
        refine aw_skip ?_
        refine in_n ?_
        refine th_n ?_
        refine aw_reg ?_
        refine rs_mv rfl rfl ?_
        refine rs_add rfl rfl rfl (by omega) ?_
        refine rs_mv rfl rfl ?_
        refine rs_nil fun _ => ?_
        refine th_n ?_
        exact ⟨0 + 1, by omega, by omega, weak_to (.cons rfl (rc_same rfl (.inl rfl)) (.cons rfl (rc_same rfl (.inl rfl)) (.cons rfl (rc_same rfl (.inl rfl)) (.nil)))) (.keep (rfl) rfl (.nil)) (fun i h => by cases h)⟩
      · skip
        refine rs_mv rfl rfl ?_
        refine rs_mv rfl rfl ?_
        refine rs_cmp_f rfl rfl rfl rfl (by decide) ?_
        refine rs_nil fun _ => ?_
        refine th_n ?_
        refine aw_cond rfl (fun h => by cases h) (fun _ => ?_)
        refine aw_skip ?_
        refine th_n ?_
        refine aw_seq ?_
        refine aw_draw hmix ?_
        refine rs_fa_p rfl rfl ?_
        refine rs_ld_pa rfl rfl rfl rfl (Nat.le_of_ble_eq_true rfl) rfl ?_
        refine rs_mv rfl rfl ?_
        refine rs_calln [] rfl rfl (tc41_2 M) (.cons (hv_same rfl) (.cons (hv_same rfl) (.nil))) rfl ?_
        refine rs_fa_p rfl rfl ?_
        refine rs_ld_pa rfl rfl rfl rfl (Nat.le_of_ble_eq_true rfl) rfl ?_
        refine rs_mv rfl rfl ?_
        refine rs_calln [] rfl rfl (tc41_1 M) (.cons (hv_same rfl) (.cons (hv_same rfl) (.nil))) rfl ?_
        refine rs_calln [] rfl rfl (fc52 ⟨M 6, M 7, M 8⟩ ⟨M 3, M 4, M 5⟩) (.cons (hv_same rfl) (.cons (hv_same rfl) (.nil))) rfl ?_
        refine rs_mv rfl rfl ?_
        refine rs_cmp_f rfl rfl rfl rfl (fun hh => hh h.r21) ?_
        refine rs_nil ⟨by kernel_rfl, fun _ => ?_⟩
        refine th_n ?_
        refine aw_cond rfl (fun h => by cases h) (fun _ => ?_)
        refine aw_skip ?_
        refine in_n ?_
        refine th_n ?_
        refine aw_reg ?_
        refine rs_mv rfl rfl ?_
        refine rs_add rfl rfl rfl (by omega) ?_
        refine rs_mv rfl rfl ?_
        refine rs_nil fun _ => ?_
        refine th_n ?_
        exact ⟨1 + 1, by omega, by omega, weak_to (.cons rfl (rc_same rfl (.inl rfl)) (.cons rfl (rc_same rfl (.inl rfl)) (.cons rfl (rc_same rfl (.inl rfl)) (.nil)))) (.keep (rfl) rfl (.nil)) (fun i h => by cases h)⟩
      · skip
        refine rs_mv rfl rfl ?_
        refine rs_mv rfl rfl ?_
        refine rs_cmp_t rfl rfl rfl rfl rfl ?_
        refine rs_nil fun _ => ?_
        refine th_n ?_
        refine aw_cond rfl (fun _ => ?_) (fun h => by cases h)
        refine aw_reg ?_
        refine rs_fa_p rfl rfl ?_
        refine rs_ld_p rfl rfl rfl rfl rfl ?_
        refine rs_fa_p rfl rfl ?_
        refine rs_ld_p rfl rfl rfl rfl rfl ?_
        refine rs_mulw (c := 1) rfl rfl rfl rfl ?_
        refine rs_mv rfl rfl ?_
        refine rs_nil fun _ => ?_
        refine th_n ?_
        refine aw_seq ?_
        refine aw_draw hmix ?_
        refine rs_fa_p rfl rfl ?_
        refine rs_ld_pa rfl rfl rfl rfl (Nat.le_of_ble_eq_true rfl) rfl ?_
        refine rs_mv rfl rfl ?_
        refine rs_calln [] rfl rfl (tc41_2 M) (.cons (hv_same rfl) (.cons (hv_same rfl) (.nil))) rfl ?_
        refine rs_fa_p rfl rfl ?_
        refine rs_ld_pa rfl rfl rfl rfl (Nat.le_of_ble_eq_true rfl) rfl ?_
        refine rs_mv rfl rfl ?_
        refine rs_calln [] rfl rfl (tc41_2 M) (.cons (hv_same rfl) (.cons (hv_same rfl) (.nil))) rfl ?_
        refine rs_calln [] rfl rfl (fc52 ⟨M 6, M 7, M 8⟩ ⟨M 6, M 7, M 8⟩) (.cons (hv_same rfl) (.cons (hv_same rfl) (.nil))) rfl ?_
        refine rs_mv rfl rfl ?_
        refine rs_cmp_f rfl rfl rfl rfl (fun hh => hh h.r22) ?_
        refine rs_nil ⟨by kernel_rfl, fun _ => ?_⟩
        refine th_n ?_
        refine aw_cond rfl (fun h => by cases h) (fun _ => ?_)
        refine aw_skip ?_
        refine in_n ?_
        refine th_n ?_
        refine aw_reg ?_
        refine rs_mv rfl rfl ?_
        refine rs_add rfl rfl rfl (by omega) ?_
        refine rs_mv rfl rfl ?_
        refine rs_nil fun _ => ?_
        refine th_n ?_
        exact ⟨2 + 1, by omega, by omega, weak_to (.cons rfl (rc_same rfl (.inl rfl)) (.cons rfl (rc_same rfl (.inl rfl)) (.cons rfl (rc_same rfl (.inl rfl)) (.nil)))) (.keep (rfl) rfl (.nil)) (fun i h => by cases h)⟩
    · replace h25 := of_decide_eq_false h25
      refine aw_exit ?_
      refine th_e ?_
      refine th_e ?_
      refine in_hit ?_
      refine in_n ?_
      refine th_n ?_
      refine aw_reg ?_
      refine rs_mv rfl rfl ?_
      refine rs_add rfl rfl rfl (by omega) ?_
      refine rs_mv rfl rfl ?_
      refine rs_nil fun _ => ?_
      refine th_n ?_
      exact ⟨i + 1, by omega, by omega, weak_to (.cons rfl (rc_same rfl (.inl rfl)) (.cons rfl (rc_same rfl (.inl rfl)) (.nil))) (.keep (rfl) rfl (.nil)) (fun i h => by cases h)⟩
  · replace h21 := of_decide_eq_false h21
    refine aw_exit ?_
    refine th_e ?_
    refine th_e ?_
    refine in_hit ?_
    refine th_n ?_
    refine aw_seq ?_
    refine aw_draw hmix ?_
    refine rs_fa_p rfl rfl ?_
    refine rs_ld_pa rfl rfl rfl rfl (Nat.le_of_ble_eq_true rfl) rfl ?_
    refine rs_calln [] rfl rfl (tc41_0 M) (.cons (hv_same rfl) (.cons (hv_same rfl) (.nil))) rfl ?_
    refine rs_fa_p rfl rfl ?_
    refine rs_ld_pa rfl rfl rfl rfl (Nat.le_of_ble_eq_true rfl) rfl ?_
    refine rs_calln [] rfl rfl (tc41_1 M) (.cons (hv_same rfl) (.cons (hv_same rfl) (.nil))) rfl ?_
    refine rs_calln [] rfl rfl (tc42 ⟨M 0, M 1, M 2⟩ ⟨M 3, M 4, M 5⟩) (.cons (hv_same rfl) (.cons (hv_same rfl) (.nil))) rfl ?_
    refine rs_fa_p rfl rfl ?_
    refine rs_ld_pa rfl rfl rfl rfl (Nat.le_of_ble_eq_true rfl) rfl ?_
    refine rs_calln [] rfl rfl (tc41_2 M) (.cons (hv_same rfl) (.cons (hv_same rfl) (.nil))) rfl ?_
    refine rs_calln [] rfl rfl (fc52 (crossW ⟨M 0, M 1, M 2⟩ ⟨M 3, M 4, M 5⟩) ⟨M 6, M 7, M 8⟩) (.cons (hv_same rfl) (.cons (hv_same rfl) (.nil))) rfl ?_
    refine rs_mv rfl rfl ?_
    refine rs_nil ⟨by kernel_rfl, fun _ => ?_⟩
    refine th_n ?_
    refine aw_seq ?_
    refine aw_reg ?_
    refine rs_mv rfl rfl ?_
    refine rs_fa_p rfl rfl ?_
    refine rs_ld_p rfl rfl rfl rfl rfl ?_
    refine rs_fa_p rfl rfl ?_
    refine rs_ld_p rfl rfl rfl rfl rfl ?_
    refine rs_mulw (c := 1) rfl rfl rfl rfl ?_
    refine rs_fa_p rfl rfl ?_
    refine rs_ld_p rfl rfl rfl rfl rfl ?_
    refine rs_mulw (c := 1) rfl rfl rfl rfl ?_
    refine rs_cmp_t rfl rfl rfl rfl h.e ?_
    refine rs_mv rfl rfl ?_
    refine rs_ld_pa rfl rfl rfl rfl (Nat.le_of_ble_eq_true rfl) rfl ?_
    refine rs_calln [] rfl rfl (tc43 M h) (.cons (hv_same rfl) (.nil)) rfl ?_
    refine rs_cmp_t rfl rfl rfl rfl rfl ?_
    refine rs_pick rfl rfl rfl ?_
    refine rs_mv rfl rfl ?_
    refine rs_nil fun _ => ?_
    refine th_n ?_
    refine aw_ret ?_
    exact ret_pure rfl rfl rfl (.inr rfl)

def mct9 : MC := (.seq (.reg [⟨(some 1), (.box 37 13 (.t 0)), none, []⟩, ⟨(some 2), (.mv (.c (.bool false))), none, []⟩] false) (.seq (.reg [⟨(some 3), (.fa 0 (.t 1)), none, []⟩, ⟨(some 4), (.ld true 10 (.t 3)), none, [0]⟩, ⟨(some 5), (.call 30 [(.t 4)]), none, [1]⟩, ⟨(some 6), (.mv (.t 5)), none, [2, 2]⟩, ⟨(some 7), (.fa 10 (.t 1)), (some (6, true)), [3]⟩, ⟨(some 8), (.ld true 3 (.t 7)), (some (6, true)), [4, 3]⟩, ⟨(some 9), (.call 31 [(.t 8)]), (some (6, true)), [5, 3, 3]⟩, ⟨(some 10), (.pick (.t 6) (.t 9) (.c (.bool false))), none, [3, 6]⟩, ⟨(some 2), (.mv (.t 10)), none, [7, 6, 0, 1, 2, 3, 4, 5, 6, 7]⟩] false) .ret))
theorem mcOkt9 : (match Tryd.f9.body with | some c => compC Tryd.prog 11 c | none => none) = some mct9 := by kernel_rfl

theorem tc9 (M : Nat → Int) (h : OkM M) (s : V3) (hs : Bd 96 s) : FC Tryd.prog 9 [.agg (mL M ++ [iv 1, iv s.x, iv s.y, iv s.z])] [] (.bool true) [] false := by
  refine fc_run (nt := 11) Tryd.func9 rfl rfl mcOkt9 (Nat.le_of_ble_eq_true rfl) ?_
  delta mct9
  refine aw_seq ?_
  refine aw_reg ?_
  refine rs_box rfl rfl rfl rfl rfl rfl ?_
  refine rs_mv rfl rfl ?_
  refine rs_nil fun _ => ?_
  refine th_n ?_
  refine aw_seq ?_
  refine aw_reg ?_
  refine rs_fa_p rfl rfl ?_
  refine rs_ld_pa rfl rfl rfl rfl (Nat.le_of_ble_eq_true rfl) rfl ?_
  refine rs_calln [] rfl rfl (tc30 M h) (.cons (hv_same rfl) (.nil)) rfl ?_
  refine rs_mv rfl rfl ?_
  refine rs_fa_p rfl rfl ?_
  refine rs_ld_pa rfl rfl rfl rfl (Nat.le_of_ble_eq_true rfl) rfl ?_
  refine rs_calln [] rfl rfl (tc31 s hs) (.cons (hv_same rfl) (.nil)) rfl ?_
  refine rs_pick rfl rfl rfl ?_
  refine rs_mv rfl rfl ?_
  refine rs_nil fun _ => ?_
  refine th_n ?_
  refine aw_ret ?_
  exact ret_pure rfl rfl rfl (.inr rfl)

end Go.Proofs.YteommcdafifckaaDoor

/-! Walks: T4. -/
namespace Go.Proofs.YteommcdafifckaaDoor
open Go.RowKit
set_option maxRecDepth 100000
set_option linter.unusedVariables false

theorem aw_cutw {P : Program} {N : Nat} {Z : List Nat} {rn : Option Nat} {Q : Post} {F F0 : Fr} {H H0 : Hp} {x y : MC} (h1 : AW P N Z rn x (fun e F' H' => e = .normal ∧ Weak N Z F' H' F0 H0) F H) (h2 : AW P N Z rn y Q F0 H0) : AW P N Z rn (.seq x y) Q F H :=
  aw_seq (aw_mono h1 fun e F' H' ⟨he, hw⟩ => by subst he; exact aw_weak hw h2)
theorem of_rot {p : V3 × V3} (hp : p ∈ turnL) {v : V3} (hv : Bd 1000000 v) : ofS (rM p) v = rotS p v := by
  have h := (ok_turn hp).w
  have b1 : Bd 1000000 p.1 := ⟨by have := h 0 (by decide); simp only [rM] at this; omega, by have := h 1 (by decide); simp only [rM] at this; omega, by have := h 2 (by decide); simp only [rM] at this; omega⟩
  have b2 : Bd 1000000 p.2 := ⟨by have := h 3 (by decide); simp only [rM] at this; omega, by have := h 4 (by decide); simp only [rM] at this; omega, by have := h 5 (by decide); simp only [rM] at this; omega⟩
  have b3 : Bd 1000000 (cross p.1 p.2) := ⟨by have := h 6 (by decide); simp only [rM] at this; omega, by have := h 7 (by decide); simp only [rM] at this; omega, by have := h 8 (by decide); simp only [rM] at this; omega⟩
  show (⟨dotW p.1 v, dotW p.2 v, dotW (cross p.1 p.2) v⟩ : V3) = _
  rw [dotW_eq b1 hv, dotW_eq b2 hv, dotW_eq b3 hv]
  rfl
theorem tcA {p : V3 × V3} (hp : p ∈ turnL) {s : V3} (hs : Bd 3 s) {v : V3} (hv : Bd 18 v) : FC Tryd.prog 7 [.agg (cT p ++ [iv s.x, iv s.y, iv s.z]), aV v] [(5000000, .glob 0 idn)] (.tup [aV (turnV p s v), .bool true]) [(5000000, .glob 0 idn)] true := by
  have e := of_rot hp (hv.mono (show (18 : Int) ≤ 1000000 by decide))
  have := tc7 (rM p) (ok_turn hp) s (hs.mono (by decide)) v (in_of (hv.mono (by decide))) (by rw [e]; exact (rot_bd hp hv).mono (by decide)) (by rw [e]; exact in_of ((turn_bd hp hv hs).mono (by decide)))
  rw [e] at this
  exact this
theorem turnM_t {p : V3 × V3} {s : V3} {m : Mv} (h : m.kind = 3) : turnM p s m = ⟨m.kind, turnV p s m.fr, turnV p s m.to, turnV p s m.co, m.feed⟩ := by unfold turnM; rw [if_pos h]
theorem turnM_f {p : V3 × V3} {s : V3} {m : Mv} (h : ¬ m.kind = 3) : turnM p s m = ⟨m.kind, turnV p s m.fr, turnV p s m.to, m.co, m.feed⟩ := by unfold turnM; rw [if_neg h]

def mct3 : MC := (.seq (.reg [⟨(some 5), (.box 23 3 (.t 2)), none, []⟩, ⟨(some 6), (.mv (.c (.bool false))), none, []⟩] false) (.seq (.reg [⟨(some 22), (.call 4 []), none, []⟩, ⟨(some 7), (.mv (.t 22)), none, [0, 0, 0]⟩] false) (.seq (.reg [⟨(some 23), (.mv (.t 0)), none, []⟩, ⟨(some 24), (.call 5 [(.t 23)]), none, [0]⟩, ⟨(some 8), (.alloc 28 11 [(.int .i64 0), (.int .i64 0), (.int .i64 0), (.int .i64 0), (.int .i64 0), (.int .i64 0), (.int .i64 0), (.int .i64 0), (.int .i64 0), (.int .i64 0), (.int .i64 0)]), none, []⟩, ⟨none, (.st 11 (.t 8) (.t 24)), none, [2, 1, 1, 0, 1, 2]⟩] false) (.seq (.reg [⟨(some 25), (.call 6 []), none, []⟩, ⟨(some 9), (.mv (.t 25)), none, [0, 0, 0]⟩] false) (.seq (.seq (.reg [⟨(some 26), (.mv (.t 9)), none, []⟩, ⟨(some 27), (.len (.t 26)), none, [0]⟩, ⟨(some 28), (.bin .neq (.t 27) (.c (.int .i64 24))), none, [1]⟩] false) (.cond (.t 28) (.seq (.reg [⟨(some 6), (.mv (.c (.bool false))), none, []⟩] false) .ret) .skip)) (.seq (.reg [⟨(some 29), (.mv (.t 9)), none, []⟩, ⟨(some 30), (.mv (.t 1)), none, []⟩, ⟨(some 31), (.cvt .i64 (.t 30)), none, [1]⟩, ⟨(some 32), (.bin .rem (.t 31) (.c (.int .i64 24))), none, [2]⟩, ⟨(some 33), (.ixsl 10 (.t 29) (.t 32)), none, [0, 3]⟩, ⟨(some 34), (.ld true 10 (.t 33)), none, [4]⟩, ⟨(some 35), (.ixarr 3 1 (.t 5) (.c (.int .i64 0))), none, []⟩, ⟨(some 36), (.ld false 1 (.t 35)), none, [6]⟩, ⟨(some 37), (.bin .rem (.t 36) (.c (.int .u8 7))), none, [7]⟩, ⟨(some 38), (.cvt .i64 (.t 37)), none, [8]⟩, ⟨(some 39), (.bin .sub (.t 38) (.c (.int .i64 3))), none, [9]⟩, ⟨(some 40), (.ixarr 3 1 (.t 5) (.c (.int .i64 1))), none, []⟩, ⟨(some 41), (.ld false 1 (.t 40)), none, [11]⟩, ⟨(some 42), (.bin .rem (.t 41) (.c (.int .u8 7))), none, [12]⟩, ⟨(some 43), (.cvt .i64 (.t 42)), none, [13]⟩, ⟨(some 44), (.bin .sub (.t 43) (.c (.int .i64 3))), none, [14]⟩, ⟨(some 45), (.ixarr 3 1 (.t 5) (.c (.int .i64 2))), none, []⟩, ⟨(some 46), (.ld false 1 (.t 45)), none, [16]⟩, ⟨(some 47), (.bin .rem (.t 46) (.c (.int .u8 7))), none, [17]⟩, ⟨(some 48), (.cvt .i64 (.t 47)), none, [18]⟩, ⟨(some 49), (.bin .sub (.t 48) (.c (.int .i64 3))), none, [19]⟩, ⟨(some 50), (.build [(.int .i64 0), (.int .i64 0), (.int .i64 0)] [(0, (1, (.t 39))), (1, (1, (.t 44))), (2, (1, (.t 49)))]), none, [10, 15, 20]⟩, ⟨(some 51), (.build [(.int .i64 0), (.int .i64 0), (.int .i64 0), (.int .i64 0), (.int .i64 0), (.int .i64 0), (.int .i64 0), (.int .i64 0), (.int .i64 0), (.int .i64 0), (.int .i64 0), (.int .i64 0), (.int .i64 0)] [(0, (10, (.t 34))), (10, (3, (.t 50)))]), none, [5, 21]⟩, ⟨(some 10), (.alloc 37 13 [(.int .i64 0), (.int .i64 0), (.int .i64 0), (.int .i64 0), (.int .i64 0), (.int .i64 0), (.int .i64 0), (.int .i64 0), (.int .i64 0), (.int .i64 0), (.int .i64 0), (.int .i64 0), (.int .i64 0)]), none, []⟩, ⟨none, (.st 13 (.t 10) (.t 51)), none, [23, 22, 0, 1, 2, 3, 4, 5, 6, 7, 8, 9, 10, 11, 12, 13, 14, 15, 16, 17, 18, 19, 20, 21, 22, 23]⟩] true) (.seq (.reg [⟨(some 52), (.ld true 11 (.t 8)), none, []⟩, ⟨(some 11), (.alloc 28 11 [(.int .i64 0), (.int .i64 0), (.int .i64 0), (.int .i64 0), (.int .i64 0), (.int .i64 0), (.int .i64 0), (.int .i64 0), (.int .i64 0), (.int .i64 0), (.int .i64 0)]), none, []⟩, ⟨none, (.st 11 (.t 11) (.t 52)), none, [1, 0, 0, 1]⟩] false) (.seq (.reg [⟨(some 12), (.mv (.c (.bool false))), none, []⟩, ⟨(some 13), (.mv (.c (.bool false))), none, [0]⟩, ⟨(some 14), (.mv (.c (.bool false))), none, [1]⟩] false) (.seq (.reg [⟨(some 54), (.ld true 13 (.t 10)), none, []⟩, ⟨(some 55), (.fa 1 (.t 8)), none, []⟩, ⟨(some 56), (.ld true 3 (.t 55)), none, [1]⟩, ⟨(some 57), (.call 7 [(.t 54), (.t 56)]), none, [0, 2]⟩, ⟨(some 53), (.mv (.t 57)), none, [3]⟩, ⟨(some 58), (.ext (.t 53) 0), none, [4]⟩, ⟨(some 59), (.ext (.t 53) 1), none, [4]⟩, ⟨(some 60), (.fa 1 (.t 11)), none, [0, 1, 2, 3, 4, 5]⟩, ⟨none, (.st 3 (.t 60) (.t 58)), none, [7, 5, 3, 0, 1, 2, 3, 4, 5]⟩, ⟨(some 12), (.mv (.t 59)), none, [6, 8, 0, 1, 2, 3, 4, 5, 6, 7, 8]⟩] false) (.seq (.reg [⟨(some 62), (.ld true 13 (.t 10)), none, []⟩, ⟨(some 63), (.fa 4 (.t 8)), none, []⟩, ⟨(some 64), (.ld true 3 (.t 63)), none, [1]⟩, ⟨(some 65), (.call 7 [(.t 62), (.t 64)]), none, [0, 2]⟩, ⟨(some 61), (.mv (.t 65)), none, [3]⟩, ⟨(some 66), (.ext (.t 61) 0), none, [4]⟩, ⟨(some 67), (.ext (.t 61) 1), none, [4]⟩, ⟨(some 68), (.fa 4 (.t 11)), none, [0, 1, 2, 3, 4, 5]⟩, ⟨none, (.st 3 (.t 68) (.t 66)), none, [7, 5, 3, 0, 1, 2, 3, 4, 5]⟩, ⟨(some 13), (.mv (.t 67)), none, [6, 8, 0, 1, 2, 3, 4, 5, 6, 7, 8]⟩] false) (.seq (.reg [⟨(some 14), (.mv (.c (.bool true))), none, []⟩] false) (.seq (.seq (.reg [⟨(some 69), (.fa 0 (.t 8)), none, []⟩, ⟨(some 70), (.ld false 1 (.t 69)), none, [0]⟩, ⟨(some 71), (.bin .eql (.t 70) (.c (.int .i64 3))), none, [1]⟩] false) (.cond (.t 71) (.reg [⟨(some 73), (.ld true 13 (.t 10)), none, []⟩, ⟨(some 74), (.fa 7 (.t 8)), none, []⟩, ⟨(some 75), (.ld true 3 (.t 74)), none, [1]⟩, ⟨(some 76), (.call 7 [(.t 73), (.t 75)]), none, [0, 2]⟩, ⟨(some 72), (.mv (.t 76)), none, [3]⟩, ⟨(some 77), (.ext (.t 72) 0), none, [4]⟩, ⟨(some 78), (.ext (.t 72) 1), none, [4]⟩, ⟨(some 79), (.fa 7 (.t 11)), none, [0, 1, 2, 3, 4, 5]⟩, ⟨none, (.st 3 (.t 79) (.t 77)), none, [7, 5, 3, 0, 1, 2, 3, 4, 5]⟩, ⟨(some 14), (.mv (.t 78)), none, [6, 8, 0, 1, 2, 3, 4, 5, 6, 7, 8]⟩] false) .skip)) (.seq (.reg [⟨(some 81), (.ld true 11 (.t 8)), none, []⟩, ⟨(some 82), (.call 8 [(.t 81)]), none, [0]⟩, ⟨(some 80), (.mv (.t 82)), none, [1]⟩, ⟨(some 83), (.ext (.t 80) 0), none, [2]⟩, ⟨(some 84), (.ext (.t 80) 1), none, [2]⟩, ⟨(some 15), (.mv (.t 83)), none, [3, 1, 0, 1, 2, 3]⟩, ⟨(some 16), (.mv (.t 84)), none, [4, 5, 0, 1, 2, 3, 4, 5]⟩] false) (.seq (.reg [⟨(some 86), (.ld true 11 (.t 11)), none, []⟩, ⟨(some 87), (.call 8 [(.t 86)]), none, [0]⟩, ⟨(some 85), (.mv (.t 87)), none, [1]⟩, ⟨(some 88), (.ext (.t 85) 0), none, [2]⟩, ⟨(some 89), (.ext (.t 85) 1), none, [2]⟩, ⟨(some 17), (.mv (.t 88)), none, [3, 1, 0, 1, 2, 3]⟩, ⟨(some 18), (.mv (.t 89)), none, [4, 5, 0, 1, 2, 3, 4, 5]⟩] false) (.seq (.seq (.reg [⟨(some 90), (.mv (.t 12)), none, []⟩, ⟨(some 91), (.un .not (.t 90)), none, [0]⟩, ⟨(some 92), (.mv (.t 91)), none, [1]⟩, ⟨(some 93), (.mv (.t 13)), (some (92, false)), [2]⟩, ⟨(some 94), (.un .not (.t 93)), (some (92, false)), [3, 2]⟩, ⟨(some 95), (.pick (.t 92) (.c (.bool true)) (.t 94)), none, [2, 4]⟩, ⟨(some 96), (.mv (.t 95)), none, [5, 2]⟩, ⟨(some 97), (.mv (.t 14)), (some (96, false)), [6]⟩, ⟨(some 98), (.un .not (.t 97)), (some (96, false)), [7, 6]⟩, ⟨(some 99), (.pick (.t 96) (.c (.bool true)) (.t 98)), none, [6, 8]⟩, ⟨(some 100), (.mv (.t 99)), none, [9, 6]⟩, ⟨(some 101), (.mv (.t 16)), (some (100, false)), [10]⟩, ⟨(some 102), (.un .not (.t 101)), (some (100, false)), [11, 10]⟩, ⟨(some 103), (.pick (.t 100) (.c (.bool true)) (.t 102)), none, [10, 12]⟩, ⟨(some 104), (.mv (.t 103)), none, [13, 10]⟩, ⟨(some 105), (.mv (.t 18)), (some (104, false)), [14]⟩, ⟨(some 106), (.un .not (.t 105)), (some (104, false)), [15, 14]⟩, ⟨(some 107), (.pick (.t 104) (.c (.bool true)) (.t 106)), none, [14, 16]⟩, ⟨(some 108), (.mv (.t 107)), none, [17, 14]⟩, ⟨(some 109), (.mv (.t 15)), (some (108, false)), [18]⟩, ⟨(some 110), (.len (.t 109)), (some (108, false)), [19, 18]⟩, ⟨(some 111), (.mv (.t 17)), (some (108, false)), [18]⟩, ⟨(some 112), (.len (.t 111)), (some (108, false)), [21, 18]⟩, ⟨(some 113), (.bin .neq (.t 110) (.t 112)), (some (108, false)), [20, 22, 18]⟩, ⟨(some 114), (.pick (.t 108) (.c (.bool true)) (.t 113)), none, [18, 23]⟩] false) (.cond (.t 114) (.seq (.reg [⟨(some 6), (.mv (.c (.bool false))), none, []⟩] false) .ret) .skip)) (.seq (.seq (.reg [⟨(some 115), (.mv (.t 15)), none, []⟩, ⟨(some 116), (.len (.t 115)), none, [0]⟩, ⟨(some 117), (.mv (.c (.int .i64 0))), none, []⟩] false) (.block 0 (.loop (.seq (.reg [⟨(some 118), (.bin .lss (.t 117) (.t 116)), none, []⟩] false) (.seq (.cond (.t 118) .skip (.exit 0)) (.seq (.block 1 (.seq (.reg [⟨(some 119), (.mv (.t 117)), none, []⟩, ⟨(some 19), (.mv (.t 119)), none, [0, 0]⟩] false) (.seq (.reg [⟨(some 121), (.ld true 13 (.t 10)), none, []⟩, ⟨(some 122), (.mv (.t 15)), none, []⟩, ⟨(some 123), (.mv (.t 19)), none, []⟩, ⟨(some 124), (.ixsl 3 (.t 122) (.t 123)), none, [1, 2]⟩, ⟨(some 125), (.ld true 3 (.t 124)), none, [3]⟩, ⟨(some 126), (.call 7 [(.t 121), (.t 125)]), none, [0, 4]⟩, ⟨(some 120), (.mv (.t 126)), none, [5]⟩, ⟨(some 127), (.ext (.t 120) 0), none, [6]⟩, ⟨(some 128), (.ext (.t 120) 1), none, [6]⟩, ⟨(some 20), (.alloc 26 3 [(.int .i64 0), (.int .i64 0), (.int .i64 0)]), none, []⟩, ⟨none, (.st 3 (.t 20) (.t 127)), none, [9, 7, 5, 0, 1, 2, 3, 4, 5, 6, 7, 9]⟩, ⟨(some 21), (.mv (.t 128)), none, [8, 10, 0, 1, 2, 3, 4, 5, 6, 7, 8, 9, 10]⟩] true) (.seq (.reg [⟨(some 129), (.mv (.t 21)), none, []⟩, ⟨(some 130), (.un .not (.t 129)), none, [0]⟩, ⟨(some 131), (.mv (.t 130)), none, [1]⟩, ⟨(some 132), (.ld true 3 (.t 20)), (some (131, false)), [2]⟩, ⟨(some 133), (.mv (.t 17)), (some (131, false)), [2]⟩, ⟨(some 134), (.mv (.t 19)), (some (131, false)), [2]⟩, ⟨(some 135), (.ixsl 3 (.t 133) (.t 134)), (some (131, false)), [4, 5, 2]⟩, ⟨(some 136), (.ld true 3 (.t 135)), (some (131, false)), [6, 2]⟩, ⟨(some 137), (.aeq true 3 (.t 132) (.t 136)), (some (131, false)), [3, 7, 2]⟩, ⟨(some 138), (.pick (.t 131) (.c (.bool true)) (.t 137)), none, [2, 8]⟩] true) (.cond (.t 138) (.seq (.reg [⟨(some 6), (.mv (.c (.bool false))), none, []⟩] false) .ret) .skip))))) (.reg [⟨(some 139), (.bin .add (.t 117) (.c (.int .i64 1))), none, []⟩, ⟨(some 117), (.mv (.t 139)), none, [0]⟩] false))))))) (.seq (.reg [⟨(some 140), (.mv (.t 7)), none, []⟩, ⟨(some 141), (.mv (.t 140)), none, [0]⟩, ⟨(some 142), (.ld true 13 (.t 10)), (some (141, true)), [1]⟩, ⟨(some 143), (.call 9 [(.t 142)]), (some (141, true)), [2, 1, 1]⟩, ⟨(some 144), (.pick (.t 141) (.t 143) (.c (.bool false))), none, [1, 3]⟩, ⟨(some 6), (.mv (.t 144)), none, [4, 3, 0, 1, 2, 3, 4]⟩] false) .ret)))))))))))))))))
theorem mcOkt3 : (match Tryd.f3.body with | some c => compC Tryd.prog 145 c | none => none) = some mct3 := by kernel_rfl

set_option maxHeartbeats 1000000 in
theorem tc3 (l : List Int) (hl : l.length ≤ 4611686018427387904) (wh : Int) (hwh : 0 ≤ wh ∧ wh < 256) (b0 b1 b2 : Int) (hb0 : 0 ≤ b0 ∧ b0 < 256) (hb1' : 0 ≤ b1 ∧ b1 < 256) (hb2' : 0 ≤ b2 ∧ b2 < 256) : FC Tryd.prog 3 [ints l, .int .u8 wh, .agg [.int .u8 b0, .int .u8 b1, .int .u8 b2]] [(5000000, .glob 0 idn)] (.bool true) [(5000000, .glob 0 idn)] true := by
  have hck := made_ok l
  obtain ⟨hb1, hb2, hb3⟩ := made_bd l
  have h10 := fc10 l hl
  generalize madeS l = m at h10 hck hb1 hb2 hb3
  have e24 : wh.tmod 24 = wh % 24 := Int.tmod_eq_emod_of_nonneg hwh.1
  obtain ⟨k, hk⟩ : ∃ k : Nat, (k : Int) = wh.tmod 24 := ⟨(wh.tmod 24).toNat, by omega⟩
  have hk24 : k < 24 := by omega
  obtain ⟨p, hp, hpm⟩ := at_some (L := turnL) (k := k) (by rw [turnL_len]; omega)
  have f0 : b0.tmod 7 = b0 % 7 := Int.tmod_eq_emod_of_nonneg hb0.1
  have f1 : b1.tmod 7 = b1 % 7 := Int.tmod_eq_emod_of_nonneg hb1'.1
  have f2 : b2.tmod 7 = b2 % 7 := Int.tmod_eq_emod_of_nonneg hb2'.1
  obtain ⟨x0, g0⟩ : ∃ x0, x0 = b0.tmod 7 := ⟨_, rfl⟩
  obtain ⟨x1, g1⟩ : ∃ x1, x1 = b1.tmod 7 := ⟨_, rfl⟩
  obtain ⟨x2, g2⟩ : ∃ x2, x2 = b2.tmod 7 := ⟨_, rfl⟩
  have r0 : 0 ≤ x0 ∧ x0 ≤ 6 := by omega
  have r1 : 0 ≤ x1 ∧ x1 ≤ 6 := by omega
  have r2 : 0 ≤ x2 ∧ x2 ≤ 6 := by omega
  obtain ⟨s, hs⟩ : ∃ s : V3, s = ⟨x0 - 3, x1 - 3, x2 - 3⟩ := ⟨_, rfl⟩
  have hsb : Bd 3 s := by
    rw [hs]
    exact ⟨by dsimp only; omega, by dsimp only; omega, by dsimp only; omega⟩
  have hin : InM (turnM p s m) := by
    by_cases hq : m.kind = 3
    · rw [turnM_t hq]
      exact ⟨(turn_bd hpm hb1 hsb).mono (by decide), (turn_bd hpm hb2 hsb).mono (by decide), (turn_bd hpm hb3 hsb).mono (by decide)⟩
    · rw [turnM_f hq]
      exact ⟨(turn_bd hpm hb1 hsb).mono (by decide), (turn_bd hpm hb2 hsb).mono (by decide), hb3.mono (by decide)⟩
  have hcn := check_turn hpm hck hin
  have h25 := fc25 m (path_two hck)
  have h25n := fc25 (turnM p s m) (path_two hcn)
  rw [path_turn hpm hck hin] at h25n
  have hpl := path_len m
  refine fc_run (nt := 145) Tryd.func3 rfl rfl mcOkt3 (Nat.le_of_ble_eq_true rfl) ?_
  delta mct3
  refine aw_seq ?_
  refine aw_reg ?_
  refine rs_box rfl rfl rfl rfl rfl rfl ?_
  refine rs_mv rfl rfl ?_
  refine rs_nil fun _ => ?_
  refine th_n ?_
  refine aw_seq ?_
  refine aw_reg ?_
  refine rs_calln [] rfl rfl fc9 .nil rfl ?_
  refine rs_mv rfl rfl ?_
  refine rs_nil fun _ => ?_
  refine th_n ?_
  refine aw_seq ?_
  refine aw_reg ?_
  refine rs_mv rfl rfl ?_
  refine rs_calln [] rfl rfl (h10) (.cons (hv_same rfl) (.nil)) rfl ?_
  refine rs_alloc rfl rfl rfl ?_
  refine rs_st rfl rfl rfl rfl rfl rfl rfl (Nat.le_of_ble_eq_true rfl) rfl rfl ?_
  refine rs_nil fun _ => ?_
  refine th_n ?_
  refine aw_seq ?_
  refine aw_reg ?_
  refine rs_calln [] rfl rfl tc6 .nil rfl ?_
  refine rs_mv rfl rfl ?_
  refine rs_nil fun _ => ?_
  refine th_n ?_
  refine aw_seq ?_
  refine aw_seq ?_
  refine aw_reg ?_
  refine rs_mv rfl rfl ?_
  refine rs_len_m rfl rfl ?_
  refine rs_cmp_f rfl rfl rfl rfl (fun h => h (by rw [turnL_len]; rfl)) ?_
  refine rs_nil fun _ => ?_
  refine th_n ?_
  refine aw_cond rfl (fun h => by cases h) (fun _ => ?_)
  refine aw_skip ?_
  refine th_n ?_
  refine aw_cutw (F0 := [(7, .bool true), (8, .ptr 8 0 0), (10, .ptr 10 0 0)]) (H0 := [(5000000, .glob 0 idn), (8, .cells 28 11 [cM m] true), (10, .cells 37 13 [cT p ++ [iv s.x, iv s.y, iv s.z]] true)]) ?_ ?_
  · skip
    refine aw_draw hmix ?_
    refine rs_mv rfl rfl ?_
    refine rs_mv rfl rfl ?_
    refine rs_cvt rfl rfl (W_eq (by omega)) ?_
    refine rs_rem (c := (k : Int)) rfl rfl rfl (by decide) hk.symm ?_
    refine rs_ix_g (f := cT) (y := p) rfl rfl rfl (by omega) hp ?_
    refine rs_ld_ra rfl rfl (Nat.le_of_ble_eq_true rfl) rfl ?_
    refine rs_ixarr_p rfl rfl rfl (by decide) (by decide) ?_
    refine rs_ld_p rfl rfl rfl rfl rfl ?_
    refine rs_rem (c := x0) rfl rfl rfl (by decide) g0.symm ?_
    refine rs_cvt rfl rfl (W_eq (by omega)) ?_
    refine rs_sub rfl rfl rfl (by omega) ?_
    refine rs_ixarr_p rfl rfl rfl (by decide) (by decide) ?_
    refine rs_ld_p rfl rfl rfl rfl rfl ?_
    refine rs_rem (c := x1) rfl rfl rfl (by decide) g1.symm ?_
    refine rs_cvt rfl rfl (W_eq (by omega)) ?_
    refine rs_sub rfl rfl rfl (by omega) ?_
    refine rs_ixarr_p rfl rfl rfl (by decide) (by decide) ?_
    refine rs_ld_p rfl rfl rfl rfl rfl ?_
    refine rs_rem (c := x2) rfl rfl rfl (by decide) g2.symm ?_
    refine rs_cvt rfl rfl (W_eq (by omega)) ?_
    refine rs_sub rfl rfl rfl (by omega) ?_
    refine rs_build rfl rfl ?_
    refine rs_build rfl rfl ?_
    refine rs_alloc rfl rfl rfl ?_
    refine rs_st rfl rfl rfl rfl rfl rfl rfl (Nat.le_of_ble_eq_true rfl) rfl rfl ?_
    refine rs_nil ⟨by kernel_rfl, fun _ => ?_⟩
    exact ⟨rfl, weak_to (.cons rfl (rc_same rfl (.inl rfl)) (.cons rfl (rc_same rfl (.inl rfl)) (.cons rfl (rc_same rfl (.inl rfl)) (.nil)))) (.keep (rfl) rfl (.keep (rfl) rfl (.keep ((by rw [hs]; rfl)) rfl (.nil)))) ((fun i hi => by simp [keysOf] at hi ⊢; omega))⟩
  · skip
    refine aw_seq ?_
    refine aw_reg ?_
    refine rs_ld_pa rfl rfl rfl rfl (Nat.le_of_ble_eq_true rfl) rfl ?_
    refine rs_alloc rfl rfl rfl ?_
    refine rs_st rfl rfl rfl rfl rfl rfl rfl (Nat.le_of_ble_eq_true rfl) rfl rfl ?_
    refine rs_nil fun _ => ?_
    refine th_n ?_
    refine aw_seq ?_
    refine aw_reg ?_
    refine rs_mv rfl rfl ?_
    refine rs_mv rfl rfl ?_
    refine rs_mv rfl rfl ?_
    refine rs_nil fun _ => ?_
    refine th_n ?_
    refine aw_seq ?_
    refine aw_weak (F0 := [(7, .bool true), (8, .ptr 8 0 0), (10, .ptr 10 0 0), (11, .ptr 11 0 0)]) (H0 := [(5000000, .glob 0 idn), (8, .cells 28 11 [cM m] true), (10, .cells 37 13 [cT p ++ [iv s.x, iv s.y, iv s.z]] true), (11, .cells 28 11 [cM ⟨m.kind, m.fr, m.to, m.co, m.feed⟩] true)]) (weak_to (.cons rfl (rc_same rfl (.inl rfl)) (.cons rfl (rc_same rfl (.inl rfl)) (.cons rfl (rc_same rfl (.inl rfl)) (.cons rfl (rc_same rfl (.inl rfl)) (.nil))))) (.keep (rfl) rfl (.keep (rfl) rfl (.keep (rfl) rfl (.keep (rfl) rfl (.nil))))) ((fun i hi => by simp [keysOf] at hi ⊢; omega))) ?_
    refine aw_reg ?_
    refine rs_ld_pa rfl rfl rfl rfl (Nat.le_of_ble_eq_true rfl) rfl ?_
    refine rs_fa_p rfl rfl ?_
    refine rs_ld_pa rfl rfl rfl rfl (Nat.le_of_ble_eq_true rfl) rfl ?_
    refine rs_callo [(5000000, .glob 0 idn)] rfl rfl (tcA hpm hsb hb1) (.cons (hv_same rfl) (.cons (hv_same rfl) (.nil))) (.cons rfl (.nil)) rfl rfl rfl ?_
    refine rs_mv rfl rfl ?_
    refine rs_ext rfl rfl rfl ?_
    refine rs_ext rfl rfl rfl ?_
    refine rs_fa_p rfl rfl ?_
    refine rs_st rfl rfl rfl rfl rfl rfl rfl (Nat.le_of_ble_eq_true rfl) rfl rfl ?_
    refine rs_mv rfl rfl ?_
    refine rs_nil fun _ => ?_
    refine th_n ?_
    refine aw_seq ?_
    refine aw_weak (F0 := [(7, .bool true), (8, .ptr 8 0 0), (10, .ptr 10 0 0), (11, .ptr 11 0 0), (12, .bool true)]) (H0 := [(5000000, .glob 0 idn), (8, .cells 28 11 [cM m] true), (10, .cells 37 13 [cT p ++ [iv s.x, iv s.y, iv s.z]] true), (11, .cells 28 11 [cM ⟨m.kind, (turnV p s m.fr), m.to, m.co, m.feed⟩] true)]) (weak_to (.cons rfl (rc_same rfl (.inl rfl)) (.cons rfl (rc_same rfl (.inl rfl)) (.cons rfl (rc_same rfl (.inl rfl)) (.cons rfl (rc_same rfl (.inl rfl)) (.cons rfl (rc_same rfl (.inl rfl)) (.nil)))))) (.keep (rfl) rfl (.keep (rfl) rfl (.keep (rfl) rfl (.keep (rfl) rfl (.nil))))) ((fun i hi => by simp [keysOf] at hi ⊢; omega))) ?_
    refine aw_reg ?_
    refine rs_ld_pa rfl rfl rfl rfl (Nat.le_of_ble_eq_true rfl) rfl ?_
    refine rs_fa_p rfl rfl ?_
    refine rs_ld_pa rfl rfl rfl rfl (Nat.le_of_ble_eq_true rfl) rfl ?_
    refine rs_callo [(5000000, .glob 0 idn)] rfl rfl (tcA hpm hsb hb2) (.cons (hv_same rfl) (.cons (hv_same rfl) (.nil))) (.cons rfl (.nil)) rfl rfl rfl ?_
    refine rs_mv rfl rfl ?_
    refine rs_ext rfl rfl rfl ?_
    refine rs_ext rfl rfl rfl ?_
    refine rs_fa_p rfl rfl ?_
    refine rs_st rfl rfl rfl rfl rfl rfl rfl (Nat.le_of_ble_eq_true rfl) rfl rfl ?_
    refine rs_mv rfl rfl ?_
    refine rs_nil fun _ => ?_
    refine th_n ?_
    refine aw_seq ?_
    refine aw_reg ?_
    refine rs_mv rfl rfl ?_
    refine rs_nil fun _ => ?_
    refine th_n ?_
    refine aw_cutw (F0 := [(7, .bool true), (8, .ptr 8 0 0), (10, .ptr 10 0 0), (11, .ptr 11 0 0), (12, .bool true), (13, .bool true), (14, .bool true)]) (H0 := [(5000000, .glob 0 idn), (8, .cells 28 11 [cM m] true), (10, .cells 37 13 [cT p ++ [iv s.x, iv s.y, iv s.z]] true), (11, .cells 28 11 [cM (turnM p s m)] true)]) ?_ ?_
    · skip
      refine aw_seq ?_
      refine aw_weak (F0 := [(7, .bool true), (8, .ptr 8 0 0), (10, .ptr 10 0 0), (11, .ptr 11 0 0), (12, .bool true), (13, .bool true), (14, .bool true)]) (H0 := [(5000000, .glob 0 idn), (8, .cells 28 11 [cM m] true), (10, .cells 37 13 [cT p ++ [iv s.x, iv s.y, iv s.z]] true), (11, .cells 28 11 [cM ⟨m.kind, (turnV p s m.fr), (turnV p s m.to), m.co, m.feed⟩] true)]) (weak_to (.cons rfl (rc_same rfl (.inl rfl)) (.cons rfl (rc_same rfl (.inl rfl)) (.cons rfl (rc_same rfl (.inl rfl)) (.cons rfl (rc_same rfl (.inl rfl)) (.cons rfl (rc_same rfl (.inl rfl)) (.cons rfl (rc_same rfl (.inl rfl)) (.cons rfl (rc_same rfl (.inl rfl)) (.nil)))))))) (.keep (rfl) rfl (.keep (rfl) rfl (.keep (rfl) rfl (.keep (rfl) rfl (.nil))))) ((fun i hi => by simp [keysOf] at hi ⊢; omega))) ?_
      refine aw_reg ?_
      refine rs_fa_p rfl rfl ?_
      refine rs_ld_p rfl rfl rfl rfl rfl ?_
      refine rs_eql rfl rfl rfl ?_
      refine rs_nil fun _ => ?_
      refine th_n ?_
      refine aw_cond rfl (fun h71 => ?_) (fun h71 => ?_)
      · replace h71 := of_decide_eq_true h71
        refine aw_reg ?_
        refine rs_ld_pa rfl rfl rfl rfl (Nat.le_of_ble_eq_true rfl) rfl ?_
        refine rs_fa_p rfl rfl ?_
        refine rs_ld_pa rfl rfl rfl rfl (Nat.le_of_ble_eq_true rfl) rfl ?_
        refine rs_callo [(5000000, .glob 0 idn)] rfl rfl (tcA hpm hsb hb3) (.cons (hv_same rfl) (.cons (hv_same rfl) (.nil))) (.cons rfl (.nil)) rfl rfl rfl ?_
        refine rs_mv rfl rfl ?_
        refine rs_ext rfl rfl rfl ?_
        refine rs_ext rfl rfl rfl ?_
        refine rs_fa_p rfl rfl ?_
        refine rs_st rfl rfl rfl rfl rfl rfl rfl (Nat.le_of_ble_eq_true rfl) rfl rfl ?_
        refine rs_mv rfl rfl ?_
        refine rs_nil fun _ => ?_
        exact ⟨rfl, weak_to (.cons rfl (rc_same rfl (.inl rfl)) (.cons rfl (rc_same rfl (.inl rfl)) (.cons rfl (rc_same rfl (.inl rfl)) (.cons rfl (rc_same rfl (.inl rfl)) (.cons rfl (rc_same rfl (.inl rfl)) (.cons rfl (rc_same rfl (.inl rfl)) (.cons rfl (rc_same rfl (.inl rfl)) (.nil)))))))) (.keep (rfl) rfl (.keep (rfl) rfl (.keep (rfl) rfl (.keep ((by first | (rw [turnM_t h71]; rfl) | (rw [turnM_f h71]; rfl))) rfl (.nil))))) ((fun i hi => by simp [keysOf] at hi ⊢; omega))⟩
      · replace h71 := of_decide_eq_false h71
        refine aw_skip ?_
        exact ⟨rfl, weak_to (.cons rfl (rc_same rfl (.inl rfl)) (.cons rfl (rc_same rfl (.inl rfl)) (.cons rfl (rc_same rfl (.inl rfl)) (.cons rfl (rc_same rfl (.inl rfl)) (.cons rfl (rc_same rfl (.inl rfl)) (.cons rfl (rc_same rfl (.inl rfl)) (.cons rfl (rc_same rfl (.inl rfl)) (.nil)))))))) (.keep (rfl) rfl (.keep (rfl) rfl (.keep (rfl) rfl (.keep ((by first | (rw [turnM_t h71]; rfl) | (rw [turnM_f h71]; rfl))) rfl (.nil))))) ((fun i hi => by simp [keysOf] at hi ⊢; omega))⟩
    · skip
      refine aw_seq ?_
      refine aw_reg ?_
      refine rs_ld_pa rfl rfl rfl rfl (Nat.le_of_ble_eq_true rfl) rfl ?_
      refine rs_calln [] rfl rfl (h25) (.cons (hv_same rfl) (.nil)) rfl ?_
      refine rs_mv rfl rfl ?_
      refine rs_ext rfl rfl rfl ?_
      refine rs_ext rfl rfl rfl ?_
      refine rs_mv rfl rfl ?_
      refine rs_mv rfl rfl ?_
      refine rs_nil fun _ => ?_
      refine th_n ?_
      refine aw_seq ?_
      refine aw_reg ?_
      refine rs_ld_pa rfl rfl rfl rfl (Nat.le_of_ble_eq_true rfl) rfl ?_
      refine rs_calln [] rfl rfl (h25n) (.cons (hv_same rfl) (.nil)) rfl ?_
      refine rs_mv rfl rfl ?_
      refine rs_ext rfl rfl rfl ?_
      refine rs_ext rfl rfl rfl ?_
      refine rs_mv rfl rfl ?_
      refine rs_mv rfl rfl ?_
      refine rs_nil fun _ => ?_
      refine th_n ?_
      refine aw_seq ?_
      refine aw_seq ?_
      refine aw_reg ?_
      refine rs_mv rfl rfl ?_
      refine rs_not rfl rfl ?_
      refine rs_mv rfl rfl ?_
      refine rs_mv rfl rfl ?_
      refine rs_not rfl rfl ?_
      refine rs_pick rfl rfl rfl ?_
      refine rs_mv rfl rfl ?_
      refine rs_mv rfl rfl ?_
      refine rs_not rfl rfl ?_
      refine rs_pick rfl rfl rfl ?_
      refine rs_mv rfl rfl ?_
      refine rs_mv rfl rfl ?_
      refine rs_not rfl rfl ?_
      refine rs_pick rfl rfl rfl ?_
      refine rs_mv rfl rfl ?_
      refine rs_mv rfl rfl ?_
      refine rs_not rfl rfl ?_
      refine rs_pick rfl rfl rfl ?_
      refine rs_mv rfl rfl ?_
      refine rs_mv rfl rfl ?_
      refine rs_len_m rfl rfl ?_
      refine rs_mv rfl rfl ?_
      refine rs_len_m rfl rfl ?_
      refine rs_cmp_f rfl rfl rfl rfl (fun h => h (by rw [List.length_map])) ?_
      refine rs_pick rfl rfl rfl ?_
      refine rs_nil fun _ => ?_
      refine th_n ?_
      refine aw_cond rfl (fun h => by cases h) (fun _ => ?_)
      refine aw_skip ?_
      refine th_n ?_
      refine aw_seq ?_
      refine aw_seq ?_
      refine aw_reg ?_
      refine rs_mv rfl rfl ?_
      refine rs_len_m rfl rfl ?_
      refine rs_mv rfl rfl ?_
      refine rs_nil fun _ => ?_
      refine th_n ?_
      refine aw_block ?_
      refine aw_fam (α := Nat) (fun j => (pathS m).length - j) (fun j => [(7, .bool true), (10, .ptr 10 0 0), (15, .rs 3 ((pathS m).map cV)), (17, .rs 3 (((pathS m).map (turnV p s)).map cV)), (116, iv ((pathS m).length : Int)), (117, iv (((j) : Nat) : Int))]) (fun j => [(5000000, .glob 0 idn), (10, .cells 37 13 [cT p ++ [iv s.x, iv s.y, iv s.z]] true)]) (fun j => j ≤ (pathS m).length) 0 (by omega)
        (weak_to (.cons rfl (rc_same rfl (.inl rfl)) (.cons rfl (rc_same rfl (.inl rfl)) (.cons rfl (rc_same rfl (.inl rfl)) (.cons rfl (rc_same rfl (.inl rfl)) (.cons rfl (rc_same rfl (.inl rfl)) (.cons rfl (rc_same rfl (.inl rfl)) (.nil))))))) (.keep (rfl) rfl (.keep (rfl) rfl (.nil))) ((fun i hi => by simp [keysOf] at hi ⊢; omega))) ?_
      intro j hj
      refine aw_seq ?_
      refine aw_reg ?_
      refine rs_lss rfl rfl rfl ?_
      refine rs_nil fun _ => ?_
      refine th_n ?_
      refine aw_seq ?_
      refine aw_cond rfl (fun h118 => ?_) (fun h118 => ?_)
      · replace h118 := of_decide_eq_true h118
        refine aw_skip ?_
        refine th_n ?_
        refine aw_seq ?_
        refine aw_block ?_
        refine aw_seq ?_
        refine aw_reg ?_
        refine rs_mv rfl rfl ?_
        refine rs_mv rfl rfl ?_
        refine rs_nil fun _ => ?_
        refine th_n ?_
        refine aw_seq ?_
        refine aw_draw hmix ?_
        refine rs_ld_pa rfl rfl rfl rfl (Nat.le_of_ble_eq_true rfl) rfl ?_
        refine rs_mv rfl rfl ?_
        refine rs_mv rfl rfl ?_
        obtain ⟨v, hv, hvm⟩ := at_some (L := pathS m) (k := j) (by omega)
        have hvb := path_in hck hb1 hb2 hvm
        have hv2 : ((pathS m).map (turnV p s))[j]? = some (turnV p s v) := by rw [List.getElem?_map, hv]; rfl
        refine rs_ix_g (f := cV) (y := v) rfl rfl rfl (by omega) hv ?_
        refine rs_ld_ra rfl rfl (Nat.le_of_ble_eq_true rfl) rfl ?_
        refine rs_callo [(5000000, .glob 0 idn)] rfl rfl (tcA hpm hsb hvb) (.cons (hv_same rfl) (.cons (hv_same rfl) (.nil))) (.cons rfl (.nil)) rfl rfl rfl ?_
        refine rs_mv rfl rfl ?_
        refine rs_ext rfl rfl rfl ?_
        refine rs_ext rfl rfl rfl ?_
        refine rs_alloc rfl rfl rfl ?_
        refine rs_st rfl rfl rfl rfl rfl rfl rfl (Nat.le_of_ble_eq_true rfl) rfl rfl ?_
        refine rs_mv rfl rfl ?_
        refine rs_nil ⟨by kernel_rfl, fun _ => ?_⟩
        refine th_n ?_
        refine aw_seq ?_
        refine aw_draw hmix ?_
        refine rs_mv rfl rfl ?_
        refine rs_not rfl rfl ?_
        refine rs_mv rfl rfl ?_
        refine rs_ld_pa rfl rfl rfl rfl (Nat.le_of_ble_eq_true rfl) rfl ?_
        refine rs_mv rfl rfl ?_
        refine rs_mv rfl rfl ?_
        refine rs_ix_g (f := cV) (y := turnV p s v) rfl rfl rfl (by omega) hv2 ?_
        refine rs_ld_ra rfl rfl (Nat.le_of_ble_eq_true rfl) rfl ?_
        refine rs_aeq (b := false) [(turnV p s v).x, (turnV p s v).y, (turnV p s v).z] [(turnV p s v).x, (turnV p s v).y, (turnV p s v).z] rfl rfl rfl rfl rfl rfl rfl (by simp) ?_
        refine rs_pick rfl rfl rfl ?_
        refine rs_nil ⟨by kernel_rfl, fun _ => ?_⟩
        refine th_n ?_
        refine aw_cond rfl (fun h => by cases h) (fun _ => ?_)
        refine aw_skip ?_
        refine in_n ?_
        refine th_n ?_
        refine aw_reg ?_
        refine rs_add rfl rfl rfl (by omega) ?_
        refine rs_mv rfl rfl ?_
        refine rs_nil fun _ => ?_
        refine th_n ?_
        exact ⟨j + 1, by omega, by omega, weak_to (.cons rfl (rc_same rfl (.inl rfl)) (.cons rfl (rc_same rfl (.inl rfl)) (.cons rfl (rc_same rfl (.inl rfl)) (.cons rfl (rc_same rfl (.inl rfl)) (.cons rfl (rc_same rfl (.inl rfl)) (.cons rfl (rc_same rfl (.inl rfl)) (.nil))))))) (.keep (rfl) rfl (.keep (rfl) rfl (.nil))) ((fun i hi => by simp [keysOf] at hi ⊢; omega))⟩
      · replace h118 := of_decide_eq_false h118
        refine aw_exit ?_
        refine th_e ?_
        refine th_e ?_
        refine in_hit ?_
        refine th_n ?_
        refine aw_seq ?_
        refine aw_reg ?_
        refine rs_mv rfl rfl ?_
        refine rs_mv rfl rfl ?_
        refine rs_ld_pa rfl rfl rfl rfl (Nat.le_of_ble_eq_true rfl) rfl ?_
        refine rs_calln [] rfl rfl (tc9 (rM p) (ok_turn hpm) s (hsb.mono (by decide))) (.cons (hv_same rfl) (.nil)) rfl ?_
        refine rs_pick rfl rfl rfl ?_
        refine rs_mv rfl rfl ?_
        refine rs_nil fun _ => ?_
        refine th_n ?_
        refine aw_ret ?_
        exact ret_own rfl (rc_same rfl (.inl rfl)) (.keep (rfl) rfl (.nil)) (.dead rfl rfl .nil)

end Go.Proofs.YteommcdafifckaaDoor

/-! From MoveTurned's contract, which reads one package variable, to its row: what the condition on the variable gives, and the argument's readings. -/
namespace Go.Proofs.YteommcdafifckaaDoor
open Go.RowKit Go.WideShapes Go.ChangeShapes Go.ChangeAt
set_option maxRecDepth 100000

theorem own_knob : ownKnob Tryd.prog.godebug = none := by kernel_rfl
theorem laid_out : laidOutB Tryd.prog = true := by kernel_rfl
abbrev laidL : List (String × DataW Unit) := [("collet/turn.identity", Rows.laid_collet_turn_identity)]

theorem door_met (os : Os) (args : Array Value) : laidMetH Tryd.prog laidL ((World.doorLaid Tryd.prog 400 os).forCall (fun _ _ => 0) ⟨#[], args, []⟩).memory :=
  laidMetH_of_parts3 (fuel := 8) (laidMet_of_run' 8 (by kernel_rfl) (by kernel_rfl)) (by kernel_rfl) (by kernel_rfl)

/-- What the condition gives: the variable's cells. -/
theorem of_laid {W : World} (h : laidMetH Tryd.prog laidL W) : CR W (Sall W) (.rp idn) (.pointer (some ⟨0, 0, none⟩)) := by
  rw [MakeChecks.laidMetH_plain _ _ _ (by kernel_rfl)] at h
  obtain ⟨ps, ⟨g0, t0, cs0, f0, p0, q0, hg0, ht0, hv0, hd0, _⟩, _, _⟩ := h
  obtain rfl := Option.some.inj ((show Tryd.prog.globalNamed "collet/turn.identity" = some 0 by kernel_rfl).symm.trans hg0)
  obtain rfl := Option.some.inj ((show (Tryd.prog.globals[0]?).map (·.type) = some 67 by kernel_rfl).symm.trans ht0)
  obtain ⟨_, hl, hc⟩ := trod_av f0 (.arr 3 (.arr 3 (.int .i64))) 67 cs0.toList (Rows.laid_collet_turn_identity, p0) (show okSh Tryd.prog (.arr 3 (.arr 3 (.int .i64))) 67 = true by kernel_rfl) (fun n hn => by
    have : DataW.weights Tryd.prog 67 (Rows.laid_collet_turn_identity : DataW Unit) = [] := by kernel_rfl
    rw [this] at hn; cases hn) hd0
  have hcell : ∀ (o : Nat) (v : AV), idn[o]? = some v → ∃ c, W.cell? ⟨0, o, none⟩ = some c ∧ c.oneCell' = true ∧ CR W (Sall W) v c := fun o v hv => by
    obtain ⟨c, h1, h2, h3⟩ := hc.2 o v hv
    refine ⟨c, ?_, h2, h3⟩
    rw [World.var?_cell hg0 hv0 o]
    simpa using h1
  refine .rp idn 0 0 (fun o => (W.cell? ⟨0, o, none⟩).getD undef) ?_ (fun o v hv => ?_) (fun o v hv => ?_)
  · obtain ⟨c, h1, _⟩ := hcell 0 (iv 1) rfl
    exact W.block_lt_of_cell? _ h1
  · obtain ⟨c, h1, h2, _⟩ := hcell o v hv
    rw [Nat.zero_add, h1]; exact ⟨rfl, h2⟩
  · obtain ⟨c, h1, _, h3⟩ := hcell o v hv
    rw [h1]; exact h3

def rhoG : Rho := fun i => if i = 5000000 then some (none, 0, 0) else none
theorem hrf_g {w : World} (h : CR w (Sall w) (.rp idn) (.pointer (some ⟨0, 0, none⟩))) : HRF w (Sall w) rhoG (get [(5000000, .glob 0 idn)]) := by
  refine ⟨fun _ h => h, fun i hi => ?_, ⟨fun i o _ ho => ?_, fun i j oi oj b z z' c c' _ _ _ hi _ hl => ?_⟩⟩
  · simp only [get] at hi
    split at hi
    · cases hi
    · rename_i hne; exact if_neg fun e => hne e.symm
  · simp only [get] at ho
    split at ho
    · rename_i e; subst e
      injection ho with ho; subst ho
      exact ⟨none, 0, 0, rfl, h⟩
    · cases ho
  · simp only [get] at hi
    split at hi
    · injection hi with hi; subst hi; cases hl
    · cases hi
theorem fc_rowG {f : FuncId} {args : List AV} {al : Bool} (h : FC Tryd.prog f args [(5000000, .glob 0 idn)] (.bool true) [(5000000, .glob 0 idn)] al) {w : World} {cargs : Array Value} (hg : CR w (Sall w) (.rp idn) (.pointer (some ⟨0, 0, none⟩)))
    (ha : VRs w (Sall w) rhoG args cargs) : Calls Tryd.prog f cargs w fun e w' => e = .returned (.bool true) ∧ Below w.heap.size w w' :=
  (h w (Sall w) rhoG cargs (hrf_g hg) ha).mono fun e w' ⟨cv, S', ρ', he, hv, _, hk, _⟩ => by
    have hc := hv.bool_inv
    subst hc
    refine ⟨he, hk.os, hk.tape, hk.output, hk.size, fun k hlt => hk.block k hlt ?_⟩
    rintro ⟨i, ob, z, cap, _, h0, hl, _⟩
    simp only [get] at h0
    split at h0
    · injection h0 with h0; subst h0; cases hl
    · cases h0

theorem rd_i {H : Type} (d : DataW H) (h : Gd (.int .i64) d) : ∃ n : Int, True ∧ avD (.int .i64) d = ci n := by
  obtain ⟨n, _, e⟩ := rd_int d h
  exact ⟨n, trivial, e⟩
theorem rd_u8 {H : Type} (d : DataW H) (h : Gd (.int .u8) d) : ∃ n : Int, (0 ≤ n ∧ n < 256) ∧ avD (.int .u8) d = cu8 n := by
  obtain ⟨n, hw, e⟩ := rd_int d h
  have := bounds_u8 hw
  exact ⟨n, by omega, e⟩
end Go.Proofs.YteommcdafifckaaDoor
namespace Go.Proofs.YteommcdafifckaaDoor
open Go.RowKit Go.WideShapes Go.ChangeShapes Go.ChangeAt
set_option maxRecDepth 100000

abbrev shs3 : List Sh := [.sl 1 (.int .i64), .int .u8, .arr 3 (.int .u8)]

theorem args3 {H : Type} (ds : List (DataW H)) (hg : GdFs shs3 ds) : FC Tryd.prog 3 (argAs shs3 ds) [(5000000, .glob 0 idn)] (.bool true) [(5000000, .glob 0 idn)] true := by
  simp only [shs3, GdFs] at hg
  obtain ⟨d0, _, rfl, g0, d1, _, rfl, g1, d2, _, rfl, g2, rfl⟩ := hg
  obtain ⟨l, ⟨hl_l, _⟩, e0⟩ := rd_sl _ ci rd_i d0 g0
  obtain ⟨wh, hwh, e1⟩ := rd_u8 d1 g1
  obtain ⟨xs, ⟨hx, hr⟩, e2⟩ := rd_arr _ cu8 rd_u8 d2 g2
  match xs, hx with
  | [b0, b1, b2], _ =>
    have e : argAs shs3 [d0, d1, d2] = [ints l, .int .u8 wh, .agg [.int .u8 b0, .int .u8 b1, .int .u8 b2]] := by
      simp only [argAs, shs3, argA]
      rw [e0, e1, e2]
      rfl
    rw [e]
    exact tc3 l (Nat.le_trans hl_l (by decide)) wh hwh b0 b1 b2 (hr b0 (by simp)) (hr b1 (by simp)) (hr b2 (by simp))

theorem lifted3 (os : Os) (started : os.Started) (H : Type) (enc : TypeId × Value → H) :
    ReturnsInHanded {} Tryd.checked os 3 .any (fun w args => (Rows.moveTurnedSpec.pre enc Tryd.prog Tryd.f3 [] false w args ∧ laidMetH Tryd.prog laidL w) ∧ sizedMet enc Tryd.prog Tryd.f3 (OpenSpec.ofChange Rows.moveTurnedSpec) false w args)
      (Rows.moveTurnedSpec.post enc Tryd.prog Tryd.f3 false true false false) := by
  refine returnsInHanded_of_change_and (C := Tryd.checked) (X := fun w _ => laidMetH Tryd.prog laidL w) (fun _ _ _ hh h => h.of_heap hh) own_knob started (by kernel_rfl) Tryd.func3
    (ChangeSpec.witness_shaped (enc := enc) (C := Tryd.checked) (os := os) (X := fun w _ => laidMetH Tryd.prog laidL w) false (World.doorLaid Tryd.prog 400 os) #[.slice none 0 0, .int .u8 0, .agg #[.int .u8 0, .int .u8 0, .int .u8 0]] 8 rfl (World.shaped_of_RefB (by kernel_rfl) (by kernel_rfl)) (by kernel_rfl) (by kernel_rfl) (by kernel_rfl) (door_met os _)) ?_
  intro W base args ds gs before hval hW _ hsz hL _
  have hW' := hW
  obtain ⟨p, q, hA, hV, rfl, hfz, hnd⟩ := hW
  obtain ⟨rfl, rfl⟩ := trodVars_none hV
  have hw : ∀ n ∈ DataW.weightsEach Tryd.prog Tryd.f3.params.toList ds, n ≤ 140737488351232 := fun n hn => by
    have hvt : Rows.moveTurnedSpec.plain.varTypes Tryd.checked.prog = [] := by
      show DataSpec.varTypes Tryd.checked.prog Rows.moveTurnedSpec.plain = []
      unfold DataSpec.varTypes
      simp [ChangeSpec.plain, Rows.moveTurnedSpec]
    rw [hvt] at hsz
    simp only [List.append_nil] at hsz
    have := List.all_eq_true.1 hsz n hn
    exact (of_decide_eq_true this : n ≤ reachBytes)
  have hss : okShs Tryd.prog shs3 Tryd.f3.params.toList = true := by kernel_rfl
  obtain ⟨g1, g2, g3⟩ := args_av (r := .any) (base := base) shs3 Tryd.f3.params.toList args.toList ds p hss hA (fun j t v h1 h2 => hval j t v (by simpa using h1) (by simpa using h2)) hw
  have hc := args3 ds g1
  have hvr : VRs W (Sall W) rhoG (argAs shs3 ds) args := ⟨by simpa using g2.symm, fun j v hv => .cl (by
    have hj : j < args.size := by
      have := (List.getElem?_eq_some_iff.1 hv).1
      rw [g2] at this; simpa using this
    have e : args.getD j undef = args[j] := by simp [hj]
    rw [e]
    exact g3 j v _ hv (by simp [hj]))⟩
  refine (fc_rowG hc (of_laid hL) hvr).mono fun e W' ⟨he, bel⟩ => ?_
  subst he
  have hln : ds.length = shs3.length := gd_len shs3 ds g1
  have hsp : Rows.moveTurnedSpec.fn H ds = { results := [.lit (.bool true)], args := ds, vars := [] } := by
    match ds, hln with
    | [_, _, _], _ => rfl
  have hps : DataW.TrodAll enc Tryd.prog W' W.heap.size (fun _ => false) false Tryd.f3.resultTypes.toList ((Value.bool true).resultList Tryd.f3.resultTypes.size) [.lit (.bool true)] [] := by
    rw [show Tryd.f3.resultTypes = #[4] from rfl]
    exact trodAll_mk1 (shut_bool Tryd.underlying4 _)
  refine ⟨_, rfl, ds, [], _, [], p, [], hW', ?_, ?_, ?_, bel.frame _, fun h => by cases h⟩
  · rw [List.append_nil, hsp]; exact hps
  · rw [List.append_nil, hsp]; exact args_back laid_out bel shs3 _ _ _ _ hss hA
  · rw [List.append_nil, hsp]; rfl

theorem row_holds : Rows.MoveTurnedSaid :=
  OpenClaim.holds_of_wide 3 Tryd.f3 rfl rfl rfl rfl rfl rfl rfl ⟨rfl, rfl, rfl, rfl, rfl⟩ rfl rfl rfl rfl rfl (by kernel_rfl) Tryd.func3 (by kernel_rfl)
    (of_decide_eq_true (by kernel_rfl)) (by unfold Func.isWrapper; first | (rw [if_pos (by decide +kernel)]; kernel_rfl) | (rw [if_neg (by decide +kernel)]; exact ⟨rfl, rfl⟩))
    (fun os started H enc _ => lifted3 os started H enc)

theorem moveTurned_holds : Rows.MoveTurnedCardSaid :=
  Claim7.holds_tied_plain_at .later [] [.wider] true (true, "859a89410a7fc34ad79e11494c0d9e46188fe1a6f4f834809f5781b1e8a6fd22") false
    row_holds (fun _ h => by cases h) (by kernel_rfl) (fun _ h => by cases h) moveTurned_row_tie rfl ⟨rfl, rfl⟩ (by kernel_rfl) rfl
    (fun f fn hf hfn => by
      obtain rfl : f = 3 := Option.some.inj ((show Tryd.prog.funcNamed "collet/colletlaw15.MoveTurned" = some 3 by kernel_rfl).symm.trans hf) |>.symm
      obtain rfl : fn = Tryd.f3 := (Option.some.inj (Tryd.func3.symm.trans hfn)).symm
      exact ⟨by kernel_rfl, fun j t ht => by
        rw [Tryd.params3] at ht
        have hm := Array.mem_of_getElem? ht
        have hall : (Tryd.f3.params.toList.all fun u => !Tryd.prog.wantsStandIn u) = true := by kernel_rfl
        rw [Tryd.params3] at hall
        exact (show Tryd.prog.wantsStandIn t = false by simpa using List.all_eq_true.1 hall t (by simpa using hm))⟩)
    (by kernel_rfl)
#print axioms moveTurned_holds
end Go.Proofs.YteommcdafifckaaDoor
