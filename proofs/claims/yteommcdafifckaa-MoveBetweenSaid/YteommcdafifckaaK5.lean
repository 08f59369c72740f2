/-
  Parts of the proof: M6 P1 P2 P3 M7h M9h M10p M10l.
-/
import Derived.Test.YteommcdafifckaaK4
set_option linter.unusedVariables false

/-! Walks: M6. -/
namespace Go.Proofs.Yteommcdafifckaa
open Go.RowKit

def axL : List V3 := [⟨1, 0, 0⟩, ⟨0, 1, 0⟩, ⟨0, 0, 1⟩, ⟨-1, 0, 0⟩, ⟨0, -1, 0⟩, ⟨0, 0, -1⟩]
def axS (n : Int) : V3 := (axL[(modS n 6).toNat]?).getD ⟨0, 0, 0⟩
theorem ax_at (n : Int) : axL[0 + (modS n 6).toNat]? = some (axS n) := by
  have h := modS_range n 6 (by omega)
  unfold axS
  generalize modS n 6 = t at h
  obtain rfl | rfl | rfl | rfl | rfl | rfl : t = 0 ∨ t = 1 ∨ t = 2 ∨ t = 3 ∨ t = 4 ∨ t = 5 := by omega
  all_goals rfl
theorem ax_mem (n : Int) : axS n ∈ axL := List.mem_of_getElem? (ax_at n)
theorem ax_bd (n : Int) : Bd 1 (axS n) := by
  have h := ax_mem n
  unfold axL at h
  simp only [List.mem_cons, List.not_mem_nil, or_false] at h
  rcases h with h | h | h | h | h | h <;> rw [h] <;> exact ⟨by decide, by decide, by decide⟩
def rS (t : Int) : Int := (([1, 2, 5, 5, 10] : List Int)[t.toNat]?).getD 0
theorem r_at (t : Int) (h0 : 0 ≤ t) (h1 : t < 5) : ([ci 1, ci 2, ci 5, ci 5, ci 10] : List (List AV))[0 + t.toNat]? = some (ci (rS t)) := by
  obtain rfl | rfl | rfl | rfl | rfl : t = 0 ∨ t = 1 ∨ t = 2 ∨ t = 3 ∨ t = 4 := by omega
  all_goals rfl
theorem r_range (t : Int) (h0 : 0 ≤ t) (h1 : t < 5) : rS t = 1 ∨ rS t = 2 ∨ rS t = 5 ∨ rS t = 10 := by
  obtain rfl | rfl | rfl | rfl | rfl : t = 0 ∨ t = 1 ∨ t = 2 ∨ t = 3 ∨ t = 4 := by omega
  all_goals decide
abbrev q1 (l : List Int) : Nat := nextA l 0
abbrev q2 (l : List Int) : Nat := vecA l (q1 l)
abbrev q3 (l : List Int) : Nat := nextA l (q2 l)
abbrev q4 (l : List Int) : Nat := nextA l (q3 l)
abbrev q5 (l : List Int) : Nat := nextA l (q4 l)
abbrev q6 (l : List Int) : Nat := nextA l (q5 l)
abbrev mK (l : List Int) : Int := nextV l 0 4
abbrev mF (l : List Int) : V3 := vecV l (q1 l) 8
abbrev mG (l : List Int) : Int := 1 + nextV l (q2 l) 100
abbrev mA (l : List Int) : Int := nextV l (q3 l) 6
abbrev mB (l : List Int) : Int := nextV l (q3 l) 6 + 1 + nextV l (q4 l) 2 + 3 * nextV l (q5 l) 2
abbrev mR (l : List Int) : Int := rS (nextV l (q6 l) 5)
abbrev mC (l : List Int) : V3 := plus (mF l) (axS (mA l)) (mR l)
abbrev mT (l : List Int) : V3 := plus (mC l) (axS (mB l)) (mR l)
abbrev mV (l : List Int) : V3 := vecV l (q3 l) 3
abbrev q4v (l : List Int) : Nat := vecA l (q3 l)
def mBy (l : List Int) : V3 := if mV l = ⟨0, 0, 0⟩ then axS (nextV l (q4v l) 6) else mV l
def q5v (l : List Int) : Nat := if mV l = ⟨0, 0, 0⟩ then nextA l (q4v l) else q4v l
def mN (l : List Int) : Int := 1 + nextV l (q5v l) 3
def mTo (l : List Int) : V3 := plus (mF l) (mBy l) (mN l)
def madeS (l : List Int) : Mv := if mK l = 3 then ⟨3, mF l, mT l, mC l, mG l⟩ else if mK l = 0 then ⟨1, mF l, mTo l, ⟨0, 0, 0⟩, 0⟩ else ⟨2, mF l, mTo l, ⟨0, 0, 0⟩, mG l⟩
def nS (a b : Int) : Int := (([b, 0, 1, 100, 101, -1, 24, 25, -25] : List Int)[(modS a 9).toNat]?).getD 0
theorem n_at (a b : Int) : ([ci b, ci 0, ci 1, ci 100, ci 101, ci (-1), ci 24, ci 25, ci (-25)] : List (List AV))[0 + (modS a 9).toNat]? = some (ci (nS a b)) := by
  have h := modS_range a 9 (by omega)
  unfold nS
  generalize modS a 9 = t at h
  obtain rfl | rfl | rfl | rfl | rfl | rfl | rfl | rfl | rfl : t = 0 ∨ t = 1 ∨ t = 2 ∨ t = 3 ∨ t = 4 ∨ t = 5 ∨ t = 6 ∨ t = 7 ∨ t = 8 := by omega
  all_goals rfl
def oddS (m : Mv) (a b c : Int) : Mv :=
  if modS a 8 = 0 then { m with kind := nS b c } else if modS a 8 = 1 then { m with feed := nS b c } else if modS a 8 = 2 then { m with fr := ⟨nS b c, m.fr.y, m.fr.z⟩ } else if modS a 8 = 3 then { m with to := ⟨m.to.x, nS b c, m.to.z⟩ }
  else if modS a 8 = 4 then { m with co := ⟨m.co.x, m.co.y, nS b c⟩ } else if modS a 8 = 5 then { m with to := m.fr } else if modS a 8 = 6 then { m with kind := 1 + modS m.kind 3 } else { m with co := ⟨0, 0, 0⟩ }

def mc38 : MC := (.seq (.reg [⟨(some 2), (.alloc 26 3 [(.int .i64 0), (.int .i64 0), (.int .i64 0)]), none, []⟩] false) (.seq (.reg [⟨(some 4), (.build [(.int .i64 0), (.int .i64 0), (.int .i64 0)] [(0, (1, (.c (.int .i64 1))))]), none, []⟩, ⟨(some 5), (.build [(.int .i64 0), (.int .i64 0), (.int .i64 0)] [(1, (1, (.c (.int .i64 1))))]), none, []⟩, ⟨(some 6), (.build [(.int .i64 0), (.int .i64 0), (.int .i64 0)] [(2, (1, (.c (.int .i64 1))))]), none, []⟩, ⟨(some 7), (.build [(.int .i64 0), (.int .i64 0), (.int .i64 0)] [(0, (1, (.c (.int .i64 (-1)))))]), none, []⟩, ⟨(some 8), (.build [(.int .i64 0), (.int .i64 0), (.int .i64 0)] [(1, (1, (.c (.int .i64 (-1)))))]), none, []⟩, ⟨(some 9), (.build [(.int .i64 0), (.int .i64 0), (.int .i64 0)] [(2, (1, (.c (.int .i64 (-1)))))]), none, []⟩, ⟨(some 10), (.bslice 26 3 [(.int .i64 0), (.int .i64 0), (.int .i64 0)] 6 [(0, (.t 4)), (1, (.t 5)), (2, (.t 6)), (3, (.t 7)), (4, (.t 8)), (5, (.t 9))]), none, [0, 1, 2, 3, 4, 5]⟩, ⟨(some 3), (.mv (.t 10)), none, [6, 0, 1, 2, 3, 4, 5, 6]⟩] false) (.seq (.reg [⟨(some 11), (.mv (.t 3)), none, []⟩, ⟨(some 12), (.mv (.t 0)), none, []⟩, ⟨(some 13), (.call 16 [(.t 12), (.c (.int .i64 6))]), none, [1]⟩, ⟨(some 14), (.ixsl 3 (.t 11) (.t 13)), none, [0, 2]⟩, ⟨(some 15), (.ld true 3 (.t 14)), none, [3]⟩, ⟨none, (.st 3 (.t 2) (.t 15)), none, [4, 2, 0, 1, 2, 3, 4]⟩] false) .ret)))
theorem mcOk38 : (match Try.f38.body with | some c => compC Try.prog 16 c | none => none) = some mc38 := by kernel_rfl

theorem fc38 (n : Int) : FC Try.prog 38 [iv n] [] (aV (axS n)) [] false := by
  have hw := modS_range n 6 (by omega)
  refine fc_run (nt := 16) Try.func38 rfl rfl mcOk38 (Nat.le_of_ble_eq_true rfl) ?_
  delta mc38
  refine aw_seq ?_
  refine aw_reg ?_
  refine rs_alloc rfl rfl rfl ?_
  refine rs_nil fun _ => ?_
  refine th_n ?_
  refine aw_seq ?_
  refine aw_reg ?_
  refine rs_build rfl rfl ?_
  refine rs_build rfl rfl ?_
  refine rs_build rfl rfl ?_
  refine rs_build rfl rfl ?_
  refine rs_build rfl rfl ?_
  refine rs_build rfl rfl ?_
  refine rs_bslice rfl rfl rfl rfl rfl rfl ?_
  refine rs_mv rfl rfl ?_
  refine rs_nil fun _ => ?_
  refine th_n ?_
  refine aw_seq ?_
  refine aw_reg ?_
  refine rs_mv rfl rfl ?_
  refine rs_mv rfl rfl ?_
  refine rs_calln [] rfl rfl (fc16 n 6 (by omega)) (.cons (hv_same rfl) (.cons (hv_same rfl) (.nil))) rfl ?_
  refine rs_ix_s rfl rfl rfl rfl hw.1 hw.2 ?_
  refine rs_ld_ga (f := cV) (xs := axL) (y := axS n) rfl rfl rfl (ax_at n) (Nat.le_of_ble_eq_true rfl) rfl ?_
  refine rs_st rfl rfl rfl rfl rfl rfl rfl (Nat.le_of_ble_eq_true rfl) rfl rfl ?_
  refine rs_nil fun _ => ?_
  refine th_n ?_
  refine aw_ret ?_
  exact ret_pure rfl rfl rfl (.inr rfl)

def mc10 : MC := (.seq (.reg [⟨(some 2), (.alloc 28 11 [(.int .i64 0), (.int .i64 0), (.int .i64 0), (.int .i64 0), (.int .i64 0), (.int .i64 0), (.int .i64 0), (.int .i64 0), (.int .i64 0), (.int .i64 0), (.int .i64 0)]), none, []⟩] false) (.seq (.reg [⟨(some 10), (.mv (.t 0)), none, []⟩, ⟨(some 11), (.build [.nils, (.int .i64 0)] [(0, (1, (.t 10)))]), none, [0]⟩, ⟨(some 12), (.box 68 2 (.t 11)), none, [1]⟩, ⟨(some 3), (.mv (.t 12)), none, [2, 0, 1, 2]⟩] false) (.seq (.reg [⟨(some 13), (.mv (.t 3)), none, []⟩, ⟨(some 14), (.call 35 [(.t 13), (.c (.int .i64 4))]), none, [0]⟩, ⟨(some 4), (.mv (.t 14)), none, [1, 1, 0, 1]⟩] false) (.seq (.reg [⟨(some 15), (.mv (.t 3)), none, []⟩, ⟨(some 16), (.call 36 [(.t 15), (.c (.int .i64 8))]), none, [0]⟩, ⟨(some 17), (.mv (.t 3)), none, []⟩, ⟨(some 18), (.call 35 [(.t 17), (.c (.int .i64 100))]), none, [2, 1]⟩, ⟨(some 19), (.bin .add (.c (.int .i64 1)) (.t 18)), none, [3]⟩, ⟨(some 20), (.build [(.int .i64 0), (.int .i64 0), (.int .i64 0), (.int .i64 0), (.int .i64 0), (.int .i64 0), (.int .i64 0), (.int .i64 0), (.int .i64 0), (.int .i64 0), (.int .i64 0)] [(0, (1, (.c (.int .i64 2)))), (1, (3, (.t 16))), (10, (1, (.t 19)))]), none, [1, 4]⟩, ⟨(some 5), (.alloc 28 11 [(.int .i64 0), (.int .i64 0), (.int .i64 0), (.int .i64 0), (.int .i64 0), (.int .i64 0), (.int .i64 0), (.int .i64 0), (.int .i64 0), (.int .i64 0), (.int .i64 0)]), none, []⟩, ⟨none, (.st 11 (.t 5) (.t 20)), none, [6, 5, 3, 0, 1, 2, 3, 4, 5, 6]⟩] false) (.seq (.seq (.reg [⟨(some 21), (.mv (.t 4)), none, []⟩, ⟨(some 22), (.bin .eql (.t 21) (.c (.int .i64 3))), none, [0]⟩] false) (.cond (.t 22) (.seq (.reg [⟨(some 23), (.mv (.t 3)), none, []⟩, ⟨(some 24), (.call 35 [(.t 23), (.c (.int .i64 6))]), none, [0]⟩, ⟨(some 6), (.mv (.t 24)), none, [1, 1, 0, 1]⟩] false) (.seq (.reg [⟨(some 25), (.mv (.t 6)), none, []⟩, ⟨(some 26), (.bin .add (.t 25) (.c (.int .i64 1))), none, [0]⟩, ⟨(some 27), (.mv (.t 3)), none, []⟩, ⟨(some 28), (.call 35 [(.t 27), (.c (.int .i64 2))]), none, [2]⟩, ⟨(some 29), (.bin .add (.t 26) (.t 28)), none, [1, 3]⟩, ⟨(some 30), (.mv (.t 3)), none, []⟩, ⟨(some 31), (.call 35 [(.t 30), (.c (.int .i64 2))]), none, [5, 3]⟩, ⟨(some 32), (.bin .mul (.c (.int .i64 3)) (.t 31)), none, [6]⟩, ⟨(some 33), (.bin .add (.t 29) (.t 32)), none, [4, 7]⟩, ⟨(some 7), (.mv (.t 33)), none, [8, 6, 0, 1, 2, 3, 4, 5, 6, 7, 8]⟩] false) (.seq (.reg [⟨(some 34), (.bslice 3 1 [(.int .i64 0)] 5 [(0, (.c (.int .i64 1))), (1, (.c (.int .i64 2))), (2, (.c (.int .i64 5))), (3, (.c (.int .i64 5))), (4, (.c (.int .i64 10)))]), none, []⟩, ⟨(some 35), (.mv (.t 3)), none, []⟩, ⟨(some 36), (.call 35 [(.t 35), (.c (.int .i64 5))]), none, [1]⟩, ⟨(some 37), (.ixsl 1 (.t 34) (.t 36)), none, [0, 2]⟩, ⟨(some 38), (.ld false 1 (.t 37)), none, [3]⟩, ⟨(some 8), (.mv (.t 38)), none, [4, 2, 0, 1, 2, 3, 4]⟩] false) (.seq (.reg [⟨(some 39), (.fa 0 (.t 5)), none, []⟩, ⟨none, (.st 1 (.t 39) (.c (.int .i64 3))), none, [0]⟩] false) (.seq (.reg [⟨(some 40), (.fa 1 (.t 5)), none, []⟩, ⟨(some 41), (.ld true 3 (.t 40)), none, [0]⟩, ⟨(some 42), (.mv (.t 6)), none, []⟩, ⟨(some 43), (.call 38 [(.t 42)]), none, [2]⟩, ⟨(some 44), (.mv (.t 8)), none, []⟩, ⟨(some 45), (.call 37 [(.t 41), (.t 43), (.t 44)]), none, [1, 3, 4, 3]⟩, ⟨(some 46), (.fa 7 (.t 5)), none, [0, 1, 2, 3, 4, 5]⟩, ⟨none, (.st 3 (.t 46) (.t 45)), none, [6, 5, 5, 0, 1, 2, 3, 4, 5]⟩] true) (.seq (.reg [⟨(some 47), (.fa 7 (.t 5)), none, []⟩, ⟨(some 48), (.ld true 3 (.t 47)), none, [0]⟩, ⟨(some 49), (.mv (.t 7)), none, []⟩, ⟨(some 50), (.call 38 [(.t 49)]), none, [2]⟩, ⟨(some 51), (.mv (.t 8)), none, []⟩, ⟨(some 52), (.call 37 [(.t 48), (.t 50), (.t 51)]), none, [1, 3, 4, 3]⟩, ⟨(some 53), (.fa 4 (.t 5)), none, [0, 1, 2, 3, 4, 5]⟩, ⟨none, (.st 3 (.t 53) (.t 52)), none, [6, 5, 5, 0, 1, 2, 3, 4, 5]⟩] true) (.seq (.reg [⟨(some 54), (.ld true 11 (.t 5)), none, []⟩, ⟨none, (.st 11 (.t 2) (.t 54)), none, [0, 0]⟩] false) .ret))))))) .skip)) (.seq (.reg [⟨(some 55), (.mv (.t 3)), none, []⟩, ⟨(some 56), (.call 36 [(.t 55), (.c (.int .i64 3))]), none, [0]⟩, ⟨(some 9), (.alloc 26 3 [(.int .i64 0), (.int .i64 0), (.int .i64 0)]), none, []⟩, ⟨none, (.st 3 (.t 9) (.t 56)), none, [2, 1, 1, 0, 1, 2]⟩] false) (.seq (.seq (.reg [⟨(some 57), (.ld true 3 (.t 9)), none, []⟩, ⟨(some 58), (.build [(.int .i64 0), (.int .i64 0), (.int .i64 0)] []), none, []⟩, ⟨(some 59), (.aeq false 3 (.t 57) (.t 58)), none, [0, 1]⟩] false) (.cond (.t 59) (.reg [⟨(some 60), (.mv (.t 3)), none, []⟩, ⟨(some 61), (.call 35 [(.t 60), (.c (.int .i64 6))]), none, [0]⟩, ⟨(some 62), (.call 38 [(.t 61)]), none, [1, 1]⟩, ⟨none, (.st 3 (.t 9) (.t 62)), none, [2, 2, 0, 1, 2]⟩] false) .skip)) (.seq (.reg [⟨(some 63), (.fa 1 (.t 5)), none, []⟩, ⟨(some 64), (.ld true 3 (.t 63)), none, [0]⟩, ⟨(some 65), (.ld true 3 (.t 9)), none, []⟩, ⟨(some 66), (.mv (.t 3)), none, []⟩, ⟨(some 67), (.call 35 [(.t 66), (.c (.int .i64 3))]), none, [3]⟩, ⟨(some 68), (.bin .add (.c (.int .i64 1)) (.t 67)), none, [4]⟩, ⟨(some 69), (.call 37 [(.t 64), (.t 65), (.t 68)]), none, [1, 2, 5, 4]⟩, ⟨(some 70), (.fa 4 (.t 5)), none, [0, 1, 2, 3, 4, 5, 6]⟩, ⟨none, (.st 3 (.t 70) (.t 69)), none, [7, 6, 6, 0, 1, 2, 3, 4, 5, 6]⟩] true) (.seq (.seq (.reg [⟨(some 71), (.mv (.t 4)), none, []⟩, ⟨(some 72), (.bin .eql (.t 71) (.c (.int .i64 0))), none, [0]⟩] false) (.cond (.t 72) (.seq (.reg [⟨(some 73), (.fa 0 (.t 5)), none, []⟩, ⟨none, (.st 1 (.t 73) (.c (.int .i64 1))), none, [0]⟩] false) (.reg [⟨(some 74), (.fa 10 (.t 5)), none, []⟩, ⟨none, (.st 1 (.t 74) (.c (.int .i64 0))), none, [0]⟩] false)) .skip)) (.seq (.reg [⟨(some 75), (.ld true 11 (.t 5)), none, []⟩, ⟨none, (.st 11 (.t 2) (.t 75)), none, [0, 0]⟩] false) .ret))))))))))
theorem mcOk10 : (match Try.f10.body with | some c => compC Try.prog 76 c | none => none) = some mc10 := by kernel_rfl

set_option maxHeartbeats 1600000 in
theorem fc10 (l : List Int) (hl : l.length ≤ 4611686018427387904) : FC Try.prog 10 [ints l] [] (aM (madeS l)) [] false := by
  have n0 := nextV_range l 0 4 (by omega)
  have n2 := nextV_range l (q2 l) 100 (by omega)
  have n3 := nextV_range l (q3 l) 6 (by omega)
  have n4 := nextV_range l (q4 l) 2 (by omega)
  have n5 := nextV_range l (q5 l) 2 (by omega)
  have n6 := nextV_range l (q6 l) 5 (by omega)
  have hbf := vecV_bd l (q1 l) 8 (by omega)
  have hbv := vecV_bd l (q3 l) 3 (by omega)
  have hr : mR l = 1 ∨ mR l = 2 ∨ mR l = 5 ∨ mR l = 10 := r_range (nextV l (q6 l) 5) n6.1 n6.2
  refine fc_run (nt := 76) Try.func10 rfl rfl mcOk10 (Nat.le_of_ble_eq_true rfl) ?_
  delta mc10
  refine aw_seq ?_
  refine aw_reg ?_
  refine rs_alloc rfl rfl rfl ?_
  refine rs_nil fun _ => ?_
  refine th_n ?_
  refine aw_seq ?_
  refine aw_reg ?_
  refine rs_mv rfl rfl ?_
  refine rs_build rfl rfl ?_
  refine rs_box rfl rfl rfl rfl rfl rfl ?_
  refine rs_mv rfl rfl ?_
  refine rs_nil fun _ => ?_
  refine th_n ?_
  refine aw_seq ?_
  refine aw_reg ?_
  refine rs_mv rfl rfl ?_
  refine rs_callo [(12, drawOb 68 l (0))] rfl rfl (fc35 12 68 l (0) 4 (by omega) hl) (.cons (hv_same rfl) (.cons (hv_same rfl) (.nil))) (.cons rfl (.nil)) rfl rfl rfl ?_
  refine rs_mv rfl rfl ?_
  refine rs_nil fun _ => ?_
  refine th_n ?_
  refine aw_seq ?_
  refine aw_reg ?_
  refine rs_mv rfl rfl ?_
  refine rs_callo [(12, drawOb 68 l (q1 l))] rfl rfl (fc36 12 68 l (q1 l) 8 (by omega) hl) (.cons (hv_same rfl) (.cons (hv_same rfl) (.nil))) (.cons rfl (.nil)) rfl rfl rfl ?_
  refine rs_mv rfl rfl ?_
  refine rs_callo [(12, drawOb 68 l (q2 l))] rfl rfl (fc35 12 68 l (q2 l) 100 (by omega) hl) (.cons (hv_same rfl) (.cons (hv_same rfl) (.nil))) (.cons rfl (.nil)) rfl rfl rfl ?_
  first | refine rs_add rfl rfl rfl (by omega) ?_ | refine rs_addw rfl rfl rfl rfl ?_
  refine rs_build rfl rfl ?_
  refine rs_alloc rfl rfl rfl ?_
  refine rs_st rfl rfl rfl rfl rfl rfl rfl (Nat.le_of_ble_eq_true rfl) rfl rfl ?_
  refine rs_nil fun _ => ?_
  refine th_n ?_
  refine aw_seq ?_
  refine aw_seq ?_
  refine aw_reg ?_
  refine rs_mv rfl rfl ?_
  refine rs_eql rfl rfl rfl ?_
  refine rs_nil fun _ => ?_
  refine th_n ?_
  refine aw_cond rfl (fun h22 => ?_) (fun h22 => ?_)
  · first | replace h22 := of_decide_eq_true h22 | skip
    refine aw_seq ?_
    refine aw_reg ?_
    refine rs_mv rfl rfl ?_
    refine rs_callo [(12, drawOb 68 l (q3 l))] rfl rfl (fc35 12 68 l (q3 l) 6 (by omega) hl) (.cons (hv_same rfl) (.cons (hv_same rfl) (.nil))) (.cons rfl (.nil)) rfl rfl rfl ?_
    refine rs_mv rfl rfl ?_
    refine rs_nil fun _ => ?_
    refine th_n ?_
    refine aw_seq ?_
    refine aw_reg ?_
    refine rs_mv rfl rfl ?_
    first | refine rs_add rfl rfl rfl (by omega) ?_ | refine rs_addw rfl rfl rfl rfl ?_
    refine rs_mv rfl rfl ?_
    refine rs_callo [(12, drawOb 68 l (q4 l))] rfl rfl (fc35 12 68 l (q4 l) 2 (by omega) hl) (.cons (hv_same rfl) (.cons (hv_same rfl) (.nil))) (.cons rfl (.nil)) rfl rfl rfl ?_
    first | refine rs_add rfl rfl rfl (by omega) ?_ | refine rs_addw rfl rfl rfl rfl ?_
    refine rs_mv rfl rfl ?_
    refine rs_callo [(12, drawOb 68 l (q5 l))] rfl rfl (fc35 12 68 l (q5 l) 2 (by omega) hl) (.cons (hv_same rfl) (.cons (hv_same rfl) (.nil))) (.cons rfl (.nil)) rfl rfl rfl ?_
    refine rs_mulw rfl rfl rfl (W_eq (by omega)) ?_
    first | refine rs_add rfl rfl rfl (by omega) ?_ | refine rs_addw rfl rfl rfl rfl ?_
    refine rs_mv rfl rfl ?_
    refine rs_nil fun _ => ?_
    refine th_n ?_
    refine aw_seq ?_
    refine aw_reg ?_
    refine rs_bslice rfl rfl rfl rfl rfl rfl ?_
    refine rs_mv rfl rfl ?_
    refine rs_callo [(12, drawOb 68 l (q6 l))] rfl rfl (fc35 12 68 l (q6 l) 5 (by omega) hl) (.cons (hv_same rfl) (.cons (hv_same rfl) (.nil))) (.cons rfl (.nil)) rfl rfl rfl ?_
    refine rs_ix_s rfl rfl rfl rfl n6.1 n6.2 ?_
    refine rs_ld_p rfl rfl rfl (el := ci (mR l)) (r_at _ n6.1 n6.2) rfl ?_
    refine rs_mv rfl rfl ?_
    refine rs_nil fun _ => ?_
    refine th_n ?_
    refine aw_seq ?_
    refine aw_reg ?_
    first | refine rs_fa_p rfl rfl ?_ | refine rs_fa_r rfl rfl rfl ?_
    refine rs_st rfl rfl rfl rfl rfl rfl rfl (Nat.le_of_ble_eq_true rfl) rfl rfl ?_
    refine rs_nil fun _ => ?_
    refine th_n ?_
    refine aw_seq ?_
    refine aw_weak (F0 := [(2, .ptr 2 0 0), (5, .ptr 5 0 0), (6, iv (mA l)), (7, iv (mB l)), (8, iv (mR l))]) (H0 := [(2, .cells 28 11 [cM ⟨0, ⟨0, 0, 0⟩, ⟨0, 0, 0⟩, ⟨0, 0, 0⟩, 0⟩] true), (5, .cells 28 11 [cM ⟨3, mF l, ⟨0, 0, 0⟩, ⟨0, 0, 0⟩, mG l⟩] true)]) (weak_to (.cons rfl (rc_same rfl (.inl rfl)) (.cons rfl (rc_same rfl (.inl rfl)) (.cons rfl (rc_same rfl (.inl rfl)) (.cons rfl (rc_same rfl (.inl rfl)) (.cons rfl (rc_same rfl (.inl rfl)) (.nil)))))) (.keep (rfl) rfl (.keep (rfl) rfl (.nil))) (fun i h => by cases h)) ?_
    refine aw_draw hmix ?_
    first | refine rs_fa_p rfl rfl ?_ | refine rs_fa_r rfl rfl rfl ?_
    first | refine rs_ld_pa rfl rfl rfl rfl (Nat.le_of_ble_eq_true rfl) rfl ?_ | refine rs_ld_ra rfl rfl (Nat.le_of_ble_eq_true rfl) rfl ?_ | refine rs_ld_ma rfl rfl rfl (by omega) (Nat.le_of_ble_eq_true rfl) rfl ?_
    refine rs_mv rfl rfl ?_
    refine rs_calln [] rfl rfl (fc38 (mA l)) (.cons (hv_same rfl) (.nil)) rfl ?_
    refine rs_mv rfl rfl ?_
    refine rs_calln [] rfl rfl (fc37s hbf.big (ax_bd _).big (by omega)) (.cons (hv_same rfl) (.cons (hv_same rfl) (.cons (hv_same rfl) (.nil)))) rfl ?_
    first | refine rs_fa_p rfl rfl ?_ | refine rs_fa_r rfl rfl rfl ?_
    refine rs_st rfl rfl rfl rfl rfl rfl rfl (Nat.le_of_ble_eq_true rfl) rfl rfl ?_
    refine rs_nil ⟨by kernel_rfl, fun _ => ?_⟩
    refine th_n ?_
    refine aw_seq ?_
    refine aw_weak (F0 := [(2, .ptr 2 0 0), (5, .ptr 5 0 0), (7, iv (mB l)), (8, iv (mR l))]) (H0 := [(2, .cells 28 11 [cM ⟨0, ⟨0, 0, 0⟩, ⟨0, 0, 0⟩, ⟨0, 0, 0⟩, 0⟩] true), (5, .cells 28 11 [cM ⟨3, mF l, ⟨0, 0, 0⟩, mC l, mG l⟩] true)]) (weak_to (.cons rfl (rc_same rfl (.inl rfl)) (.cons rfl (rc_same rfl (.inl rfl)) (.cons rfl (rc_same rfl (.inl rfl)) (.cons rfl (rc_same rfl (.inl rfl)) (.nil))))) (.keep (rfl) rfl (.keep (rfl) rfl (.nil))) (fun i h => by cases h)) ?_
    refine aw_draw hmix ?_
    first | refine rs_fa_p rfl rfl ?_ | refine rs_fa_r rfl rfl rfl ?_
    first | refine rs_ld_pa rfl rfl rfl rfl (Nat.le_of_ble_eq_true rfl) rfl ?_ | refine rs_ld_ra rfl rfl (Nat.le_of_ble_eq_true rfl) rfl ?_ | refine rs_ld_ma rfl rfl rfl (by omega) (Nat.le_of_ble_eq_true rfl) rfl ?_
    refine rs_mv rfl rfl ?_
    refine rs_calln [] rfl rfl (fc38 (mB l)) (.cons (hv_same rfl) (.nil)) rfl ?_
    refine rs_mv rfl rfl ?_
    refine rs_calln [] rfl rfl (fc37s (Bd.plus hbf (ax_bd _) (q := 10) (by omega)).big (ax_bd _).big (by omega)) (.cons (hv_same rfl) (.cons (hv_same rfl) (.cons (hv_same rfl) (.nil)))) rfl ?_
    first | refine rs_fa_p rfl rfl ?_ | refine rs_fa_r rfl rfl rfl ?_
    refine rs_st rfl rfl rfl rfl rfl rfl rfl (Nat.le_of_ble_eq_true rfl) rfl rfl ?_
    refine rs_nil ⟨by kernel_rfl, fun _ => ?_⟩
    refine th_n ?_
    refine aw_seq ?_
    refine aw_weak (F0 := [(2, .ptr 2 0 0), (5, .ptr 5 0 0)]) (H0 := [(2, .cells 28 11 [cM ⟨0, ⟨0, 0, 0⟩, ⟨0, 0, 0⟩, ⟨0, 0, 0⟩, 0⟩] true), (5, .cells 28 11 [cM ⟨3, mF l, mT l, mC l, mG l⟩] true)]) (weak_to (.cons rfl (rc_same rfl (.inl rfl)) (.cons rfl (rc_same rfl (.inl rfl)) (.nil))) (.keep (rfl) rfl (.keep (rfl) rfl (.nil))) (fun i h => by cases h)) ?_
    refine aw_reg ?_
    first | refine rs_ld_pa rfl rfl rfl rfl (Nat.le_of_ble_eq_true rfl) rfl ?_ | refine rs_ld_ra rfl rfl (Nat.le_of_ble_eq_true rfl) rfl ?_ | refine rs_ld_ma rfl rfl rfl (by omega) (Nat.le_of_ble_eq_true rfl) rfl ?_
    refine rs_st rfl rfl rfl rfl rfl rfl rfl (Nat.le_of_ble_eq_true rfl) rfl rfl ?_
    refine rs_nil fun _ => ?_
    refine th_n ?_
    refine aw_ret ?_
    refine th_r ?_
    first
      | (rw [show madeS l = ⟨3, mF l, mT l, mC l, mG l⟩ from if_pos h22]; exact ret_pure rfl rfl rfl (.inr rfl))
      | (rw [show madeS l = ⟨1, mF l, mTo l, ⟨0, 0, 0⟩, 0⟩ by unfold madeS; rw [if_neg h22, if_pos h72]]; exact ret_pure rfl rfl rfl (.inr rfl))
      | (rw [show madeS l = ⟨2, mF l, mTo l, ⟨0, 0, 0⟩, mG l⟩ by unfold madeS; rw [if_neg h22, if_neg h72]]; exact ret_pure rfl rfl rfl (.inr rfl))
  · first | replace h22 := of_decide_eq_false h22 | skip
    refine aw_skip ?_
    refine th_n ?_
    refine aw_seq ?_
    refine aw_reg ?_
    refine rs_mv rfl rfl ?_
    refine rs_callo [(12, drawOb 68 l (q3 l))] rfl rfl (fc36 12 68 l (q3 l) 3 (by omega) hl) (.cons (hv_same rfl) (.cons (hv_same rfl) (.nil))) (.cons rfl (.nil)) rfl rfl rfl ?_
    refine rs_alloc rfl rfl rfl ?_
    refine rs_st rfl rfl rfl rfl rfl rfl rfl (Nat.le_of_ble_eq_true rfl) rfl rfl ?_
    refine rs_nil fun _ => ?_
    refine th_n ?_
    refine aw_seq ?_
    refine aw_seq ?_
    refine aw_reg ?_
    first | refine rs_ld_pa rfl rfl rfl rfl (Nat.le_of_ble_eq_true rfl) rfl ?_ | refine rs_ld_ra rfl rfl (Nat.le_of_ble_eq_true rfl) rfl ?_ | refine rs_ld_ma rfl rfl rfl (by omega) (Nat.le_of_ble_eq_true rfl) rfl ?_
    refine rs_build rfl rfl ?_
    refine rs_aeqv (u := mV l) (v := ⟨0, 0, 0⟩) rfl rfl rfl ?_
    refine rs_nil fun _ => ?_
    refine th_n ?_
    refine aw_cond rfl (fun h59 => ?_) (fun h59 => ?_)
    · first | replace h59 := of_decide_eq_true h59 | skip
      have hz : mV l = ⟨0, 0, 0⟩ := by simpa using h59
      have eb : mBy l = axS (nextV l (q4v l) 6) := if_pos hz
      have eq : q5v l = nextA l (q4v l) := if_pos hz
      have eT : mTo l = plus (mF l) (axS (nextV l (q4v l) 6)) (1 + nextV l (nextA l (q4v l)) 3) := by unfold mTo mN; rw [eb, eq]
      have n7 := nextV_range l (nextA l (q4v l)) 3 (by omega)
      refine aw_reg ?_
      refine rs_mv rfl rfl ?_
      refine rs_callo [(12, drawOb 68 l (q4v l))] rfl rfl (fc35 12 68 l (q4v l) 6 (by omega) hl) (.cons (hv_same rfl) (.cons (hv_same rfl) (.nil))) (.cons rfl (.nil)) rfl rfl rfl ?_
      refine rs_calln [] rfl rfl (fc38 _) (.cons (hv_same rfl) (.nil)) rfl ?_
      refine rs_st rfl rfl rfl rfl rfl rfl rfl (Nat.le_of_ble_eq_true rfl) rfl rfl ?_
      refine rs_nil fun _ => ?_
      refine th_n ?_
      refine aw_seq ?_
      refine aw_draw hmix ?_
      first | refine rs_fa_p rfl rfl ?_ | refine rs_fa_r rfl rfl rfl ?_
      first | refine rs_ld_pa rfl rfl rfl rfl (Nat.le_of_ble_eq_true rfl) rfl ?_ | refine rs_ld_ra rfl rfl (Nat.le_of_ble_eq_true rfl) rfl ?_ | refine rs_ld_ma rfl rfl rfl (by omega) (Nat.le_of_ble_eq_true rfl) rfl ?_
      first | refine rs_ld_pa rfl rfl rfl rfl (Nat.le_of_ble_eq_true rfl) rfl ?_ | refine rs_ld_ra rfl rfl (Nat.le_of_ble_eq_true rfl) rfl ?_ | refine rs_ld_ma rfl rfl rfl (by omega) (Nat.le_of_ble_eq_true rfl) rfl ?_
      refine rs_mv rfl rfl ?_
      refine rs_callo [(12, drawOb 68 l (nextA l (q4v l)))] rfl rfl (fc35 12 68 l (nextA l (q4v l)) 3 (by omega) hl) (.cons (hv_same rfl) (.cons (hv_same rfl) (.nil))) (.cons rfl (.nil)) rfl rfl rfl ?_
      first | refine rs_add rfl rfl rfl (by omega) ?_ | refine rs_addw rfl rfl rfl rfl ?_
      refine rs_calln [] rfl rfl (fc37s hbf.big (ax_bd _).big (by omega)) (.cons (hv_same rfl) (.cons (hv_same rfl) (.cons (hv_same rfl) (.nil)))) rfl ?_
      first | refine rs_fa_p rfl rfl ?_ | refine rs_fa_r rfl rfl rfl ?_
      refine rs_st rfl rfl rfl rfl rfl rfl rfl (Nat.le_of_ble_eq_true rfl) rfl rfl ?_
      refine rs_nil ⟨by kernel_rfl, fun _ => ?_⟩
      refine th_n ?_
      refine aw_seq ?_
      refine aw_seq ?_
      refine aw_weak (F0 := [(2, .ptr 2 0 0), (5, .ptr 5 0 0), (4, iv (mK l))]) (H0 := [(2, .cells 28 11 [cM ⟨0, ⟨0, 0, 0⟩, ⟨0, 0, 0⟩, ⟨0, 0, 0⟩, 0⟩] true), (5, .cells 28 11 [cM ⟨2, mF l, mTo l, ⟨0, 0, 0⟩, mG l⟩] true)]) (weak_to (.cons rfl (rc_same rfl (.inl rfl)) (.cons rfl (rc_same rfl (.inl rfl)) (.cons rfl (rc_same rfl (.inl rfl)) (.nil)))) (.keep (rfl) rfl (.keep ((by rw [eT]; rfl)) rfl (.nil))) (fun i h => by cases h)) ?_
      refine aw_reg ?_
      refine rs_mv rfl rfl ?_
      refine rs_eql rfl rfl rfl ?_
      refine rs_nil fun _ => ?_
      refine th_n ?_
      refine aw_cond rfl (fun h72 => ?_) (fun h72 => ?_)
      · first | replace h72 := of_decide_eq_true h72 | skip
        refine aw_seq ?_
        refine aw_reg ?_
        first | refine rs_fa_p rfl rfl ?_ | refine rs_fa_r rfl rfl rfl ?_
        refine rs_st rfl rfl rfl rfl rfl rfl rfl (Nat.le_of_ble_eq_true rfl) rfl rfl ?_
        refine rs_nil fun _ => ?_
        refine th_n ?_
        refine aw_reg ?_
        first | refine rs_fa_p rfl rfl ?_ | refine rs_fa_r rfl rfl rfl ?_
        refine rs_st rfl rfl rfl rfl rfl rfl rfl (Nat.le_of_ble_eq_true rfl) rfl rfl ?_
        refine rs_nil fun _ => ?_
        refine th_n ?_
        refine aw_seq ?_
        refine aw_reg ?_
        first | refine rs_ld_pa rfl rfl rfl rfl (Nat.le_of_ble_eq_true rfl) rfl ?_ | refine rs_ld_ra rfl rfl (Nat.le_of_ble_eq_true rfl) rfl ?_ | refine rs_ld_ma rfl rfl rfl (by omega) (Nat.le_of_ble_eq_true rfl) rfl ?_
        refine rs_st rfl rfl rfl rfl rfl rfl rfl (Nat.le_of_ble_eq_true rfl) rfl rfl ?_
        refine rs_nil fun _ => ?_
        refine th_n ?_
        refine aw_ret ?_
        first
          | (rw [show madeS l = ⟨3, mF l, mT l, mC l, mG l⟩ from if_pos h22]; exact ret_pure rfl rfl rfl (.inr rfl))
          | (rw [show madeS l = ⟨1, mF l, mTo l, ⟨0, 0, 0⟩, 0⟩ by unfold madeS; rw [if_neg h22, if_pos h72]]; exact ret_pure rfl rfl rfl (.inr rfl))
          | (rw [show madeS l = ⟨2, mF l, mTo l, ⟨0, 0, 0⟩, mG l⟩ by unfold madeS; rw [if_neg h22, if_neg h72]]; exact ret_pure rfl rfl rfl (.inr rfl))
      · first | replace h72 := of_decide_eq_false h72 | skip
        refine aw_skip ?_
        refine th_n ?_
        refine aw_seq ?_
        refine aw_reg ?_
        first | refine rs_ld_pa rfl rfl rfl rfl (Nat.le_of_ble_eq_true rfl) rfl ?_ | refine rs_ld_ra rfl rfl (Nat.le_of_ble_eq_true rfl) rfl ?_ | refine rs_ld_ma rfl rfl rfl (by omega) (Nat.le_of_ble_eq_true rfl) rfl ?_
        refine rs_st rfl rfl rfl rfl rfl rfl rfl (Nat.le_of_ble_eq_true rfl) rfl rfl ?_
        refine rs_nil fun _ => ?_
        refine th_n ?_
        refine aw_ret ?_
        first
          | (rw [show madeS l = ⟨3, mF l, mT l, mC l, mG l⟩ from if_pos h22]; exact ret_pure rfl rfl rfl (.inr rfl))
          | (rw [show madeS l = ⟨1, mF l, mTo l, ⟨0, 0, 0⟩, 0⟩ by unfold madeS; rw [if_neg h22, if_pos h72]]; exact ret_pure rfl rfl rfl (.inr rfl))
          | (rw [show madeS l = ⟨2, mF l, mTo l, ⟨0, 0, 0⟩, mG l⟩ by unfold madeS; rw [if_neg h22, if_neg h72]]; exact ret_pure rfl rfl rfl (.inr rfl))
    · first | replace h59 := of_decide_eq_false h59 | skip
      have hz : ¬ mV l = ⟨0, 0, 0⟩ := by simpa using h59
      have eb : mBy l = mV l := if_neg hz
      have eq : q5v l = q4v l := if_neg hz
      have eT : mTo l = plus (mF l) (mV l) (1 + nextV l (q4v l) 3) := by unfold mTo mN; rw [eb, eq]
      have n7 := nextV_range l (q4v l) 3 (by omega)
      refine aw_skip ?_
      refine th_n ?_
      refine aw_seq ?_
      refine aw_draw hmix ?_
      first | refine rs_fa_p rfl rfl ?_ | refine rs_fa_r rfl rfl rfl ?_
      first | refine rs_ld_pa rfl rfl rfl rfl (Nat.le_of_ble_eq_true rfl) rfl ?_ | refine rs_ld_ra rfl rfl (Nat.le_of_ble_eq_true rfl) rfl ?_ | refine rs_ld_ma rfl rfl rfl (by omega) (Nat.le_of_ble_eq_true rfl) rfl ?_
      first | refine rs_ld_pa rfl rfl rfl rfl (Nat.le_of_ble_eq_true rfl) rfl ?_ | refine rs_ld_ra rfl rfl (Nat.le_of_ble_eq_true rfl) rfl ?_ | refine rs_ld_ma rfl rfl rfl (by omega) (Nat.le_of_ble_eq_true rfl) rfl ?_
      refine rs_mv rfl rfl ?_
      refine rs_callo [(12, drawOb 68 l (q4v l))] rfl rfl (fc35 12 68 l (q4v l) 3 (by omega) hl) (.cons (hv_same rfl) (.cons (hv_same rfl) (.nil))) (.cons rfl (.nil)) rfl rfl rfl ?_
      first | refine rs_add rfl rfl rfl (by omega) ?_ | refine rs_addw rfl rfl rfl rfl ?_
      refine rs_calln [] rfl rfl (fc37s hbf.big hbv.big (by omega)) (.cons (hv_same rfl) (.cons (hv_same rfl) (.cons (hv_same rfl) (.nil)))) rfl ?_
      first | refine rs_fa_p rfl rfl ?_ | refine rs_fa_r rfl rfl rfl ?_
      refine rs_st rfl rfl rfl rfl rfl rfl rfl (Nat.le_of_ble_eq_true rfl) rfl rfl ?_
      refine rs_nil ⟨by kernel_rfl, fun _ => ?_⟩
      refine th_n ?_
      refine aw_seq ?_
      refine aw_seq ?_
      refine aw_weak (F0 := [(2, .ptr 2 0 0), (5, .ptr 5 0 0), (4, iv (mK l))]) (H0 := [(2, .cells 28 11 [cM ⟨0, ⟨0, 0, 0⟩, ⟨0, 0, 0⟩, ⟨0, 0, 0⟩, 0⟩] true), (5, .cells 28 11 [cM ⟨2, mF l, mTo l, ⟨0, 0, 0⟩, mG l⟩] true)]) (weak_to (.cons rfl (rc_same rfl (.inl rfl)) (.cons rfl (rc_same rfl (.inl rfl)) (.cons rfl (rc_same rfl (.inl rfl)) (.nil)))) (.keep (rfl) rfl (.keep ((by rw [eT]; rfl)) rfl (.nil))) (fun i h => by cases h)) ?_
      refine aw_reg ?_
      refine rs_mv rfl rfl ?_
      refine rs_eql rfl rfl rfl ?_
      refine rs_nil fun _ => ?_
      refine th_n ?_
      refine aw_cond rfl (fun h72 => ?_) (fun h72 => ?_)
      · first | replace h72 := of_decide_eq_true h72 | skip
        refine aw_seq ?_
        refine aw_reg ?_
        first | refine rs_fa_p rfl rfl ?_ | refine rs_fa_r rfl rfl rfl ?_
        refine rs_st rfl rfl rfl rfl rfl rfl rfl (Nat.le_of_ble_eq_true rfl) rfl rfl ?_
        refine rs_nil fun _ => ?_
        refine th_n ?_
        refine aw_reg ?_
        first | refine rs_fa_p rfl rfl ?_ | refine rs_fa_r rfl rfl rfl ?_
        refine rs_st rfl rfl rfl rfl rfl rfl rfl (Nat.le_of_ble_eq_true rfl) rfl rfl ?_
        refine rs_nil fun _ => ?_
        refine th_n ?_
        refine aw_seq ?_
        refine aw_reg ?_
        first | refine rs_ld_pa rfl rfl rfl rfl (Nat.le_of_ble_eq_true rfl) rfl ?_ | refine rs_ld_ra rfl rfl (Nat.le_of_ble_eq_true rfl) rfl ?_ | refine rs_ld_ma rfl rfl rfl (by omega) (Nat.le_of_ble_eq_true rfl) rfl ?_
        refine rs_st rfl rfl rfl rfl rfl rfl rfl (Nat.le_of_ble_eq_true rfl) rfl rfl ?_
        refine rs_nil fun _ => ?_
        refine th_n ?_
        refine aw_ret ?_
        first
          | (rw [show madeS l = ⟨3, mF l, mT l, mC l, mG l⟩ from if_pos h22]; exact ret_pure rfl rfl rfl (.inr rfl))
          | (rw [show madeS l = ⟨1, mF l, mTo l, ⟨0, 0, 0⟩, 0⟩ by unfold madeS; rw [if_neg h22, if_pos h72]]; exact ret_pure rfl rfl rfl (.inr rfl))
          | (rw [show madeS l = ⟨2, mF l, mTo l, ⟨0, 0, 0⟩, mG l⟩ by unfold madeS; rw [if_neg h22, if_neg h72]]; exact ret_pure rfl rfl rfl (.inr rfl))
      · first | replace h72 := of_decide_eq_false h72 | skip
        refine aw_skip ?_
        refine th_n ?_
        refine aw_seq ?_
        refine aw_reg ?_
        first | refine rs_ld_pa rfl rfl rfl rfl (Nat.le_of_ble_eq_true rfl) rfl ?_ | refine rs_ld_ra rfl rfl (Nat.le_of_ble_eq_true rfl) rfl ?_ | refine rs_ld_ma rfl rfl rfl (by omega) (Nat.le_of_ble_eq_true rfl) rfl ?_
        refine rs_st rfl rfl rfl rfl rfl rfl rfl (Nat.le_of_ble_eq_true rfl) rfl rfl ?_
        refine rs_nil fun _ => ?_
        refine th_n ?_
        refine aw_ret ?_
        first
          | (rw [show madeS l = ⟨3, mF l, mT l, mC l, mG l⟩ from if_pos h22]; exact ret_pure rfl rfl rfl (.inr rfl))
          | (rw [show madeS l = ⟨1, mF l, mTo l, ⟨0, 0, 0⟩, 0⟩ by unfold madeS; rw [if_neg h22, if_pos h72]]; exact ret_pure rfl rfl rfl (.inr rfl))
          | (rw [show madeS l = ⟨2, mF l, mTo l, ⟨0, 0, 0⟩, mG l⟩ by unfold madeS; rw [if_neg h22, if_neg h72]]; exact ret_pure rfl rfl rfl (.inr rfl))

theorem odd_0 (m : Mv) (a b c : Int) (h : modS a 8 = 0) : oddS m a b c = { m with kind := nS b c } := by
  unfold oddS; rw [h]; rfl

theorem odd_1 (m : Mv) (a b c : Int) (h : modS a 8 = 1) : oddS m a b c = { m with feed := nS b c } := by
  unfold oddS; rw [h]; rfl

theorem odd_2 (m : Mv) (a b c : Int) (h : modS a 8 = 2) : oddS m a b c = { m with fr := ⟨nS b c, m.fr.y, m.fr.z⟩ } := by
  unfold oddS; rw [h]; rfl

theorem odd_3 (m : Mv) (a b c : Int) (h : modS a 8 = 3) : oddS m a b c = { m with to := ⟨m.to.x, nS b c, m.to.z⟩ } := by
  unfold oddS; rw [h]; rfl

theorem odd_4 (m : Mv) (a b c : Int) (h : modS a 8 = 4) : oddS m a b c = { m with co := ⟨m.co.x, m.co.y, nS b c⟩ } := by
  unfold oddS; rw [h]; rfl

theorem odd_5 (m : Mv) (a b c : Int) (h : modS a 8 = 5) : oddS m a b c = { m with to := m.fr } := by
  unfold oddS; rw [h]; rfl

theorem odd_6 (m : Mv) (a b c : Int) (h : modS a 8 = 6) : oddS m a b c = { m with kind := 1 + modS m.kind 3 } := by
  unfold oddS; rw [h]; rfl

theorem odd_7 (m : Mv) (a b c : Int) (h : modS a 8 = 7) : oddS m a b c = { m with co := ⟨0, 0, 0⟩ } := by
  unfold oddS; rw [h]; rfl

def mc11 : MC := (.seq (.reg [⟨(some 2), (.box 28 11 (.t 0)), none, []⟩, ⟨(some 3), (.box 23 3 (.t 1)), none, []⟩, ⟨(some 4), (.alloc 28 11 [(.int .i64 0), (.int .i64 0), (.int .i64 0), (.int .i64 0), (.int .i64 0), (.int .i64 0), (.int .i64 0), (.int .i64 0), (.int .i64 0), (.int .i64 0), (.int .i64 0)]), none, []⟩] false) (.seq (.reg [⟨(some 6), (.ixarr 3 1 (.t 3) (.c (.int .i64 2))), none, []⟩, ⟨(some 7), (.ld false 1 (.t 6)), none, [0]⟩, ⟨(some 8), (.bslice 3 1 [(.int .i64 0)] 9 [(0, (.t 7)), (1, (.c (.int .i64 0))), (2, (.c (.int .i64 1))), (3, (.c (.int .i64 100))), (4, (.c (.int .i64 101))), (5, (.c (.int .i64 (-1)))), (6, (.c (.int .i64 24))), (7, (.c (.int .i64 25))), (8, (.c (.int .i64 (-25))))]), none, [1]⟩, ⟨(some 9), (.ixarr 3 1 (.t 3) (.c (.int .i64 1))), none, []⟩, ⟨(some 10), (.ld false 1 (.t 9)), none, [3]⟩, ⟨(some 11), (.call 16 [(.t 10), (.c (.int .i64 9))]), none, [4]⟩, ⟨(some 12), (.ixsl 1 (.t 8) (.t 11)), none, [2, 5]⟩, ⟨(some 13), (.ld false 1 (.t 12)), none, [6]⟩, ⟨(some 5), (.mv (.t 13)), none, [7, 5, 0, 1, 2, 3, 4, 5, 6, 7]⟩] true) (.seq (.seq (.reg [⟨(some 14), (.ixarr 3 1 (.t 3) (.c (.int .i64 0))), none, []⟩, ⟨(some 15), (.ld false 1 (.t 14)), none, [0]⟩, ⟨(some 16), (.call 16 [(.t 15), (.c (.int .i64 8))]), none, [1]⟩] false) (.block 0 (.seq (.reg [⟨(some 18), (.bin .eql (.t 16) (.c (.int .i64 0))), none, []⟩, ⟨(some 17), (.mv (.t 18)), none, [0]⟩] false) (.cond (.t 17) (.reg [⟨(some 19), (.mv (.t 5)), none, []⟩, ⟨(some 20), (.fa 0 (.t 2)), none, [0]⟩, ⟨none, (.st 1 (.t 20) (.t 19)), none, [1, 0, 0]⟩] false) (.seq (.reg [⟨(some 22), (.bin .eql (.t 16) (.c (.int .i64 1))), none, []⟩, ⟨(some 21), (.mv (.t 22)), none, [0]⟩] false) (.cond (.t 21) (.reg [⟨(some 23), (.mv (.t 5)), none, []⟩, ⟨(some 24), (.fa 10 (.t 2)), none, [0]⟩, ⟨none, (.st 1 (.t 24) (.t 23)), none, [1, 0, 0]⟩] false) (.seq (.reg [⟨(some 26), (.bin .eql (.t 16) (.c (.int .i64 2))), none, []⟩, ⟨(some 25), (.mv (.t 26)), none, [0]⟩] false) (.cond (.t 25) (.reg [⟨(some 27), (.mv (.t 5)), none, []⟩, ⟨(some 28), (.fa 1 (.t 2)), none, [0]⟩, ⟨(some 29), (.fa 0 (.t 28)), none, [1, 0]⟩, ⟨none, (.st 1 (.t 29) (.t 27)), none, [2, 0, 0]⟩] false) (.seq (.reg [⟨(some 31), (.bin .eql (.t 16) (.c (.int .i64 3))), none, []⟩, ⟨(some 30), (.mv (.t 31)), none, [0]⟩] false) (.cond (.t 30) (.reg [⟨(some 32), (.mv (.t 5)), none, []⟩, ⟨(some 33), (.fa 4 (.t 2)), none, [0]⟩, ⟨(some 34), (.fa 1 (.t 33)), none, [1, 0]⟩, ⟨none, (.st 1 (.t 34) (.t 32)), none, [2, 0, 0]⟩] false) (.seq (.reg [⟨(some 36), (.bin .eql (.t 16) (.c (.int .i64 4))), none, []⟩, ⟨(some 35), (.mv (.t 36)), none, [0]⟩] false) (.cond (.t 35) (.reg [⟨(some 37), (.mv (.t 5)), none, []⟩, ⟨(some 38), (.fa 7 (.t 2)), none, [0]⟩, ⟨(some 39), (.fa 2 (.t 38)), none, [1, 0]⟩, ⟨none, (.st 1 (.t 39) (.t 37)), none, [2, 0, 0]⟩] false) (.seq (.reg [⟨(some 41), (.bin .eql (.t 16) (.c (.int .i64 5))), none, []⟩, ⟨(some 40), (.mv (.t 41)), none, [0]⟩] false) (.cond (.t 40) (.reg [⟨(some 42), (.fa 1 (.t 2)), none, []⟩, ⟨(some 43), (.ld true 3 (.t 42)), none, [0]⟩, ⟨(some 44), (.fa 4 (.t 2)), none, [0, 1]⟩, ⟨none, (.st 3 (.t 44) (.t 43)), none, [2, 1, 0, 1]⟩] false) (.seq (.reg [⟨(some 46), (.bin .eql (.t 16) (.c (.int .i64 6))), none, []⟩, ⟨(some 45), (.mv (.t 46)), none, [0]⟩] false) (.cond (.t 45) (.reg [⟨(some 47), (.fa 0 (.t 2)), none, []⟩, ⟨(some 48), (.ld false 1 (.t 47)), none, [0]⟩, ⟨(some 49), (.call 16 [(.t 48), (.c (.int .i64 3))]), none, [1]⟩, ⟨(some 50), (.bin .add (.c (.int .i64 1)) (.t 49)), none, [2]⟩, ⟨(some 51), (.fa 0 (.t 2)), none, [0, 1, 2, 3]⟩, ⟨none, (.st 1 (.t 51) (.t 50)), none, [4, 3, 2, 0, 1, 2, 3]⟩] false) (.seq (.reg [⟨(some 53), (.bin .eql (.t 16) (.c (.int .i64 7))), none, []⟩, ⟨(some 52), (.mv (.t 53)), none, [0]⟩] false) (.cond (.t 52) (.reg [⟨(some 54), (.build [(.int .i64 0), (.int .i64 0), (.int .i64 0)] []), none, []⟩, ⟨(some 55), (.fa 7 (.t 2)), none, [0]⟩, ⟨none, (.st 3 (.t 55) (.t 54)), none, [1, 0, 0]⟩] false) .skip)))))))))))))))))) (.seq (.reg [⟨(some 56), (.ld true 11 (.t 2)), none, []⟩, ⟨none, (.st 11 (.t 4) (.t 56)), none, [0, 0]⟩] false) .ret))))
theorem mcOk11 : (match Try.f11.body with | some c => compC Try.prog 57 c | none => none) = some mc11 := by kernel_rfl

set_option maxRecDepth 100000 in
theorem fc11 (m : Mv) (a b c : Int) : FC Try.prog 11 [aM m, .agg [iv a, iv b, iv c]] [] (aM (oddS m a b c)) [] false := by
  have hw := modS_range b 9 (by omega)
  have hw8 := modS_range a 8 (by omega)
  have hw3 := modS_range m.kind 3 (by omega)
  refine fc_run (nt := 57) Try.func11 rfl rfl mcOk11 (Nat.le_of_ble_eq_true rfl) ?_
  delta mc11
  refine aw_seq ?_
  refine aw_reg ?_
  refine rs_box rfl rfl rfl rfl rfl rfl ?_
  refine rs_box rfl rfl rfl rfl rfl rfl ?_
  refine rs_alloc rfl rfl rfl ?_
  refine rs_nil fun _ => ?_
  refine th_n ?_
  refine aw_seq ?_
  refine aw_draw hmix ?_
  refine rs_ixarr_p rfl rfl rfl (by decide) (by decide) ?_
  first | refine rs_ld_r rfl rfl rfl ?_ | refine rs_ld_p rfl rfl rfl rfl rfl ?_ | refine rs_ld_m rfl rfl rfl (by omega) rfl ?_
  refine rs_bslice rfl rfl rfl rfl rfl rfl ?_
  refine rs_ixarr_p rfl rfl rfl (by decide) (by decide) ?_
  first | refine rs_ld_r rfl rfl rfl ?_ | refine rs_ld_p rfl rfl rfl rfl rfl ?_ | refine rs_ld_m rfl rfl rfl (by omega) rfl ?_
  refine rs_calln [] rfl rfl (fc16 b 9 (by omega)) (.cons (hv_same rfl) (.cons (hv_same rfl) (.nil))) rfl ?_
  refine rs_ix_s rfl rfl rfl rfl hw.1 hw.2 ?_
  refine rs_ld_p rfl rfl rfl (el := ci (nS b c)) (n_at b c) rfl ?_
  refine rs_mv rfl rfl ?_
  refine rs_nil ⟨by kernel_rfl, fun _ => ?_⟩
  refine th_n ?_
  refine aw_seq ?_
  refine aw_seq ?_
  refine aw_reg ?_
  refine rs_ixarr_p rfl rfl rfl (by decide) (by decide) ?_
  first | refine rs_ld_r rfl rfl rfl ?_ | refine rs_ld_p rfl rfl rfl rfl rfl ?_ | refine rs_ld_m rfl rfl rfl (by omega) rfl ?_
  refine rs_calln [] rfl rfl (fc16 a 8 (by omega)) (.cons (hv_same rfl) (.cons (hv_same rfl) (.nil))) rfl ?_
  refine rs_nil fun _ => ?_
  refine th_n ?_
  refine aw_block ?_
  refine aw_seq ?_
  refine aw_reg ?_
  refine rs_eql rfl rfl rfl ?_
  refine rs_mv rfl rfl ?_
  refine rs_nil fun _ => ?_
  refine th_n ?_
  refine aw_cond rfl (fun h17 => ?_) (fun h17 => ?_)
  · first | replace h17 := of_decide_eq_true h17 | skip
    refine aw_reg ?_
    refine rs_mv rfl rfl ?_
    first | refine rs_fa_p rfl rfl ?_ | refine rs_fa_r rfl rfl rfl ?_
    refine rs_st rfl rfl rfl rfl rfl rfl rfl (Nat.le_of_ble_eq_true rfl) rfl rfl ?_
    refine rs_nil fun _ => ?_
    refine in_n ?_
    refine th_n ?_
    refine aw_seq ?_
    first
      | refine aw_weak (F0 := [(2, .ptr 2 0 0), (4, .ptr 4 0 0)]) (H0 := [(2, .cells 28 11 [cM (oddS m a b c)] true), (4, .cells 28 11 [cM ⟨0, ⟨0, 0, 0⟩, ⟨0, 0, 0⟩, ⟨0, 0, 0⟩, 0⟩] true)]) (weak_to (.cons rfl (rc_same rfl (.inl rfl)) (.cons rfl (rc_same rfl (.inl rfl)) (.nil))) (.keep ((by rw [odd_0 m a b c h17]; rfl)) rfl (.keep (rfl) rfl (.nil))) (fun i h => by cases h)) ?_
      | refine aw_weak (F0 := [(2, .ptr 2 0 0), (4, .ptr 4 0 0)]) (H0 := [(2, .cells 28 11 [cM (oddS m a b c)] true), (4, .cells 28 11 [cM ⟨0, ⟨0, 0, 0⟩, ⟨0, 0, 0⟩, ⟨0, 0, 0⟩, 0⟩] true)]) (weak_to (.cons rfl (rc_same rfl (.inl rfl)) (.cons rfl (rc_same rfl (.inl rfl)) (.nil))) (.keep ((by rw [odd_1 m a b c h21]; rfl)) rfl (.keep (rfl) rfl (.nil))) (fun i h => by cases h)) ?_
      | refine aw_weak (F0 := [(2, .ptr 2 0 0), (4, .ptr 4 0 0)]) (H0 := [(2, .cells 28 11 [cM (oddS m a b c)] true), (4, .cells 28 11 [cM ⟨0, ⟨0, 0, 0⟩, ⟨0, 0, 0⟩, ⟨0, 0, 0⟩, 0⟩] true)]) (weak_to (.cons rfl (rc_same rfl (.inl rfl)) (.cons rfl (rc_same rfl (.inl rfl)) (.nil))) (.keep ((by rw [odd_2 m a b c h25]; rfl)) rfl (.keep (rfl) rfl (.nil))) (fun i h => by cases h)) ?_
      | refine aw_weak (F0 := [(2, .ptr 2 0 0), (4, .ptr 4 0 0)]) (H0 := [(2, .cells 28 11 [cM (oddS m a b c)] true), (4, .cells 28 11 [cM ⟨0, ⟨0, 0, 0⟩, ⟨0, 0, 0⟩, ⟨0, 0, 0⟩, 0⟩] true)]) (weak_to (.cons rfl (rc_same rfl (.inl rfl)) (.cons rfl (rc_same rfl (.inl rfl)) (.nil))) (.keep ((by rw [odd_3 m a b c h30]; rfl)) rfl (.keep (rfl) rfl (.nil))) (fun i h => by cases h)) ?_
      | refine aw_weak (F0 := [(2, .ptr 2 0 0), (4, .ptr 4 0 0)]) (H0 := [(2, .cells 28 11 [cM (oddS m a b c)] true), (4, .cells 28 11 [cM ⟨0, ⟨0, 0, 0⟩, ⟨0, 0, 0⟩, ⟨0, 0, 0⟩, 0⟩] true)]) (weak_to (.cons rfl (rc_same rfl (.inl rfl)) (.cons rfl (rc_same rfl (.inl rfl)) (.nil))) (.keep ((by rw [odd_4 m a b c h35]; rfl)) rfl (.keep (rfl) rfl (.nil))) (fun i h => by cases h)) ?_
      | refine aw_weak (F0 := [(2, .ptr 2 0 0), (4, .ptr 4 0 0)]) (H0 := [(2, .cells 28 11 [cM (oddS m a b c)] true), (4, .cells 28 11 [cM ⟨0, ⟨0, 0, 0⟩, ⟨0, 0, 0⟩, ⟨0, 0, 0⟩, 0⟩] true)]) (weak_to (.cons rfl (rc_same rfl (.inl rfl)) (.cons rfl (rc_same rfl (.inl rfl)) (.nil))) (.keep ((by rw [odd_5 m a b c h40]; rfl)) rfl (.keep (rfl) rfl (.nil))) (fun i h => by cases h)) ?_
      | refine aw_weak (F0 := [(2, .ptr 2 0 0), (4, .ptr 4 0 0)]) (H0 := [(2, .cells 28 11 [cM (oddS m a b c)] true), (4, .cells 28 11 [cM ⟨0, ⟨0, 0, 0⟩, ⟨0, 0, 0⟩, ⟨0, 0, 0⟩, 0⟩] true)]) (weak_to (.cons rfl (rc_same rfl (.inl rfl)) (.cons rfl (rc_same rfl (.inl rfl)) (.nil))) (.keep ((by rw [odd_6 m a b c h45]; rfl)) rfl (.keep (rfl) rfl (.nil))) (fun i h => by cases h)) ?_
      | refine aw_weak (F0 := [(2, .ptr 2 0 0), (4, .ptr 4 0 0)]) (H0 := [(2, .cells 28 11 [cM (oddS m a b c)] true), (4, .cells 28 11 [cM ⟨0, ⟨0, 0, 0⟩, ⟨0, 0, 0⟩, ⟨0, 0, 0⟩, 0⟩] true)]) (weak_to (.cons rfl (rc_same rfl (.inl rfl)) (.cons rfl (rc_same rfl (.inl rfl)) (.nil))) (.keep ((by rw [odd_7 m a b c (by omega)]; rfl)) rfl (.keep (rfl) rfl (.nil))) (fun i h => by cases h)) ?_
    refine aw_reg ?_
    first | refine rs_ld_pa rfl rfl rfl rfl (Nat.le_of_ble_eq_true rfl) rfl ?_ | refine rs_ld_ra rfl rfl (Nat.le_of_ble_eq_true rfl) rfl ?_ | refine rs_ld_ma rfl rfl rfl (by omega) (Nat.le_of_ble_eq_true rfl) rfl ?_
    refine rs_st rfl rfl rfl rfl rfl rfl rfl (Nat.le_of_ble_eq_true rfl) rfl rfl ?_
    refine rs_nil fun _ => ?_
    refine th_n ?_
    refine aw_ret ?_
    exact ret_pure rfl rfl rfl (.inr rfl)
  · first | replace h17 := of_decide_eq_false h17 | skip
    refine aw_seq ?_
    refine aw_reg ?_
    refine rs_eql rfl rfl rfl ?_
    refine rs_mv rfl rfl ?_
    refine rs_nil fun _ => ?_
    refine th_n ?_
    refine aw_cond rfl (fun h21 => ?_) (fun h21 => ?_)
    · first | replace h21 := of_decide_eq_true h21 | skip
      refine aw_reg ?_
      refine rs_mv rfl rfl ?_
      first | refine rs_fa_p rfl rfl ?_ | refine rs_fa_r rfl rfl rfl ?_
      refine rs_st rfl rfl rfl rfl rfl rfl rfl (Nat.le_of_ble_eq_true rfl) rfl rfl ?_
      refine rs_nil fun _ => ?_
      refine in_n ?_
      refine th_n ?_
      refine aw_seq ?_
      first
        | refine aw_weak (F0 := [(2, .ptr 2 0 0), (4, .ptr 4 0 0)]) (H0 := [(2, .cells 28 11 [cM (oddS m a b c)] true), (4, .cells 28 11 [cM ⟨0, ⟨0, 0, 0⟩, ⟨0, 0, 0⟩, ⟨0, 0, 0⟩, 0⟩] true)]) (weak_to (.cons rfl (rc_same rfl (.inl rfl)) (.cons rfl (rc_same rfl (.inl rfl)) (.nil))) (.keep ((by rw [odd_0 m a b c h17]; rfl)) rfl (.keep (rfl) rfl (.nil))) (fun i h => by cases h)) ?_
        | refine aw_weak (F0 := [(2, .ptr 2 0 0), (4, .ptr 4 0 0)]) (H0 := [(2, .cells 28 11 [cM (oddS m a b c)] true), (4, .cells 28 11 [cM ⟨0, ⟨0, 0, 0⟩, ⟨0, 0, 0⟩, ⟨0, 0, 0⟩, 0⟩] true)]) (weak_to (.cons rfl (rc_same rfl (.inl rfl)) (.cons rfl (rc_same rfl (.inl rfl)) (.nil))) (.keep ((by rw [odd_1 m a b c h21]; rfl)) rfl (.keep (rfl) rfl (.nil))) (fun i h => by cases h)) ?_
        | refine aw_weak (F0 := [(2, .ptr 2 0 0), (4, .ptr 4 0 0)]) (H0 := [(2, .cells 28 11 [cM (oddS m a b c)] true), (4, .cells 28 11 [cM ⟨0, ⟨0, 0, 0⟩, ⟨0, 0, 0⟩, ⟨0, 0, 0⟩, 0⟩] true)]) (weak_to (.cons rfl (rc_same rfl (.inl rfl)) (.cons rfl (rc_same rfl (.inl rfl)) (.nil))) (.keep ((by rw [odd_2 m a b c h25]; rfl)) rfl (.keep (rfl) rfl (.nil))) (fun i h => by cases h)) ?_
        | refine aw_weak (F0 := [(2, .ptr 2 0 0), (4, .ptr 4 0 0)]) (H0 := [(2, .cells 28 11 [cM (oddS m a b c)] true), (4, .cells 28 11 [cM ⟨0, ⟨0, 0, 0⟩, ⟨0, 0, 0⟩, ⟨0, 0, 0⟩, 0⟩] true)]) (weak_to (.cons rfl (rc_same rfl (.inl rfl)) (.cons rfl (rc_same rfl (.inl rfl)) (.nil))) (.keep ((by rw [odd_3 m a b c h30]; rfl)) rfl (.keep (rfl) rfl (.nil))) (fun i h => by cases h)) ?_
        | refine aw_weak (F0 := [(2, .ptr 2 0 0), (4, .ptr 4 0 0)]) (H0 := [(2, .cells 28 11 [cM (oddS m a b c)] true), (4, .cells 28 11 [cM ⟨0, ⟨0, 0, 0⟩, ⟨0, 0, 0⟩, ⟨0, 0, 0⟩, 0⟩] true)]) (weak_to (.cons rfl (rc_same rfl (.inl rfl)) (.cons rfl (rc_same rfl (.inl rfl)) (.nil))) (.keep ((by rw [odd_4 m a b c h35]; rfl)) rfl (.keep (rfl) rfl (.nil))) (fun i h => by cases h)) ?_
        | refine aw_weak (F0 := [(2, .ptr 2 0 0), (4, .ptr 4 0 0)]) (H0 := [(2, .cells 28 11 [cM (oddS m a b c)] true), (4, .cells 28 11 [cM ⟨0, ⟨0, 0, 0⟩, ⟨0, 0, 0⟩, ⟨0, 0, 0⟩, 0⟩] true)]) (weak_to (.cons rfl (rc_same rfl (.inl rfl)) (.cons rfl (rc_same rfl (.inl rfl)) (.nil))) (.keep ((by rw [odd_5 m a b c h40]; rfl)) rfl (.keep (rfl) rfl (.nil))) (fun i h => by cases h)) ?_
        | refine aw_weak (F0 := [(2, .ptr 2 0 0), (4, .ptr 4 0 0)]) (H0 := [(2, .cells 28 11 [cM (oddS m a b c)] true), (4, .cells 28 11 [cM ⟨0, ⟨0, 0, 0⟩, ⟨0, 0, 0⟩, ⟨0, 0, 0⟩, 0⟩] true)]) (weak_to (.cons rfl (rc_same rfl (.inl rfl)) (.cons rfl (rc_same rfl (.inl rfl)) (.nil))) (.keep ((by rw [odd_6 m a b c h45]; rfl)) rfl (.keep (rfl) rfl (.nil))) (fun i h => by cases h)) ?_
        | refine aw_weak (F0 := [(2, .ptr 2 0 0), (4, .ptr 4 0 0)]) (H0 := [(2, .cells 28 11 [cM (oddS m a b c)] true), (4, .cells 28 11 [cM ⟨0, ⟨0, 0, 0⟩, ⟨0, 0, 0⟩, ⟨0, 0, 0⟩, 0⟩] true)]) (weak_to (.cons rfl (rc_same rfl (.inl rfl)) (.cons rfl (rc_same rfl (.inl rfl)) (.nil))) (.keep ((by rw [odd_7 m a b c (by omega)]; rfl)) rfl (.keep (rfl) rfl (.nil))) (fun i h => by cases h)) ?_
      refine aw_reg ?_
      first | refine rs_ld_pa rfl rfl rfl rfl (Nat.le_of_ble_eq_true rfl) rfl ?_ | refine rs_ld_ra rfl rfl (Nat.le_of_ble_eq_true rfl) rfl ?_ | refine rs_ld_ma rfl rfl rfl (by omega) (Nat.le_of_ble_eq_true rfl) rfl ?_
      refine rs_st rfl rfl rfl rfl rfl rfl rfl (Nat.le_of_ble_eq_true rfl) rfl rfl ?_
      refine rs_nil fun _ => ?_
      refine th_n ?_
      refine aw_ret ?_
      exact ret_pure rfl rfl rfl (.inr rfl)
    · first | replace h21 := of_decide_eq_false h21 | skip
      refine aw_seq ?_
      refine aw_reg ?_
      refine rs_eql rfl rfl rfl ?_
      refine rs_mv rfl rfl ?_
      refine rs_nil fun _ => ?_
      refine th_n ?_
      refine aw_cond rfl (fun h25 => ?_) (fun h25 => ?_)
      · first | replace h25 := of_decide_eq_true h25 | skip
        refine aw_reg ?_
        refine rs_mv rfl rfl ?_
        first | refine rs_fa_p rfl rfl ?_ | refine rs_fa_r rfl rfl rfl ?_
        first | refine rs_fa_p rfl rfl ?_ | refine rs_fa_r rfl rfl rfl ?_
        refine rs_st rfl rfl rfl rfl rfl rfl rfl (Nat.le_of_ble_eq_true rfl) rfl rfl ?_
        refine rs_nil fun _ => ?_
        refine in_n ?_
        refine th_n ?_
        refine aw_seq ?_
        first
          | refine aw_weak (F0 := [(2, .ptr 2 0 0), (4, .ptr 4 0 0)]) (H0 := [(2, .cells 28 11 [cM (oddS m a b c)] true), (4, .cells 28 11 [cM ⟨0, ⟨0, 0, 0⟩, ⟨0, 0, 0⟩, ⟨0, 0, 0⟩, 0⟩] true)]) (weak_to (.cons rfl (rc_same rfl (.inl rfl)) (.cons rfl (rc_same rfl (.inl rfl)) (.nil))) (.keep ((by rw [odd_0 m a b c h17]; rfl)) rfl (.keep (rfl) rfl (.nil))) (fun i h => by cases h)) ?_
          | refine aw_weak (F0 := [(2, .ptr 2 0 0), (4, .ptr 4 0 0)]) (H0 := [(2, .cells 28 11 [cM (oddS m a b c)] true), (4, .cells 28 11 [cM ⟨0, ⟨0, 0, 0⟩, ⟨0, 0, 0⟩, ⟨0, 0, 0⟩, 0⟩] true)]) (weak_to (.cons rfl (rc_same rfl (.inl rfl)) (.cons rfl (rc_same rfl (.inl rfl)) (.nil))) (.keep ((by rw [odd_1 m a b c h21]; rfl)) rfl (.keep (rfl) rfl (.nil))) (fun i h => by cases h)) ?_
          | refine aw_weak (F0 := [(2, .ptr 2 0 0), (4, .ptr 4 0 0)]) (H0 := [(2, .cells 28 11 [cM (oddS m a b c)] true), (4, .cells 28 11 [cM ⟨0, ⟨0, 0, 0⟩, ⟨0, 0, 0⟩, ⟨0, 0, 0⟩, 0⟩] true)]) (weak_to (.cons rfl (rc_same rfl (.inl rfl)) (.cons rfl (rc_same rfl (.inl rfl)) (.nil))) (.keep ((by rw [odd_2 m a b c h25]; rfl)) rfl (.keep (rfl) rfl (.nil))) (fun i h => by cases h)) ?_
          | refine aw_weak (F0 := [(2, .ptr 2 0 0), (4, .ptr 4 0 0)]) (H0 := [(2, .cells 28 11 [cM (oddS m a b c)] true), (4, .cells 28 11 [cM ⟨0, ⟨0, 0, 0⟩, ⟨0, 0, 0⟩, ⟨0, 0, 0⟩, 0⟩] true)]) (weak_to (.cons rfl (rc_same rfl (.inl rfl)) (.cons rfl (rc_same rfl (.inl rfl)) (.nil))) (.keep ((by rw [odd_3 m a b c h30]; rfl)) rfl (.keep (rfl) rfl (.nil))) (fun i h => by cases h)) ?_
          | refine aw_weak (F0 := [(2, .ptr 2 0 0), (4, .ptr 4 0 0)]) (H0 := [(2, .cells 28 11 [cM (oddS m a b c)] true), (4, .cells 28 11 [cM ⟨0, ⟨0, 0, 0⟩, ⟨0, 0, 0⟩, ⟨0, 0, 0⟩, 0⟩] true)]) (weak_to (.cons rfl (rc_same rfl (.inl rfl)) (.cons rfl (rc_same rfl (.inl rfl)) (.nil))) (.keep ((by rw [odd_4 m a b c h35]; rfl)) rfl (.keep (rfl) rfl (.nil))) (fun i h => by cases h)) ?_
          | refine aw_weak (F0 := [(2, .ptr 2 0 0), (4, .ptr 4 0 0)]) (H0 := [(2, .cells 28 11 [cM (oddS m a b c)] true), (4, .cells 28 11 [cM ⟨0, ⟨0, 0, 0⟩, ⟨0, 0, 0⟩, ⟨0, 0, 0⟩, 0⟩] true)]) (weak_to (.cons rfl (rc_same rfl (.inl rfl)) (.cons rfl (rc_same rfl (.inl rfl)) (.nil))) (.keep ((by rw [odd_5 m a b c h40]; rfl)) rfl (.keep (rfl) rfl (.nil))) (fun i h => by cases h)) ?_
          | refine aw_weak (F0 := [(2, .ptr 2 0 0), (4, .ptr 4 0 0)]) (H0 := [(2, .cells 28 11 [cM (oddS m a b c)] true), (4, .cells 28 11 [cM ⟨0, ⟨0, 0, 0⟩, ⟨0, 0, 0⟩, ⟨0, 0, 0⟩, 0⟩] true)]) (weak_to (.cons rfl (rc_same rfl (.inl rfl)) (.cons rfl (rc_same rfl (.inl rfl)) (.nil))) (.keep ((by rw [odd_6 m a b c h45]; rfl)) rfl (.keep (rfl) rfl (.nil))) (fun i h => by cases h)) ?_
          | refine aw_weak (F0 := [(2, .ptr 2 0 0), (4, .ptr 4 0 0)]) (H0 := [(2, .cells 28 11 [cM (oddS m a b c)] true), (4, .cells 28 11 [cM ⟨0, ⟨0, 0, 0⟩, ⟨0, 0, 0⟩, ⟨0, 0, 0⟩, 0⟩] true)]) (weak_to (.cons rfl (rc_same rfl (.inl rfl)) (.cons rfl (rc_same rfl (.inl rfl)) (.nil))) (.keep ((by rw [odd_7 m a b c (by omega)]; rfl)) rfl (.keep (rfl) rfl (.nil))) (fun i h => by cases h)) ?_
        refine aw_reg ?_
        first | refine rs_ld_pa rfl rfl rfl rfl (Nat.le_of_ble_eq_true rfl) rfl ?_ | refine rs_ld_ra rfl rfl (Nat.le_of_ble_eq_true rfl) rfl ?_ | refine rs_ld_ma rfl rfl rfl (by omega) (Nat.le_of_ble_eq_true rfl) rfl ?_
        refine rs_st rfl rfl rfl rfl rfl rfl rfl (Nat.le_of_ble_eq_true rfl) rfl rfl ?_
        refine rs_nil fun _ => ?_
        refine th_n ?_
        refine aw_ret ?_
        exact ret_pure rfl rfl rfl (.inr rfl)
      · first | replace h25 := of_decide_eq_false h25 | skip
        refine aw_seq ?_
        refine aw_reg ?_
        refine rs_eql rfl rfl rfl ?_
        refine rs_mv rfl rfl ?_
        refine rs_nil fun _ => ?_
        refine th_n ?_
        refine aw_cond rfl (fun h30 => ?_) (fun h30 => ?_)
        · first | replace h30 := of_decide_eq_true h30 | skip
          refine aw_reg ?_
          refine rs_mv rfl rfl ?_
          first | refine rs_fa_p rfl rfl ?_ | refine rs_fa_r rfl rfl rfl ?_
          first | refine rs_fa_p rfl rfl ?_ | refine rs_fa_r rfl rfl rfl ?_
          refine rs_st rfl rfl rfl rfl rfl rfl rfl (Nat.le_of_ble_eq_true rfl) rfl rfl ?_
          refine rs_nil fun _ => ?_
          refine in_n ?_
          refine th_n ?_
          refine aw_seq ?_
          first
            | refine aw_weak (F0 := [(2, .ptr 2 0 0), (4, .ptr 4 0 0)]) (H0 := [(2, .cells 28 11 [cM (oddS m a b c)] true), (4, .cells 28 11 [cM ⟨0, ⟨0, 0, 0⟩, ⟨0, 0, 0⟩, ⟨0, 0, 0⟩, 0⟩] true)]) (weak_to (.cons rfl (rc_same rfl (.inl rfl)) (.cons rfl (rc_same rfl (.inl rfl)) (.nil))) (.keep ((by rw [odd_0 m a b c h17]; rfl)) rfl (.keep (rfl) rfl (.nil))) (fun i h => by cases h)) ?_
            | refine aw_weak (F0 := [(2, .ptr 2 0 0), (4, .ptr 4 0 0)]) (H0 := [(2, .cells 28 11 [cM (oddS m a b c)] true), (4, .cells 28 11 [cM ⟨0, ⟨0, 0, 0⟩, ⟨0, 0, 0⟩, ⟨0, 0, 0⟩, 0⟩] true)]) (weak_to (.cons rfl (rc_same rfl (.inl rfl)) (.cons rfl (rc_same rfl (.inl rfl)) (.nil))) (.keep ((by rw [odd_1 m a b c h21]; rfl)) rfl (.keep (rfl) rfl (.nil))) (fun i h => by cases h)) ?_
            | refine aw_weak (F0 := [(2, .ptr 2 0 0), (4, .ptr 4 0 0)]) (H0 := [(2, .cells 28 11 [cM (oddS m a b c)] true), (4, .cells 28 11 [cM ⟨0, ⟨0, 0, 0⟩, ⟨0, 0, 0⟩, ⟨0, 0, 0⟩, 0⟩] true)]) (weak_to (.cons rfl (rc_same rfl (.inl rfl)) (.cons rfl (rc_same rfl (.inl rfl)) (.nil))) (.keep ((by rw [odd_2 m a b c h25]; rfl)) rfl (.keep (rfl) rfl (.nil))) (fun i h => by cases h)) ?_
            | refine aw_weak (F0 := [(2, .ptr 2 0 0), (4, .ptr 4 0 0)]) (H0 := [(2, .cells 28 11 [cM (oddS m a b c)] true), (4, .cells 28 11 [cM ⟨0, ⟨0, 0, 0⟩, ⟨0, 0, 0⟩, ⟨0, 0, 0⟩, 0⟩] true)]) (weak_to (.cons rfl (rc_same rfl (.inl rfl)) (.cons rfl (rc_same rfl (.inl rfl)) (.nil))) (.keep ((by rw [odd_3 m a b c h30]; rfl)) rfl (.keep (rfl) rfl (.nil))) (fun i h => by cases h)) ?_
            | refine aw_weak (F0 := [(2, .ptr 2 0 0), (4, .ptr 4 0 0)]) (H0 := [(2, .cells 28 11 [cM (oddS m a b c)] true), (4, .cells 28 11 [cM ⟨0, ⟨0, 0, 0⟩, ⟨0, 0, 0⟩, ⟨0, 0, 0⟩, 0⟩] true)]) (weak_to (.cons rfl (rc_same rfl (.inl rfl)) (.cons rfl (rc_same rfl (.inl rfl)) (.nil))) (.keep ((by rw [odd_4 m a b c h35]; rfl)) rfl (.keep (rfl) rfl (.nil))) (fun i h => by cases h)) ?_
            | refine aw_weak (F0 := [(2, .ptr 2 0 0), (4, .ptr 4 0 0)]) (H0 := [(2, .cells 28 11 [cM (oddS m a b c)] true), (4, .cells 28 11 [cM ⟨0, ⟨0, 0, 0⟩, ⟨0, 0, 0⟩, ⟨0, 0, 0⟩, 0⟩] true)]) (weak_to (.cons rfl (rc_same rfl (.inl rfl)) (.cons rfl (rc_same rfl (.inl rfl)) (.nil))) (.keep ((by rw [odd_5 m a b c h40]; rfl)) rfl (.keep (rfl) rfl (.nil))) (fun i h => by cases h)) ?_
            | refine aw_weak (F0 := [(2, .ptr 2 0 0), (4, .ptr 4 0 0)]) (H0 := [(2, .cells 28 11 [cM (oddS m a b c)] true), (4, .cells 28 11 [cM ⟨0, ⟨0, 0, 0⟩, ⟨0, 0, 0⟩, ⟨0, 0, 0⟩, 0⟩] true)]) (weak_to (.cons rfl (rc_same rfl (.inl rfl)) (.cons rfl (rc_same rfl (.inl rfl)) (.nil))) (.keep ((by rw [odd_6 m a b c h45]; rfl)) rfl (.keep (rfl) rfl (.nil))) (fun i h => by cases h)) ?_
            | refine aw_weak (F0 := [(2, .ptr 2 0 0), (4, .ptr 4 0 0)]) (H0 := [(2, .cells 28 11 [cM (oddS m a b c)] true), (4, .cells 28 11 [cM ⟨0, ⟨0, 0, 0⟩, ⟨0, 0, 0⟩, ⟨0, 0, 0⟩, 0⟩] true)]) (weak_to (.cons rfl (rc_same rfl (.inl rfl)) (.cons rfl (rc_same rfl (.inl rfl)) (.nil))) (.keep ((by rw [odd_7 m a b c (by omega)]; rfl)) rfl (.keep (rfl) rfl (.nil))) (fun i h => by cases h)) ?_
          refine aw_reg ?_
          first | refine rs_ld_pa rfl rfl rfl rfl (Nat.le_of_ble_eq_true rfl) rfl ?_ | refine rs_ld_ra rfl rfl (Nat.le_of_ble_eq_true rfl) rfl ?_ | refine rs_ld_ma rfl rfl rfl (by omega) (Nat.le_of_ble_eq_true rfl) rfl ?_
          refine rs_st rfl rfl rfl rfl rfl rfl rfl (Nat.le_of_ble_eq_true rfl) rfl rfl ?_
          refine rs_nil fun _ => ?_
          refine th_n ?_
          refine aw_ret ?_
          exact ret_pure rfl rfl rfl (.inr rfl)
        · first | replace h30 := of_decide_eq_false h30 | skip
          refine aw_seq ?_
          refine aw_reg ?_
          refine rs_eql rfl rfl rfl ?_
          refine rs_mv rfl rfl ?_
          refine rs_nil fun _ => ?_
          refine th_n ?_
          refine aw_cond rfl (fun h35 => ?_) (fun h35 => ?_)
          · first | replace h35 := of_decide_eq_true h35 | skip
            refine aw_reg ?_
            refine rs_mv rfl rfl ?_
            first | refine rs_fa_p rfl rfl ?_ | refine rs_fa_r rfl rfl rfl ?_
            first | refine rs_fa_p rfl rfl ?_ | refine rs_fa_r rfl rfl rfl ?_
            refine rs_st rfl rfl rfl rfl rfl rfl rfl (Nat.le_of_ble_eq_true rfl) rfl rfl ?_
            refine rs_nil fun _ => ?_
            refine in_n ?_
            refine th_n ?_
            refine aw_seq ?_
            first
              | refine aw_weak (F0 := [(2, .ptr 2 0 0), (4, .ptr 4 0 0)]) (H0 := [(2, .cells 28 11 [cM (oddS m a b c)] true), (4, .cells 28 11 [cM ⟨0, ⟨0, 0, 0⟩, ⟨0, 0, 0⟩, ⟨0, 0, 0⟩, 0⟩] true)]) (weak_to (.cons rfl (rc_same rfl (.inl rfl)) (.cons rfl (rc_same rfl (.inl rfl)) (.nil))) (.keep ((by rw [odd_0 m a b c h17]; rfl)) rfl (.keep (rfl) rfl (.nil))) (fun i h => by cases h)) ?_
              | refine aw_weak (F0 := [(2, .ptr 2 0 0), (4, .ptr 4 0 0)]) (H0 := [(2, .cells 28 11 [cM (oddS m a b c)] true), (4, .cells 28 11 [cM ⟨0, ⟨0, 0, 0⟩, ⟨0, 0, 0⟩, ⟨0, 0, 0⟩, 0⟩] true)]) (weak_to (.cons rfl (rc_same rfl (.inl rfl)) (.cons rfl (rc_same rfl (.inl rfl)) (.nil))) (.keep ((by rw [odd_1 m a b c h21]; rfl)) rfl (.keep (rfl) rfl (.nil))) (fun i h => by cases h)) ?_
              | refine aw_weak (F0 := [(2, .ptr 2 0 0), (4, .ptr 4 0 0)]) (H0 := [(2, .cells 28 11 [cM (oddS m a b c)] true), (4, .cells 28 11 [cM ⟨0, ⟨0, 0, 0⟩, ⟨0, 0, 0⟩, ⟨0, 0, 0⟩, 0⟩] true)]) (weak_to (.cons rfl (rc_same rfl (.inl rfl)) (.cons rfl (rc_same rfl (.inl rfl)) (.nil))) (.keep ((by rw [odd_2 m a b c h25]; rfl)) rfl (.keep (rfl) rfl (.nil))) (fun i h => by cases h)) ?_
              | refine aw_weak (F0 := [(2, .ptr 2 0 0), (4, .ptr 4 0 0)]) (H0 := [(2, .cells 28 11 [cM (oddS m a b c)] true), (4, .cells 28 11 [cM ⟨0, ⟨0, 0, 0⟩, ⟨0, 0, 0⟩, ⟨0, 0, 0⟩, 0⟩] true)]) (weak_to (.cons rfl (rc_same rfl (.inl rfl)) (.cons rfl (rc_same rfl (.inl rfl)) (.nil))) (.keep ((by rw [odd_3 m a b c h30]; rfl)) rfl (.keep (rfl) rfl (.nil))) (fun i h => by cases h)) ?_
              | refine aw_weak (F0 := [(2, .ptr 2 0 0), (4, .ptr 4 0 0)]) (H0 := [(2, .cells 28 11 [cM (oddS m a b c)] true), (4, .cells 28 11 [cM ⟨0, ⟨0, 0, 0⟩, ⟨0, 0, 0⟩, ⟨0, 0, 0⟩, 0⟩] true)]) (weak_to (.cons rfl (rc_same rfl (.inl rfl)) (.cons rfl (rc_same rfl (.inl rfl)) (.nil))) (.keep ((by rw [odd_4 m a b c h35]; rfl)) rfl (.keep (rfl) rfl (.nil))) (fun i h => by cases h)) ?_
              | refine aw_weak (F0 := [(2, .ptr 2 0 0), (4, .ptr 4 0 0)]) (H0 := [(2, .cells 28 11 [cM (oddS m a b c)] true), (4, .cells 28 11 [cM ⟨0, ⟨0, 0, 0⟩, ⟨0, 0, 0⟩, ⟨0, 0, 0⟩, 0⟩] true)]) (weak_to (.cons rfl (rc_same rfl (.inl rfl)) (.cons rfl (rc_same rfl (.inl rfl)) (.nil))) (.keep ((by rw [odd_5 m a b c h40]; rfl)) rfl (.keep (rfl) rfl (.nil))) (fun i h => by cases h)) ?_
              | refine aw_weak (F0 := [(2, .ptr 2 0 0), (4, .ptr 4 0 0)]) (H0 := [(2, .cells 28 11 [cM (oddS m a b c)] true), (4, .cells 28 11 [cM ⟨0, ⟨0, 0, 0⟩, ⟨0, 0, 0⟩, ⟨0, 0, 0⟩, 0⟩] true)]) (weak_to (.cons rfl (rc_same rfl (.inl rfl)) (.cons rfl (rc_same rfl (.inl rfl)) (.nil))) (.keep ((by rw [odd_6 m a b c h45]; rfl)) rfl (.keep (rfl) rfl (.nil))) (fun i h => by cases h)) ?_
              | refine aw_weak (F0 := [(2, .ptr 2 0 0), (4, .ptr 4 0 0)]) (H0 := [(2, .cells 28 11 [cM (oddS m a b c)] true), (4, .cells 28 11 [cM ⟨0, ⟨0, 0, 0⟩, ⟨0, 0, 0⟩, ⟨0, 0, 0⟩, 0⟩] true)]) (weak_to (.cons rfl (rc_same rfl (.inl rfl)) (.cons rfl (rc_same rfl (.inl rfl)) (.nil))) (.keep ((by rw [odd_7 m a b c (by omega)]; rfl)) rfl (.keep (rfl) rfl (.nil))) (fun i h => by cases h)) ?_
            refine aw_reg ?_
            first | refine rs_ld_pa rfl rfl rfl rfl (Nat.le_of_ble_eq_true rfl) rfl ?_ | refine rs_ld_ra rfl rfl (Nat.le_of_ble_eq_true rfl) rfl ?_ | refine rs_ld_ma rfl rfl rfl (by omega) (Nat.le_of_ble_eq_true rfl) rfl ?_
            refine rs_st rfl rfl rfl rfl rfl rfl rfl (Nat.le_of_ble_eq_true rfl) rfl rfl ?_
            refine rs_nil fun _ => ?_
            refine th_n ?_
            refine aw_ret ?_
            exact ret_pure rfl rfl rfl (.inr rfl)
          · first | replace h35 := of_decide_eq_false h35 | skip
            refine aw_seq ?_
            refine aw_reg ?_
            refine rs_eql rfl rfl rfl ?_
            refine rs_mv rfl rfl ?_
            refine rs_nil fun _ => ?_
            refine th_n ?_
            refine aw_cond rfl (fun h40 => ?_) (fun h40 => ?_)
            · first | replace h40 := of_decide_eq_true h40 | skip
              refine aw_reg ?_
              first | refine rs_fa_p rfl rfl ?_ | refine rs_fa_r rfl rfl rfl ?_
              first | refine rs_ld_pa rfl rfl rfl rfl (Nat.le_of_ble_eq_true rfl) rfl ?_ | refine rs_ld_ra rfl rfl (Nat.le_of_ble_eq_true rfl) rfl ?_ | refine rs_ld_ma rfl rfl rfl (by omega) (Nat.le_of_ble_eq_true rfl) rfl ?_
              first | refine rs_fa_p rfl rfl ?_ | refine rs_fa_r rfl rfl rfl ?_
              refine rs_st rfl rfl rfl rfl rfl rfl rfl (Nat.le_of_ble_eq_true rfl) rfl rfl ?_
              refine rs_nil fun _ => ?_
              refine in_n ?_
              refine th_n ?_
              refine aw_seq ?_
              first
                | refine aw_weak (F0 := [(2, .ptr 2 0 0), (4, .ptr 4 0 0)]) (H0 := [(2, .cells 28 11 [cM (oddS m a b c)] true), (4, .cells 28 11 [cM ⟨0, ⟨0, 0, 0⟩, ⟨0, 0, 0⟩, ⟨0, 0, 0⟩, 0⟩] true)]) (weak_to (.cons rfl (rc_same rfl (.inl rfl)) (.cons rfl (rc_same rfl (.inl rfl)) (.nil))) (.keep ((by rw [odd_0 m a b c h17]; rfl)) rfl (.keep (rfl) rfl (.nil))) (fun i h => by cases h)) ?_
                | refine aw_weak (F0 := [(2, .ptr 2 0 0), (4, .ptr 4 0 0)]) (H0 := [(2, .cells 28 11 [cM (oddS m a b c)] true), (4, .cells 28 11 [cM ⟨0, ⟨0, 0, 0⟩, ⟨0, 0, 0⟩, ⟨0, 0, 0⟩, 0⟩] true)]) (weak_to (.cons rfl (rc_same rfl (.inl rfl)) (.cons rfl (rc_same rfl (.inl rfl)) (.nil))) (.keep ((by rw [odd_1 m a b c h21]; rfl)) rfl (.keep (rfl) rfl (.nil))) (fun i h => by cases h)) ?_
                | refine aw_weak (F0 := [(2, .ptr 2 0 0), (4, .ptr 4 0 0)]) (H0 := [(2, .cells 28 11 [cM (oddS m a b c)] true), (4, .cells 28 11 [cM ⟨0, ⟨0, 0, 0⟩, ⟨0, 0, 0⟩, ⟨0, 0, 0⟩, 0⟩] true)]) (weak_to (.cons rfl (rc_same rfl (.inl rfl)) (.cons rfl (rc_same rfl (.inl rfl)) (.nil))) (.keep ((by rw [odd_2 m a b c h25]; rfl)) rfl (.keep (rfl) rfl (.nil))) (fun i h => by cases h)) ?_
                | refine aw_weak (F0 := [(2, .ptr 2 0 0), (4, .ptr 4 0 0)]) (H0 := [(2, .cells 28 11 [cM (oddS m a b c)] true), (4, .cells 28 11 [cM ⟨0, ⟨0, 0, 0⟩, ⟨0, 0, 0⟩, ⟨0, 0, 0⟩, 0⟩] true)]) (weak_to (.cons rfl (rc_same rfl (.inl rfl)) (.cons rfl (rc_same rfl (.inl rfl)) (.nil))) (.keep ((by rw [odd_3 m a b c h30]; rfl)) rfl (.keep (rfl) rfl (.nil))) (fun i h => by cases h)) ?_
                | refine aw_weak (F0 := [(2, .ptr 2 0 0), (4, .ptr 4 0 0)]) (H0 := [(2, .cells 28 11 [cM (oddS m a b c)] true), (4, .cells 28 11 [cM ⟨0, ⟨0, 0, 0⟩, ⟨0, 0, 0⟩, ⟨0, 0, 0⟩, 0⟩] true)]) (weak_to (.cons rfl (rc_same rfl (.inl rfl)) (.cons rfl (rc_same rfl (.inl rfl)) (.nil))) (.keep ((by rw [odd_4 m a b c h35]; rfl)) rfl (.keep (rfl) rfl (.nil))) (fun i h => by cases h)) ?_
                | refine aw_weak (F0 := [(2, .ptr 2 0 0), (4, .ptr 4 0 0)]) (H0 := [(2, .cells 28 11 [cM (oddS m a b c)] true), (4, .cells 28 11 [cM ⟨0, ⟨0, 0, 0⟩, ⟨0, 0, 0⟩, ⟨0, 0, 0⟩, 0⟩] true)]) (weak_to (.cons rfl (rc_same rfl (.inl rfl)) (.cons rfl (rc_same rfl (.inl rfl)) (.nil))) (.keep ((by rw [odd_5 m a b c h40]; rfl)) rfl (.keep (rfl) rfl (.nil))) (fun i h => by cases h)) ?_
                | refine aw_weak (F0 := [(2, .ptr 2 0 0), (4, .ptr 4 0 0)]) (H0 := [(2, .cells 28 11 [cM (oddS m a b c)] true), (4, .cells 28 11 [cM ⟨0, ⟨0, 0, 0⟩, ⟨0, 0, 0⟩, ⟨0, 0, 0⟩, 0⟩] true)]) (weak_to (.cons rfl (rc_same rfl (.inl rfl)) (.cons rfl (rc_same rfl (.inl rfl)) (.nil))) (.keep ((by rw [odd_6 m a b c h45]; rfl)) rfl (.keep (rfl) rfl (.nil))) (fun i h => by cases h)) ?_
                | refine aw_weak (F0 := [(2, .ptr 2 0 0), (4, .ptr 4 0 0)]) (H0 := [(2, .cells 28 11 [cM (oddS m a b c)] true), (4, .cells 28 11 [cM ⟨0, ⟨0, 0, 0⟩, ⟨0, 0, 0⟩, ⟨0, 0, 0⟩, 0⟩] true)]) (weak_to (.cons rfl (rc_same rfl (.inl rfl)) (.cons rfl (rc_same rfl (.inl rfl)) (.nil))) (.keep ((by rw [odd_7 m a b c (by omega)]; rfl)) rfl (.keep (rfl) rfl (.nil))) (fun i h => by cases h)) ?_
              refine aw_reg ?_
              first | refine rs_ld_pa rfl rfl rfl rfl (Nat.le_of_ble_eq_true rfl) rfl ?_ | refine rs_ld_ra rfl rfl (Nat.le_of_ble_eq_true rfl) rfl ?_ | refine rs_ld_ma rfl rfl rfl (by omega) (Nat.le_of_ble_eq_true rfl) rfl ?_
              refine rs_st rfl rfl rfl rfl rfl rfl rfl (Nat.le_of_ble_eq_true rfl) rfl rfl ?_
              refine rs_nil fun _ => ?_
              refine th_n ?_
              refine aw_ret ?_
              exact ret_pure rfl rfl rfl (.inr rfl)
            · first | replace h40 := of_decide_eq_false h40 | skip
              refine aw_seq ?_
              refine aw_reg ?_
              refine rs_eql rfl rfl rfl ?_
              refine rs_mv rfl rfl ?_
              refine rs_nil fun _ => ?_
              refine th_n ?_
              refine aw_cond rfl (fun h45 => ?_) (fun h45 => ?_)
              · first | replace h45 := of_decide_eq_true h45 | skip
                refine aw_reg ?_
                first | refine rs_fa_p rfl rfl ?_ | refine rs_fa_r rfl rfl rfl ?_
                first | refine rs_ld_r rfl rfl rfl ?_ | refine rs_ld_p rfl rfl rfl rfl rfl ?_ | refine rs_ld_m rfl rfl rfl (by omega) rfl ?_
                refine rs_calln [] rfl rfl (fc16 m.kind 3 (by omega)) (.cons (hv_same rfl) (.cons (hv_same rfl) (.nil))) rfl ?_
                first | refine rs_add rfl rfl rfl (by omega) ?_ | refine rs_addw rfl rfl rfl rfl ?_
                first | refine rs_fa_p rfl rfl ?_ | refine rs_fa_r rfl rfl rfl ?_
                refine rs_st rfl rfl rfl rfl rfl rfl rfl (Nat.le_of_ble_eq_true rfl) rfl rfl ?_
                refine rs_nil fun _ => ?_
                refine in_n ?_
                refine th_n ?_
                refine aw_seq ?_
                first
                  | refine aw_weak (F0 := [(2, .ptr 2 0 0), (4, .ptr 4 0 0)]) (H0 := [(2, .cells 28 11 [cM (oddS m a b c)] true), (4, .cells 28 11 [cM ⟨0, ⟨0, 0, 0⟩, ⟨0, 0, 0⟩, ⟨0, 0, 0⟩, 0⟩] true)]) (weak_to (.cons rfl (rc_same rfl (.inl rfl)) (.cons rfl (rc_same rfl (.inl rfl)) (.nil))) (.keep ((by rw [odd_0 m a b c h17]; rfl)) rfl (.keep (rfl) rfl (.nil))) (fun i h => by cases h)) ?_
                  | refine aw_weak (F0 := [(2, .ptr 2 0 0), (4, .ptr 4 0 0)]) (H0 := [(2, .cells 28 11 [cM (oddS m a b c)] true), (4, .cells 28 11 [cM ⟨0, ⟨0, 0, 0⟩, ⟨0, 0, 0⟩, ⟨0, 0, 0⟩, 0⟩] true)]) (weak_to (.cons rfl (rc_same rfl (.inl rfl)) (.cons rfl (rc_same rfl (.inl rfl)) (.nil))) (.keep ((by rw [odd_1 m a b c h21]; rfl)) rfl (.keep (rfl) rfl (.nil))) (fun i h => by cases h)) ?_
                  | refine aw_weak (F0 := [(2, .ptr 2 0 0), (4, .ptr 4 0 0)]) (H0 := [(2, .cells 28 11 [cM (oddS m a b c)] true), (4, .cells 28 11 [cM ⟨0, ⟨0, 0, 0⟩, ⟨0, 0, 0⟩, ⟨0, 0, 0⟩, 0⟩] true)]) (weak_to (.cons rfl (rc_same rfl (.inl rfl)) (.cons rfl (rc_same rfl (.inl rfl)) (.nil))) (.keep ((by rw [odd_2 m a b c h25]; rfl)) rfl (.keep (rfl) rfl (.nil))) (fun i h => by cases h)) ?_
                  | refine aw_weak (F0 := [(2, .ptr 2 0 0), (4, .ptr 4 0 0)]) (H0 := [(2, .cells 28 11 [cM (oddS m a b c)] true), (4, .cells 28 11 [cM ⟨0, ⟨0, 0, 0⟩, ⟨0, 0, 0⟩, ⟨0, 0, 0⟩, 0⟩] true)]) (weak_to (.cons rfl (rc_same rfl (.inl rfl)) (.cons rfl (rc_same rfl (.inl rfl)) (.nil))) (.keep ((by rw [odd_3 m a b c h30]; rfl)) rfl (.keep (rfl) rfl (.nil))) (fun i h => by cases h)) ?_
                  | refine aw_weak (F0 := [(2, .ptr 2 0 0), (4, .ptr 4 0 0)]) (H0 := [(2, .cells 28 11 [cM (oddS m a b c)] true), (4, .cells 28 11 [cM ⟨0, ⟨0, 0, 0⟩, ⟨0, 0, 0⟩, ⟨0, 0, 0⟩, 0⟩] true)]) (weak_to (.cons rfl (rc_same rfl (.inl rfl)) (.cons rfl (rc_same rfl (.inl rfl)) (.nil))) (.keep ((by rw [odd_4 m a b c h35]; rfl)) rfl (.keep (rfl) rfl (.nil))) (fun i h => by cases h)) ?_
                  | refine aw_weak (F0 := [(2, .ptr 2 0 0), (4, .ptr 4 0 0)]) (H0 := [(2, .cells 28 11 [cM (oddS m a b c)] true), (4, .cells 28 11 [cM ⟨0, ⟨0, 0, 0⟩, ⟨0, 0, 0⟩, ⟨0, 0, 0⟩, 0⟩] true)]) (weak_to (.cons rfl (rc_same rfl (.inl rfl)) (.cons rfl (rc_same rfl (.inl rfl)) (.nil))) (.keep ((by rw [odd_5 m a b c h40]; rfl)) rfl (.keep (rfl) rfl (.nil))) (fun i h => by cases h)) ?_
                  | refine aw_weak (F0 := [(2, .ptr 2 0 0), (4, .ptr 4 0 0)]) (H0 := [(2, .cells 28 11 [cM (oddS m a b c)] true), (4, .cells 28 11 [cM ⟨0, ⟨0, 0, 0⟩, ⟨0, 0, 0⟩, ⟨0, 0, 0⟩, 0⟩] true)]) (weak_to (.cons rfl (rc_same rfl (.inl rfl)) (.cons rfl (rc_same rfl (.inl rfl)) (.nil))) (.keep ((by rw [odd_6 m a b c h45]; rfl)) rfl (.keep (rfl) rfl (.nil))) (fun i h => by cases h)) ?_
                  | refine aw_weak (F0 := [(2, .ptr 2 0 0), (4, .ptr 4 0 0)]) (H0 := [(2, .cells 28 11 [cM (oddS m a b c)] true), (4, .cells 28 11 [cM ⟨0, ⟨0, 0, 0⟩, ⟨0, 0, 0⟩, ⟨0, 0, 0⟩, 0⟩] true)]) (weak_to (.cons rfl (rc_same rfl (.inl rfl)) (.cons rfl (rc_same rfl (.inl rfl)) (.nil))) (.keep ((by rw [odd_7 m a b c (by omega)]; rfl)) rfl (.keep (rfl) rfl (.nil))) (fun i h => by cases h)) ?_
                refine aw_reg ?_
                first | refine rs_ld_pa rfl rfl rfl rfl (Nat.le_of_ble_eq_true rfl) rfl ?_ | refine rs_ld_ra rfl rfl (Nat.le_of_ble_eq_true rfl) rfl ?_ | refine rs_ld_ma rfl rfl rfl (by omega) (Nat.le_of_ble_eq_true rfl) rfl ?_
                refine rs_st rfl rfl rfl rfl rfl rfl rfl (Nat.le_of_ble_eq_true rfl) rfl rfl ?_
                refine rs_nil fun _ => ?_
                refine th_n ?_
                refine aw_ret ?_
                exact ret_pure rfl rfl rfl (.inr rfl)
              · first | replace h45 := of_decide_eq_false h45 | skip
                refine aw_seq ?_
                refine aw_reg ?_
                refine rs_cmp_t rfl rfl rfl rfl (by omega) ?_
                refine rs_mv rfl rfl ?_
                refine rs_nil fun _ => ?_
                refine th_n ?_
                refine aw_cond rfl (fun _ => ?_) (fun h => by cases h)
                refine aw_reg ?_
                refine rs_build rfl rfl ?_
                first | refine rs_fa_p rfl rfl ?_ | refine rs_fa_r rfl rfl rfl ?_
                refine rs_st rfl rfl rfl rfl rfl rfl rfl (Nat.le_of_ble_eq_true rfl) rfl rfl ?_
                refine rs_nil fun _ => ?_
                refine in_n ?_
                refine th_n ?_
                refine aw_seq ?_
                first
                  | refine aw_weak (F0 := [(2, .ptr 2 0 0), (4, .ptr 4 0 0)]) (H0 := [(2, .cells 28 11 [cM (oddS m a b c)] true), (4, .cells 28 11 [cM ⟨0, ⟨0, 0, 0⟩, ⟨0, 0, 0⟩, ⟨0, 0, 0⟩, 0⟩] true)]) (weak_to (.cons rfl (rc_same rfl (.inl rfl)) (.cons rfl (rc_same rfl (.inl rfl)) (.nil))) (.keep ((by rw [odd_0 m a b c h17]; rfl)) rfl (.keep (rfl) rfl (.nil))) (fun i h => by cases h)) ?_
                  | refine aw_weak (F0 := [(2, .ptr 2 0 0), (4, .ptr 4 0 0)]) (H0 := [(2, .cells 28 11 [cM (oddS m a b c)] true), (4, .cells 28 11 [cM ⟨0, ⟨0, 0, 0⟩, ⟨0, 0, 0⟩, ⟨0, 0, 0⟩, 0⟩] true)]) (weak_to (.cons rfl (rc_same rfl (.inl rfl)) (.cons rfl (rc_same rfl (.inl rfl)) (.nil))) (.keep ((by rw [odd_1 m a b c h21]; rfl)) rfl (.keep (rfl) rfl (.nil))) (fun i h => by cases h)) ?_
                  | refine aw_weak (F0 := [(2, .ptr 2 0 0), (4, .ptr 4 0 0)]) (H0 := [(2, .cells 28 11 [cM (oddS m a b c)] true), (4, .cells 28 11 [cM ⟨0, ⟨0, 0, 0⟩, ⟨0, 0, 0⟩, ⟨0, 0, 0⟩, 0⟩] true)]) (weak_to (.cons rfl (rc_same rfl (.inl rfl)) (.cons rfl (rc_same rfl (.inl rfl)) (.nil))) (.keep ((by rw [odd_2 m a b c h25]; rfl)) rfl (.keep (rfl) rfl (.nil))) (fun i h => by cases h)) ?_
                  | refine aw_weak (F0 := [(2, .ptr 2 0 0), (4, .ptr 4 0 0)]) (H0 := [(2, .cells 28 11 [cM (oddS m a b c)] true), (4, .cells 28 11 [cM ⟨0, ⟨0, 0, 0⟩, ⟨0, 0, 0⟩, ⟨0, 0, 0⟩, 0⟩] true)]) (weak_to (.cons rfl (rc_same rfl (.inl rfl)) (.cons rfl (rc_same rfl (.inl rfl)) (.nil))) (.keep ((by rw [odd_3 m a b c h30]; rfl)) rfl (.keep (rfl) rfl (.nil))) (fun i h => by cases h)) ?_
                  | refine aw_weak (F0 := [(2, .ptr 2 0 0), (4, .ptr 4 0 0)]) (H0 := [(2, .cells 28 11 [cM (oddS m a b c)] true), (4, .cells 28 11 [cM ⟨0, ⟨0, 0, 0⟩, ⟨0, 0, 0⟩, ⟨0, 0, 0⟩, 0⟩] true)]) (weak_to (.cons rfl (rc_same rfl (.inl rfl)) (.cons rfl (rc_same rfl (.inl rfl)) (.nil))) (.keep ((by rw [odd_4 m a b c h35]; rfl)) rfl (.keep (rfl) rfl (.nil))) (fun i h => by cases h)) ?_
                  | refine aw_weak (F0 := [(2, .ptr 2 0 0), (4, .ptr 4 0 0)]) (H0 := [(2, .cells 28 11 [cM (oddS m a b c)] true), (4, .cells 28 11 [cM ⟨0, ⟨0, 0, 0⟩, ⟨0, 0, 0⟩, ⟨0, 0, 0⟩, 0⟩] true)]) (weak_to (.cons rfl (rc_same rfl (.inl rfl)) (.cons rfl (rc_same rfl (.inl rfl)) (.nil))) (.keep ((by rw [odd_5 m a b c h40]; rfl)) rfl (.keep (rfl) rfl (.nil))) (fun i h => by cases h)) ?_
                  | refine aw_weak (F0 := [(2, .ptr 2 0 0), (4, .ptr 4 0 0)]) (H0 := [(2, .cells 28 11 [cM (oddS m a b c)] true), (4, .cells 28 11 [cM ⟨0, ⟨0, 0, 0⟩, ⟨0, 0, 0⟩, ⟨0, 0, 0⟩, 0⟩] true)]) (weak_to (.cons rfl (rc_same rfl (.inl rfl)) (.cons rfl (rc_same rfl (.inl rfl)) (.nil))) (.keep ((by rw [odd_6 m a b c h45]; rfl)) rfl (.keep (rfl) rfl (.nil))) (fun i h => by cases h)) ?_
                  | refine aw_weak (F0 := [(2, .ptr 2 0 0), (4, .ptr 4 0 0)]) (H0 := [(2, .cells 28 11 [cM (oddS m a b c)] true), (4, .cells 28 11 [cM ⟨0, ⟨0, 0, 0⟩, ⟨0, 0, 0⟩, ⟨0, 0, 0⟩, 0⟩] true)]) (weak_to (.cons rfl (rc_same rfl (.inl rfl)) (.cons rfl (rc_same rfl (.inl rfl)) (.nil))) (.keep ((by rw [odd_7 m a b c (by omega)]; rfl)) rfl (.keep (rfl) rfl (.nil))) (fun i h => by cases h)) ?_
                refine aw_reg ?_
                first | refine rs_ld_pa rfl rfl rfl rfl (Nat.le_of_ble_eq_true rfl) rfl ?_ | refine rs_ld_ra rfl rfl (Nat.le_of_ble_eq_true rfl) rfl ?_ | refine rs_ld_ma rfl rfl rfl (by omega) (Nat.le_of_ble_eq_true rfl) rfl ?_
                refine rs_st rfl rfl rfl rfl rfl rfl rfl (Nat.le_of_ble_eq_true rfl) rfl rfl ?_
                refine rs_nil fun _ => ?_
                refine th_n ?_
                refine aw_ret ?_
                exact ret_pure rfl rfl rfl (.inr rfl)

def mc34 : MC := (.seq (.reg [⟨(some 5), (.box 28 11 (.t 0)), none, []⟩, ⟨(some 10), (.mv (.c (.bool false))), none, []⟩] false) (.seq (.reg [⟨(some 14), (.ld true 11 (.t 5)), none, []⟩, ⟨(some 15), (.mv (.t 1)), none, []⟩, ⟨(some 16), (.call 17 [(.t 14), (.t 15)]), none, [0, 1]⟩, ⟨(some 13), (.mv (.t 16)), none, [2]⟩, ⟨(some 17), (.ext (.t 13) 0), none, [3]⟩, ⟨(some 18), (.ext (.t 13) 1), none, [3]⟩, ⟨(some 11), (.alloc 26 3 [(.int .i64 0), (.int .i64 0), (.int .i64 0)]), none, []⟩, ⟨none, (.st 3 (.t 11) (.t 17)), none, [6, 4, 2, 0, 1, 2, 3, 4, 6]⟩, ⟨(some 12), (.mv (.t 18)), none, [5, 7, 0, 1, 2, 3, 4, 5, 6, 7]⟩] false) (.seq (.reg [⟨(some 19), (.mv (.t 12)), none, []⟩, ⟨(some 20), (.mv (.t 19)), none, [0]⟩, ⟨(some 21), (.ld true 3 (.t 11)), (some (20, true)), [1]⟩, ⟨(some 22), (.mv (.t 2)), (some (20, true)), [1]⟩, ⟨(some 23), (.mv (.t 3)), (some (20, true)), [1]⟩, ⟨(some 24), (.mv (.t 4)), (some (20, true)), [1]⟩, ⟨(some 25), (.build [(.int .i64 0), (.int .i64 0), (.int .i64 0)] [(0, (1, (.t 22))), (1, (1, (.t 23))), (2, (1, (.t 24)))]), (some (20, true)), [3, 4, 5, 1]⟩, ⟨(some 26), (.aeq false 3 (.t 21) (.t 25)), (some (20, true)), [2, 6, 1]⟩, ⟨(some 27), (.pick (.t 20) (.t 26) (.c (.bool false))), none, [1, 7]⟩, ⟨(some 10), (.mv (.t 27)), none, [8, 1, 0, 1, 2, 3, 4, 5, 6, 7, 8]⟩] false) .ret)))
theorem mcOk34 : (match Try.f34.body with | some c => compC Try.prog 28 c | none => none) = some mc34 := by kernel_rfl

theorem fc34 (m : Mv) (s x y z : Int) : FC Try.prog 34 [aM m, iv s, iv x, iv y, iv z] [] (.bool (atB m s && decide (atV m s = ⟨x, y, z⟩))) [] false := by
  refine fc_run (nt := 28) Try.func34 rfl rfl mcOk34 (Nat.le_of_ble_eq_true rfl) ?_
  delta mc34
  refine aw_seq ?_
  refine aw_reg ?_
  refine rs_box rfl rfl rfl rfl rfl rfl ?_
  refine rs_mv rfl rfl ?_
  refine rs_nil fun _ => ?_
  refine th_n ?_
  refine aw_seq ?_
  refine aw_reg ?_
  first | refine rs_ld_pa rfl rfl rfl rfl (Nat.le_of_ble_eq_true rfl) rfl ?_ | refine rs_ld_ra rfl rfl (Nat.le_of_ble_eq_true rfl) rfl ?_ | refine rs_ld_ma rfl rfl rfl (by omega) (Nat.le_of_ble_eq_true rfl) rfl ?_
  refine rs_mv rfl rfl ?_
  refine rs_calln [] rfl rfl (fc17 m s) (.cons (hv_same rfl) (.cons (hv_same rfl) (.nil))) rfl ?_
  refine rs_mv rfl rfl ?_
  refine rs_ext rfl rfl rfl ?_
  refine rs_ext rfl rfl rfl ?_
  cases h18 : atB m s
  · skip
    refine rs_alloc rfl rfl rfl ?_
    refine rs_st rfl rfl rfl rfl rfl rfl rfl (Nat.le_of_ble_eq_true rfl) rfl rfl ?_
    refine rs_mv rfl rfl ?_
    refine rs_nil fun _ => ?_
    refine th_n ?_
    refine aw_seq ?_
    refine aw_reg ?_
    refine rs_mv rfl rfl ?_
    refine rs_mv rfl rfl ?_
    refine rs_skip rfl ?_
    refine rs_skip rfl ?_
    refine rs_skip rfl ?_
    refine rs_skip rfl ?_
    refine rs_skip rfl ?_
    refine rs_skip rfl ?_
    refine rs_pick rfl rfl rfl ?_
    refine rs_mv rfl rfl ?_
    refine rs_nil fun _ => ?_
    refine th_n ?_
    refine aw_ret ?_
    exact ret_pure rfl (congrArg AV.bool (by simp_all)) rfl (.inr rfl)
  · skip
    refine rs_alloc rfl rfl rfl ?_
    refine rs_st rfl rfl rfl rfl rfl rfl rfl (Nat.le_of_ble_eq_true rfl) rfl rfl ?_
    refine rs_mv rfl rfl ?_
    refine rs_nil fun _ => ?_
    refine th_n ?_
    refine aw_seq ?_
    refine aw_reg ?_
    refine rs_mv rfl rfl ?_
    refine rs_mv rfl rfl ?_
    first | refine rs_ld_pa rfl rfl rfl rfl (Nat.le_of_ble_eq_true rfl) rfl ?_ | refine rs_ld_ra rfl rfl (Nat.le_of_ble_eq_true rfl) rfl ?_ | refine rs_ld_ma rfl rfl rfl (by omega) (Nat.le_of_ble_eq_true rfl) rfl ?_
    refine rs_mv rfl rfl ?_
    refine rs_mv rfl rfl ?_
    refine rs_mv rfl rfl ?_
    refine rs_build rfl rfl ?_
    refine rs_aeqv (u := atV m s) (v := ⟨x, y, z⟩) rfl rfl rfl ?_
    refine rs_pick rfl rfl rfl ?_
    refine rs_mv rfl rfl ?_
    refine rs_nil fun _ => ?_
    refine th_n ?_
    refine aw_ret ?_
    exact ret_pure rfl (congrArg AV.bool (by simp_all)) rfl (.inr rfl)

abbrev lineM : Mv := ⟨2, ⟨0, 0, 0⟩, ⟨6, -4, 2⟩, ⟨0, 0, 0⟩, 10⟩
abbrev arcM : Mv := ⟨3, ⟨5, 0, 0⟩, ⟨0, 5, 0⟩, ⟨5, 5, 0⟩, 10⟩
abbrev farM : Mv := ⟨3, ⟨5, 0, 0⟩, ⟨10, 5, 0⟩, ⟨5, 5, 0⟩, 10⟩
theorem fc14e {m : Mv} {n : Int} (h : stepsS m = n) : FC Try.prog 14 [aM m] [] (iv n) [] false := by rw [← h]; exact fc14 m
theorem fc34e {m : Mv} {s x y z : Int} {b : Bool} (h : (atB m s && decide (atV m s = ⟨x, y, z⟩)) = b) : FC Try.prog 34 [aM m, iv s, iv x, iv y, iv z] [] (.bool b) [] false := by rw [← h]; exact fc34 m s x y z
theorem fc17e {m : Mv} {s : Int} {v : V3} {b : Bool} (h : atV m s = v) (h2 : atB m s = b) : FC Try.prog 17 [aM m, iv s] [] (.tup [aV v, .bool b]) [] false := by rw [← h, ← h2]; exact fc17 m s
theorem fc19e {m : Mv} {i j : Int} {l : List V3} {b : Bool} (h : outS m i j = l) (h2 : btwB m i j = b) : FC Try.prog 19 [aM m, iv i, iv j] [] (.tup [.rs 3 (l.map cV), .bool b]) [] true := by rw [← h, ← h2]; exact fc19 m i j
theorem fc21e {m : Mv} {i j : Int} {l : List (V3 × V3)} {b : Bool} (h : knS m i j = l) (h2 : btwB m i j = b) : FC Try.prog 21 [aM m, iv i, iv j] [] (.tup [.rs 6 (l.map cP), .bool b]) [] true := by rw [← h, ← h2]; exact fc21 m i j
theorem fc12e {m : Mv} {n : Int} (h : checkS m = n) : FC Try.prog 12 [aM m] [] (iv n) [] false := by rw [← h]; exact fc12 m

def mc9 : MC := (.seq (.reg [⟨(some 0), (.mv (.c (.bool false))), none, []⟩] false) (.seq (.reg [⟨(some 22), (.build [(.int .i64 0), (.int .i64 0), (.int .i64 0)] [(0, (1, (.c (.int .i64 6)))), (1, (1, (.c (.int .i64 (-4))))), (2, (1, (.c (.int .i64 2))))]), none, []⟩, ⟨(some 23), (.build [(.int .i64 0), (.int .i64 0), (.int .i64 0), (.int .i64 0), (.int .i64 0), (.int .i64 0), (.int .i64 0), (.int .i64 0), (.int .i64 0), (.int .i64 0), (.int .i64 0)] [(0, (1, (.c (.int .i64 2)))), (4, (3, (.t 22))), (10, (1, (.c (.int .i64 10))))]), none, [0]⟩, ⟨(some 1), (.alloc 28 11 [(.int .i64 0), (.int .i64 0), (.int .i64 0), (.int .i64 0), (.int .i64 0), (.int .i64 0), (.int .i64 0), (.int .i64 0), (.int .i64 0), (.int .i64 0), (.int .i64 0)]), none, []⟩, ⟨none, (.st 11 (.t 1) (.t 23)), none, [2, 1, 0, 1, 2]⟩] false) (.seq (.reg [⟨(some 24), (.build [(.int .i64 0), (.int .i64 0), (.int .i64 0)] [(0, (1, (.c (.int .i64 5))))]), none, []⟩, ⟨(some 25), (.build [(.int .i64 0), (.int .i64 0), (.int .i64 0)] [(1, (1, (.c (.int .i64 5))))]), none, []⟩, ⟨(some 26), (.build [(.int .i64 0), (.int .i64 0), (.int .i64 0)] [(0, (1, (.c (.int .i64 5)))), (1, (1, (.c (.int .i64 5))))]), none, []⟩, ⟨(some 27), (.build [(.int .i64 0), (.int .i64 0), (.int .i64 0), (.int .i64 0), (.int .i64 0), (.int .i64 0), (.int .i64 0), (.int .i64 0), (.int .i64 0), (.int .i64 0), (.int .i64 0)] [(0, (1, (.c (.int .i64 3)))), (1, (3, (.t 24))), (4, (3, (.t 25))), (7, (3, (.t 26))), (10, (1, (.c (.int .i64 10))))]), none, [0, 1, 2]⟩, ⟨(some 2), (.alloc 28 11 [(.int .i64 0), (.int .i64 0), (.int .i64 0), (.int .i64 0), (.int .i64 0), (.int .i64 0), (.int .i64 0), (.int .i64 0), (.int .i64 0), (.int .i64 0), (.int .i64 0)]), none, []⟩, ⟨none, (.st 11 (.t 2) (.t 27)), none, [4, 3, 0, 1, 2, 3, 4]⟩] false) (.seq (.reg [⟨(some 28), (.build [(.int .i64 0), (.int .i64 0), (.int .i64 0)] [(0, (1, (.c (.int .i64 5))))]), none, []⟩, ⟨(some 29), (.build [(.int .i64 0), (.int .i64 0), (.int .i64 0)] [(0, (1, (.c (.int .i64 10)))), (1, (1, (.c (.int .i64 5))))]), none, []⟩, ⟨(some 30), (.build [(.int .i64 0), (.int .i64 0), (.int .i64 0)] [(0, (1, (.c (.int .i64 5)))), (1, (1, (.c (.int .i64 5))))]), none, []⟩, ⟨(some 31), (.build [(.int .i64 0), (.int .i64 0), (.int .i64 0), (.int .i64 0), (.int .i64 0), (.int .i64 0), (.int .i64 0), (.int .i64 0), (.int .i64 0), (.int .i64 0), (.int .i64 0)] [(0, (1, (.c (.int .i64 3)))), (1, (3, (.t 28))), (4, (3, (.t 29))), (7, (3, (.t 30))), (10, (1, (.c (.int .i64 10))))]), none, [0, 1, 2]⟩, ⟨(some 3), (.alloc 28 11 [(.int .i64 0), (.int .i64 0), (.int .i64 0), (.int .i64 0), (.int .i64 0), (.int .i64 0), (.int .i64 0), (.int .i64 0), (.int .i64 0), (.int .i64 0), (.int .i64 0)]), none, []⟩, ⟨none, (.st 11 (.t 3) (.t 31)), none, [4, 3, 0, 1, 2, 3, 4]⟩] false) (.seq (.seq (.reg [⟨(some 32), (.ld true 11 (.t 1)), none, []⟩, ⟨(some 33), (.call 14 [(.t 32)]), none, [0]⟩, ⟨(some 34), (.bin .neq (.t 33) (.c (.int .i64 2))), none, [1]⟩, ⟨(some 35), (.mv (.t 34)), none, [2, 1]⟩, ⟨(some 36), (.ld true 11 (.t 1)), (some (35, false)), [3]⟩, ⟨(some 37), (.call 34 [(.t 36), (.c (.int .i64 1)), (.c (.int .i64 3)), (.c (.int .i64 (-2))), (.c (.int .i64 1))]), (some (35, false)), [4, 3, 3]⟩, ⟨(some 38), (.un .not (.t 37)), (some (35, false)), [5, 3]⟩, ⟨(some 39), (.pick (.t 35) (.c (.bool true)) (.t 38)), none, [3, 6]⟩, ⟨(some 40), (.mv (.t 39)), none, [7, 5]⟩, ⟨(some 41), (.ld true 11 (.t 2)), (some (40, false)), [8]⟩, ⟨(some 42), (.call 14 [(.t 41)]), (some (40, false)), [9, 8, 8]⟩, ⟨(some 43), (.bin .neq (.t 42) (.c (.int .i64 3))), (some (40, false)), [10, 8]⟩, ⟨(some 44), (.pick (.t 40) (.c (.bool true)) (.t 43)), none, [8, 11]⟩, ⟨(some 45), (.mv (.t 44)), none, [12, 10]⟩, ⟨(some 46), (.ld true 11 (.t 2)), (some (45, false)), [13]⟩, ⟨(some 47), (.call 34 [(.t 46), (.c (.int .i64 1)), (.c (.int .i64 4)), (.c (.int .i64 3)), (.c (.int .i64 0))]), (some (45, false)), [14, 13, 13]⟩, ⟨(some 48), (.un .not (.t 47)), (some (45, false)), [15, 13]⟩, ⟨(some 49), (.pick (.t 45) (.c (.bool true)) (.t 48)), none, [13, 16]⟩, ⟨(some 50), (.mv (.t 49)), none, [17, 15]⟩, ⟨(some 51), (.ld true 11 (.t 2)), (some (50, false)), [18]⟩, ⟨(some 52), (.call 34 [(.t 51), (.c (.int .i64 2)), (.c (.int .i64 3)), (.c (.int .i64 4)), (.c (.int .i64 0))]), (some (50, false)), [19, 18, 18]⟩, ⟨(some 53), (.un .not (.t 52)), (some (50, false)), [20, 18]⟩, ⟨(some 54), (.pick (.t 50) (.c (.bool true)) (.t 53)), none, [18, 21]⟩, ⟨(some 55), (.mv (.t 54)), none, [22, 20]⟩, ⟨(some 56), (.ld true 11 (.t 2)), (some (55, false)), [23]⟩, ⟨(some 57), (.call 34 [(.t 56), (.c (.int .i64 3)), (.c (.int .i64 0)), (.c (.int .i64 5)), (.c (.int .i64 0))]), (some (55, false)), [24, 23, 23]⟩, ⟨(some 58), (.un .not (.t 57)), (some (55, false)), [25, 23]⟩, ⟨(some 59), (.pick (.t 55) (.c (.bool true)) (.t 58)), none, [23, 26]⟩, ⟨(some 60), (.mv (.t 59)), none, [27, 25]⟩, ⟨(some 61), (.ld true 11 (.t 3)), (some (60, false)), [28]⟩, ⟨(some 62), (.call 14 [(.t 61)]), (some (60, false)), [29, 28, 28]⟩, ⟨(some 63), (.bin .neq (.t 62) (.c (.int .i64 3))), (some (60, false)), [30, 28]⟩, ⟨(some 64), (.pick (.t 60) (.c (.bool true)) (.t 63)), none, [28, 31]⟩, ⟨(some 65), (.mv (.t 64)), none, [32, 30]⟩, ⟨(some 66), (.ld true 11 (.t 3)), (some (65, false)), [33]⟩, ⟨(some 67), (.call 34 [(.t 66), (.c (.int .i64 1)), (.c (.int .i64 6)), (.c (.int .i64 3)), (.c (.int .i64 0))]), (some (65, false)), [34, 33, 33]⟩, ⟨(some 68), (.un .not (.t 67)), (some (65, false)), [35, 33]⟩, ⟨(some 69), (.pick (.t 65) (.c (.bool true)) (.t 68)), none, [33, 36]⟩, ⟨(some 70), (.mv (.t 69)), none, [37, 35]⟩, ⟨(some 71), (.ld true 11 (.t 3)), (some (70, false)), [38]⟩, ⟨(some 72), (.call 34 [(.t 71), (.c (.int .i64 2)), (.c (.int .i64 7)), (.c (.int .i64 4)), (.c (.int .i64 0))]), (some (70, false)), [39, 38, 38]⟩, ⟨(some 73), (.un .not (.t 72)), (some (70, false)), [40, 38]⟩, ⟨(some 74), (.pick (.t 70) (.c (.bool true)) (.t 73)), none, [38, 41]⟩] false) (.cond (.t 74) (.seq (.reg [⟨(some 0), (.mv (.c (.bool false))), none, []⟩] false) .ret) .skip)) (.seq (.reg [⟨(some 76), (.ld true 11 (.t 1)), none, []⟩, ⟨(some 77), (.call 17 [(.t 76), (.c (.int .i64 3))]), none, [0]⟩, ⟨(some 75), (.mv (.t 77)), none, [1]⟩, ⟨(some 78), (.ext (.t 75) 0), none, [2]⟩, ⟨(some 79), (.ext (.t 75) 1), none, [2]⟩, ⟨(some 4), (.alloc 26 3 [(.int .i64 0), (.int .i64 0), (.int .i64 0)]), none, []⟩, ⟨none, (.st 3 (.t 4) (.t 78)), none, [5, 3, 1, 0, 1, 2, 3, 5]⟩, ⟨(some 5), (.mv (.t 79)), none, [4, 6, 0, 1, 2, 3, 4, 5, 6]⟩] false) (.seq (.reg [⟨(some 81), (.ld true 11 (.t 1)), none, []⟩, ⟨(some 82), (.call 19 [(.t 81), (.c (.int .i64 0)), (.c (.int .i64 2))]), none, [0]⟩, ⟨(some 80), (.mv (.t 82)), none, [1]⟩, ⟨(some 83), (.ext (.t 80) 0), none, [2]⟩, ⟨(some 84), (.ext (.t 80) 1), none, [2]⟩, ⟨(some 6), (.mv (.t 83)), none, [3, 1, 0, 1, 2, 3]⟩, ⟨(some 7), (.mv (.t 84)), none, [4, 5, 0, 1, 2, 3, 4, 5]⟩] false) (.seq (.reg [⟨(some 86), (.ld true 11 (.t 1)), none, []⟩, ⟨(some 87), (.call 19 [(.t 86), (.c (.int .i64 1)), (.c (.int .i64 1))]), none, [0]⟩, ⟨(some 85), (.mv (.t 87)), none, [1]⟩, ⟨(some 88), (.ext (.t 85) 0), none, [2]⟩, ⟨(some 89), (.ext (.t 85) 1), none, [2]⟩, ⟨(some 8), (.mv (.t 88)), none, [3, 1, 0, 1, 2, 3]⟩, ⟨(some 9), (.mv (.t 89)), none, [4, 5, 0, 1, 2, 3, 4, 5]⟩] false) (.seq (.reg [⟨(some 91), (.ld true 11 (.t 2)), none, []⟩, ⟨(some 92), (.call 19 [(.t 91), (.c (.int .i64 1)), (.c (.int .i64 2))]), none, [0]⟩, ⟨(some 90), (.mv (.t 92)), none, [1]⟩, ⟨(some 93), (.ext (.t 90) 0), none, [2]⟩, ⟨(some 94), (.ext (.t 90) 1), none, [2]⟩, ⟨(some 10), (.mv (.t 93)), none, [3, 1, 0, 1, 2, 3]⟩, ⟨(some 11), (.mv (.t 94)), none, [4, 5, 0, 1, 2, 3, 4, 5]⟩] false) (.seq (.reg [⟨(some 96), (.ld true 11 (.t 1)), none, []⟩, ⟨(some 97), (.call 19 [(.t 96), (.c (.int .i64 2)), (.c (.int .i64 1))]), none, [0]⟩, ⟨(some 95), (.mv (.t 97)), none, [1]⟩, ⟨(some 98), (.ext (.t 95) 0), none, [2]⟩, ⟨(some 99), (.ext (.t 95) 1), none, [2]⟩, ⟨(some 12), (.mv (.t 98)), none, [3, 1, 0, 1, 2, 3]⟩, ⟨(some 13), (.mv (.t 99)), none, [4, 5, 0, 1, 2, 3, 4, 5]⟩] false) (.seq (.reg [⟨(some 101), (.ld true 11 (.t 2)), none, []⟩, ⟨(some 102), (.call 21 [(.t 101), (.c (.int .i64 1)), (.c (.int .i64 2))]), none, [0]⟩, ⟨(some 100), (.mv (.t 102)), none, [1]⟩, ⟨(some 103), (.ext (.t 100) 0), none, [2]⟩, ⟨(some 104), (.ext (.t 100) 1), none, [2]⟩, ⟨(some 14), (.mv (.t 103)), none, [3, 1, 0, 1, 2, 3]⟩, ⟨(some 15), (.mv (.t 104)), none, [4, 5, 0, 1, 2, 3, 4, 5]⟩] false) (.seq (.seq (.reg [⟨(some 105), (.mv (.t 5)), none, []⟩, ⟨(some 106), (.mv (.t 105)), none, [0]⟩, ⟨(some 107), (.mv (.t 7)), (some (106, false)), [1]⟩, ⟨(some 108), (.un .not (.t 107)), (some (106, false)), [2, 1]⟩, ⟨(some 109), (.pick (.t 106) (.c (.bool true)) (.t 108)), none, [1, 3]⟩, ⟨(some 110), (.mv (.t 109)), none, [4, 1]⟩, ⟨(some 111), (.mv (.t 9)), (some (110, false)), [5]⟩, ⟨(some 112), (.un .not (.t 111)), (some (110, false)), [6, 5]⟩, ⟨(some 113), (.pick (.t 110) (.c (.bool true)) (.t 112)), none, [5, 7]⟩, ⟨(some 114), (.mv (.t 113)), none, [8, 5]⟩, ⟨(some 115), (.mv (.t 11)), (some (114, false)), [9]⟩, ⟨(some 116), (.un .not (.t 115)), (some (114, false)), [10, 9]⟩, ⟨(some 117), (.pick (.t 114) (.c (.bool true)) (.t 116)), none, [9, 11]⟩, ⟨(some 118), (.mv (.t 117)), none, [12, 9]⟩, ⟨(some 119), (.mv (.t 13)), (some (118, false)), [13]⟩, ⟨(some 120), (.pick (.t 118) (.c (.bool true)) (.t 119)), none, [13, 14]⟩, ⟨(some 121), (.mv (.t 120)), none, [15, 13]⟩, ⟨(some 122), (.mv (.t 15)), (some (121, false)), [16]⟩, ⟨(some 123), (.un .not (.t 122)), (some (121, false)), [17, 16]⟩, ⟨(some 124), (.pick (.t 121) (.c (.bool true)) (.t 123)), none, [16, 18]⟩, ⟨(some 125), (.mv (.t 124)), none, [19, 16]⟩, ⟨(some 126), (.mv (.t 6)), (some (125, false)), [20]⟩, ⟨(some 127), (.fa 1 (.t 1)), (some (125, false)), [20]⟩, ⟨(some 128), (.ld true 3 (.t 127)), (some (125, false)), [22, 20]⟩, ⟨(some 129), (.fa 4 (.t 1)), (some (125, false)), [20]⟩, ⟨(some 130), (.ld true 3 (.t 129)), (some (125, false)), [24, 20]⟩, ⟨(some 131), (.bslice 26 3 [(.int .i64 0), (.int .i64 0), (.int .i64 0)] 2 [(0, (.t 128)), (1, (.t 130))]), (some (125, false)), [23, 25, 20]⟩, ⟨(some 132), (.call 23 [(.t 126), (.t 131)]), (some (125, false)), [21, 26, 20, 20]⟩, ⟨(some 133), (.un .not (.t 132)), (some (125, false)), [27, 20]⟩, ⟨(some 134), (.pick (.t 125) (.c (.bool true)) (.t 133)), none, [20, 28]⟩, ⟨(some 135), (.mv (.t 134)), none, [29, 27]⟩, ⟨(some 136), (.mv (.t 8)), (some (135, false)), [30]⟩, ⟨(some 137), (.build [(.int .i64 0), (.int .i64 0), (.int .i64 0)] [(0, (1, (.c (.int .i64 3)))), (1, (1, (.c (.int .i64 (-2))))), (2, (1, (.c (.int .i64 1))))]), (some (135, false)), [30]⟩, ⟨(some 138), (.bslice 26 3 [(.int .i64 0), (.int .i64 0), (.int .i64 0)] 1 [(0, (.t 137))]), (some (135, false)), [32, 30]⟩, ⟨(some 139), (.call 23 [(.t 136), (.t 138)]), (some (135, false)), [31, 33, 30, 30]⟩, ⟨(some 140), (.un .not (.t 139)), (some (135, false)), [34, 30]⟩, ⟨(some 141), (.pick (.t 135) (.c (.bool true)) (.t 140)), none, [30, 35]⟩, ⟨(some 142), (.mv (.t 141)), none, [36, 34]⟩, ⟨(some 143), (.mv (.t 10)), (some (142, false)), [37]⟩, ⟨(some 144), (.fa 1 (.t 2)), (some (142, false)), [37]⟩, ⟨(some 145), (.ld true 3 (.t 144)), (some (142, false)), [39, 37]⟩, ⟨(some 146), (.fa 7 (.t 2)), (some (142, false)), [37]⟩, ⟨(some 147), (.ld true 3 (.t 146)), (some (142, false)), [41, 37]⟩, ⟨(some 148), (.fa 4 (.t 2)), (some (142, false)), [37]⟩, ⟨(some 149), (.ld true 3 (.t 148)), (some (142, false)), [43, 37]⟩, ⟨(some 150), (.bslice 26 3 [(.int .i64 0), (.int .i64 0), (.int .i64 0)] 3 [(0, (.t 145)), (1, (.t 147)), (2, (.t 149))]), (some (142, false)), [40, 42, 44, 37]⟩, ⟨(some 151), (.call 23 [(.t 143), (.t 150)]), (some (142, false)), [38, 45, 37, 37]⟩, ⟨(some 152), (.un .not (.t 151)), (some (142, false)), [46, 37]⟩, ⟨(some 153), (.pick (.t 142) (.c (.bool true)) (.t 152)), none, [37, 47]⟩] false) (.cond (.t 153) (.seq (.reg [⟨(some 0), (.mv (.c (.bool false))), none, []⟩] false) .ret) .skip)) (.seq (.reg [⟨(some 154), (.build [(.int .i64 0), (.int .i64 0), (.int .i64 0)] [(0, (1, (.c (.int .i64 4)))), (1, (1, (.c (.int .i64 3))))]), none, []⟩, ⟨(some 155), (.build [(.int .i64 0), (.int .i64 0), (.int .i64 0)] [(0, (1, (.c (.int .i64 3)))), (1, (1, (.c (.int .i64 4))))]), none, []⟩, ⟨(some 16), (.alloc 26 3 [(.int .i64 0), (.int .i64 0), (.int .i64 0)]), none, []⟩, ⟨(some 17), (.alloc 26 3 [(.int .i64 0), (.int .i64 0), (.int .i64 0)]), none, []⟩, ⟨none, (.st 3 (.t 16) (.t 154)), none, [2, 0, 0, 2, 3]⟩, ⟨none, (.st 3 (.t 17) (.t 155)), none, [3, 1, 4, 0, 1, 2, 3, 4]⟩] false) (.seq (.reg [⟨(some 156), (.ld true 11 (.t 1)), none, []⟩, ⟨(some 157), (.ld true 11 (.t 1)), none, []⟩, ⟨(some 158), (.ld true 11 (.t 1)), none, []⟩, ⟨(some 159), (.ld true 11 (.t 2)), none, []⟩, ⟨(some 18), (.alloc 28 11 [(.int .i64 0), (.int .i64 0), (.int .i64 0), (.int .i64 0), (.int .i64 0), (.int .i64 0), (.int .i64 0), (.int .i64 0), (.int .i64 0), (.int .i64 0), (.int .i64 0)]), none, []⟩, ⟨(some 19), (.alloc 28 11 [(.int .i64 0), (.int .i64 0), (.int .i64 0), (.int .i64 0), (.int .i64 0), (.int .i64 0), (.int .i64 0), (.int .i64 0), (.int .i64 0), (.int .i64 0), (.int .i64 0)]), none, []⟩, ⟨(some 20), (.alloc 28 11 [(.int .i64 0), (.int .i64 0), (.int .i64 0), (.int .i64 0), (.int .i64 0), (.int .i64 0), (.int .i64 0), (.int .i64 0), (.int .i64 0), (.int .i64 0), (.int .i64 0)]), none, []⟩, ⟨(some 21), (.alloc 28 11 [(.int .i64 0), (.int .i64 0), (.int .i64 0), (.int .i64 0), (.int .i64 0), (.int .i64 0), (.int .i64 0), (.int .i64 0), (.int .i64 0), (.int .i64 0), (.int .i64 0)]), none, []⟩, ⟨none, (.st 11 (.t 18) (.t 156)), none, [4, 0, 0, 4, 5, 6, 7]⟩, ⟨none, (.st 11 (.t 19) (.t 157)), none, [5, 1, 8, 0, 1, 4, 5, 6, 7, 8]⟩, ⟨none, (.st 11 (.t 20) (.t 158)), none, [6, 2, 9, 0, 1, 2, 4, 5, 6, 7, 8, 9]⟩, ⟨none, (.st 11 (.t 21) (.t 159)), none, [7, 3, 10, 0, 1, 2, 3, 4, 5, 6, 7, 8, 9, 10]⟩] true) (.seq (.reg [⟨(some 160), (.build [(.int .i64 0), (.int .i64 0), (.int .i64 0)] []), none, []⟩, ⟨(some 161), (.build [(.int .i64 0), (.int .i64 0), (.int .i64 0)] [(0, (1, (.c (.int .i64 5)))), (1, (1, (.c (.int .i64 4))))]), none, []⟩, ⟨(some 162), (.fa 0 (.t 18)), none, []⟩, ⟨none, (.st 1 (.t 162) (.c (.int .i64 1))), none, [2]⟩, ⟨(some 163), (.fa 10 (.t 19)), none, [2, 3]⟩, ⟨none, (.st 1 (.t 163) (.c (.int .i64 0))), none, [4, 3, 2, 3]⟩, ⟨(some 164), (.fa 4 (.t 20)), none, [0, 2, 3, 4, 5]⟩, ⟨none, (.st 3 (.t 164) (.t 160)), none, [6, 0, 5, 0, 2, 3, 4, 5]⟩, ⟨(some 165), (.fa 1 (.t 21)), none, [0, 1, 2, 3, 4, 5, 6, 7]⟩, ⟨none, (.st 3 (.t 165) (.t 161)), none, [8, 1, 7, 0, 1, 2, 3, 4, 5, 6, 7]⟩] false) (.seq (.reg [⟨(some 166), (.mv (.t 14)), none, []⟩, ⟨(some 167), (.ld true 3 (.t 16)), none, []⟩, ⟨(some 168), (.ld true 3 (.t 16)), none, []⟩, ⟨(some 169), (.build [(.int .i64 0), (.int .i64 0), (.int .i64 0), (.int .i64 0), (.int .i64 0), (.int .i64 0)] [(0, (3, (.t 167))), (3, (3, (.t 168)))]), none, [1, 2]⟩, ⟨(some 170), (.ld true 3 (.t 17)), none, []⟩, ⟨(some 171), (.ld true 3 (.t 17)), none, []⟩, ⟨(some 172), (.build [(.int .i64 0), (.int .i64 0), (.int .i64 0), (.int .i64 0), (.int .i64 0), (.int .i64 0)] [(0, (3, (.t 170))), (3, (3, (.t 171)))]), none, [4, 5]⟩, ⟨(some 173), (.bslice 63 6 [(.int .i64 0), (.int .i64 0), (.int .i64 0), (.int .i64 0), (.int .i64 0), (.int .i64 0)] 2 [(0, (.t 169)), (1, (.t 172))]), none, [3, 6]⟩, ⟨(some 174), (.call 24 [(.t 166), (.t 173)]), none, [0, 7]⟩, ⟨(some 175), (.mv (.t 174)), none, [8, 8]⟩, ⟨(some 176), (.ld true 11 (.t 18)), (some (175, true)), [9]⟩, ⟨(some 177), (.call 12 [(.t 176)]), (some (175, true)), [10, 9, 9]⟩, ⟨(some 178), (.bin .eql (.t 177) (.c (.int .i64 3))), (some (175, true)), [11, 9]⟩, ⟨(some 179), (.pick (.t 175) (.t 178) (.c (.bool false))), none, [9, 12]⟩, ⟨(some 180), (.mv (.t 179)), none, [13, 11]⟩, ⟨(some 181), (.ld true 11 (.t 19)), (some (180, true)), [14]⟩, ⟨(some 182), (.call 12 [(.t 181)]), (some (180, true)), [15, 14, 14]⟩, ⟨(some 183), (.bin .eql (.t 182) (.c (.int .i64 3))), (some (180, true)), [16, 14]⟩, ⟨(some 184), (.pick (.t 180) (.t 183) (.c (.bool false))), none, [14, 17]⟩, ⟨(some 185), (.mv (.t 184)), none, [18, 16]⟩, ⟨(some 186), (.ld true 11 (.t 20)), (some (185, true)), [19]⟩, ⟨(some 187), (.call 12 [(.t 186)]), (some (185, true)), [20, 19, 19]⟩, ⟨(some 188), (.bin .eql (.t 187) (.c (.int .i64 16))), (some (185, true)), [21, 19]⟩, ⟨(some 189), (.pick (.t 185) (.t 188) (.c (.bool false))), none, [19, 22]⟩, ⟨(some 190), (.mv (.t 189)), none, [23, 21]⟩, ⟨(some 191), (.ld true 11 (.t 21)), (some (190, true)), [24]⟩, ⟨(some 192), (.call 12 [(.t 191)]), (some (190, true)), [25, 24, 24]⟩, ⟨(some 193), (.bin .eql (.t 192) (.c (.int .i64 16))), (some (190, true)), [26, 24]⟩, ⟨(some 194), (.pick (.t 190) (.t 193) (.c (.bool false))), none, [24, 27]⟩, ⟨(some 0), (.mv (.t 194)), none, [28, 26, 0, 1, 2, 3, 4, 5, 6, 7, 8, 9, 10, 11, 12, 13, 14, 15, 16, 17, 18, 19, 20, 21, 22, 23, 24, 25, 26, 27, 28]⟩] false) .ret))))))))))))))))
theorem mcOk9 : (match Try.f9.body with | some c => compC Try.prog 195 c | none => none) = some mc9 := by kernel_rfl

theorem fc9  : FC Try.prog 9 [] [] (.bool true) [] false := by
  refine fc_run (nt := 195) Try.func9 rfl rfl mcOk9 (Nat.le_of_ble_eq_true rfl) ?_
  delta mc9
  refine aw_seq ?_
  refine aw_reg ?_
  refine rs_mv rfl rfl ?_
  refine rs_nil fun _ => ?_
  refine th_n ?_
  refine aw_seq ?_
  refine aw_reg ?_
  refine rs_build rfl rfl ?_
  refine rs_build rfl rfl ?_
  refine rs_alloc rfl rfl rfl ?_
  refine rs_st rfl rfl rfl rfl rfl rfl rfl (Nat.le_of_ble_eq_true rfl) rfl rfl ?_
  refine rs_nil fun _ => ?_
  refine th_n ?_
  refine aw_seq ?_
  refine aw_reg ?_
  refine rs_build rfl rfl ?_
  refine rs_build rfl rfl ?_
  refine rs_build rfl rfl ?_
  refine rs_build rfl rfl ?_
  refine rs_alloc rfl rfl rfl ?_
  refine rs_st rfl rfl rfl rfl rfl rfl rfl (Nat.le_of_ble_eq_true rfl) rfl rfl ?_
  refine rs_nil fun _ => ?_
  refine th_n ?_
  refine aw_seq ?_
  refine aw_reg ?_
  refine rs_build rfl rfl ?_
  refine rs_build rfl rfl ?_
  refine rs_build rfl rfl ?_
  refine rs_build rfl rfl ?_
  refine rs_alloc rfl rfl rfl ?_
  refine rs_st rfl rfl rfl rfl rfl rfl rfl (Nat.le_of_ble_eq_true rfl) rfl rfl ?_
  refine rs_nil fun _ => ?_
  refine th_n ?_
  refine aw_seq ?_
  refine aw_seq ?_
  refine aw_reg ?_
  first | refine rs_ld_pa rfl rfl rfl rfl (Nat.le_of_ble_eq_true rfl) rfl ?_ | refine rs_ld_ra rfl rfl (Nat.le_of_ble_eq_true rfl) rfl ?_ | refine rs_ld_ma rfl rfl rfl (by omega) (Nat.le_of_ble_eq_true rfl) rfl ?_
  refine rs_calln [] rfl rfl (fc14e (m := lineM) (n := 2) (by decide +kernel)) (.cons (hv_same rfl) (.nil)) rfl ?_
  refine rs_cmp_f rfl rfl rfl rfl (by decide) ?_
  refine rs_mv rfl rfl ?_
  first | refine rs_ld_pa rfl rfl rfl rfl (Nat.le_of_ble_eq_true rfl) rfl ?_ | refine rs_ld_ra rfl rfl (Nat.le_of_ble_eq_true rfl) rfl ?_ | refine rs_ld_ma rfl rfl rfl (by omega) (Nat.le_of_ble_eq_true rfl) rfl ?_
  refine rs_calln [] rfl rfl (fc34e (m := lineM) (s := 1) (x := 3) (y := (-2)) (z := 1) (b := true) (by decide +kernel)) (.cons (hv_same rfl) (.cons (hv_same rfl) (.cons (hv_same rfl) (.cons (hv_same rfl) (.cons (hv_same rfl) (.nil)))))) rfl ?_
  refine rs_not rfl rfl ?_
  refine rs_pick rfl rfl rfl ?_
  refine rs_mv rfl rfl ?_
  first | refine rs_ld_pa rfl rfl rfl rfl (Nat.le_of_ble_eq_true rfl) rfl ?_ | refine rs_ld_ra rfl rfl (Nat.le_of_ble_eq_true rfl) rfl ?_ | refine rs_ld_ma rfl rfl rfl (by omega) (Nat.le_of_ble_eq_true rfl) rfl ?_
  refine rs_calln [] rfl rfl (fc14e (m := arcM) (n := 3) (by decide +kernel)) (.cons (hv_same rfl) (.nil)) rfl ?_
  refine rs_cmp_f rfl rfl rfl rfl (by decide) ?_
  refine rs_pick rfl rfl rfl ?_
  refine rs_mv rfl rfl ?_
  first | refine rs_ld_pa rfl rfl rfl rfl (Nat.le_of_ble_eq_true rfl) rfl ?_ | refine rs_ld_ra rfl rfl (Nat.le_of_ble_eq_true rfl) rfl ?_ | refine rs_ld_ma rfl rfl rfl (by omega) (Nat.le_of_ble_eq_true rfl) rfl ?_
  refine rs_calln [] rfl rfl (fc34e (m := arcM) (s := 1) (x := 4) (y := 3) (z := 0) (b := true) (by decide +kernel)) (.cons (hv_same rfl) (.cons (hv_same rfl) (.cons (hv_same rfl) (.cons (hv_same rfl) (.cons (hv_same rfl) (.nil)))))) rfl ?_
  refine rs_not rfl rfl ?_
  refine rs_pick rfl rfl rfl ?_
  refine rs_mv rfl rfl ?_
  first | refine rs_ld_pa rfl rfl rfl rfl (Nat.le_of_ble_eq_true rfl) rfl ?_ | refine rs_ld_ra rfl rfl (Nat.le_of_ble_eq_true rfl) rfl ?_ | refine rs_ld_ma rfl rfl rfl (by omega) (Nat.le_of_ble_eq_true rfl) rfl ?_
  refine rs_calln [] rfl rfl (fc34e (m := arcM) (s := 2) (x := 3) (y := 4) (z := 0) (b := true) (by decide +kernel)) (.cons (hv_same rfl) (.cons (hv_same rfl) (.cons (hv_same rfl) (.cons (hv_same rfl) (.cons (hv_same rfl) (.nil)))))) rfl ?_
  refine rs_not rfl rfl ?_
  refine rs_pick rfl rfl rfl ?_
  refine rs_mv rfl rfl ?_
  first | refine rs_ld_pa rfl rfl rfl rfl (Nat.le_of_ble_eq_true rfl) rfl ?_ | refine rs_ld_ra rfl rfl (Nat.le_of_ble_eq_true rfl) rfl ?_ | refine rs_ld_ma rfl rfl rfl (by omega) (Nat.le_of_ble_eq_true rfl) rfl ?_
  refine rs_calln [] rfl rfl (fc34e (m := arcM) (s := 3) (x := 0) (y := 5) (z := 0) (b := true) (by decide +kernel)) (.cons (hv_same rfl) (.cons (hv_same rfl) (.cons (hv_same rfl) (.cons (hv_same rfl) (.cons (hv_same rfl) (.nil)))))) rfl ?_
  refine rs_not rfl rfl ?_
  refine rs_pick rfl rfl rfl ?_
  refine rs_mv rfl rfl ?_
  first | refine rs_ld_pa rfl rfl rfl rfl (Nat.le_of_ble_eq_true rfl) rfl ?_ | refine rs_ld_ra rfl rfl (Nat.le_of_ble_eq_true rfl) rfl ?_ | refine rs_ld_ma rfl rfl rfl (by omega) (Nat.le_of_ble_eq_true rfl) rfl ?_
  refine rs_calln [] rfl rfl (fc14e (m := farM) (n := 3) (by decide +kernel)) (.cons (hv_same rfl) (.nil)) rfl ?_
  refine rs_cmp_f rfl rfl rfl rfl (by decide) ?_
  refine rs_pick rfl rfl rfl ?_
  refine rs_mv rfl rfl ?_
  first | refine rs_ld_pa rfl rfl rfl rfl (Nat.le_of_ble_eq_true rfl) rfl ?_ | refine rs_ld_ra rfl rfl (Nat.le_of_ble_eq_true rfl) rfl ?_ | refine rs_ld_ma rfl rfl rfl (by omega) (Nat.le_of_ble_eq_true rfl) rfl ?_
  refine rs_calln [] rfl rfl (fc34e (m := farM) (s := 1) (x := 6) (y := 3) (z := 0) (b := true) (by decide +kernel)) (.cons (hv_same rfl) (.cons (hv_same rfl) (.cons (hv_same rfl) (.cons (hv_same rfl) (.cons (hv_same rfl) (.nil)))))) rfl ?_
  refine rs_not rfl rfl ?_
  refine rs_pick rfl rfl rfl ?_
  refine rs_mv rfl rfl ?_
  first | refine rs_ld_pa rfl rfl rfl rfl (Nat.le_of_ble_eq_true rfl) rfl ?_ | refine rs_ld_ra rfl rfl (Nat.le_of_ble_eq_true rfl) rfl ?_ | refine rs_ld_ma rfl rfl rfl (by omega) (Nat.le_of_ble_eq_true rfl) rfl ?_
  refine rs_calln [] rfl rfl (fc34e (m := farM) (s := 2) (x := 7) (y := 4) (z := 0) (b := true) (by decide +kernel)) (.cons (hv_same rfl) (.cons (hv_same rfl) (.cons (hv_same rfl) (.cons (hv_same rfl) (.cons (hv_same rfl) (.nil)))))) rfl ?_
  refine rs_not rfl rfl ?_
  refine rs_pick rfl rfl rfl ?_
  refine rs_nil fun _ => ?_
  refine th_n ?_
  refine aw_cond rfl (fun h => by cases h) (fun _ => ?_)
  refine aw_skip ?_
  refine th_n ?_
  refine aw_seq ?_
  refine aw_reg ?_
  first | refine rs_ld_pa rfl rfl rfl rfl (Nat.le_of_ble_eq_true rfl) rfl ?_ | refine rs_ld_ra rfl rfl (Nat.le_of_ble_eq_true rfl) rfl ?_ | refine rs_ld_ma rfl rfl rfl (by omega) (Nat.le_of_ble_eq_true rfl) rfl ?_
  refine rs_calln [] rfl rfl (fc17e (m := lineM) (s := 3) (v := ⟨0, 0, 0⟩) (b := false) (by decide +kernel) (by decide +kernel)) (.cons (hv_same rfl) (.cons (hv_same rfl) (.nil))) rfl ?_
  refine rs_mv rfl rfl ?_
  refine rs_ext rfl rfl rfl ?_
  refine rs_ext rfl rfl rfl ?_
  refine rs_alloc rfl rfl rfl ?_
  refine rs_st rfl rfl rfl rfl rfl rfl rfl (Nat.le_of_ble_eq_true rfl) rfl rfl ?_
  refine rs_mv rfl rfl ?_
  refine rs_nil fun _ => ?_
  refine th_n ?_
  refine aw_seq ?_
  refine aw_reg ?_
  first | refine rs_ld_pa rfl rfl rfl rfl (Nat.le_of_ble_eq_true rfl) rfl ?_ | refine rs_ld_ra rfl rfl (Nat.le_of_ble_eq_true rfl) rfl ?_ | refine rs_ld_ma rfl rfl rfl (by omega) (Nat.le_of_ble_eq_true rfl) rfl ?_
  refine rs_callo [] rfl rfl (fc19e (m := lineM) (i := 0) (j := 2) (l := [⟨0, 0, 0⟩, ⟨6, -4, 2⟩]) (b := true) (by decide +kernel) (by decide +kernel)) (.cons (hv_same rfl) (.cons (hv_same rfl) (.cons (hv_same rfl) (.nil)))) (.nil) rfl rfl rfl ?_
  refine rs_mv rfl rfl ?_
  refine rs_ext rfl rfl rfl ?_
  refine rs_ext rfl rfl rfl ?_
  refine rs_mv rfl rfl ?_
  refine rs_mv rfl rfl ?_
  refine rs_nil fun _ => ?_
  refine th_n ?_
  refine aw_seq ?_
  refine aw_reg ?_
  first | refine rs_ld_pa rfl rfl rfl rfl (Nat.le_of_ble_eq_true rfl) rfl ?_ | refine rs_ld_ra rfl rfl (Nat.le_of_ble_eq_true rfl) rfl ?_ | refine rs_ld_ma rfl rfl rfl (by omega) (Nat.le_of_ble_eq_true rfl) rfl ?_
  refine rs_callo [] rfl rfl (fc19e (m := lineM) (i := 1) (j := 1) (l := [⟨3, -2, 1⟩]) (b := true) (by decide +kernel) (by decide +kernel)) (.cons (hv_same rfl) (.cons (hv_same rfl) (.cons (hv_same rfl) (.nil)))) (.nil) rfl rfl rfl ?_
  refine rs_mv rfl rfl ?_
  refine rs_ext rfl rfl rfl ?_
  refine rs_ext rfl rfl rfl ?_
  refine rs_mv rfl rfl ?_
  refine rs_mv rfl rfl ?_
  refine rs_nil fun _ => ?_
  refine th_n ?_
  refine aw_seq ?_
  refine aw_reg ?_
  first | refine rs_ld_pa rfl rfl rfl rfl (Nat.le_of_ble_eq_true rfl) rfl ?_ | refine rs_ld_ra rfl rfl (Nat.le_of_ble_eq_true rfl) rfl ?_ | refine rs_ld_ma rfl rfl rfl (by omega) (Nat.le_of_ble_eq_true rfl) rfl ?_
  refine rs_callo [] rfl rfl (fc19e (m := arcM) (i := 1) (j := 2) (l := [⟨5, 0, 0⟩, ⟨5, 5, 0⟩, ⟨0, 5, 0⟩]) (b := true) (by decide +kernel) (by decide +kernel)) (.cons (hv_same rfl) (.cons (hv_same rfl) (.cons (hv_same rfl) (.nil)))) (.nil) rfl rfl rfl ?_
  refine rs_mv rfl rfl ?_
  refine rs_ext rfl rfl rfl ?_
  refine rs_ext rfl rfl rfl ?_
  refine rs_mv rfl rfl ?_
  refine rs_mv rfl rfl ?_
  refine rs_nil fun _ => ?_
  refine th_n ?_
  refine aw_seq ?_
  refine aw_reg ?_
  first | refine rs_ld_pa rfl rfl rfl rfl (Nat.le_of_ble_eq_true rfl) rfl ?_ | refine rs_ld_ra rfl rfl (Nat.le_of_ble_eq_true rfl) rfl ?_ | refine rs_ld_ma rfl rfl rfl (by omega) (Nat.le_of_ble_eq_true rfl) rfl ?_
  refine rs_callo [] rfl rfl (fc19e (m := lineM) (i := 2) (j := 1) (l := []) (b := false) (by decide +kernel) (by decide +kernel)) (.cons (hv_same rfl) (.cons (hv_same rfl) (.cons (hv_same rfl) (.nil)))) (.nil) rfl rfl rfl ?_
  refine rs_mv rfl rfl ?_
  refine rs_ext rfl rfl rfl ?_
  refine rs_ext rfl rfl rfl ?_
  refine rs_mv rfl rfl ?_
  refine rs_mv rfl rfl ?_
  refine rs_nil fun _ => ?_
  refine th_n ?_
  refine aw_seq ?_
  refine aw_reg ?_
  first | refine rs_ld_pa rfl rfl rfl rfl (Nat.le_of_ble_eq_true rfl) rfl ?_ | refine rs_ld_ra rfl rfl (Nat.le_of_ble_eq_true rfl) rfl ?_ | refine rs_ld_ma rfl rfl rfl (by omega) (Nat.le_of_ble_eq_true rfl) rfl ?_
  refine rs_callo [] rfl rfl (fc21e (m := arcM) (i := 1) (j := 2) (l := [(⟨4, 3, 0⟩, ⟨4, 3, 0⟩), (⟨3, 4, 0⟩, ⟨3, 4, 0⟩)]) (b := true) (by decide +kernel) (by decide +kernel)) (.cons (hv_same rfl) (.cons (hv_same rfl) (.cons (hv_same rfl) (.nil)))) (.nil) rfl rfl rfl ?_
  refine rs_mv rfl rfl ?_
  refine rs_ext rfl rfl rfl ?_
  refine rs_ext rfl rfl rfl ?_
  refine rs_mv rfl rfl ?_
  refine rs_mv rfl rfl ?_
  refine rs_nil fun _ => ?_
  refine th_n ?_
  refine aw_seq ?_
  refine aw_seq ?_
  refine aw_reg ?_
  refine rs_mv rfl rfl ?_
  refine rs_mv rfl rfl ?_
  refine rs_mv rfl rfl ?_
  refine rs_not rfl rfl ?_
  refine rs_pick rfl rfl rfl ?_
  refine rs_mv rfl rfl ?_
  refine rs_mv rfl rfl ?_
  refine rs_not rfl rfl ?_
  refine rs_pick rfl rfl rfl ?_
  refine rs_mv rfl rfl ?_
  refine rs_mv rfl rfl ?_
  refine rs_not rfl rfl ?_
  refine rs_pick rfl rfl rfl ?_
  refine rs_mv rfl rfl ?_
  refine rs_mv rfl rfl ?_
  refine rs_pick rfl rfl rfl ?_
  refine rs_mv rfl rfl ?_
  refine rs_mv rfl rfl ?_
  refine rs_not rfl rfl ?_
  refine rs_pick rfl rfl rfl ?_
  refine rs_mv rfl rfl ?_
  refine rs_mv rfl rfl ?_
  first | refine rs_fa_p rfl rfl ?_ | refine rs_fa_r rfl rfl rfl ?_
  first | refine rs_ld_pa rfl rfl rfl rfl (Nat.le_of_ble_eq_true rfl) rfl ?_ | refine rs_ld_ra rfl rfl (Nat.le_of_ble_eq_true rfl) rfl ?_ | refine rs_ld_ma rfl rfl rfl (by omega) (Nat.le_of_ble_eq_true rfl) rfl ?_
  first | refine rs_fa_p rfl rfl ?_ | refine rs_fa_r rfl rfl rfl ?_
  first | refine rs_ld_pa rfl rfl rfl rfl (Nat.le_of_ble_eq_true rfl) rfl ?_ | refine rs_ld_ra rfl rfl (Nat.le_of_ble_eq_true rfl) rfl ?_ | refine rs_ld_ma rfl rfl rfl (by omega) (Nat.le_of_ble_eq_true rfl) rfl ?_
  refine rs_bslice rfl rfl rfl rfl rfl rfl ?_
  refine rs_calln [131] rfl rfl (fc23 [⟨0, 0, 0⟩, ⟨6, -4, 2⟩] [⟨0, 0, 0⟩, ⟨6, -4, 2⟩] (by decide)) (.cons (hv_same rfl) (.cons (hv_slm (f := cV) (xs := [⟨0, 0, 0⟩, ⟨6, -4, 2⟩]) (by simp) rfl rfl) (.nil))) rfl ?_
  refine rs_not rfl rfl ?_
  refine rs_pick rfl rfl rfl ?_
  refine rs_mv rfl rfl ?_
  refine rs_mv rfl rfl ?_
  refine rs_build rfl rfl ?_
  refine rs_bslice rfl rfl rfl rfl rfl rfl ?_
  refine rs_calln [138] rfl rfl (fc23 [⟨3, -2, 1⟩] [⟨3, -2, 1⟩] (by decide)) (.cons (hv_same rfl) (.cons (hv_slm (f := cV) (xs := [⟨3, -2, 1⟩]) (by simp) rfl rfl) (.nil))) rfl ?_
  refine rs_not rfl rfl ?_
  refine rs_pick rfl rfl rfl ?_
  refine rs_mv rfl rfl ?_
  refine rs_mv rfl rfl ?_
  first | refine rs_fa_p rfl rfl ?_ | refine rs_fa_r rfl rfl rfl ?_
  first | refine rs_ld_pa rfl rfl rfl rfl (Nat.le_of_ble_eq_true rfl) rfl ?_ | refine rs_ld_ra rfl rfl (Nat.le_of_ble_eq_true rfl) rfl ?_ | refine rs_ld_ma rfl rfl rfl (by omega) (Nat.le_of_ble_eq_true rfl) rfl ?_
  first | refine rs_fa_p rfl rfl ?_ | refine rs_fa_r rfl rfl rfl ?_
  first | refine rs_ld_pa rfl rfl rfl rfl (Nat.le_of_ble_eq_true rfl) rfl ?_ | refine rs_ld_ra rfl rfl (Nat.le_of_ble_eq_true rfl) rfl ?_ | refine rs_ld_ma rfl rfl rfl (by omega) (Nat.le_of_ble_eq_true rfl) rfl ?_
  first | refine rs_fa_p rfl rfl ?_ | refine rs_fa_r rfl rfl rfl ?_
  first | refine rs_ld_pa rfl rfl rfl rfl (Nat.le_of_ble_eq_true rfl) rfl ?_ | refine rs_ld_ra rfl rfl (Nat.le_of_ble_eq_true rfl) rfl ?_ | refine rs_ld_ma rfl rfl rfl (by omega) (Nat.le_of_ble_eq_true rfl) rfl ?_
  refine rs_bslice rfl rfl rfl rfl rfl rfl ?_
  refine rs_calln [150] rfl rfl (fc23 [⟨5, 0, 0⟩, ⟨5, 5, 0⟩, ⟨0, 5, 0⟩] [⟨5, 0, 0⟩, ⟨5, 5, 0⟩, ⟨0, 5, 0⟩] (by decide)) (.cons (hv_same rfl) (.cons (hv_slm (f := cV) (xs := [⟨5, 0, 0⟩, ⟨5, 5, 0⟩, ⟨0, 5, 0⟩]) (by simp) rfl rfl) (.nil))) rfl ?_
  refine rs_not rfl rfl ?_
  refine rs_pick rfl rfl rfl ?_
  refine rs_nil fun _ => ?_
  refine th_n ?_
  refine aw_cond rfl (fun h => by cases h) (fun _ => ?_)
  refine aw_skip ?_
  refine th_n ?_
  refine aw_seq ?_
  refine aw_reg ?_
  refine rs_build rfl rfl ?_
  refine rs_build rfl rfl ?_
  refine rs_alloc rfl rfl rfl ?_
  refine rs_alloc rfl rfl rfl ?_
  refine rs_st rfl rfl rfl rfl rfl rfl rfl (Nat.le_of_ble_eq_true rfl) rfl rfl ?_
  refine rs_st rfl rfl rfl rfl rfl rfl rfl (Nat.le_of_ble_eq_true rfl) rfl rfl ?_
  refine rs_nil fun _ => ?_
  refine th_n ?_
  refine aw_seq ?_
  refine aw_draw hmix ?_
  first | refine rs_ld_pa rfl rfl rfl rfl (Nat.le_of_ble_eq_true rfl) rfl ?_ | refine rs_ld_ra rfl rfl (Nat.le_of_ble_eq_true rfl) rfl ?_ | refine rs_ld_ma rfl rfl rfl (by omega) (Nat.le_of_ble_eq_true rfl) rfl ?_
  first | refine rs_ld_pa rfl rfl rfl rfl (Nat.le_of_ble_eq_true rfl) rfl ?_ | refine rs_ld_ra rfl rfl (Nat.le_of_ble_eq_true rfl) rfl ?_ | refine rs_ld_ma rfl rfl rfl (by omega) (Nat.le_of_ble_eq_true rfl) rfl ?_
  first | refine rs_ld_pa rfl rfl rfl rfl (Nat.le_of_ble_eq_true rfl) rfl ?_ | refine rs_ld_ra rfl rfl (Nat.le_of_ble_eq_true rfl) rfl ?_ | refine rs_ld_ma rfl rfl rfl (by omega) (Nat.le_of_ble_eq_true rfl) rfl ?_
  first | refine rs_ld_pa rfl rfl rfl rfl (Nat.le_of_ble_eq_true rfl) rfl ?_ | refine rs_ld_ra rfl rfl (Nat.le_of_ble_eq_true rfl) rfl ?_ | refine rs_ld_ma rfl rfl rfl (by omega) (Nat.le_of_ble_eq_true rfl) rfl ?_
  refine rs_alloc rfl rfl rfl ?_
  refine rs_alloc rfl rfl rfl ?_
  refine rs_alloc rfl rfl rfl ?_
  refine rs_alloc rfl rfl rfl ?_
  refine rs_st rfl rfl rfl rfl rfl rfl rfl (Nat.le_of_ble_eq_true rfl) rfl rfl ?_
  refine rs_st rfl rfl rfl rfl rfl rfl rfl (Nat.le_of_ble_eq_true rfl) rfl rfl ?_
  refine rs_st rfl rfl rfl rfl rfl rfl rfl (Nat.le_of_ble_eq_true rfl) rfl rfl ?_
  refine rs_st rfl rfl rfl rfl rfl rfl rfl (Nat.le_of_ble_eq_true rfl) rfl rfl ?_
  refine rs_nil ⟨by kernel_rfl, fun _ => ?_⟩
  refine th_n ?_
  refine aw_seq ?_
  refine aw_reg ?_
  refine rs_build rfl rfl ?_
  refine rs_build rfl rfl ?_
  first | refine rs_fa_p rfl rfl ?_ | refine rs_fa_r rfl rfl rfl ?_
  refine rs_st rfl rfl rfl rfl rfl rfl rfl (Nat.le_of_ble_eq_true rfl) rfl rfl ?_
  first | refine rs_fa_p rfl rfl ?_ | refine rs_fa_r rfl rfl rfl ?_
  refine rs_st rfl rfl rfl rfl rfl rfl rfl (Nat.le_of_ble_eq_true rfl) rfl rfl ?_
  first | refine rs_fa_p rfl rfl ?_ | refine rs_fa_r rfl rfl rfl ?_
  refine rs_st rfl rfl rfl rfl rfl rfl rfl (Nat.le_of_ble_eq_true rfl) rfl rfl ?_
  first | refine rs_fa_p rfl rfl ?_ | refine rs_fa_r rfl rfl rfl ?_
  refine rs_st rfl rfl rfl rfl rfl rfl rfl (Nat.le_of_ble_eq_true rfl) rfl rfl ?_
  refine rs_nil fun _ => ?_
  refine th_n ?_
  refine aw_seq ?_
  refine aw_reg ?_
  refine rs_mv rfl rfl ?_
  first | refine rs_ld_pa rfl rfl rfl rfl (Nat.le_of_ble_eq_true rfl) rfl ?_ | refine rs_ld_ra rfl rfl (Nat.le_of_ble_eq_true rfl) rfl ?_ | refine rs_ld_ma rfl rfl rfl (by omega) (Nat.le_of_ble_eq_true rfl) rfl ?_
  first | refine rs_ld_pa rfl rfl rfl rfl (Nat.le_of_ble_eq_true rfl) rfl ?_ | refine rs_ld_ra rfl rfl (Nat.le_of_ble_eq_true rfl) rfl ?_ | refine rs_ld_ma rfl rfl rfl (by omega) (Nat.le_of_ble_eq_true rfl) rfl ?_
  refine rs_build rfl rfl ?_
  first | refine rs_ld_pa rfl rfl rfl rfl (Nat.le_of_ble_eq_true rfl) rfl ?_ | refine rs_ld_ra rfl rfl (Nat.le_of_ble_eq_true rfl) rfl ?_ | refine rs_ld_ma rfl rfl rfl (by omega) (Nat.le_of_ble_eq_true rfl) rfl ?_
  first | refine rs_ld_pa rfl rfl rfl rfl (Nat.le_of_ble_eq_true rfl) rfl ?_ | refine rs_ld_ra rfl rfl (Nat.le_of_ble_eq_true rfl) rfl ?_ | refine rs_ld_ma rfl rfl rfl (by omega) (Nat.le_of_ble_eq_true rfl) rfl ?_
  refine rs_build rfl rfl ?_
  refine rs_bslice rfl rfl rfl rfl rfl rfl ?_
  refine rs_calln [173] rfl rfl (fc24 [(⟨4, 3, 0⟩, ⟨4, 3, 0⟩), (⟨3, 4, 0⟩, ⟨3, 4, 0⟩)] [(⟨4, 3, 0⟩, ⟨4, 3, 0⟩), (⟨3, 4, 0⟩, ⟨3, 4, 0⟩)] (by decide)) (.cons (hv_same rfl) (.cons (hv_slm (f := cP) (xs := [(⟨4, 3, 0⟩, ⟨4, 3, 0⟩), (⟨3, 4, 0⟩, ⟨3, 4, 0⟩)]) (by simp) rfl rfl) (.nil))) rfl ?_
  refine rs_mv rfl rfl ?_
  first | refine rs_ld_pa rfl rfl rfl rfl (Nat.le_of_ble_eq_true rfl) rfl ?_ | refine rs_ld_ra rfl rfl (Nat.le_of_ble_eq_true rfl) rfl ?_ | refine rs_ld_ma rfl rfl rfl (by omega) (Nat.le_of_ble_eq_true rfl) rfl ?_
  refine rs_calln [] rfl rfl (fc12e (m := ⟨1, ⟨0, 0, 0⟩, ⟨6, -4, 2⟩, ⟨0, 0, 0⟩, 10⟩) (n := 3) (by decide +kernel)) (.cons (hv_same rfl) (.nil)) rfl ?_
  refine rs_cmp_t rfl rfl rfl rfl (by decide) ?_
  refine rs_pick rfl rfl rfl ?_
  refine rs_mv rfl rfl ?_
  first | refine rs_ld_pa rfl rfl rfl rfl (Nat.le_of_ble_eq_true rfl) rfl ?_ | refine rs_ld_ra rfl rfl (Nat.le_of_ble_eq_true rfl) rfl ?_ | refine rs_ld_ma rfl rfl rfl (by omega) (Nat.le_of_ble_eq_true rfl) rfl ?_
  refine rs_calln [] rfl rfl (fc12e (m := ⟨2, ⟨0, 0, 0⟩, ⟨6, -4, 2⟩, ⟨0, 0, 0⟩, 0⟩) (n := 3) (by decide +kernel)) (.cons (hv_same rfl) (.nil)) rfl ?_
  refine rs_cmp_t rfl rfl rfl rfl (by decide) ?_
  refine rs_pick rfl rfl rfl ?_
  refine rs_mv rfl rfl ?_
  first | refine rs_ld_pa rfl rfl rfl rfl (Nat.le_of_ble_eq_true rfl) rfl ?_ | refine rs_ld_ra rfl rfl (Nat.le_of_ble_eq_true rfl) rfl ?_ | refine rs_ld_ma rfl rfl rfl (by omega) (Nat.le_of_ble_eq_true rfl) rfl ?_
  refine rs_calln [] rfl rfl (fc12e (m := ⟨2, ⟨0, 0, 0⟩, ⟨0, 0, 0⟩, ⟨0, 0, 0⟩, 10⟩) (n := 16) (by decide +kernel)) (.cons (hv_same rfl) (.nil)) rfl ?_
  refine rs_cmp_t rfl rfl rfl rfl (by decide) ?_
  refine rs_pick rfl rfl rfl ?_
  refine rs_mv rfl rfl ?_
  first | refine rs_ld_pa rfl rfl rfl rfl (Nat.le_of_ble_eq_true rfl) rfl ?_ | refine rs_ld_ra rfl rfl (Nat.le_of_ble_eq_true rfl) rfl ?_ | refine rs_ld_ma rfl rfl rfl (by omega) (Nat.le_of_ble_eq_true rfl) rfl ?_
  refine rs_calln [] rfl rfl (fc12e (m := ⟨3, ⟨5, 4, 0⟩, ⟨0, 5, 0⟩, ⟨5, 5, 0⟩, 10⟩) (n := 16) (by decide +kernel)) (.cons (hv_same rfl) (.nil)) rfl ?_
  refine rs_cmp_t rfl rfl rfl rfl (by decide) ?_
  refine rs_pick rfl rfl rfl ?_
  refine rs_mv rfl rfl ?_
  refine rs_nil fun _ => ?_
  refine th_n ?_
  refine aw_ret ?_
  first
    | exact ret_pure rfl rfl rfl (.inr rfl)
    | exact ret_pure rfl (congrArg AV.bool (by decide)) rfl (.inr rfl)

def mc25 : MC := (.seq (.reg [⟨(some 1), (.box 28 11 (.t 0)), none, []⟩, ⟨(some 2), (.mv (.c .nils)), none, []⟩, ⟨(some 3), (.mv (.c (.bool false))), none, [1]⟩] false) (.seq (.reg [⟨(some 9), (.ld true 11 (.t 1)), none, []⟩, ⟨(some 10), (.call 14 [(.t 9)]), none, [0]⟩, ⟨(some 4), (.mv (.t 10)), none, [1, 1, 0, 1]⟩] false) (.seq (.seq (.reg [⟨(some 11), (.mv (.t 4)), none, []⟩, ⟨(some 12), (.bin .lss (.t 11) (.c (.int .i64 1))), none, [0]⟩, ⟨(some 13), (.mv (.t 12)), none, [1]⟩, ⟨(some 14), (.mv (.t 4)), (some (13, false)), [2]⟩, ⟨(some 15), (.bin .gtr (.t 14) (.c (.int .i64 100))), (some (13, false)), [3, 2]⟩, ⟨(some 16), (.pick (.t 13) (.c (.bool true)) (.t 15)), none, [2, 4]⟩] false) (.cond (.t 16) (.seq (.reg [⟨(some 2), (.mv (.c .nils)), none, []⟩, ⟨(some 3), (.mv (.c (.bool false))), none, [0, 0]⟩] false) .ret) .skip)) (.seq (.reg [⟨(some 5), (.mv (.c .nils)), none, []⟩] false) (.seq (.seq (.reg [⟨(some 6), (.mv (.c (.int .i64 0))), none, []⟩] false) (.block 0 (.loop (.seq (.seq (.reg [⟨(some 17), (.mv (.t 6)), none, []⟩, ⟨(some 18), (.mv (.t 4)), none, []⟩, ⟨(some 19), (.bin .leq (.t 17) (.t 18)), none, [0, 1]⟩] false) (.cond (.t 19) .skip (.exit 0))) (.seq (.block 1 (.seq (.reg [⟨(some 23), (.ld true 11 (.t 1)), none, []⟩, ⟨(some 24), (.mv (.t 6)), none, []⟩, ⟨(some 25), (.call 17 [(.t 23), (.t 24)]), none, [0, 1]⟩, ⟨(some 22), (.mv (.t 25)), none, [2]⟩, ⟨(some 26), (.ext (.t 22) 0), none, [3]⟩, ⟨(some 27), (.ext (.t 22) 1), none, [3]⟩, ⟨(some 7), (.alloc 26 3 [(.int .i64 0), (.int .i64 0), (.int .i64 0)]), none, []⟩, ⟨none, (.st 3 (.t 7) (.t 26)), none, [6, 4, 2, 0, 1, 2, 3, 4, 6]⟩, ⟨(some 8), (.mv (.t 27)), none, [5, 7, 0, 1, 2, 3, 4, 5, 6, 7]⟩] false) (.seq (.seq (.reg [⟨(some 28), (.mv (.t 8)), none, []⟩, ⟨(some 29), (.un .not (.t 28)), none, [0]⟩] false) (.cond (.t 29) (.seq (.reg [⟨(some 2), (.mv (.c .nils)), none, []⟩, ⟨(some 3), (.mv (.c (.bool false))), none, [0, 0]⟩] false) .ret) .skip)) (.reg [⟨(some 30), (.mv (.t 5)), none, []⟩, ⟨(some 31), (.ld true 3 (.t 7)), none, []⟩, ⟨(some 32), (.bslice 26 3 [(.int .i64 0), (.int .i64 0), (.int .i64 0)] 1 [(0, (.t 31))]), none, [1]⟩, ⟨(some 33), (.app 26 3 24 [(.int .i64 0), (.int .i64 0), (.int .i64 0)] (.t 30) (.t 32)), none, [0, 2]⟩, ⟨(some 5), (.mv (.t 33)), none, [3, 3, 0, 1, 2, 3]⟩] false)))) (.reg [⟨(some 20), (.mv (.t 6)), none, []⟩, ⟨(some 21), (.bin .add (.t 20) (.c (.int .i64 1))), none, [0]⟩, ⟨(some 6), (.mv (.t 21)), none, [1, 0, 1]⟩] false)))))) (.seq (.reg [⟨(some 34), (.mv (.t 5)), none, []⟩, ⟨(some 2), (.mv (.t 34)), none, [0, 0]⟩, ⟨(some 3), (.mv (.c (.bool true))), none, [1, 0, 1]⟩] false) .ret))))))
theorem mcOk25 : (match Try.f25.body with | some c => compC Try.prog 35 c | none => none) = some mc25 := by kernel_rfl

theorem fc25 (m : Mv) (h : 2 ≤ (pathS m).length) : FC Try.prog 25 [aM m] [] (.tup [.rs 3 ((pathS m).map cV), .bool true]) [] false := by
  have hl := path_len m
  have hs : stepsS m = ((pathS m).length : Int) - 1 := by unfold stepsS; omega
  refine fc_run (nt := 35) Try.func25 rfl rfl mcOk25 (Nat.le_of_ble_eq_true rfl) ?_
  delta mc25
  refine aw_seq ?_
  refine aw_reg ?_
  refine rs_box rfl rfl rfl rfl rfl rfl ?_
  refine rs_mv rfl rfl ?_
  refine rs_mv rfl rfl ?_
  refine rs_nil fun _ => ?_
  refine th_n ?_
  refine aw_seq ?_
  refine aw_reg ?_
  first | refine rs_ld_pa rfl rfl rfl rfl (Nat.le_of_ble_eq_true rfl) rfl ?_ | refine rs_ld_ra rfl rfl (Nat.le_of_ble_eq_true rfl) rfl ?_ | refine rs_ld_ma rfl rfl rfl (by omega) (Nat.le_of_ble_eq_true rfl) rfl ?_
  refine rs_calln [] rfl rfl (fc14 m) (.cons (hv_same rfl) (.nil)) rfl ?_
  refine rs_mv rfl rfl ?_
  refine rs_nil fun _ => ?_
  refine th_n ?_
  refine aw_seq ?_
  refine aw_seq ?_
  refine aw_reg ?_
  refine rs_mv rfl rfl ?_
  refine rs_cmp_f rfl rfl rfl rfl (by omega) ?_
  refine rs_mv rfl rfl ?_
  refine rs_mv rfl rfl ?_
  refine rs_cmp_f rfl rfl rfl rfl (by omega) ?_
  refine rs_pick rfl rfl rfl ?_
  refine rs_nil fun _ => ?_
  refine th_n ?_
  refine aw_cond rfl (fun h => by cases h) (fun _ => ?_)
  refine aw_skip ?_
  refine th_n ?_
  refine aw_seq ?_
  refine aw_reg ?_
  refine rs_mv rfl rfl ?_
  refine rs_nil fun _ => ?_
  refine th_n ?_
  refine aw_seq ?_
  refine aw_seq ?_
  refine aw_reg ?_
  refine rs_mv rfl rfl ?_
  refine rs_nil fun _ => ?_
  refine th_n ?_
  refine aw_block ?_
  refine aw_fam (α := Nat) (fun k => (pathS m).length - k) (fun k => [(1, .ptr 1 0 0), (4, iv (stepsS m)), (6, iv (((k) : Nat) : Int)), (5, .sl 1005 0 (k))]) (fun k => [(1, .cells 28 11 [cM m] true), (1005, .cells 26 3 (((pathS m).take (k)).map cV) true)]) (fun k => k ≤ (pathS m).length) 0 (by omega)
    (weak_to (.cons rfl (rc_same rfl (.inl rfl)) (.cons rfl (rc_same rfl (.inl rfl)) (.cons rfl (rc_same rfl (.inl rfl)) (.cons rfl (rc_virt rfl rfl) (.nil))))) (.keep (rfl) rfl (.virt rfl (.nil))) (fun i h => by cases h)) ?_
  intro k hk
  refine aw_seq ?_
  refine aw_seq ?_
  refine aw_reg ?_
  refine rs_mv rfl rfl ?_
  refine rs_mv rfl rfl ?_
  refine rs_leq rfl rfl rfl ?_
  refine rs_nil fun _ => ?_
  refine th_n ?_
  refine aw_cond rfl (fun h19 => ?_) (fun h19 => ?_)
  · first | replace h19 := of_decide_eq_true h19 | skip
    refine aw_skip ?_
    refine th_n ?_
    refine aw_seq ?_
    refine aw_block ?_
    refine aw_seq ?_
    refine aw_reg ?_
    obtain ⟨x, hx, _⟩ := at_some (L := pathS m) (k := k) (by omega)
    obtain ⟨h1, h2⟩ := at_yes hx
    first | refine rs_ld_pa rfl rfl rfl rfl (Nat.le_of_ble_eq_true rfl) rfl ?_ | refine rs_ld_ra rfl rfl (Nat.le_of_ble_eq_true rfl) rfl ?_ | refine rs_ld_ma rfl rfl rfl (by omega) (Nat.le_of_ble_eq_true rfl) rfl ?_
    refine rs_mv rfl rfl ?_
    refine rs_calln [] rfl rfl (fc17e (s := (k : Int)) h1 h2) (.cons (hv_same rfl) (.cons (hv_same rfl) (.nil))) rfl ?_
    refine rs_mv rfl rfl ?_
    refine rs_ext rfl rfl rfl ?_
    refine rs_ext rfl rfl rfl ?_
    refine rs_alloc rfl rfl rfl ?_
    refine rs_st rfl rfl rfl rfl rfl rfl rfl (Nat.le_of_ble_eq_true rfl) rfl rfl ?_
    refine rs_mv rfl rfl ?_
    refine rs_nil fun _ => ?_
    refine th_n ?_
    refine aw_seq ?_
    refine aw_seq ?_
    refine aw_reg ?_
    refine rs_mv rfl rfl ?_
    refine rs_not rfl rfl ?_
    refine rs_nil fun _ => ?_
    refine th_n ?_
    refine aw_cond rfl (fun h => by cases h) (fun _ => ?_)
    refine aw_skip ?_
    refine th_n ?_
    refine aw_reg ?_
    refine rs_mv rfl rfl ?_
    first | refine rs_ld_pa rfl rfl rfl rfl (Nat.le_of_ble_eq_true rfl) rfl ?_ | refine rs_ld_ra rfl rfl (Nat.le_of_ble_eq_true rfl) rfl ?_ | refine rs_ld_ma rfl rfl rfl (by omega) (Nat.le_of_ble_eq_true rfl) rfl ?_
    refine rs_bslice rfl rfl rfl rfl rfl rfl ?_
    refine rs_app_m (f := cV) (xs := (pathS m).take k) (y := x) rfl rfl rfl rfl (by simp; omega) rfl rfl rfl (by decide) rfl (by omega) (by omega) rfl ?_
    refine rs_mv rfl rfl ?_
    refine rs_nil fun _ => ?_
    refine in_n ?_
    refine th_n ?_
    refine aw_reg ?_
    refine rs_mv rfl rfl ?_
    first | refine rs_add rfl rfl rfl (by omega) ?_ | refine rs_addw rfl rfl rfl rfl ?_
    refine rs_mv rfl rfl ?_
    refine rs_nil fun _ => ?_
    refine th_n ?_
    exact ⟨k + 1, by omega, by omega, weak_to_ren (i := 33) (i' := 1005) (F1 := [(1, .ptr 1 0 0), (4, iv (stepsS m)), (6, iv (((k + 1) : Nat) : Int)), (5, .sl 33 0 (k + 1))]) (H1 := [(1, .cells 28 11 [cM m] true), (33, .cells 26 3 (((pathS m).take (k + 1)).map cV) true)]) (.cons rfl (rc_same rfl (.inl rfl)) (.cons rfl (rc_same rfl (.inl rfl)) (.cons rfl (rc_same rfl (.inl rfl)) (.cons rfl (rc_same rfl (.inl rfl)) (.nil))))) (.keep (rfl) rfl (.keep ((by (rw [take_succ_at hx]) <;> rfl)) rfl (.nil))) (fun i h => by cases h) rfl rfl (.cons rfl (.same _) (.cons rfl (.same _) (.cons rfl (.same _) (.cons rfl (.sl _ _) (.nil))))) (.cons rfl (rc_same rfl (.inl rfl)) (.cons rfl (rc_same rfl (.inl rfl)) (.cons rfl (rc_same rfl (.inl rfl)) (.cons rfl (rc_same rfl (.inl rfl)) (.nil))))) (.keep (rfl) rfl (.keep (rfl) rfl (.nil))) (fun i h => by cases h)⟩
  · first | replace h19 := of_decide_eq_false h19 | skip
    refine aw_exit ?_
    refine th_e ?_
    refine th_e ?_
    refine in_hit ?_
    refine th_n ?_
    refine aw_seq ?_
    refine aw_reg ?_
    refine rs_mv rfl rfl ?_
    refine rs_mv rfl rfl ?_
    refine rs_mv rfl rfl ?_
    refine rs_nil fun _ => ?_
    refine th_n ?_
    refine aw_ret ?_
    have hk2 : k = (pathS m).length := by omega
    subst hk2
    rw [show (pathS m).map cV = ((pathS m).take (pathS m).length).map cV by rw [List.take_length]]
    exact ret_new rfl (rc_tup (.cons (rc_frz rfl rfl (by simp) (fun _ => rfl)) (.cons (rc_same rfl (.inr rfl)) .nil))) .nil

end Go.Proofs.Yteommcdafifckaa

/-! Plain law: made moves are valid; the move back. -/
namespace Go.Proofs.Yteommcdafifckaa
open Go.RowKit

theorem ax_cases {v : V3} (h : v ∈ axL) : v = ⟨1, 0, 0⟩ ∨ v = ⟨0, 1, 0⟩ ∨ v = ⟨0, 0, 1⟩ ∨ v = ⟨-1, 0, 0⟩ ∨ v = ⟨0, -1, 0⟩ ∨ v = ⟨0, 0, -1⟩ := by
  simpa [axL] using h
theorem perp_dec : ∀ a : Nat, a < 6 → ∀ x : Nat, x < 2 → ∀ y : Nat, y < 2 → dot (axS (a : Int)) (axS ((a : Int) + 1 + (x : Int) + 3 * (y : Int))) = 0 := by decide +kernel
theorem in_of {v : V3} (h : Bd 24 v) : inS v = true := by
  have := h.x; have := h.y; have := h.z
  simp only [inS, withinS, List.all_cons, List.all_nil, Bool.and_eq_true, decide_eq_true_eq, and_true]
  omega
theorem range_of {m : Mv} {lo hi : Int} (h : InM m) (h1 : lo ≤ m.feed) (h2 : m.feed ≤ hi) : ¬ rangeB lo hi m = true := by
  unfold rangeB
  rw [in_of h.fr, in_of h.to, in_of h.co, decide_eq_false (by omega), decide_eq_false (by omega)]
  decide
theorem arc_ok {F A B : V3} {r G : Int} (hF : Bd 8 F) (hA : A ∈ axL) (hB : B ∈ axL) (hAB : dot A B = 0) (hr : 1 ≤ r ∧ r ≤ 10) (hG : 1 ≤ G ∧ G ≤ 100) : checkS ⟨3, F, plus (plus F A r) B r, plus F A r, G⟩ = 0 := by
  have hx := hF.x; have hy := hF.y; have hz := hF.z
  have hin : InM ⟨3, F, plus (plus F A r) B r, plus F A r, G⟩ := by
    rcases ax_cases hA with rfl | rfl | rfl | rfl | rfl | rfl <;> rcases ax_cases hB with rfl | rfl | rfl | rfl | rfl | rfl <;> first
      | (exfalso; revert hAB; decide)
      | exact ⟨hF.mono (by decide), ⟨by simp only [plus]; omega, by simp only [plus]; omega, by simp only [plus]; omega⟩, ⟨by simp only [plus]; omega, by simp only [plus]; omega, by simp only [plus]; omega⟩⟩
  have hq : quarterS ⟨3, F, plus (plus F A r) B r, plus F A r, G⟩ = true := by
    have e1 : sub F (plus F A r) = ⟨-(r * A.x), -(r * A.y), -(r * A.z)⟩ := by simp only [sub, plus]; congr 1 <;> omega
    have e2 : sub (plus (plus F A r) B r) (plus F A r) = ⟨r * B.x, r * B.y, r * B.z⟩ := by simp only [sub, plus]; congr 1 <;> omega
    unfold quarterS
    dsimp only
    rw [e1, e2]
    have l1 : lenS ⟨-(r * A.x), -(r * A.y), -(r * A.z)⟩ = r := by
      rcases ax_cases hA with rfl | rfl | rfl | rfl | rfl | rfl <;> simp only [lenS] <;> rw [if_pos (by omega)] <;> omega
    have l2 : lenS ⟨r * B.x, r * B.y, r * B.z⟩ = r := by
      rcases ax_cases hB with rfl | rfl | rfl | rfl | rfl | rfl <;> simp only [lenS] <;> rw [if_pos (by omega)] <;> omega
    have l3 : dot ⟨-(r * A.x), -(r * A.y), -(r * A.z)⟩ ⟨r * B.x, r * B.y, r * B.z⟩ = 0 := by
      rcases ax_cases hA with rfl | rfl | rfl | rfl | rfl | rfl <;> rcases ax_cases hB with rfl | rfl | rfl | rfl | rfl | rfl <;> first
        | (exfalso; revert hAB; decide)
        | simp [dot]
    rw [l1, l2, l3, decide_eq_true hr.1]
    simp
  unfold checkS
  rw [if_neg (show ¬ ((3 : Int) = 1) by decide), if_neg (show ¬ ((3 : Int) = 2) by decide), if_pos rfl, if_neg (range_of hin hG.1 hG.2), if_pos (by rw [fits_quarter]; exact hq)]
theorem line_ok {F u : V3} {n k G : Int} (hF : Bd 8 F) (hu : Bd 3 u) (hne : u ≠ ⟨0, 0, 0⟩) (hn : 1 ≤ n ∧ n ≤ 3) (hk : (k = 1 ∧ G = 0) ∨ (k = 2 ∧ 1 ≤ G ∧ G ≤ 100)) : checkS ⟨k, F, plus F u n, ⟨0, 0, 0⟩, G⟩ = 0 := by
  have hx := hF.x; have hy := hF.y; have hz := hF.z
  have ux := hu.x; have uy := hu.y; have uz := hu.z
  have hin : InM ⟨k, F, plus F u n, ⟨0, 0, 0⟩, G⟩ := by
    obtain rfl | rfl | rfl : n = 1 ∨ n = 2 ∨ n = 3 := by omega
    all_goals exact ⟨hF.mono (by decide), ⟨by simp only [plus]; omega, by simp only [plus]; omega, by simp only [plus]; omega⟩, ⟨by simp, by simp, by simp⟩⟩
  have hf : fitsL ⟨k, F, plus F u n, ⟨0, 0, 0⟩, G⟩ = true := by
    have : F ≠ plus F u n := fun e => by
      apply hne
      have e1 := congrArg V3.x e
      have e2 := congrArg V3.y e
      have e3 := congrArg V3.z e
      simp only [plus] at e1 e2 e3
      obtain ⟨a, b, c⟩ := u
      dsimp only at e1 e2 e3
      obtain rfl | rfl | rfl : n = 1 ∨ n = 2 ∨ n = 3 := by omega
      all_goals (congr 1 <;> omega)
    simp [fitsL, this]
  unfold checkS
  rcases hk with ⟨rfl, rfl⟩ | ⟨rfl, h1, h2⟩
  · rw [if_pos rfl, if_neg (range_of hin (by simp) (by simp)), if_pos hf]
  · rw [if_neg (show ¬ ((2 : Int) = 1) by decide), if_pos rfl, if_neg (range_of hin h1 h2), if_pos hf]
theorem by_ok (l : List Int) : Bd 3 (mBy l) ∧ mBy l ≠ ⟨0, 0, 0⟩ := by
  unfold mBy
  split
  · refine ⟨(ax_bd _).mono (by decide), fun e => ?_⟩
    have := ax_mem (nextV l (q4v l) 6)
    rw [e] at this
    revert this; decide
  · rename_i h; exact ⟨vecV_bd l (q3 l) 3 (by omega), h⟩
theorem made_ok (l : List Int) : checkS (madeS l) = 0 := by
  have n2 := nextV_range l (q2 l) 100 (by omega)
  have n3 := nextV_range l (q3 l) 6 (by omega)
  have n4 := nextV_range l (q4 l) 2 (by omega)
  have n5 := nextV_range l (q5 l) 2 (by omega)
  have n6 := nextV_range l (q6 l) 5 (by omega)
  have n7 := nextV_range l (q5v l) 3 (by omega)
  have hbf := vecV_bd l (q1 l) 8 (by omega)
  have hG : 1 ≤ mG l ∧ mG l ≤ 100 := by
    show 1 ≤ 1 + nextV l (q2 l) 100 ∧ 1 + nextV l (q2 l) 100 ≤ 100
    omega
  unfold madeS
  split
  · have hr : mR l = 1 ∨ mR l = 2 ∨ mR l = 5 ∨ mR l = 10 := r_range (nextV l (q6 l) 5) n6.1 n6.2
    have hp := perp_dec (nextV l (q3 l) 6).toNat (by omega) (nextV l (q4 l) 2).toNat (by omega) (nextV l (q5 l) 2).toNat (by omega)
    rw [Int.toNat_of_nonneg n3.1, Int.toNat_of_nonneg n4.1, Int.toNat_of_nonneg n5.1] at hp
    exact arc_ok (r := mR l) (G := mG l) hbf (ax_mem _) (ax_mem _) hp (by omega) hG
  · obtain ⟨h1, h2⟩ := by_ok l
    split
    · exact line_ok hbf h1 h2 (by unfold mN; omega) (.inl ⟨rfl, rfl⟩)
    · exact line_ok hbf h1 h2 (by unfold mN; omega) (.inr ⟨rfl, hG⟩)
/-- What a valid move is. -/
theorem ck_kind {m : Mv} (h : checkS m = 0) : m.kind = 1 ∨ m.kind = 2 ∨ m.kind = 3 := Decidable.byContradiction fun hk => by
  have := ck_n (m := m) (by omega)
  omega
theorem ck_line {m : Mv} (h : checkS m = 0) (hk : ¬ m.kind = 3) : m.fr ≠ m.to ∧ m.co = ⟨0, 0, 0⟩ := by
  have hf : fitsL m = true := by
    cases e : fitsL m with
    | true => rfl
    | false =>
      unfold checkS at h
      rw [e, if_neg hk] at h
      by_cases h1 : m.kind = 1
      · rw [if_pos h1] at h
        split at h <;> simp at h
      · rw [if_neg h1] at h
        by_cases h2 : m.kind = 2
        · rw [if_pos h2] at h
          split at h <;> simp at h
        · rw [if_neg h2] at h; simp at h
  simpa [fitsL] using hf
theorem gS_zero {v : V3} (h : gS v = 0) : v = ⟨0, 0, 0⟩ := by
  obtain ⟨h1, h2, h3⟩ := prim_mul v
  rw [h] at h1 h2 h3
  obtain ⟨x, y, z⟩ := v
  dsimp only at h1 h2 h3
  congr 1 <;> omega
theorem d_pos {m : Mv} (h : checkS m = 0) (hk : ¬ m.kind = 3) : 1 ≤ gS (dS m) := by
  have hne := (ck_line h hk).1
  have : gS (dS m) ≠ 0 := fun e => hne (by
    have hz := gS_zero e
    unfold dS sub at hz
    have e1 := congrArg V3.x hz
    have e2 := congrArg V3.y hz
    have e3 := congrArg V3.z hz
    dsimp only at e1 e2 e3
    obtain ⟨k, ⟨a, b, c⟩, ⟨a', b', c'⟩, co, f⟩ := m
    dsimp only at e1 e2 e3 ⊢
    congr 1 <;> omega)
  omega
theorem arc_two : ∀ r, r < 49 → 1 ≤ r → 2 ≤ (arcQ r (r + 1)).length := by decide +kernel
structure ArcF (m : Mv) : Prop where
  a : dot (primV (sA m)) (primV (sA m)) = 1
  b : dot (primV (sB m)) (primV (sB m)) = 1
  g : gS (sA m) = gS (sB m)
  ab : dot (primV (sA m)) (primV (sB m)) = 0
  r1 : 1 ≤ gS (sA m)
  r2 : gS (sA m) ≤ 48
theorem arc_facts {m : Mv} (h : checkS m = 0) (hk : m.kind = 3) : ArcF m := by
  have hf := ck_fit h hk
  have hi := ck_in h
  simp only [fitsA, Bool.and_eq_true, decide_eq_true_eq] at hf
  obtain ⟨h1, h2, h3, h4⟩ := hf
  have h5 := gS_le (n := 48) hi.a48
  have h6 : gS (sA m) ≠ 0 := fun e => by
    unfold primV at h1
    rw [if_pos e] at h1
    simp [dot] at h1
  exact ⟨h1, h2, by omega, h4, by omega, h5⟩
theorem path_two {m : Mv} (h : checkS m = 0) : 2 ≤ (pathS m).length := by
  by_cases hk : m.kind = 3
  · have f := arc_facts h hk
    have := f.r2
    rw [path_a h hk, arcV, List.length_map]
    exact arc_two _ (by omega) f.r1
  · rw [path_n h hk, linQ_len]
    have := d_pos h hk
    omega
/-- The move back. -/
abbrev revM (m : Mv) : Mv := ⟨m.kind, m.to, m.fr, m.co, m.feed⟩
theorem check_rev (m : Mv) : checkS (revM m) = checkS m := by
  have e1 : ∀ lo hi, rangeB lo hi (revM m) = rangeB lo hi m := fun lo hi => by
    unfold rangeB
    dsimp only
    cases inS m.fr <;> cases inS m.to <;> rfl
  have e2 : fitsL (revM m) = fitsL m := by
    unfold fitsL
    dsimp only
    rw [decide_eq_decide.2 (show m.to = m.fr ↔ m.fr = m.to from ⟨Eq.symm, Eq.symm⟩)]
  have e3 : fitsA (revM m) = fitsA m := by
    have a1 : sA (revM m) = sB m := rfl
    have a2 : sB (revM m) = sA m := rfl
    unfold fitsA
    rw [a1, a2, dot_comm (primV (sB m)) (primV (sA m))]
    rw [decide_eq_decide.2 (show ((gS (sB m) : Int) = gS (sA m)) ↔ ((gS (sA m) : Int) = gS (sB m)) from ⟨Eq.symm, Eq.symm⟩)]
    cases decide (dot (primV (sA m)) (primV (sA m)) = 1) <;> cases decide (dot (primV (sB m)) (primV (sB m)) = 1) <;> rfl
  unfold checkS
  rw [e1, e1, e2, e3]
def negV (v : V3) : V3 := ⟨-v.x, -v.y, -v.z⟩
theorem gS_neg (v : V3) : gS (negV v) = gS v := by rw [gS_eq, gS_eq]; simp [negV]
theorem prim_neg (v : V3) : primV (negV v) = negV (primV v) := by
  unfold primV
  rw [gS_neg]
  split
  · rfl
  · simp [negV, Int.neg_tdiv]
theorem d_rev (m : Mv) : dS (revM m) = negV (dS m) := by
  unfold dS sub negV
  simp only [Int.neg_sub]
theorem to_eq (m : Mv) : m.to = plus m.fr (primV (dS m)) (gS (dS m)) := by
  obtain ⟨h1, h2, h3⟩ := prim_mul (dS m)
  unfold plus
  rw [← h1, ← h2, ← h3]
  obtain ⟨k, ⟨a, b, c⟩, ⟨a', b', c'⟩, co, f⟩ := m
  simp only [dS, sub]
  congr 1 <;> omega
theorem plus_back (a u : V3) {g k : Nat} (h : k ≤ g) : plus (plus a u g) (negV u) k = plus a u ((g - k : Nat) : Int) := by
  have e : ((g - k : Nat) : Int) = g - k := by omega
  rw [e]
  unfold plus negV
  simp only [Int.mul_neg, Int.sub_mul]
  congr 1 <;> omega
theorem arc_rev : ∀ r, r < 49 → (arcQ r (r + 1)).reverse = (arcQ r (r + 1)).map Prod.swap := by decide +kernel
theorem plus_swap (c a b : V3) (i j : Int) : plus (plus c a i) b j = plus (plus c b j) a i := by
  unfold plus
  simp only
  congr 1 <;> omega
theorem path_rev {m : Mv} (h : checkS m = 0) : pathS (revM m) = (pathS m).reverse := by
  have hr := (check_rev m).trans h
  by_cases hk : m.kind = 3
  · have f := arc_facts h hk
    have h2 := f.r2
    rw [path_a hr hk, path_a h hk]
    have a1 : sA (revM m) = sB m := rfl
    have a2 : sB (revM m) = sA m := rfl
    have ac : cenS (revM m) = cenS m := by
      rw [cenS_eq, cenS_eq]
      simp only [sub, add]
      congr 1 <;> omega
    rw [a1, a2, ac, ← f.g]
    unfold arcV
    rw [← List.map_reverse, arc_rev _ (by omega), List.map_map]
    congr 1
    funext p
    exact plus_swap _ _ _ _ _
  · rw [path_n hr hk, path_n h hk, d_rev, gS_neg, prim_neg]
    apply List.ext_getElem?
    intro k
    by_cases hl : k < gS (dS m) + 1
    · rw [List.getElem?_reverse (by rw [linQ_len]; exact hl), linQ_len, linQ_at hl, linQ_at (by omega)]
      show some (plus m.to (negV (primV (dS m))) (k : Int)) = _
      rw [to_eq m, plus_back _ _ (show k ≤ gS (dS m) by omega)]
      rfl
    · rw [List.getElem?_eq_none (by rw [linQ_len]; omega), List.getElem?_eq_none (by rw [List.length_reverse, linQ_len]; omega)]
end Go.Proofs.Yteommcdafifckaa

/-! Plain law: the steps of a move, one by one: ends, differences. -/
namespace Go.Proofs.Yteommcdafifckaa
open Go.RowKit

theorem plus_bd {c u : V3} {k : Int} {n q w : Int} (hc : Bd n c) (hu : Bd q u) (hk : -w ≤ k ∧ k ≤ w) (he : n + w * q ≤ 10000) : Bd 10000 (plus c u k) := (Bd.plus hc hu hk).mono he
theorem arcQ_mem {r n i j : Nat} (h : (i, j) ∈ arcQ r n) : i * i + j * j = r * r ∧ i ≤ r ∧ j < n := by
  unfold arcQ at h
  rw [List.mem_filterMap] at h
  obtain ⟨q, hq, he⟩ := h
  split at he
  · rename_i hc
    injection he with he
    injection he with e1 e2
    subst e1 e2
    exact ⟨hc, iP_le r _, List.mem_range.1 hq⟩
  · cases he
theorem path_bd {m : Mv} (h : checkS m = 0) {x : V3} (hx : x ∈ pathS m) : Bd 10000 x := by
  have hi := ck_in h
  by_cases hk : m.kind = 3
  · have f := arc_facts h hk
    rw [path_a h hk] at hx
    unfold arcV at hx
    rw [List.mem_map] at hx
    obtain ⟨⟨i, j⟩, hm, rfl⟩ := hx
    obtain ⟨_, h1, h2⟩ := arcQ_mem hm
    have := f.r2
    exact ((Bd.plus (Bd.plus hi.c (prim_bd hi.a48) (q := 48) (by dsimp only; omega)) (prim_bd hi.b48) (q := 48) (by dsimp only; omega)).mono (by decide))
  · rw [path_n h hk] at hx
    unfold linQ at hx
    rw [List.mem_map] at hx
    obtain ⟨k, hm, rfl⟩ := hx
    have := List.mem_range.1 hm
    have := gS_le (n := 48) hi.d48
    exact (Bd.plus hi.fr (prim_bd hi.d48) (q := 48) (by omega)).mono (by decide)
theorem arc_ends : ∀ r, r < 49 → (arcQ r (r + 1))[0]? = some (r, 0) ∧ (arcQ r (r + 1))[(arcQ r (r + 1)).length - 1]? = some (0, r) := by decide +kernel
def monoB : List (Nat × Nat) → Bool
  | a :: b :: l => decide (b.1 < a.1 ∧ a.2 < b.2) && monoB (b :: l)
  | _ => true
theorem monoB_at : ∀ {l : List (Nat × Nat)} {k : Nat} {a b : Nat × Nat}, monoB l = true → l[k]? = some a → l[k + 1]? = some b → b.1 < a.1 ∧ a.2 < b.2
  | [], k, a, b, _, h1, _ => by simp at h1
  | [x], k, a, b, _, _, h2 => by simp at h2
  | x :: y :: l, 0, a, b, h, h1, h2 => by
    simp at h1 h2
    subst h1 h2
    simp only [monoB, Bool.and_eq_true, decide_eq_true_eq] at h
    exact h.1
  | x :: y :: l, k + 1, a, b, h, h1, h2 => by
    simp only [monoB, Bool.and_eq_true] at h
    exact monoB_at (l := y :: l) (k := k) h.2 (by simpa using h1) (by simpa using h2)
theorem arc_mono : ∀ r, r < 49 → monoB (arcQ r (r + 1)) = true := by decide +kernel
theorem fr_eq (m : Mv) : m.fr = plus (plus (cenS m) (primV (sA m)) (gS (sA m))) (primV (sB m)) 0 := by
  obtain ⟨h1, h2, h3⟩ := prim_mul (sA m)
  have e := cen_a m
  have e1 := congrArg V3.x e
  have e2 := congrArg V3.y e
  have e3 := congrArg V3.z e
  simp only [sub] at e1 e2 e3
  unfold plus
  simp only [Int.zero_mul, Int.add_zero]
  rw [← h1, ← h2, ← h3, ← e1, ← e2, ← e3]
  obtain ⟨k, ⟨a, b, c⟩, ⟨a', b', c'⟩, co, f⟩ := m
  dsimp only
  congr 1 <;> omega
theorem to_eqA (m : Mv) : m.to = plus (plus (cenS m) (primV (sA m)) 0) (primV (sB m)) (gS (sB m)) := by
  obtain ⟨h1, h2, h3⟩ := prim_mul (sB m)
  have e := cen_b m
  have e1 := congrArg V3.x e
  have e2 := congrArg V3.y e
  have e3 := congrArg V3.z e
  simp only [sub] at e1 e2 e3
  unfold plus
  simp only [Int.zero_mul, Int.add_zero]
  rw [← h1, ← h2, ← h3, ← e1, ← e2, ← e3]
  obtain ⟨k, ⟨a, b, c⟩, ⟨a', b', c'⟩, co, f⟩ := m
  dsimp only
  congr 1 <;> omega
theorem arcV_of {c a b : V3} {r n k : Nat} {x : V3} (h : (arcV c a b r n)[k]? = some x) : ∃ p : Nat × Nat, (arcQ r n)[k]? = some p ∧ x = plus (plus c a p.1) b p.2 := by
  unfold arcV at h
  rw [List.getElem?_map] at h
  cases e : (arcQ r n)[k]? with
  | none => rw [e] at h; cases h
  | some p => rw [e] at h; injection h with h; exact ⟨p, rfl, h.symm⟩
theorem arcV_to {c a b : V3} {r n k : Nat} {p : Nat × Nat} (h : (arcQ r n)[k]? = some p) : (arcV c a b r n)[k]? = some (plus (plus c a p.1) b p.2) := by
  unfold arcV
  rw [List.getElem?_map, h]; rfl
theorem path_first {m : Mv} (h : checkS m = 0) : (pathS m)[0]? = some m.fr := by
  by_cases hk : m.kind = 3
  · have f := arc_facts h hk
    have := f.r2
    rw [path_a h hk, arcV_to (arc_ends _ (by omega)).1]
    exact congrArg some (fr_eq m).symm
  · rw [path_n h hk, linQ_at (by omega)]
    congr 1
    unfold plus
    simp
theorem path_last {m : Mv} (h : checkS m = 0) : (pathS m)[(pathS m).length - 1]? = some m.to := by
  by_cases hk : m.kind = 3
  · have f := arc_facts h hk
    have := f.r2
    have e : (pathS m).length = (arcQ (gS (sA m)) (gS (sA m) + 1)).length := by rw [path_a h hk]; simp [arcV]
    rw [e, path_a h hk, arcV_to (arc_ends _ (by omega)).2]
    have := to_eqA m
    rw [← f.g] at this
    exact congrArg some this.symm
  · have e : (pathS m).length - 1 = gS (dS m) := by rw [path_n h hk, linQ_len]; omega
    rw [e, path_n h hk, linQ_at (by omega)]
    exact congrArg some (to_eq m).symm
theorem gS_prim {v : V3} (h : 1 ≤ gS v) : gS (primV v) = 1 := by
  obtain ⟨h1, h2, h3⟩ := prim_mul v
  have e : gS v = gS v * gS (primV v) := by
    conv => lhs; rw [gS_eq, h1, h2, h3]
    rw [gS_eq (primV v), Int.natAbs_mul, Int.natAbs_mul, Int.natAbs_mul, Int.natAbs_natCast, Nat.gcd_mul_left, Nat.gcd_mul_left]
  have := Nat.mul_left_cancel (show 0 < gS v by omega) (e.symm.trans (Nat.mul_one _).symm)
  exact this
theorem step_line {m : Mv} (h : checkS m = 0) (hk : ¬ m.kind = 3) {k : Nat} {x y : V3} (hy : (pathS m)[k]? = some y) (hx : (pathS m)[k + 1]? = some x) : sub x y = primV (dS m) := by
  rw [path_n h hk] at hx hy
  have l1 := lt_of_at hx
  have l2 := lt_of_at hy
  rw [linQ_len] at l1 l2
  rw [linQ_at l1] at hx
  rw [linQ_at l2] at hy
  injection hx with hx
  injection hy with hy
  subst hx hy
  generalize primV (dS m) = u
  obtain ⟨a, b, c⟩ := u
  simp only [sub, plus]
  congr 1 <;> grind
structure Perp (A B : V3) : Prop where
  a : A.x * A.x + A.y * A.y + A.z * A.z = 1
  b : B.x * B.x + B.y * B.y + B.z * B.z = 1
  ab : A.x * B.x + A.y * B.y + A.z * B.z = 0
theorem aux_sq {A B c : V3} (h : Perp A B) (i j : Int) : dot (sub (plus (plus c A i) B j) c) (sub (plus (plus c A i) B j) c) = i * i + j * j := by
  have := h.a; have := h.b; have := h.ab
  simp only [dot, sub, plus]
  grind
theorem aux_a {A B c : V3} (h : Perp A B) (i j r : Int) : dot (sub (plus (plus c A i) B j) c) ⟨r * A.x, r * A.y, r * A.z⟩ = r * i := by
  have := h.a; have := h.b; have := h.ab
  simp only [dot, sub, plus]
  grind
theorem aux_b {A B c : V3} (h : Perp A B) (i j r : Int) : dot (sub (plus (plus c A i) B j) c) ⟨r * B.x, r * B.y, r * B.z⟩ = r * j := by
  have := h.a; have := h.b; have := h.ab
  simp only [dot, sub, plus]
  grind
theorem aux_da {A B c : V3} (h : Perp A B) (i j i' j' r : Int) : dot (sub (plus (plus c A i') B j') (plus (plus c A i) B j)) ⟨r * A.x, r * A.y, r * A.z⟩ = r * (i' - i) := by
  have := h.a; have := h.b; have := h.ab
  simp only [dot, sub, plus]
  grind
theorem aux_db {A B c : V3} (h : Perp A B) (i j i' j' r : Int) : dot (sub (plus (plus c A i') B j') (plus (plus c A i) B j)) ⟨r * B.x, r * B.y, r * B.z⟩ = r * (j' - j) := by
  have := h.a; have := h.b; have := h.ab
  simp only [dot, sub, plus]
  grind
theorem aux_rr {A : V3} (h : A.x * A.x + A.y * A.y + A.z * A.z = 1) (r : Int) : dot ⟨r * A.x, r * A.y, r * A.z⟩ ⟨r * A.x, r * A.y, r * A.z⟩ = r * r := by
  simp only [dot]
  grind
theorem aux_cr {A B c : V3} (i j r : Int) : dot (cross ⟨r * A.x, r * A.y, r * A.z⟩ ⟨r * B.x, r * B.y, r * B.z⟩) (sub (plus (plus c A i) B j) c) = 0 := by
  simp only [dot, sub, plus, cross]
  grind
theorem arc_perp {m : Mv} (f : ArcF m) : Perp (primV (sA m)) (primV (sB m)) := ⟨f.a, f.b, f.ab⟩
theorem sA_eq {m : Mv} : sA m = ⟨gS (sA m) * (primV (sA m)).x, gS (sA m) * (primV (sA m)).y, gS (sA m) * (primV (sA m)).z⟩ := by
  obtain ⟨h1, h2, h3⟩ := prim_mul (sA m)
  rw [← h1, ← h2, ← h3]
theorem sB_eq {m : Mv} (f : ArcF m) : sB m = ⟨gS (sA m) * (primV (sB m)).x, gS (sA m) * (primV (sB m)).y, gS (sA m) * (primV (sB m)).z⟩ := by
  obtain ⟨h1, h2, h3⟩ := prim_mul (sB m)
  rw [f.g, ← h1, ← h2, ← h3]
theorem step_aux {A B c a b : V3} {r i j i' j' : Int} (hp : Perp A B) (ha : a = ⟨r * A.x, r * A.y, r * A.z⟩) (hb : b = ⟨r * B.x, r * B.y, r * B.z⟩) (hr : 1 ≤ r) (hs : i' * i' + j' * j' = r * r) (hi : 0 ≤ i') (h1 : i' < i) (h2 : j < j') :
    dot (sub (plus (plus c A i') B j') c) (sub (plus (plus c A i') B j') c) = dot a a ∧ dot (sub (plus (plus c A i') B j') (plus (plus c A i) B j)) a < 0 ∧ 0 < dot (sub (plus (plus c A i') B j') (plus (plus c A i) B j)) b ∧
      0 ≤ dot (sub (plus (plus c A i') B j') c) a ∧ dot (cross a b) (sub (plus (plus c A i') B j') c) = 0 := by
  subst ha hb
  refine ⟨by rw [aux_sq hp, aux_rr hp.a, hs], ?_, ?_, ?_, aux_cr _ _ _⟩
  · rw [aux_da hp]; exact Int.mul_neg_of_pos_of_neg (by omega) (by omega)
  · rw [aux_db hp]; exact Int.mul_pos (by omega) (by omega)
  · rw [aux_a hp]; exact Int.mul_nonneg (by omega) hi
theorem step_arc {m : Mv} (h : checkS m = 0) (hk : m.kind = 3) {k : Nat} {x y : V3} (hy : (pathS m)[k]? = some y) (hx : (pathS m)[k + 1]? = some x) :
    dot (sub x (cenS m)) (sub x (cenS m)) = dot (sA m) (sA m) ∧ dot (sub x y) (sA m) < 0 ∧ 0 < dot (sub x y) (sB m) ∧ 0 ≤ dot (sub x (cenS m)) (sA m) ∧ dot (cross (sA m) (sB m)) (sub x (cenS m)) = 0 := by
  have f := arc_facts h hk
  have hr2 := f.r2
  have hr1 := f.r1
  rw [path_a h hk] at hx hy
  obtain ⟨p, hp1, rfl⟩ := arcV_of hx
  obtain ⟨q, hq1, rfl⟩ := arcV_of hy
  have hm := monoB_at (arc_mono _ (by omega)) hq1 hp1
  obtain ⟨hs, _, _⟩ := arcQ_mem (List.mem_of_getElem? hp1)
  exact step_aux (arc_perp f) sA_eq (sB_eq f) (by omega) (by rw [← Int.natCast_mul, ← Int.natCast_mul, ← Int.natCast_add, hs, Int.natCast_mul]) (by omega) (by omega) (by omega)
end Go.Proofs.Yteommcdafifckaa

/-! Plain law: which integer points are steps. -/
namespace Go.Proofs.Yteommcdafifckaa
open Go.RowKit

theorem bez2 (a b : Nat) : ∃ s t : Int, s * a + t * b = (Nat.gcd a b : Int) := by
  induction a, b using Nat.gcd.induction with
  | H0 n => exact ⟨0, 1, by simp⟩
  | H1 m n hm ih =>
    obtain ⟨s, t, h⟩ := ih
    refine ⟨t - s * ((n / m : Nat) : Int), s, ?_⟩
    rw [Nat.gcd_rec, ← h]
    have e : (n : Int) = m * ((n / m : Nat) : Int) + ((n % m : Nat) : Int) := by rw [← Int.natCast_mul, ← Int.natCast_add, Nat.div_add_mod]
    generalize ((n / m : Nat) : Int) = q at e
    generalize ((n % m : Nat) : Int) = w at e
    rw [e]
    grind
theorem abs_sgn (a : Int) : ∃ s : Int, (a.natAbs : Int) = s * a := by
  rcases Int.le_total 0 a with h | h
  · exact ⟨1, by omega⟩
  · exact ⟨-1, by omega⟩
theorem bez3 (u : V3) : ∃ s t q : Int, s * u.x + t * u.y + q * u.z = gS u := by
  obtain ⟨a, b, h1⟩ := bez2 u.x.natAbs u.y.natAbs
  obtain ⟨c, d, h2⟩ := bez2 (Nat.gcd u.x.natAbs u.y.natAbs) u.z.natAbs
  obtain ⟨sx, ex⟩ := abs_sgn u.x
  obtain ⟨sy, ey⟩ := abs_sgn u.y
  obtain ⟨sz, ez⟩ := abs_sgn u.z
  refine ⟨c * a * sx, c * b * sy, d * sz, ?_⟩
  rw [gS_eq, ← h2, ← h1, ex, ey, ez]
  grind
theorem par_prim {u w : V3} (h1 : gS u = 1) (h : cross w u = ⟨0, 0, 0⟩) : ∃ k : Int, w.x = k * u.x ∧ w.y = k * u.y ∧ w.z = k * u.z := by
  obtain ⟨s, t, q, hb⟩ := bez3 u
  rw [h1] at hb
  have e1 := congrArg V3.x h
  have e2 := congrArg V3.y h
  have e3 := congrArg V3.z h
  simp only [cross] at e1 e2 e3
  refine ⟨s * w.x + t * w.y + q * w.z, ?_, ?_, ?_⟩ <;> grind
theorem sq_pos {u : V3} (h : u ≠ ⟨0, 0, 0⟩) : 1 ≤ dot u u := by
  have p1 := sq_nonneg u.x
  have p2 := sq_nonneg u.y
  have p3 := sq_nonneg u.z
  have z : ∀ a : Int, a * a = 0 → a = 0 := fun a h => (Int.mul_eq_zero.1 h).elim id id
  have : dot u u ≠ 0 := fun e => h (by
    unfold dot at e
    have a1 := z u.x (by omega)
    have a2 := z u.y (by omega)
    have a3 := z u.z (by omega)
    obtain ⟨a, b, c⟩ := u
    dsimp only at a1 a2 a3
    rw [a1, a2, a3])
  unfold dot at this ⊢
  omega
theorem on_line {m : Mv} (h : checkS m = 0) (hk : ¬ m.kind = 3) (w : V3) : (cross w (dS m) = ⟨0, 0, 0⟩ ∧ 0 ≤ dot w (dS m) ∧ dot w (dS m) ≤ dot (dS m) (dS m)) ↔ add m.fr w ∈ pathS m := by
  have hg := d_pos h hk
  have hp := gS_prim hg
  obtain ⟨m1, m2, m3⟩ := prim_mul (dS m)
  have hu0 : primV (dS m) ≠ ⟨0, 0, 0⟩ := fun e => by rw [e] at hp; revert hp; decide
  have hu := sq_pos hu0
  rw [path_n h hk]
  generalize hd : dS m = d at *
  generalize hu' : primV d = u at *
  obtain ⟨g, hgg⟩ : ∃ g : Int, g = gS d := ⟨_, rfl⟩
  have hg1 : 1 ≤ g := by omega
  rw [← hgg] at m1 m2 m3
  constructor
  · rintro ⟨h1, h2, h3⟩
    have e1 := congrArg V3.x h1
    have e2 := congrArg V3.y h1
    have e3 := congrArg V3.z h1
    simp only [cross] at e1 e2 e3
    have can : ∀ a : Int, g * a = 0 → a = 0 := fun a ha => (Int.mul_eq_zero.1 ha).resolve_left (by omega)
    have hc : cross w u = ⟨0, 0, 0⟩ := by
      have f1 := can (w.y * u.z - w.z * u.y) (by rw [m2, m3] at e1; grind)
      have f2 := can (w.z * u.x - w.x * u.z) (by rw [m1, m3] at e2; grind)
      have f3 := can (w.x * u.y - w.y * u.x) (by rw [m1, m2] at e3; grind)
      simp only [cross]
      rw [f1, f2, f3]
    obtain ⟨k, k1, k2, k3⟩ := par_prim hp hc
    have d1 : dot w d = k * g * dot u u := by
      simp only [dot]; rw [k1, k2, k3, m1, m2, m3]; grind
    have d2 : dot d d = g * g * dot u u := by
      simp only [dot]; rw [m1, m2, m3]; grind
    rw [d1] at h2 h3
    rw [d2] at h3
    have hk0 : 0 ≤ k := Decidable.byContradiction fun hn => by
      have : k * g * dot u u < 0 := Int.mul_neg_of_neg_of_pos (Int.mul_neg_of_neg_of_pos (by omega) (by omega)) (by omega)
      omega
    have hkg : k ≤ g := Decidable.byContradiction fun hn => by
      have : 0 < (k - g) * g * dot u u := Int.mul_pos (Int.mul_pos (by omega) (by omega)) (by omega)
      have e : (k - g) * g * dot u u = k * g * dot u u - g * g * dot u u := by grind
      omega
    unfold linQ
    rw [List.mem_map]
    refine ⟨k.toNat, List.mem_range.2 (by omega), ?_⟩
    rw [Int.toNat_of_nonneg hk0]
    simp only [plus, add]
    rw [k1, k2, k3]
  · intro hm
    unfold linQ at hm
    rw [List.mem_map] at hm
    obtain ⟨k, hk2, he⟩ := hm
    have hk3 := List.mem_range.1 hk2
    have k1 : w.x = k * u.x := by have := congrArg V3.x he; simp only [plus, add] at this; omega
    have k2 : w.y = k * u.y := by have := congrArg V3.y he; simp only [plus, add] at this; omega
    have k3 : w.z = k * u.z := by have := congrArg V3.z he; simp only [plus, add] at this; omega
    have d1 : dot w d = k * g * dot u u := by
      simp only [dot]; rw [k1, k2, k3, m1, m2, m3]; grind
    have d2 : dot d d = g * g * dot u u := by
      simp only [dot]; rw [m1, m2, m3]; grind
    refine ⟨?_, ?_, ?_⟩
    · simp only [cross]
      rw [k1, k2, k3, m1, m2, m3]
      congr 1 <;> grind
    · rw [d1]; exact Int.mul_nonneg (Int.mul_nonneg (by omega) (by omega)) (by omega)
    · rw [d1, d2]
      have : 0 ≤ (g - k) * g * dot u u := Int.mul_nonneg (Int.mul_nonneg (by omega) (by omega)) (by omega)
      have e : (g - k) * g * dot u u = g * g * dot u u - k * g * dot u u := by grind
      omega
theorem mem_arc {r i j : Nat} (hr : r < 49) (h : i * i + j * j = r * r) : (i, j) ∈ arcQ r (r + 1) := by
  have le : ∀ a b : Nat, a * a + b * b = r * r → a ≤ r := fun a b hab => Decidable.byContradiction fun hn => by
    have := Nat.mul_lt_mul'' (show r < a by omega) (show r < a by omega)
    omega
  have hi := le i j h
  have hj := le j i (by omega)
  rw [← arc_same r hr]
  unfold arcRo
  rw [List.mem_flatMap]
  refine ⟨r - i, List.mem_range.2 (by omega), ?_⟩
  rw [show r - (r - i) = i by omega]
  unfold rowR
  rw [List.mem_filterMap]
  exact ⟨j, List.mem_range.2 (by omega), by rw [if_pos h]⟩
theorem perp_span {A B y : V3} (h : Perp A B) (hc : dot (cross A B) y = 0) : y = ⟨dot y A * A.x + dot y B * B.x, dot y A * A.y + dot y B * B.y, dot y A * A.z + dot y B * B.z⟩ := by
  have h1 : dot A A = 1 := h.a
  have h2 : dot B B = 1 := h.b
  have h3 : dot A B = 0 := h.ab
  obtain ⟨a, b, c⟩ := y
  rcases unit_cases h1 with rfl | rfl | rfl | rfl | rfl | rfl <;> rcases unit_cases h2 with rfl | rfl | rfl | rfl | rfl | rfl <;> first
    | (exfalso; revert h3; decide)
    | (simp [dot, cross] at hc ⊢; omega)
    | (simp [dot, cross] at hc ⊢; done)
theorem on_arc_aux {A B c a b y : V3} {r : Nat} (hr : r < 49) (hr1 : 1 ≤ r) (hp : Perp A B) (ha : a = ⟨r * A.x, r * A.y, r * A.z⟩) (hb : b = ⟨r * B.x, r * B.y, r * B.z⟩) :
    (dot y y = dot a a ∧ dot (cross a b) y = 0 ∧ 0 ≤ dot y a ∧ 0 ≤ dot y b) ↔ ∃ p ∈ arcQ r (r + 1), y = sub (plus (plus c A p.1) B p.2) c := by
  subst ha hb
  have ea : dot y ⟨r * A.x, r * A.y, r * A.z⟩ = r * dot y A := by simp only [dot]; grind
  have eb : dot y ⟨r * B.x, r * B.y, r * B.z⟩ = r * dot y B := by simp only [dot]; grind
  have ec : dot (cross ⟨r * A.x, r * A.y, r * A.z⟩ ⟨r * B.x, r * B.y, r * B.z⟩) y = r * r * dot (cross A B) y := by simp only [dot, cross]; grind
  rw [ea, eb, ec, aux_rr hp.a]
  constructor
  · rintro ⟨h1, h2, h3, h4⟩
    have h2' : dot (cross A B) y = 0 := by
      rcases Int.mul_eq_zero.1 h2 with h | h
      · rcases Int.mul_eq_zero.1 h with h | h <;> omega
      · exact h
    have hs := perp_span hp h2'
    have ge : ∀ x : Int, 0 ≤ (r : Int) * x → 0 ≤ x := fun x hx => Decidable.byContradiction fun hn => by
      have := Int.mul_neg_of_pos_of_neg (show (0 : Int) < r by omega) (show x < 0 by omega)
      omega
    obtain ⟨i, hi⟩ : ∃ i : Nat, (i : Int) = dot y A := ⟨(dot y A).toNat, Int.toNat_of_nonneg (ge _ h3)⟩
    obtain ⟨j, hj⟩ : ∃ j : Nat, (j : Int) = dot y B := ⟨(dot y B).toNat, Int.toNat_of_nonneg (ge _ h4)⟩
    rw [← hi, ← hj] at hs
    have hy : y = sub (plus (plus c A i) B j) c := by
      rw [hs]
      simp only [sub, plus]
      congr 1 <;> omega
    refine ⟨(i, j), mem_arc hr ?_, hy⟩
    rw [hy, aux_sq hp] at h1
    exact Int.ofNat_inj.1 (by rw [Int.natCast_add, Int.natCast_mul, Int.natCast_mul, Int.natCast_mul]; exact h1)
  · rintro ⟨p, hp1, rfl⟩
    obtain ⟨hs, _, _⟩ := arcQ_mem hp1
    have e1 := aux_a (c := c) hp p.1 p.2 r
    have e2 := aux_b (c := c) hp p.1 p.2 r
    rw [← ea, ← eb, ← ec, e1, e2, aux_sq hp]
    refine ⟨by rw [← Int.natCast_mul, ← Int.natCast_mul, ← Int.natCast_add, hs, Int.natCast_mul], aux_cr _ _ _, Int.mul_nonneg (by omega) (by omega), Int.mul_nonneg (by omega) (by omega)⟩
theorem on_arc {m : Mv} (h : checkS m = 0) (hk : m.kind = 3) (x : V3) :
    (dot (sub x (cenS m)) (sub x (cenS m)) = dot (sA m) (sA m) ∧ dot (cross (sA m) (sB m)) (sub x (cenS m)) = 0 ∧ 0 ≤ dot (sub x (cenS m)) (sA m) ∧ 0 ≤ dot (sub x (cenS m)) (sB m)) ↔ x ∈ pathS m := by
  have f := arc_facts h hk
  have := f.r2
  rw [on_arc_aux (c := cenS m) (by omega) f.r1 (arc_perp f) sA_eq (sB_eq f), path_a h hk]
  unfold arcV
  rw [List.mem_map]
  constructor
  · rintro ⟨p, hp, he⟩
    refine ⟨p, hp, ?_⟩
    have e1 := congrArg V3.x he
    have e2 := congrArg V3.y he
    have e3 := congrArg V3.z he
    simp only [sub] at e1 e2 e3
    generalize plus (plus (cenS m) (primV (sA m)) (p.1 : Int)) (primV (sB m)) (p.2 : Int) = q at *
    obtain ⟨a, b, c⟩ := q
    obtain ⟨a', b', c'⟩ := x
    dsimp only at e1 e2 e3
    congr 1 <;> omega
  · rintro ⟨p, hp, rfl⟩
    exact ⟨p, hp, rfl⟩
end Go.Proofs.Yteommcdafifckaa

/-! Walks: M7h. -/
namespace Go.Proofs.Yteommcdafifckaa
open Go.RowKit

section
variable {P : Program} {N : Nat} {F : Fr} {H : Hp} {ml : List MOper} {K : List Fp → Fr → Hp → Prop} {d : Nat} {g : Option (Nat × Bool)} {pre : List Nat} {x y : Arg}
theorem rs_aeqv_same {u : V3} (hg : gOK F g = true) (hx : aarg F x = some (aV u)) (hy : aarg F y = some (aV u)) (h : RS P N ml ((d, .bool false) :: F) H (fun fps => K (([], []) :: fps))) : RS P N (⟨some d, .aeq true 3 x y, g, pre⟩ :: ml) F H K :=
  rs_aeqv hg hx hy (by simpa using h)
theorem rs_beq_same {b : Bool} (hg : gOK F g = true) (hx : aarg F x = some (.bool b)) (hy : aarg F y = some (.bool b)) (h : RS P N ml ((d, .bool false) :: F) H (fun fps => K (([], []) :: fps))) : RS P N (⟨some d, .beq true x y, g, pre⟩ :: ml) F H K :=
  rs_beq hg hx hy (by simpa using h)
end
theorem steps_range (m : Mv) : 0 ≤ stepsS m ∧ stepsS m ≤ 48 := by
  have := path_len m
  unfold stepsS
  omega
abbrev c2 (p : Int × Int) : List AV := [iv p.1, iv p.2]
theorem out_le (m : Mv) (i j : Int) : (outS m i j).length ≤ 4611686018427387904 := by
  unfold outS
  repeat' split
  all_goals simp
theorem kn_le (m : Mv) (i j : Int) : (knS m i j).length ≤ 4611686018427387904 := by
  have := btw_le m i j
  unfold knS
  repeat' split
  all_goals simp
  all_goals omega
theorem fc23_same (xs : List V3) (h : xs.length ≤ 4611686018427387904) : FC Try.prog 23 [.rs 3 (xs.map cV), .rs 3 (xs.map cV)] [] (.bool true) [] false := by have := fc23 xs xs h; rwa [decide_eq_true rfl] at this
theorem fc24_same (xs : List (V3 × V3)) (h : xs.length ≤ 4611686018427387904) : FC Try.prog 24 [.rs 6 (xs.map cP), .rs 6 (xs.map cP)] [] (.bool true) [] false := by have := fc24 xs xs h; rwa [decide_eq_true rfl] at this

end Go.Proofs.Yteommcdafifckaa

/-! Walks: M9h. -/
namespace Go.Proofs.Yteommcdafifckaa
open Go.RowKit

theorem rs_aeqv_f {P : Program} {N : Nat} {F : Fr} {H : Hp} {ml : List MOper} {K : List Fp → Fr → Hp → Prop} {d : Nat} {g : Option (Nat × Bool)} {pre : List Nat} {x y : Arg} {u v : V3} (e : u = v) (hg : gOK F g = true) (hx : aarg F x = some (aV u)) (hy : aarg F y = some (aV v))
    (h : RS P N ml ((d, .bool false) :: F) H (fun fps => K (([], []) :: fps))) : RS P N (⟨some d, .aeq true 3 x y, g, pre⟩ :: ml) F H K := by
  subst e; exact rs_aeqv_same hg hx hy h
theorem fc27c {m : Mv} (h : InM m) : FC Try.prog 27 [aV (add m.fr m.to), aV m.co] [] (aV (cenS m)) [] false := by rw [cenS_eq]; exact fc27s (h.fr.add h.to).big h.co.big
theorem fc27a {m : Mv} (h : InM m) : FC Try.prog 27 [aV m.fr, aV (cenS m)] [] (aV (sA m)) [] false := by rw [← cen_a m]; exact fc27s h.fr.big h.c.big
theorem fc27b {m : Mv} (h : InM m) : FC Try.prog 27 [aV m.to, aV (cenS m)] [] (aV (sB m)) [] false := by rw [← cen_b m]; exact fc27s h.to.big h.c.big
theorem Bd.cross {a b : V3} {n m : Int} (ha : Bd n a) (hb : Bd m b) : Bd (2 * (n * m)) (cross a b) := by
  have h1 := mulB ha.y hb.z; have h2 := mulB ha.z hb.y; have h3 := mulB ha.z hb.x; have h4 := mulB ha.x hb.z; have h5 := mulB ha.x hb.y; have h6 := mulB ha.y hb.x
  exact ⟨by simp only [Yteommcdafifckaa.cross]; omega, by simp only [Yteommcdafifckaa.cross]; omega, by simp only [Yteommcdafifckaa.cross]; omega⟩
theorem path_last' {m : Mv} (h : checkS m = 0) : (pathS m)[(((pathS m).length : Int) - 1).toNat]? = some m.to := by
  have := path_two h
  rw [show (((pathS m).length : Int) - 1).toNat = (pathS m).length - 1 by omega]; exact path_last h

end Go.Proofs.Yteommcdafifckaa

/-! Walks: M10p. -/
namespace Go.Proofs.Yteommcdafifckaa
open Go.RowKit

theorem tmodr (a d : Int) (ha : 0 ≤ a) (hd : 0 < d) : 0 ≤ a.tmod d ∧ a.tmod d < d := by
  rw [Int.tmod_eq_emod_of_nonneg ha]
  exact ⟨Int.emod_nonneg _ (by omega), Int.emod_lt_of_pos _ hd⟩
theorem aw_cutw {P : Program} {N : Nat} {Z : List Nat} {rn : Option Nat} {Q : Post} {F F0 : Fr} {H H0 : Hp} {x y : MC} (h1 : AW P N Z rn x (fun e F' H' => e = .normal ∧ Weak N Z F' H' F0 H0) F H) (h2 : AW P N Z rn y Q F0 H0) : AW P N Z rn (.seq x y) Q F H :=
  aw_seq (aw_mono h1 fun e F' H' ⟨he, hw⟩ => by subst he; exact aw_weak hw h2)
theorem rs_beq_f {P : Program} {N : Nat} {F : Fr} {H : Hp} {ml : List MOper} {K : List Fp → Fr → Hp → Prop} {d : Nat} {g : Option (Nat × Bool)} {pre : List Nat} {x y : Arg} {a b : Bool} (e : a = b) (hg : gOK F g = true) (hx : aarg F x = some (.bool a)) (hy : aarg F y = some (.bool b))
    (h : RS P N ml ((d, .bool false) :: F) H (fun fps => K (([], []) :: fps))) : RS P N (⟨some d, .beq true x y, g, pre⟩ :: ml) F H K := by
  subst e; exact rs_beq_same hg hx hy h
theorem fc27d {m : Mv} (h : InM m) : FC Try.prog 27 [aV m.to, aV m.fr] [] (aV (dS m)) [] false := fc27s h.to.big h.fr.big
abbrev yV (a b c : Int) : V3 := ⟨a.tmod 41 - 20, b.tmod 41 - 20, c.tmod 41 - 20⟩
theorem y_bd {a b c : Int} (ha : 0 ≤ a ∧ a < 256) (hb : 0 ≤ b ∧ b < 256) (hc : 0 ≤ c ∧ c < 256) : Bd 20 (yV a b c) := by
  have h1 := tmodr a 41 ha.1 (by decide)
  have h2 := tmodr b 41 hb.1 (by decide)
  have h3 := tmodr c 41 hc.1 (by decide)
  exact ⟨by dsimp only; omega, by dsimp only; omega, by dsimp only; omega⟩
theorem mem_succ {α : Type} [DecidableEq α] {l : List α} {k : Nat} {x z : α} (hz : l[k]? = some z) (h : decide (x ∈ l.take k) = false) : (false != decide (z = x)) = decide (x ∈ l.take (k + 1)) := by
  have h := of_decide_eq_false h
  rw [take_succ_at hz]
  simp [h, eq_comm]
theorem mem_succ_t {α : Type} [DecidableEq α] {l : List α} {k : Nat} {x z : α} (hz : l[k]? = some z) (h : decide (x ∈ l.take k) = true) : true = decide (x ∈ l.take (k + 1)) := by
  have h := of_decide_eq_true h
  rw [take_succ_at hz]
  simp [h]

def mc7 : MC := (.seq (.reg [⟨(some 3), (.box 58 3 (.t 1)), none, []⟩, ⟨(some 4), (.mv (.c (.bool false))), none, []⟩] false) (.seq (.reg [⟨(some 24), (.call 9 []), none, []⟩, ⟨(some 5), (.mv (.t 24)), none, [0, 0, 0]⟩] false) (.seq (.reg [⟨(some 25), (.mv (.t 0)), none, []⟩, ⟨(some 26), (.call 10 [(.t 25)]), none, [0]⟩, ⟨(some 6), (.alloc 28 11 [(.int .i64 0), (.int .i64 0), (.int .i64 0), (.int .i64 0), (.int .i64 0), (.int .i64 0), (.int .i64 0), (.int .i64 0), (.int .i64 0), (.int .i64 0), (.int .i64 0)]), none, []⟩, ⟨none, (.st 11 (.t 6) (.t 26)), none, [2, 1, 1, 0, 1, 2]⟩] false) (.seq (.reg [⟨(some 28), (.ld true 11 (.t 6)), none, []⟩, ⟨(some 29), (.call 25 [(.t 28)]), none, [0]⟩, ⟨(some 27), (.mv (.t 29)), none, [1]⟩, ⟨(some 30), (.ext (.t 27) 0), none, [2]⟩, ⟨(some 31), (.ext (.t 27) 1), none, [2]⟩, ⟨(some 7), (.mv (.t 30)), none, [3, 1, 0, 1, 2, 3]⟩, ⟨(some 8), (.mv (.t 31)), none, [4, 5, 0, 1, 2, 3, 4, 5]⟩] false) (.seq (.seq (.reg [⟨(some 32), (.mv (.t 8)), none, []⟩, ⟨(some 33), (.un .not (.t 32)), none, [0]⟩] false) (.cond (.t 33) (.seq (.reg [⟨(some 4), (.mv (.c (.bool false))), none, []⟩] false) .ret) .skip)) (.seq (.reg [⟨(some 34), (.fa 4 (.t 6)), none, []⟩, ⟨(some 35), (.ld true 3 (.t 34)), none, [0]⟩, ⟨(some 36), (.fa 1 (.t 6)), none, []⟩, ⟨(some 37), (.ld true 3 (.t 36)), none, [2]⟩, ⟨(some 38), (.call 27 [(.t 35), (.t 37)]), none, [1, 3]⟩, ⟨(some 9), (.alloc 26 3 [(.int .i64 0), (.int .i64 0), (.int .i64 0)]), none, []⟩, ⟨none, (.st 3 (.t 9) (.t 38)), none, [5, 4, 4, 0, 1, 2, 3, 4, 5]⟩] false) (.seq (.reg [⟨(some 39), (.ixarr 3 1 (.t 3) (.c (.int .i64 0))), none, []⟩, ⟨(some 40), (.ld false 1 (.t 39)), none, [0]⟩, ⟨(some 41), (.bin .rem (.t 40) (.c (.int .u8 41))), none, [1]⟩, ⟨(some 42), (.cvt .i64 (.t 41)), none, [2]⟩, ⟨(some 43), (.bin .sub (.t 42) (.c (.int .i64 20))), none, [3]⟩, ⟨(some 44), (.ixarr 3 1 (.t 3) (.c (.int .i64 1))), none, []⟩, ⟨(some 45), (.ld false 1 (.t 44)), none, [5]⟩, ⟨(some 46), (.bin .rem (.t 45) (.c (.int .u8 41))), none, [6]⟩, ⟨(some 47), (.cvt .i64 (.t 46)), none, [7]⟩, ⟨(some 48), (.bin .sub (.t 47) (.c (.int .i64 20))), none, [8]⟩, ⟨(some 49), (.ixarr 3 1 (.t 3) (.c (.int .i64 2))), none, []⟩, ⟨(some 50), (.ld false 1 (.t 49)), none, [10]⟩, ⟨(some 51), (.bin .rem (.t 50) (.c (.int .u8 41))), none, [11]⟩, ⟨(some 52), (.cvt .i64 (.t 51)), none, [12]⟩, ⟨(some 53), (.bin .sub (.t 52) (.c (.int .i64 20))), none, [13]⟩, ⟨(some 54), (.build [(.int .i64 0), (.int .i64 0), (.int .i64 0)] [(0, (1, (.t 43))), (1, (1, (.t 48))), (2, (1, (.t 53)))]), none, [4, 9, 14]⟩, ⟨(some 10), (.alloc 26 3 [(.int .i64 0), (.int .i64 0), (.int .i64 0)]), none, []⟩, ⟨none, (.st 3 (.t 10) (.t 54)), none, [16, 15, 0, 1, 2, 3, 4, 5, 6, 7, 8, 9, 10, 11, 12, 13, 14, 15, 16]⟩] false) (.seq (.reg [⟨(some 56), (.ld true 3 (.t 9)), none, []⟩, ⟨(some 57), (.call 32 [(.t 56)]), none, [0]⟩, ⟨(some 55), (.mv (.t 57)), none, [1]⟩, ⟨(some 58), (.ext (.t 55) 0), none, [2]⟩, ⟨(some 59), (.ext (.t 55) 1), none, [2]⟩, ⟨(some 11), (.alloc 26 3 [(.int .i64 0), (.int .i64 0), (.int .i64 0)]), none, []⟩, ⟨none, (.st 3 (.t 11) (.t 58)), none, [5, 3, 1, 0, 1, 2, 3, 5]⟩, ⟨(some 12), (.mv (.t 59)), none, [4, 6, 0, 1, 2, 3, 4, 5, 6]⟩] false) (.seq (.seq (.reg [⟨(some 60), (.ld true 3 (.t 10)), none, []⟩, ⟨(some 61), (.fa 0 (.t 11)), none, []⟩, ⟨(some 62), (.ld false 1 (.t 61)), none, [1]⟩, ⟨(some 63), (.fa 0 (.t 10)), none, []⟩, ⟨(some 64), (.ld false 1 (.t 63)), none, [3]⟩, ⟨(some 65), (.bin .rem (.t 64) (.c (.int .i64 5))), none, [4]⟩, ⟨(some 66), (.bin .mul (.t 62) (.t 65)), none, [2, 5]⟩, ⟨(some 67), (.fa 1 (.t 11)), none, []⟩, ⟨(some 68), (.ld false 1 (.t 67)), none, [7]⟩, ⟨(some 69), (.fa 0 (.t 10)), none, []⟩, ⟨(some 70), (.ld false 1 (.t 69)), none, [9]⟩, ⟨(some 71), (.bin .rem (.t 70) (.c (.int .i64 5))), none, [10]⟩, ⟨(some 72), (.bin .mul (.t 68) (.t 71)), none, [8, 11]⟩, ⟨(some 73), (.fa 2 (.t 11)), none, []⟩, ⟨(some 74), (.ld false 1 (.t 73)), none, [13]⟩, ⟨(some 75), (.fa 0 (.t 10)), none, []⟩, ⟨(some 76), (.ld false 1 (.t 75)), none, [15]⟩, ⟨(some 77), (.bin .rem (.t 76) (.c (.int .i64 5))), none, [16]⟩, ⟨(some 78), (.bin .mul (.t 74) (.t 77)), none, [14, 17]⟩, ⟨(some 79), (.build [(.int .i64 0), (.int .i64 0), (.int .i64 0)] [(0, (1, (.t 66))), (1, (1, (.t 72))), (2, (1, (.t 78)))]), none, [6, 12, 18]⟩, ⟨(some 80), (.bslice 26 3 [(.int .i64 0), (.int .i64 0), (.int .i64 0)] 2 [(0, (.t 60)), (1, (.t 79))]), none, [0, 19]⟩, ⟨(some 81), (.len (.t 80)), none, [20]⟩, ⟨(some 82), (.mv (.c (.int .i64 0))), none, []⟩] false) (.block 0 (.loop (.seq (.reg [⟨(some 83), (.bin .lss (.t 82) (.t 81)), none, []⟩] false) (.seq (.cond (.t 83) .skip (.exit 0)) (.seq (.block 1 (.seq (.reg [⟨(some 84), (.ixsl 3 (.t 80) (.t 82)), none, []⟩, ⟨(some 85), (.ld true 3 (.t 84)), none, [0]⟩, ⟨(some 14), (.alloc 26 3 [(.int .i64 0), (.int .i64 0), (.int .i64 0)]), none, []⟩, ⟨none, (.st 3 (.t 14) (.t 85)), none, [2, 1, 0, 1, 2]⟩] false) (.seq (.reg [⟨(some 86), (.fa 1 (.t 6)), none, []⟩, ⟨(some 87), (.ld true 3 (.t 86)), none, [0]⟩, ⟨(some 88), (.ld true 3 (.t 14)), none, []⟩, ⟨(some 89), (.call 28 [(.t 87), (.t 88)]), none, [1, 2]⟩, ⟨(some 15), (.alloc 26 3 [(.int .i64 0), (.int .i64 0), (.int .i64 0)]), none, []⟩, ⟨none, (.st 3 (.t 15) (.t 89)), none, [4, 3, 3, 0, 1, 2, 3, 4]⟩] false) (.seq (.reg [⟨(some 90), (.ld true 3 (.t 14)), none, []⟩, ⟨(some 91), (.ld true 3 (.t 9)), none, []⟩, ⟨(some 92), (.call 31 [(.t 90), (.t 91)]), none, [0, 1]⟩, ⟨(some 93), (.build [(.int .i64 0), (.int .i64 0), (.int .i64 0)] []), none, []⟩, ⟨(some 94), (.aeq false 3 (.t 92) (.t 93)), none, [2, 3]⟩, ⟨(some 95), (.mv (.t 94)), none, [4, 2]⟩, ⟨(some 96), (.ld true 3 (.t 14)), (some (95, true)), [5]⟩, ⟨(some 97), (.ld true 3 (.t 9)), (some (95, true)), [5]⟩, ⟨(some 98), (.call 30 [(.t 96), (.t 97)]), (some (95, true)), [6, 7, 5, 5]⟩, ⟨(some 99), (.bin .geq (.t 98) (.c (.int .i64 0))), (some (95, true)), [8, 5]⟩, ⟨(some 100), (.pick (.t 95) (.t 99) (.c (.bool false))), none, [5, 9]⟩, ⟨(some 101), (.mv (.t 100)), none, [10, 8]⟩, ⟨(some 102), (.ld true 3 (.t 14)), (some (101, true)), [11]⟩, ⟨(some 103), (.ld true 3 (.t 9)), (some (101, true)), [11]⟩, ⟨(some 104), (.call 30 [(.t 102), (.t 103)]), (some (101, true)), [12, 13, 11, 11]⟩, ⟨(some 105), (.ld true 3 (.t 9)), (some (101, true)), [11]⟩, ⟨(some 106), (.ld true 3 (.t 9)), (some (101, true)), [11]⟩, ⟨(some 107), (.call 30 [(.t 105), (.t 106)]), (some (101, true)), [15, 16, 14, 11]⟩, ⟨(some 108), (.bin .leq (.t 104) (.t 107)), (some (101, true)), [14, 17, 11]⟩, ⟨(some 109), (.pick (.t 101) (.t 108) (.c (.bool false))), none, [11, 18]⟩, ⟨(some 16), (.mv (.t 109)), none, [19, 17, 0, 1, 2, 3, 4, 5, 6, 7, 8, 9, 10, 11, 12, 13, 14, 15, 16, 17, 18, 19]⟩] true) (.seq (.seq (.reg [⟨(some 110), (.fa 0 (.t 6)), none, []⟩, ⟨(some 111), (.ld false 1 (.t 110)), none, [0]⟩, ⟨(some 112), (.bin .eql (.t 111) (.c (.int .i64 3))), none, [1]⟩] false) (.cond (.t 112) (.seq (.reg [⟨(some 113), (.fa 1 (.t 6)), none, []⟩, ⟨(some 114), (.ld true 3 (.t 113)), none, [0]⟩, ⟨(some 115), (.fa 4 (.t 6)), none, []⟩, ⟨(some 116), (.ld true 3 (.t 115)), none, [2]⟩, ⟨(some 117), (.call 28 [(.t 114), (.t 116)]), none, [1, 3]⟩, ⟨(some 118), (.fa 7 (.t 6)), none, []⟩, ⟨(some 119), (.ld true 3 (.t 118)), none, [5]⟩, ⟨(some 120), (.call 27 [(.t 117), (.t 119)]), none, [4, 6, 4]⟩, ⟨(some 17), (.alloc 26 3 [(.int .i64 0), (.int .i64 0), (.int .i64 0)]), none, []⟩, ⟨none, (.st 3 (.t 17) (.t 120)), none, [8, 7, 7, 0, 1, 2, 3, 4, 5, 6, 7, 8]⟩] true) (.seq (.reg [⟨(some 121), (.fa 1 (.t 6)), none, []⟩, ⟨(some 122), (.ld true 3 (.t 121)), none, [0]⟩, ⟨(some 123), (.ld true 3 (.t 17)), none, []⟩, ⟨(some 124), (.call 27 [(.t 122), (.t 123)]), none, [1, 2]⟩, ⟨(some 125), (.fa 4 (.t 6)), none, []⟩, ⟨(some 126), (.ld true 3 (.t 125)), none, [4]⟩, ⟨(some 127), (.ld true 3 (.t 17)), none, []⟩, ⟨(some 128), (.call 27 [(.t 126), (.t 127)]), none, [5, 6, 3]⟩, ⟨(some 129), (.ld true 3 (.t 15)), none, []⟩, ⟨(some 130), (.ld true 3 (.t 17)), none, []⟩, ⟨(some 131), (.call 27 [(.t 129), (.t 130)]), none, [8, 9, 7]⟩, ⟨(some 18), (.alloc 26 3 [(.int .i64 0), (.int .i64 0), (.int .i64 0)]), none, []⟩, ⟨(some 19), (.alloc 26 3 [(.int .i64 0), (.int .i64 0), (.int .i64 0)]), none, []⟩, ⟨(some 20), (.alloc 26 3 [(.int .i64 0), (.int .i64 0), (.int .i64 0)]), none, []⟩, ⟨none, (.st 3 (.t 18) (.t 124)), none, [11, 3, 10, 0, 1, 2, 3, 11, 12, 13]⟩, ⟨none, (.st 3 (.t 19) (.t 128)), none, [12, 7, 14, 0, 1, 2, 3, 4, 5, 6, 7, 11, 12, 13, 14]⟩, ⟨none, (.st 3 (.t 20) (.t 131)), none, [13, 10, 15, 0, 1, 2, 3, 4, 5, 6, 7, 8, 9, 10, 11, 12, 13, 14, 15]⟩] true) (.reg [⟨(some 132), (.ld true 3 (.t 20)), none, []⟩, ⟨(some 133), (.ld true 3 (.t 20)), none, []⟩, ⟨(some 134), (.call 30 [(.t 132), (.t 133)]), none, [0, 1]⟩, ⟨(some 135), (.ld true 3 (.t 18)), none, []⟩, ⟨(some 136), (.ld true 3 (.t 18)), none, []⟩, ⟨(some 137), (.call 30 [(.t 135), (.t 136)]), none, [3, 4, 2]⟩, ⟨(some 138), (.bin .eql (.t 134) (.t 137)), none, [2, 5]⟩, ⟨(some 139), (.mv (.t 138)), none, [6, 5]⟩, ⟨(some 140), (.ld true 3 (.t 18)), (some (139, true)), [7]⟩, ⟨(some 141), (.ld true 3 (.t 19)), (some (139, true)), [7]⟩, ⟨(some 142), (.call 31 [(.t 140), (.t 141)]), (some (139, true)), [8, 9, 7, 7]⟩, ⟨(some 143), (.ld true 3 (.t 20)), (some (139, true)), [7]⟩, ⟨(some 144), (.call 30 [(.t 142), (.t 143)]), (some (139, true)), [10, 11, 10, 7]⟩, ⟨(some 145), (.bin .eql (.t 144) (.c (.int .i64 0))), (some (139, true)), [12, 7]⟩, ⟨(some 146), (.pick (.t 139) (.t 145) (.c (.bool false))), none, [7, 13]⟩, ⟨(some 147), (.mv (.t 146)), none, [14, 12]⟩, ⟨(some 148), (.ld true 3 (.t 20)), (some (147, true)), [15]⟩, ⟨(some 149), (.ld true 3 (.t 18)), (some (147, true)), [15]⟩, ⟨(some 150), (.call 30 [(.t 148), (.t 149)]), (some (147, true)), [16, 17, 15, 15]⟩, ⟨(some 151), (.bin .geq (.t 150) (.c (.int .i64 0))), (some (147, true)), [18, 15]⟩, ⟨(some 152), (.pick (.t 147) (.t 151) (.c (.bool false))), none, [15, 19]⟩, ⟨(some 153), (.mv (.t 152)), none, [20, 18]⟩, ⟨(some 154), (.ld true 3 (.t 20)), (some (153, true)), [21]⟩, ⟨(some 155), (.ld true 3 (.t 19)), (some (153, true)), [21]⟩, ⟨(some 156), (.call 30 [(.t 154), (.t 155)]), (some (153, true)), [22, 23, 21, 21]⟩, ⟨(some 157), (.bin .geq (.t 156) (.c (.int .i64 0))), (some (153, true)), [24, 21]⟩, ⟨(some 158), (.pick (.t 153) (.t 157) (.c (.bool false))), none, [21, 25]⟩, ⟨(some 16), (.mv (.t 158)), none, [26, 24, 0, 1, 2, 3, 4, 5, 6, 7, 8, 9, 10, 11, 12, 13, 14, 15, 16, 17, 18, 19, 20, 21, 22, 23, 24, 25, 26]⟩] true))) .skip)) (.seq (.reg [⟨(some 21), (.mv (.c (.bool false))), none, []⟩] false) (.seq (.seq (.reg [⟨(some 159), (.mv (.t 7)), none, []⟩, ⟨(some 160), (.len (.t 159)), none, [0]⟩, ⟨(some 161), (.mv (.c (.int .i64 0))), none, []⟩] false) (.block 2 (.loop (.seq (.reg [⟨(some 162), (.bin .lss (.t 161) (.t 160)), none, []⟩] false) (.seq (.cond (.t 162) .skip (.exit 2)) (.seq (.block 3 (.seq (.reg [⟨(some 163), (.ixsl 3 (.t 159) (.t 161)), none, []⟩, ⟨(some 164), (.ld true 3 (.t 163)), none, [0]⟩, ⟨(some 23), (.alloc 26 3 [(.int .i64 0), (.int .i64 0), (.int .i64 0)]), none, []⟩, ⟨none, (.st 3 (.t 23) (.t 164)), none, [2, 1, 0, 1, 2]⟩] false) (.reg [⟨(some 165), (.mv (.t 21)), none, []⟩, ⟨(some 166), (.mv (.t 165)), none, [0]⟩, ⟨(some 167), (.ld true 3 (.t 23)), (some (166, false)), [1]⟩, ⟨(some 168), (.ld true 3 (.t 15)), (some (166, false)), [1]⟩, ⟨(some 169), (.aeq false 3 (.t 167) (.t 168)), (some (166, false)), [2, 3, 1]⟩, ⟨(some 170), (.pick (.t 166) (.c (.bool true)) (.t 169)), none, [1, 4]⟩, ⟨(some 21), (.mv (.t 170)), none, [5, 1, 0, 1, 2, 3, 4, 5]⟩] false))) (.reg [⟨(some 171), (.bin .add (.t 161) (.c (.int .i64 1))), none, []⟩, ⟨(some 161), (.mv (.t 171)), none, [0]⟩] false))))))) (.seq (.reg [⟨(some 172), (.mv (.t 16)), none, []⟩, ⟨(some 173), (.mv (.t 21)), none, []⟩, ⟨(some 174), (.beq true (.t 172) (.t 173)), none, [0, 1]⟩] false) (.cond (.t 174) (.seq (.reg [⟨(some 4), (.mv (.c (.bool false))), none, []⟩] false) .ret) .skip))))))))) (.reg [⟨(some 175), (.bin .add (.t 82) (.c (.int .i64 1))), none, []⟩, ⟨(some 82), (.mv (.t 175)), none, [0]⟩] false))))))) (.seq (.reg [⟨(some 176), (.mv (.t 5)), none, []⟩, ⟨(some 4), (.mv (.t 176)), none, [0, 0]⟩] false) .ret))))))))))
theorem mcOk7 : (match Try.f7.body with | some c => compC Try.prog 177 c | none => none) = some mc7 := by kernel_rfl

end Go.Proofs.Yteommcdafifckaa

/-! Walks: M10l. -/
namespace Go.Proofs.Yteommcdafifckaa
open Go.RowKit

/- The def mc7 lies in M10p. -/

set_option maxHeartbeats 1600000 in
theorem fc7_l (l : List Int) (hl : l.length ≤ 4611686018427387904) (y0 y1 y2 : Int) (hy0 : 0 ≤ y0 ∧ y0 < 256) (hy1 : 0 ≤ y1 ∧ y1 < 256) (hy2 : 0 ≤ y2 ∧ y2 < 256) (hk : ¬ (madeS l).kind = 3) : FC Try.prog 7 [ints l, .agg [.int .u8 y0, .int .u8 y1, .int .u8 y2]] [] (.bool true) [] false := by
  obtain ⟨m, hm⟩ : ∃ m, m = madeS l := ⟨_, rfl⟩
  have h10 : FC Try.prog 10 [ints l] [] (aM m) [] false := by rw [hm]; exact fc10 l hl
  have hc : checkS m = 0 := by rw [hm]; exact made_ok l
  have h2 := path_two hc
  have hpl := path_len m
  rw [← hm] at hk
  clear hm
  have hi := ck_in hc
  have ht0 := tmodr y0 41 hy0.1 (by decide)
  have ht1 := tmodr y1 41 hy1.1 (by decide)
  have ht2 := tmodr y2 41 hy2.1 (by decide)
  have ht5 : -4 ≤ (y0.tmod 41 - 20).tmod 5 ∧ (y0.tmod 41 - 20).tmod 5 ≤ 4 := by have := tmod_range (y0.tmod 41 - 20) 5 (by decide); omega
  have hWL : ∀ w ∈ ([yV y0 y1 y2, ⟨(primV (dS m)).x * (y0.tmod 41 - 20).tmod 5, (primV (dS m)).y * (y0.tmod 41 - 20).tmod 5, (primV (dS m)).z * (y0.tmod 41 - 20).tmod 5⟩] : List V3), Bd 200 w := fun w hw => by
    have b1 := mulB (prim_bd hi.d48).x ht5
    have b2 := mulB (prim_bd hi.d48).y ht5
    have b3 := mulB (prim_bd hi.d48).z ht5
    simp only [List.mem_cons, List.not_mem_nil, or_false] at hw
    rcases hw with rfl | rfl
    · exact (y_bd hy0 hy1 hy2).mono (by decide)
    · exact ⟨by dsimp only; omega, by dsimp only; omega, by dsimp only; omega⟩
  refine fc_run (nt := 177) Try.func7 rfl rfl mcOk7 (Nat.le_of_ble_eq_true rfl) ?_
  delta mc7
  refine aw_seq ?_
  refine aw_reg ?_
  refine rs_box rfl rfl rfl rfl rfl rfl ?_
  refine rs_mv rfl rfl ?_
  refine rs_nil fun _ => ?_
  refine th_n ?_
  refine aw_seq ?_
  refine aw_reg ?_
  refine rs_calln [] rfl rfl fc9 .nil rfl ?_
  refine rs_mv rfl rfl ?_
  refine rs_nil fun _ => ?_
  refine th_n ?_
  refine aw_seq ?_
  refine aw_reg ?_
  refine rs_mv rfl rfl ?_
  refine rs_calln [] rfl rfl (h10) (.cons (hv_same rfl) (.nil)) rfl ?_
  refine rs_alloc rfl rfl rfl ?_
  refine rs_st rfl rfl rfl rfl rfl rfl rfl (Nat.le_of_ble_eq_true rfl) rfl rfl ?_
  refine rs_nil fun _ => ?_
  refine th_n ?_
  refine aw_seq ?_
  refine aw_reg ?_
  first | refine rs_ld_pa rfl rfl rfl rfl (Nat.le_of_ble_eq_true rfl) rfl ?_ | refine rs_ld_ra rfl rfl (Nat.le_of_ble_eq_true rfl) rfl ?_ | refine rs_ld_ma rfl rfl rfl (by omega) (Nat.le_of_ble_eq_true rfl) rfl ?_
  refine rs_calln [] rfl rfl (fc25 m h2) (.cons (hv_same rfl) (.nil)) rfl ?_
  refine rs_mv rfl rfl ?_
  refine rs_ext rfl rfl rfl ?_
  refine rs_ext rfl rfl rfl ?_
  refine rs_mv rfl rfl ?_
  refine rs_mv rfl rfl ?_
  refine rs_nil fun _ => ?_
  refine th_n ?_
  refine aw_seq ?_
  refine aw_seq ?_
  refine aw_reg ?_
  refine rs_mv rfl rfl ?_
  refine rs_not rfl rfl ?_
  refine rs_nil fun _ => ?_
  refine th_n ?_
  refine aw_cond rfl (fun h => by cases h) (fun _ => ?_)
  refine aw_skip ?_
  refine th_n ?_
  refine aw_seq ?_
  refine aw_reg ?_
  first | refine rs_fa_p rfl rfl ?_ | refine rs_fa_r rfl rfl rfl ?_
  first | refine rs_ld_pa rfl rfl rfl rfl (Nat.le_of_ble_eq_true rfl) rfl ?_ | refine rs_ld_ra rfl rfl (Nat.le_of_ble_eq_true rfl) rfl ?_ | refine rs_ld_ma rfl rfl rfl (by omega) (Nat.le_of_ble_eq_true rfl) rfl ?_
  first | refine rs_fa_p rfl rfl ?_ | refine rs_fa_r rfl rfl rfl ?_
  first | refine rs_ld_pa rfl rfl rfl rfl (Nat.le_of_ble_eq_true rfl) rfl ?_ | refine rs_ld_ra rfl rfl (Nat.le_of_ble_eq_true rfl) rfl ?_ | refine rs_ld_ma rfl rfl rfl (by omega) (Nat.le_of_ble_eq_true rfl) rfl ?_
  refine rs_calln [] rfl rfl (fc27d hi) (.cons (hv_same rfl) (.cons (hv_same rfl) (.nil))) rfl ?_
  refine rs_alloc rfl rfl rfl ?_
  refine rs_st rfl rfl rfl rfl rfl rfl rfl (Nat.le_of_ble_eq_true rfl) rfl rfl ?_
  refine rs_nil fun _ => ?_
  refine th_n ?_
  refine aw_seq ?_
  refine aw_reg ?_
  refine rs_ixarr_p rfl rfl rfl (by decide) (by decide) ?_
  first | refine rs_ld_r rfl rfl rfl ?_ | refine rs_ld_p rfl rfl rfl rfl rfl ?_ | refine rs_ld_m rfl rfl rfl (by omega) rfl ?_
  refine rs_rem rfl rfl rfl (by decide) rfl ?_
  refine rs_cvt rfl rfl (W_eq (by omega)) ?_
  first | refine rs_sub rfl rfl rfl (by omega) ?_ | refine rs_subw rfl rfl rfl rfl ?_
  refine rs_ixarr_p rfl rfl rfl (by decide) (by decide) ?_
  first | refine rs_ld_r rfl rfl rfl ?_ | refine rs_ld_p rfl rfl rfl rfl rfl ?_ | refine rs_ld_m rfl rfl rfl (by omega) rfl ?_
  refine rs_rem rfl rfl rfl (by decide) rfl ?_
  refine rs_cvt rfl rfl (W_eq (by omega)) ?_
  first | refine rs_sub rfl rfl rfl (by omega) ?_ | refine rs_subw rfl rfl rfl rfl ?_
  refine rs_ixarr_p rfl rfl rfl (by decide) (by decide) ?_
  first | refine rs_ld_r rfl rfl rfl ?_ | refine rs_ld_p rfl rfl rfl rfl rfl ?_ | refine rs_ld_m rfl rfl rfl (by omega) rfl ?_
  refine rs_rem rfl rfl rfl (by decide) rfl ?_
  refine rs_cvt rfl rfl (W_eq (by omega)) ?_
  first | refine rs_sub rfl rfl rfl (by omega) ?_ | refine rs_subw rfl rfl rfl rfl ?_
  refine rs_build rfl rfl ?_
  refine rs_alloc rfl rfl rfl ?_
  refine rs_st rfl rfl rfl rfl rfl rfl rfl (Nat.le_of_ble_eq_true rfl) rfl rfl ?_
  refine rs_nil fun _ => ?_
  refine th_n ?_
  refine aw_seq ?_
  refine aw_reg ?_
  first | refine rs_ld_pa rfl rfl rfl rfl (Nat.le_of_ble_eq_true rfl) rfl ?_ | refine rs_ld_ra rfl rfl (Nat.le_of_ble_eq_true rfl) rfl ?_ | refine rs_ld_ma rfl rfl rfl (by omega) (Nat.le_of_ble_eq_true rfl) rfl ?_
  refine rs_calln [] rfl rfl (fc32 (dS m) hi.d48.big) (.cons (hv_same rfl) (.nil)) rfl ?_
  refine rs_mv rfl rfl ?_
  refine rs_ext rfl rfl rfl ?_
  refine rs_ext rfl rfl rfl ?_
  refine rs_alloc rfl rfl rfl ?_
  refine rs_st rfl rfl rfl rfl rfl rfl rfl (Nat.le_of_ble_eq_true rfl) rfl rfl ?_
  refine rs_mv rfl rfl ?_
  refine rs_nil fun _ => ?_
  refine th_n ?_
  refine aw_seq ?_
  refine aw_seq ?_
  refine aw_reg ?_
  first | refine rs_ld_pa rfl rfl rfl rfl (Nat.le_of_ble_eq_true rfl) rfl ?_ | refine rs_ld_ra rfl rfl (Nat.le_of_ble_eq_true rfl) rfl ?_ | refine rs_ld_ma rfl rfl rfl (by omega) (Nat.le_of_ble_eq_true rfl) rfl ?_
  first | refine rs_fa_p rfl rfl ?_ | refine rs_fa_r rfl rfl rfl ?_
  first | refine rs_ld_r rfl rfl rfl ?_ | refine rs_ld_p rfl rfl rfl rfl rfl ?_ | refine rs_ld_m rfl rfl rfl (by omega) rfl ?_
  first | refine rs_fa_p rfl rfl ?_ | refine rs_fa_r rfl rfl rfl ?_
  first | refine rs_ld_r rfl rfl rfl ?_ | refine rs_ld_p rfl rfl rfl rfl rfl ?_ | refine rs_ld_m rfl rfl rfl (by omega) rfl ?_
  refine rs_rem rfl rfl rfl (by decide) rfl ?_
  refine rs_mulw rfl rfl rfl (W_eq (by have := mulB (prim_bd hi.d48).x ht5; omega)) ?_
  first | refine rs_fa_p rfl rfl ?_ | refine rs_fa_r rfl rfl rfl ?_
  first | refine rs_ld_r rfl rfl rfl ?_ | refine rs_ld_p rfl rfl rfl rfl rfl ?_ | refine rs_ld_m rfl rfl rfl (by omega) rfl ?_
  first | refine rs_fa_p rfl rfl ?_ | refine rs_fa_r rfl rfl rfl ?_
  first | refine rs_ld_r rfl rfl rfl ?_ | refine rs_ld_p rfl rfl rfl rfl rfl ?_ | refine rs_ld_m rfl rfl rfl (by omega) rfl ?_
  refine rs_rem rfl rfl rfl (by decide) rfl ?_
  refine rs_mulw rfl rfl rfl (W_eq (by have := mulB (prim_bd hi.d48).y ht5; omega)) ?_
  first | refine rs_fa_p rfl rfl ?_ | refine rs_fa_r rfl rfl rfl ?_
  first | refine rs_ld_r rfl rfl rfl ?_ | refine rs_ld_p rfl rfl rfl rfl rfl ?_ | refine rs_ld_m rfl rfl rfl (by omega) rfl ?_
  first | refine rs_fa_p rfl rfl ?_ | refine rs_fa_r rfl rfl rfl ?_
  first | refine rs_ld_r rfl rfl rfl ?_ | refine rs_ld_p rfl rfl rfl rfl rfl ?_ | refine rs_ld_m rfl rfl rfl (by omega) rfl ?_
  refine rs_rem rfl rfl rfl (by decide) rfl ?_
  refine rs_mulw rfl rfl rfl (W_eq (by have := mulB (prim_bd hi.d48).z ht5; omega)) ?_
  refine rs_build rfl rfl ?_
  refine rs_bslice (l := (([yV y0 y1 y2, ⟨(primV (dS m)).x * (y0.tmod 41 - 20).tmod 5, (primV (dS m)).y * (y0.tmod 41 - 20).tmod 5, (primV (dS m)).z * (y0.tmod 41 - 20).tmod 5⟩] : List V3)).flatMap cV) (els := (([yV y0 y1 y2, ⟨(primV (dS m)).x * (y0.tmod 41 - 20).tmod 5, (primV (dS m)).y * (y0.tmod 41 - 20).tmod 5, (primV (dS m)).z * (y0.tmod 41 - 20).tmod 5⟩] : List V3)).map cV) (fl := true) rfl (by kernel_rfl) rfl rfl (by kernel_rfl) (by kernel_rfl) ?_
  first | refine rs_len_m rfl rfl ?_ | refine rs_len_s rfl rfl ?_ | refine rs_len_n rfl rfl ?_ | refine rs_len_r rfl rfl rfl ?_
  refine rs_mv rfl rfl ?_
  refine rs_nil fun _ => ?_
  refine th_n ?_
  refine aw_block ?_
  refine aw_fam (α := Nat) (fun k => 2 - k) (fun k => [(5, .bool true), (6, .ptr 6 0 0), (7, .rs 3 ((pathS m).map cV)), (9, .ptr 9 0 0), (80, .sl 80 0 2), (81, iv 2), (82, iv (((k) : Nat) : Int))]) (fun k => [(6, .cells 28 11 [cM m] true), (9, .cells 26 3 [cV (dS m)] true), (80, .cells 26 3 (([yV y0 y1 y2, ⟨(primV (dS m)).x * (y0.tmod 41 - 20).tmod 5, (primV (dS m)).y * (y0.tmod 41 - 20).tmod 5, (primV (dS m)).z * (y0.tmod 41 - 20).tmod 5⟩] : List V3).map cV) true)]) (fun k => k ≤ 2) 0 (by omega)
    (weak_to (.cons rfl (rc_same rfl (.inl rfl)) (.cons rfl (rc_same rfl (.inl rfl)) (.cons rfl (rc_same rfl (.inl rfl)) (.cons rfl (rc_same rfl (.inl rfl)) (.cons rfl (rc_same rfl (.inl rfl)) (.cons rfl (rc_same rfl (.inl rfl)) (.cons rfl (rc_same rfl (.inl rfl)) (.nil)))))))) (.keep (rfl) rfl (.keep (rfl) rfl (.keep (rfl) rfl (.nil)))) (fun i h => by cases h)) ?_
  intro k hk2
  refine aw_seq ?_
  refine aw_reg ?_
  refine rs_lss rfl rfl rfl ?_
  refine rs_nil fun _ => ?_
  refine th_n ?_
  refine aw_seq ?_
  refine aw_cond rfl (fun h83 => ?_) (fun h83 => ?_)
  · first | replace h83 := of_decide_eq_true h83 | skip
    refine aw_skip ?_
    refine th_n ?_
    refine aw_seq ?_
    refine aw_block ?_
    refine aw_seq ?_
    refine aw_reg ?_
    obtain ⟨w, hw, hwm⟩ := at_some (L := ([yV y0 y1 y2, ⟨(primV (dS m)).x * (y0.tmod 41 - 20).tmod 5, (primV (dS m)).y * (y0.tmod 41 - 20).tmod 5, (primV (dS m)).z * (y0.tmod 41 - 20).tmod 5⟩] : List V3)) (k := 0 + k) (by simp; omega)
    have hwb := hWL w hwm
    refine rs_ix_s rfl rfl rfl rfl (by omega) (by omega) ?_
    refine rs_ld_ga (f := cV) (xs := ([yV y0 y1 y2, ⟨(primV (dS m)).x * (y0.tmod 41 - 20).tmod 5, (primV (dS m)).y * (y0.tmod 41 - 20).tmod 5, (primV (dS m)).z * (y0.tmod 41 - 20).tmod 5⟩] : List V3)) (y := w) rfl rfl rfl hw (Nat.le_of_ble_eq_true rfl) rfl ?_
    refine rs_alloc rfl rfl rfl ?_
    refine rs_st rfl rfl rfl rfl rfl rfl rfl (Nat.le_of_ble_eq_true rfl) rfl rfl ?_
    refine rs_nil fun _ => ?_
    refine th_n ?_
    refine aw_seq ?_
    refine aw_reg ?_
    first | refine rs_fa_p rfl rfl ?_ | refine rs_fa_r rfl rfl rfl ?_
    first | refine rs_ld_pa rfl rfl rfl rfl (Nat.le_of_ble_eq_true rfl) rfl ?_ | refine rs_ld_ra rfl rfl (Nat.le_of_ble_eq_true rfl) rfl ?_ | refine rs_ld_ma rfl rfl rfl (by omega) (Nat.le_of_ble_eq_true rfl) rfl ?_
    first | refine rs_ld_pa rfl rfl rfl rfl (Nat.le_of_ble_eq_true rfl) rfl ?_ | refine rs_ld_ra rfl rfl (Nat.le_of_ble_eq_true rfl) rfl ?_ | refine rs_ld_ma rfl rfl rfl (by omega) (Nat.le_of_ble_eq_true rfl) rfl ?_
    refine rs_calln [] rfl rfl (fc28s hi.fr.big hwb.big) (.cons (hv_same rfl) (.cons (hv_same rfl) (.nil))) rfl ?_
    refine rs_alloc rfl rfl rfl ?_
    refine rs_st rfl rfl rfl rfl rfl rfl rfl (Nat.le_of_ble_eq_true rfl) rfl rfl ?_
    refine rs_nil fun _ => ?_
    refine th_n ?_
    refine aw_cutw (F0 := [(5, .bool true), (6, .ptr 6 0 0), (7, .rs 3 ((pathS m).map cV)), (9, .ptr 9 0 0), (80, .sl 80 0 2), (81, iv 2), (82, iv (((k) : Nat) : Int)), (15, .ptr 15 0 0), (16, .bool (decide (add m.fr w ∈ pathS m)))]) (H0 := [(6, .cells 28 11 [cM m] true), (9, .cells 26 3 [cV (dS m)] true), (80, .cells 26 3 (([yV y0 y1 y2, ⟨(primV (dS m)).x * (y0.tmod 41 - 20).tmod 5, (primV (dS m)).y * (y0.tmod 41 - 20).tmod 5, (primV (dS m)).z * (y0.tmod 41 - 20).tmod 5⟩] : List V3).map cV) true), (15, .cells 26 3 [cV (add m.fr w)] true)]) ?_ ?_
    · skip
      refine aw_draw hmix ?_
      first | refine rs_ld_pa rfl rfl rfl rfl (Nat.le_of_ble_eq_true rfl) rfl ?_ | refine rs_ld_ra rfl rfl (Nat.le_of_ble_eq_true rfl) rfl ?_ | refine rs_ld_ma rfl rfl rfl (by omega) (Nat.le_of_ble_eq_true rfl) rfl ?_
      first | refine rs_ld_pa rfl rfl rfl rfl (Nat.le_of_ble_eq_true rfl) rfl ?_ | refine rs_ld_ra rfl rfl (Nat.le_of_ble_eq_true rfl) rfl ?_ | refine rs_ld_ma rfl rfl rfl (by omega) (Nat.le_of_ble_eq_true rfl) rfl ?_
      refine rs_calln [] rfl rfl (fc31s hwb.big hi.d48.big) (.cons (hv_same rfl) (.cons (hv_same rfl) (.nil))) rfl ?_
      refine rs_build rfl rfl ?_
      refine rs_aeqv (v := ⟨0, 0, 0⟩) rfl rfl rfl ?_
      cases h94 : (false != decide (cross w (dS m) = ⟨0, 0, 0⟩))
      · skip
        refine rs_mv rfl rfl ?_
        refine rs_skip rfl ?_
        refine rs_skip rfl ?_
        refine rs_skip rfl ?_
        refine rs_skip rfl ?_
        refine rs_pick rfl rfl rfl ?_
        refine rs_mv rfl rfl ?_
        refine rs_skip rfl ?_
        refine rs_skip rfl ?_
        refine rs_skip rfl ?_
        refine rs_skip rfl ?_
        refine rs_skip rfl ?_
        refine rs_skip rfl ?_
        refine rs_skip rfl ?_
        refine rs_pick rfl rfl rfl ?_
        refine rs_mv rfl rfl ?_
        refine rs_nil ⟨by kernel_rfl, fun _ => ?_⟩
        exact ⟨rfl, weak_to (.cons rfl (rc_same rfl (.inl rfl)) (.cons rfl (rc_same rfl (.inl rfl)) (.cons rfl (rc_same rfl (.inl rfl)) (.cons rfl (rc_same rfl (.inl rfl)) (.cons rfl (rc_same rfl (.inl rfl)) (.cons rfl (rc_same rfl (.inl rfl)) (.cons rfl (rc_same rfl (.inl rfl)) (.cons rfl (rc_same rfl (.inl rfl)) (.cons rfl (rc_eq (congrArg AV.bool (by first | exact (decide_eq_true ((on_line hc hk w).1 ⟨by simpa using h94, h99, h108⟩)).symm | exact (decide_eq_false (fun hx => h108 ((on_line hc hk w).2 hx).2.2)).symm | exact (decide_eq_false (fun hx => h99 ((on_line hc hk w).2 hx).2.1)).symm | exact (decide_eq_false (fun hx => (by simpa using h94 : ¬ cross w (dS m) = ⟨0, 0, 0⟩) ((on_line hc hk w).2 hx).1)).symm)) rfl) (.nil)))))))))) (.keep (rfl) rfl (.keep (rfl) rfl (.keep (rfl) rfl (.keep (rfl) rfl (.nil))))) (fun i h => by cases h)⟩
      · skip
        refine rs_mv rfl rfl ?_
        first | refine rs_ld_pa rfl rfl rfl rfl (Nat.le_of_ble_eq_true rfl) rfl ?_ | refine rs_ld_ra rfl rfl (Nat.le_of_ble_eq_true rfl) rfl ?_ | refine rs_ld_ma rfl rfl rfl (by omega) (Nat.le_of_ble_eq_true rfl) rfl ?_
        first | refine rs_ld_pa rfl rfl rfl rfl (Nat.le_of_ble_eq_true rfl) rfl ?_ | refine rs_ld_ra rfl rfl (Nat.le_of_ble_eq_true rfl) rfl ?_ | refine rs_ld_ma rfl rfl rfl (by omega) (Nat.le_of_ble_eq_true rfl) rfl ?_
        refine rs_calln [] rfl rfl (fc30s hwb.big hi.d48.big) (.cons (hv_same rfl) (.cons (hv_same rfl) (.nil))) rfl ?_
        refine rs_cmp rfl rfl rfl rfl (fun h99 => ?_) (fun h99 => ?_)
        · skip
          refine rs_pick rfl rfl rfl ?_
          refine rs_mv rfl rfl ?_
          first | refine rs_ld_pa rfl rfl rfl rfl (Nat.le_of_ble_eq_true rfl) rfl ?_ | refine rs_ld_ra rfl rfl (Nat.le_of_ble_eq_true rfl) rfl ?_ | refine rs_ld_ma rfl rfl rfl (by omega) (Nat.le_of_ble_eq_true rfl) rfl ?_
          first | refine rs_ld_pa rfl rfl rfl rfl (Nat.le_of_ble_eq_true rfl) rfl ?_ | refine rs_ld_ra rfl rfl (Nat.le_of_ble_eq_true rfl) rfl ?_ | refine rs_ld_ma rfl rfl rfl (by omega) (Nat.le_of_ble_eq_true rfl) rfl ?_
          refine rs_calln [] rfl rfl (fc30s hwb.big hi.d48.big) (.cons (hv_same rfl) (.cons (hv_same rfl) (.nil))) rfl ?_
          first | refine rs_ld_pa rfl rfl rfl rfl (Nat.le_of_ble_eq_true rfl) rfl ?_ | refine rs_ld_ra rfl rfl (Nat.le_of_ble_eq_true rfl) rfl ?_ | refine rs_ld_ma rfl rfl rfl (by omega) (Nat.le_of_ble_eq_true rfl) rfl ?_
          first | refine rs_ld_pa rfl rfl rfl rfl (Nat.le_of_ble_eq_true rfl) rfl ?_ | refine rs_ld_ra rfl rfl (Nat.le_of_ble_eq_true rfl) rfl ?_ | refine rs_ld_ma rfl rfl rfl (by omega) (Nat.le_of_ble_eq_true rfl) rfl ?_
          refine rs_calln [] rfl rfl (fc30s hi.d48.big hi.d48.big) (.cons (hv_same rfl) (.cons (hv_same rfl) (.nil))) rfl ?_
          refine rs_cmp rfl rfl rfl rfl (fun h108 => ?_) (fun h108 => ?_)
          · skip
            refine rs_pick rfl rfl rfl ?_
            refine rs_mv rfl rfl ?_
            refine rs_nil ⟨by kernel_rfl, fun _ => ?_⟩
            exact ⟨rfl, weak_to (.cons rfl (rc_same rfl (.inl rfl)) (.cons rfl (rc_same rfl (.inl rfl)) (.cons rfl (rc_same rfl (.inl rfl)) (.cons rfl (rc_same rfl (.inl rfl)) (.cons rfl (rc_same rfl (.inl rfl)) (.cons rfl (rc_same rfl (.inl rfl)) (.cons rfl (rc_same rfl (.inl rfl)) (.cons rfl (rc_same rfl (.inl rfl)) (.cons rfl (rc_eq (congrArg AV.bool (by first | exact (decide_eq_true ((on_line hc hk w).1 ⟨by simpa using h94, h99, h108⟩)).symm | exact (decide_eq_false (fun hx => h108 ((on_line hc hk w).2 hx).2.2)).symm | exact (decide_eq_false (fun hx => h99 ((on_line hc hk w).2 hx).2.1)).symm | exact (decide_eq_false (fun hx => (by simpa using h94 : ¬ cross w (dS m) = ⟨0, 0, 0⟩) ((on_line hc hk w).2 hx).1)).symm)) rfl) (.nil)))))))))) (.keep (rfl) rfl (.keep (rfl) rfl (.keep (rfl) rfl (.keep (rfl) rfl (.nil))))) (fun i h => by cases h)⟩
          · skip
            refine rs_pick rfl rfl rfl ?_
            refine rs_mv rfl rfl ?_
            refine rs_nil ⟨by kernel_rfl, fun _ => ?_⟩
            exact ⟨rfl, weak_to (.cons rfl (rc_same rfl (.inl rfl)) (.cons rfl (rc_same rfl (.inl rfl)) (.cons rfl (rc_same rfl (.inl rfl)) (.cons rfl (rc_same rfl (.inl rfl)) (.cons rfl (rc_same rfl (.inl rfl)) (.cons rfl (rc_same rfl (.inl rfl)) (.cons rfl (rc_same rfl (.inl rfl)) (.cons rfl (rc_same rfl (.inl rfl)) (.cons rfl (rc_eq (congrArg AV.bool (by first | exact (decide_eq_true ((on_line hc hk w).1 ⟨by simpa using h94, h99, h108⟩)).symm | exact (decide_eq_false (fun hx => h108 ((on_line hc hk w).2 hx).2.2)).symm | exact (decide_eq_false (fun hx => h99 ((on_line hc hk w).2 hx).2.1)).symm | exact (decide_eq_false (fun hx => (by simpa using h94 : ¬ cross w (dS m) = ⟨0, 0, 0⟩) ((on_line hc hk w).2 hx).1)).symm)) rfl) (.nil)))))))))) (.keep (rfl) rfl (.keep (rfl) rfl (.keep (rfl) rfl (.keep (rfl) rfl (.nil))))) (fun i h => by cases h)⟩
        · skip
          refine rs_pick rfl rfl rfl ?_
          refine rs_mv rfl rfl ?_
          refine rs_skip rfl ?_
          refine rs_skip rfl ?_
          refine rs_skip rfl ?_
          refine rs_skip rfl ?_
          refine rs_skip rfl ?_
          refine rs_skip rfl ?_
          refine rs_skip rfl ?_
          refine rs_pick rfl rfl rfl ?_
          refine rs_mv rfl rfl ?_
          refine rs_nil ⟨by kernel_rfl, fun _ => ?_⟩
          exact ⟨rfl, weak_to (.cons rfl (rc_same rfl (.inl rfl)) (.cons rfl (rc_same rfl (.inl rfl)) (.cons rfl (rc_same rfl (.inl rfl)) (.cons rfl (rc_same rfl (.inl rfl)) (.cons rfl (rc_same rfl (.inl rfl)) (.cons rfl (rc_same rfl (.inl rfl)) (.cons rfl (rc_same rfl (.inl rfl)) (.cons rfl (rc_same rfl (.inl rfl)) (.cons rfl (rc_eq (congrArg AV.bool (by first | exact (decide_eq_true ((on_line hc hk w).1 ⟨by simpa using h94, h99, h108⟩)).symm | exact (decide_eq_false (fun hx => h108 ((on_line hc hk w).2 hx).2.2)).symm | exact (decide_eq_false (fun hx => h99 ((on_line hc hk w).2 hx).2.1)).symm | exact (decide_eq_false (fun hx => (by simpa using h94 : ¬ cross w (dS m) = ⟨0, 0, 0⟩) ((on_line hc hk w).2 hx).1)).symm)) rfl) (.nil)))))))))) (.keep (rfl) rfl (.keep (rfl) rfl (.keep (rfl) rfl (.keep (rfl) rfl (.nil))))) (fun i h => by cases h)⟩
    · skip
      refine aw_seq ?_
      refine aw_seq ?_
      refine aw_reg ?_
      first | refine rs_fa_p rfl rfl ?_ | refine rs_fa_r rfl rfl rfl ?_
      first | refine rs_ld_r rfl rfl rfl ?_ | refine rs_ld_p rfl rfl rfl rfl rfl ?_ | refine rs_ld_m rfl rfl rfl (by omega) rfl ?_
      refine rs_cmp_f rfl rfl rfl rfl (by omega) ?_
      refine rs_nil fun _ => ?_
      refine th_n ?_
      refine aw_cond rfl (fun h => by cases h) (fun _ => ?_)
      refine aw_skip ?_
      refine th_n ?_
      refine aw_seq ?_
      refine aw_weak (F0 := [(5, .bool true), (6, .ptr 6 0 0), (7, .rs 3 ((pathS m).map cV)), (9, .ptr 9 0 0), (80, .sl 80 0 2), (81, iv 2), (82, iv (((k) : Nat) : Int)), (15, .ptr 15 0 0), (16, .bool (decide (add m.fr w ∈ pathS m)))]) (H0 := [(6, .cells 28 11 [cM m] true), (9, .cells 26 3 [cV (dS m)] true), (80, .cells 26 3 (([yV y0 y1 y2, ⟨(primV (dS m)).x * (y0.tmod 41 - 20).tmod 5, (primV (dS m)).y * (y0.tmod 41 - 20).tmod 5, (primV (dS m)).z * (y0.tmod 41 - 20).tmod 5⟩] : List V3).map cV) true), (15, .cells 26 3 [cV (add m.fr w)] true)]) (weak_to (.cons rfl (rc_same rfl (.inl rfl)) (.cons rfl (rc_same rfl (.inl rfl)) (.cons rfl (rc_same rfl (.inl rfl)) (.cons rfl (rc_same rfl (.inl rfl)) (.cons rfl (rc_same rfl (.inl rfl)) (.cons rfl (rc_same rfl (.inl rfl)) (.cons rfl (rc_same rfl (.inl rfl)) (.cons rfl (rc_same rfl (.inl rfl)) (.cons rfl (rc_same rfl (.inl rfl)) (.nil)))))))))) (.keep (rfl) rfl (.keep (rfl) rfl (.keep (rfl) rfl (.keep (rfl) rfl (.nil))))) (fun i h => by cases h)) ?_
      refine aw_reg ?_
      refine rs_mv rfl rfl ?_
      refine rs_nil fun _ => ?_
      refine th_n ?_
      refine aw_seq ?_
      refine aw_seq ?_
      refine aw_reg ?_
      refine rs_mv rfl rfl ?_
      first | refine rs_len_m rfl rfl ?_ | refine rs_len_s rfl rfl ?_ | refine rs_len_n rfl rfl ?_ | refine rs_len_r rfl rfl rfl ?_
      refine rs_mv rfl rfl ?_
      refine rs_nil fun _ => ?_
      refine th_n ?_
      refine aw_block ?_
      refine aw_fam (α := Nat) (fun j => (pathS m).length - j) (fun j => [(5, .bool true), (6, .ptr 6 0 0), (7, .rs 3 ((pathS m).map cV)), (9, .ptr 9 0 0), (80, .sl 80 0 2), (81, iv 2), (82, iv (((k) : Nat) : Int)), (15, .ptr 15 0 0), (16, .bool (decide (add m.fr w ∈ pathS m))), (21, .bool (decide (add m.fr w ∈ (pathS m).take (j)))), (159, .rs 3 ((pathS m).map cV)), (160, iv ((pathS m).length : Int)), (161, iv (((j) : Nat) : Int))]) (fun j => [(6, .cells 28 11 [cM m] true), (9, .cells 26 3 [cV (dS m)] true), (80, .cells 26 3 (([yV y0 y1 y2, ⟨(primV (dS m)).x * (y0.tmod 41 - 20).tmod 5, (primV (dS m)).y * (y0.tmod 41 - 20).tmod 5, (primV (dS m)).z * (y0.tmod 41 - 20).tmod 5⟩] : List V3).map cV) true), (15, .cells 26 3 [cV (add m.fr w)] true)]) (fun j => j ≤ (pathS m).length) 0 (by omega)
        (weak_to (.cons rfl (rc_same rfl (.inl rfl)) (.cons rfl (rc_same rfl (.inl rfl)) (.cons rfl (rc_same rfl (.inl rfl)) (.cons rfl (rc_same rfl (.inl rfl)) (.cons rfl (rc_same rfl (.inl rfl)) (.cons rfl (rc_same rfl (.inl rfl)) (.cons rfl (rc_same rfl (.inl rfl)) (.cons rfl (rc_same rfl (.inl rfl)) (.cons rfl (rc_same rfl (.inl rfl)) (.cons rfl (rc_eq (by simp) rfl) (.cons rfl (rc_same rfl (.inl rfl)) (.cons rfl (rc_same rfl (.inl rfl)) (.cons rfl (rc_same rfl (.inl rfl)) (.nil)))))))))))))) (.keep (rfl) rfl (.keep (rfl) rfl (.keep (rfl) rfl (.keep (rfl) rfl (.nil))))) (fun i h => by cases h)) ?_
      intro j hj
      refine aw_seq ?_
      refine aw_reg ?_
      refine rs_lss rfl rfl rfl ?_
      refine rs_nil fun _ => ?_
      refine th_n ?_
      refine aw_seq ?_
      refine aw_cond rfl (fun h162 => ?_) (fun h162 => ?_)
      · first | replace h162 := of_decide_eq_true h162 | skip
        refine aw_skip ?_
        refine th_n ?_
        refine aw_seq ?_
        refine aw_block ?_
        refine aw_seq ?_
        refine aw_reg ?_
        obtain ⟨z, hz, _⟩ := at_some (L := pathS m) (k := j) (by omega)
        refine rs_ix_g rfl rfl rfl (by omega) hz ?_
        refine rs_ld_ra rfl rfl (Nat.le_of_ble_eq_true rfl) rfl ?_
        refine rs_alloc rfl rfl rfl ?_
        refine rs_st rfl rfl rfl rfl rfl rfl rfl (Nat.le_of_ble_eq_true rfl) rfl rfl ?_
        refine rs_nil fun _ => ?_
        refine th_n ?_
        refine aw_reg ?_
        refine rs_mv rfl rfl ?_
        cases h165 : decide (add m.fr w ∈ (pathS m).take j)
        · skip
          refine rs_mv rfl rfl ?_
          first | refine rs_ld_pa rfl rfl rfl rfl (Nat.le_of_ble_eq_true rfl) rfl ?_ | refine rs_ld_ra rfl rfl (Nat.le_of_ble_eq_true rfl) rfl ?_ | refine rs_ld_ma rfl rfl rfl (by omega) (Nat.le_of_ble_eq_true rfl) rfl ?_
          first | refine rs_ld_pa rfl rfl rfl rfl (Nat.le_of_ble_eq_true rfl) rfl ?_ | refine rs_ld_ra rfl rfl (Nat.le_of_ble_eq_true rfl) rfl ?_ | refine rs_ld_ma rfl rfl rfl (by omega) (Nat.le_of_ble_eq_true rfl) rfl ?_
          refine rs_aeqv (u := z) (v := add m.fr w) rfl rfl rfl ?_
          refine rs_pick rfl rfl rfl ?_
          refine rs_mv rfl rfl ?_
          refine rs_nil fun _ => ?_
          refine in_n ?_
          refine th_n ?_
          refine aw_reg ?_
          first | refine rs_add rfl rfl rfl (by omega) ?_ | refine rs_addw rfl rfl rfl rfl ?_
          refine rs_mv rfl rfl ?_
          refine rs_nil fun _ => ?_
          refine th_n ?_
          first
            | exact ⟨j + 1, by omega, by omega, weak_to (.cons rfl (rc_same rfl (.inl rfl)) (.cons rfl (rc_same rfl (.inl rfl)) (.cons rfl (rc_same rfl (.inl rfl)) (.cons rfl (rc_same rfl (.inl rfl)) (.cons rfl (rc_same rfl (.inl rfl)) (.cons rfl (rc_same rfl (.inl rfl)) (.cons rfl (rc_same rfl (.inl rfl)) (.cons rfl (rc_same rfl (.inl rfl)) (.cons rfl (rc_same rfl (.inl rfl)) (.cons rfl (rc_eq (congrArg AV.bool (mem_succ_t hz h165)) rfl) (.cons rfl (rc_same rfl (.inl rfl)) (.cons rfl (rc_same rfl (.inl rfl)) (.cons rfl (rc_same rfl (.inl rfl)) (.nil)))))))))))))) (.keep (rfl) rfl (.keep (rfl) rfl (.keep (rfl) rfl (.keep (rfl) rfl (.nil))))) (fun i h => by cases h)⟩
            | exact ⟨j + 1, by omega, by omega, weak_to (.cons rfl (rc_same rfl (.inl rfl)) (.cons rfl (rc_same rfl (.inl rfl)) (.cons rfl (rc_same rfl (.inl rfl)) (.cons rfl (rc_same rfl (.inl rfl)) (.cons rfl (rc_same rfl (.inl rfl)) (.cons rfl (rc_same rfl (.inl rfl)) (.cons rfl (rc_same rfl (.inl rfl)) (.cons rfl (rc_same rfl (.inl rfl)) (.cons rfl (rc_same rfl (.inl rfl)) (.cons rfl (rc_eq (congrArg AV.bool (mem_succ hz h165)) rfl) (.cons rfl (rc_same rfl (.inl rfl)) (.cons rfl (rc_same rfl (.inl rfl)) (.cons rfl (rc_same rfl (.inl rfl)) (.nil)))))))))))))) (.keep (rfl) rfl (.keep (rfl) rfl (.keep (rfl) rfl (.keep (rfl) rfl (.nil))))) (fun i h => by cases h)⟩
        · skip
          refine rs_mv rfl rfl ?_
          refine rs_skip rfl ?_
          refine rs_skip rfl ?_
          refine rs_skip rfl ?_
          refine rs_pick rfl rfl rfl ?_
          refine rs_mv rfl rfl ?_
          refine rs_nil fun _ => ?_
          refine in_n ?_
          refine th_n ?_
          refine aw_reg ?_
          first | refine rs_add rfl rfl rfl (by omega) ?_ | refine rs_addw rfl rfl rfl rfl ?_
          refine rs_mv rfl rfl ?_
          refine rs_nil fun _ => ?_
          refine th_n ?_
          first
            | exact ⟨j + 1, by omega, by omega, weak_to (.cons rfl (rc_same rfl (.inl rfl)) (.cons rfl (rc_same rfl (.inl rfl)) (.cons rfl (rc_same rfl (.inl rfl)) (.cons rfl (rc_same rfl (.inl rfl)) (.cons rfl (rc_same rfl (.inl rfl)) (.cons rfl (rc_same rfl (.inl rfl)) (.cons rfl (rc_same rfl (.inl rfl)) (.cons rfl (rc_same rfl (.inl rfl)) (.cons rfl (rc_same rfl (.inl rfl)) (.cons rfl (rc_eq (congrArg AV.bool (mem_succ_t hz h165)) rfl) (.cons rfl (rc_same rfl (.inl rfl)) (.cons rfl (rc_same rfl (.inl rfl)) (.cons rfl (rc_same rfl (.inl rfl)) (.nil)))))))))))))) (.keep (rfl) rfl (.keep (rfl) rfl (.keep (rfl) rfl (.keep (rfl) rfl (.nil))))) (fun i h => by cases h)⟩
            | exact ⟨j + 1, by omega, by omega, weak_to (.cons rfl (rc_same rfl (.inl rfl)) (.cons rfl (rc_same rfl (.inl rfl)) (.cons rfl (rc_same rfl (.inl rfl)) (.cons rfl (rc_same rfl (.inl rfl)) (.cons rfl (rc_same rfl (.inl rfl)) (.cons rfl (rc_same rfl (.inl rfl)) (.cons rfl (rc_same rfl (.inl rfl)) (.cons rfl (rc_same rfl (.inl rfl)) (.cons rfl (rc_same rfl (.inl rfl)) (.cons rfl (rc_eq (congrArg AV.bool (mem_succ hz h165)) rfl) (.cons rfl (rc_same rfl (.inl rfl)) (.cons rfl (rc_same rfl (.inl rfl)) (.cons rfl (rc_same rfl (.inl rfl)) (.nil)))))))))))))) (.keep (rfl) rfl (.keep (rfl) rfl (.keep (rfl) rfl (.keep (rfl) rfl (.nil))))) (fun i h => by cases h)⟩
      · first | replace h162 := of_decide_eq_false h162 | skip
        refine aw_exit ?_
        refine th_e ?_
        refine th_e ?_
        refine in_hit ?_
        refine th_n ?_
        refine aw_seq ?_
        refine aw_reg ?_
        refine rs_mv rfl rfl ?_
        refine rs_mv rfl rfl ?_
        refine rs_beq_f (by rw [show j = (pathS m).length by omega, List.take_length]) rfl rfl rfl ?_
        refine rs_nil fun _ => ?_
        refine th_n ?_
        refine aw_cond rfl (fun h => by cases h) (fun _ => ?_)
        refine aw_skip ?_
        refine in_n ?_
        refine th_n ?_
        refine aw_reg ?_
        first | refine rs_add rfl rfl rfl (by omega) ?_ | refine rs_addw rfl rfl rfl rfl ?_
        refine rs_mv rfl rfl ?_
        refine rs_nil fun _ => ?_
        refine th_n ?_
        exact ⟨k + 1, by omega, by omega, weak_to (.cons rfl (rc_same rfl (.inl rfl)) (.cons rfl (rc_same rfl (.inl rfl)) (.cons rfl (rc_same rfl (.inl rfl)) (.cons rfl (rc_same rfl (.inl rfl)) (.cons rfl (rc_same rfl (.inl rfl)) (.cons rfl (rc_same rfl (.inl rfl)) (.cons rfl (rc_same rfl (.inl rfl)) (.nil)))))))) (.keep (rfl) rfl (.keep (rfl) rfl (.keep (rfl) rfl (.nil)))) (fun i h => by cases h)⟩
  · first | replace h83 := of_decide_eq_false h83 | skip
    refine aw_exit ?_
    refine th_e ?_
    refine th_e ?_
    refine in_hit ?_
    refine th_n ?_
    refine aw_seq ?_
    refine aw_reg ?_
    refine rs_mv rfl rfl ?_
    refine rs_mv rfl rfl ?_
    refine rs_nil fun _ => ?_
    refine th_n ?_
    refine aw_ret ?_
    exact ret_pure rfl rfl rfl (.inr rfl)

end Go.Proofs.Yteommcdafifckaa
