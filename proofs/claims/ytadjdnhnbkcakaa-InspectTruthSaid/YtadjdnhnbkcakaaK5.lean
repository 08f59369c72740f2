/-
  Proved: colletlaw42.InspectTruth returns true for every input, and its arguments read as before. No condition.
-/
import Derived.Test.YtadjdnhnbkcakaaK4
import Derived.Test.YtadjdnhnbkcakaaRows
set_option linter.unusedVariables false

/-! Walks: A30. -/
namespace Go.Proofs.Ytadjdnhnbkcakaa
open Go.RowKit


def mc38 : MC := (.seq (.reg [⟨(some 4), (.mv (.c (.bool false))), none, []⟩] false) (.seq (.reg [⟨(some 5), (.mv (.t 0)), none, []⟩, ⟨(some 6), (.mv (.t 1)), none, []⟩, ⟨(some 7), (.call 23 [(.t 5), (.t 6)]), none, [0, 1]⟩, ⟨(some 4), (.mv (.t 7)), none, [2, 2, 0, 1, 2]⟩] false) .ret))
theorem mcOk38 : (match Try.f38.body with | some c => compC Try.prog 8 c | none => none) = some mc38 := by kernel_rfl

theorem fc38 (xs ys : List Int) (hx : xs.length ≤ 4611686018427387904) : FC Try.prog 38 [ints xs, ints ys] [] (.bool (sameS xs ys)) [] false := by
  refine fc_run (nt := 8) Try.func38 rfl rfl mcOk38 (Nat.le_of_ble_eq_true rfl) ?_
  delta mc38
  refine aw_seq ?_
  refine aw_reg ?_
  refine rs_mv rfl rfl ?_
  refine rs_nil fun _ => ?_
  refine th_n ?_
  refine aw_seq ?_
  refine aw_reg ?_
  refine rs_mv rfl rfl ?_
  refine rs_mv rfl rfl ?_
  refine rs_calln [] rfl rfl (fc23 xs ys hx) (.cons (hv_same rfl) (.cons (hv_same rfl) (.nil))) rfl ?_
  refine rs_mv rfl rfl ?_
  refine rs_nil fun _ => ?_
  refine th_n ?_
  refine aw_ret ?_
  exact ret_pure rfl rfl rfl (.inr rfl)

theorem fc38_t (xs : List Int) (hx : xs.length ≤ 4611686018427387904) : FC Try.prog 38 [ints xs, ints xs] [] (.bool true) [] false := by
  have := fc38 xs xs hx
  rwa [show sameS xs xs = true from decide_eq_true rfl] at this

def mc57 : MC := (.seq (.reg [⟨(some 12), (.mv (.c (.bool false))), none, []⟩] false) (.seq (.reg [⟨(some 18), (.mv (.t 5)), none, []⟩, ⟨(some 19), (.mv (.t 1)), none, []⟩, ⟨(some 20), (.call 36 [(.t 18), (.c (.int .i64 1)), (.t 19)]), none, [0, 1]⟩, ⟨(some 17), (.mv (.t 20)), none, [2]⟩, ⟨(some 21), (.ext (.t 17) 0), none, [3]⟩, ⟨(some 22), (.ext (.t 17) 1), none, [3]⟩, ⟨(some 13), (.mv (.t 21)), none, [4, 2, 0, 1, 2, 3, 4]⟩, ⟨(some 14), (.mv (.t 22)), none, [5, 6, 0, 1, 2, 3, 4, 5, 6]⟩] false) (.seq (.reg [⟨(some 24), (.mv (.t 5)), none, []⟩, ⟨(some 25), (.mv (.t 1)), none, []⟩, ⟨(some 26), (.call 39 [(.t 24), (.c (.int .i64 1)), (.t 25)]), none, [0, 1]⟩, ⟨(some 23), (.mv (.t 26)), none, [2]⟩, ⟨(some 27), (.ext (.t 23) 0), none, [3]⟩, ⟨(some 28), (.ext (.t 23) 1), none, [3]⟩, ⟨(some 15), (.mv (.t 27)), none, [4, 2, 0, 1, 2, 3, 4]⟩, ⟨(some 16), (.mv (.t 28)), none, [5, 6, 0, 1, 2, 3, 4, 5, 6]⟩] false) (.seq (.reg [⟨(some 29), (.mv (.t 14)), none, []⟩, ⟨(some 30), (.bin .eql (.t 29) (.c (.int .i64 0))), none, [0]⟩, ⟨(some 31), (.mv (.t 30)), none, [1]⟩, ⟨(some 32), (.mv (.t 16)), (some (31, true)), [2]⟩, ⟨(some 33), (.bin .eql (.t 32) (.c (.int .i64 0))), (some (31, true)), [3, 2]⟩, ⟨(some 34), (.pick (.t 31) (.t 33) (.c (.bool false))), none, [2, 4]⟩, ⟨(some 35), (.mv (.t 34)), none, [5, 2]⟩, ⟨(some 36), (.mv (.t 13)), (some (35, true)), [6]⟩, ⟨(some 37), (.mv (.t 2)), (some (35, true)), [6]⟩, ⟨(some 38), (.bslice 3 1 [(.int .i64 0)] 1 [(0, (.t 37))]), (some (35, true)), [8, 6]⟩, ⟨(some 39), (.call 38 [(.t 36), (.t 38)]), (some (35, true)), [7, 9, 6, 6]⟩, ⟨(some 40), (.pick (.t 35) (.t 39) (.c (.bool false))), none, [6, 10]⟩, ⟨(some 41), (.mv (.t 40)), none, [11, 10]⟩, ⟨(some 42), (.mv (.t 15)), (some (41, true)), [12]⟩, ⟨(some 43), (.mv (.t 3)), (some (41, true)), [12]⟩, ⟨(some 44), (.call 38 [(.t 42), (.t 43)]), (some (41, true)), [13, 14, 12, 12]⟩, ⟨(some 45), (.pick (.t 41) (.t 44) (.c (.bool false))), none, [12, 15]⟩, ⟨(some 46), (.mv (.t 45)), none, [16, 15]⟩, ⟨(some 47), (.mv (.t 0)), (some (46, true)), [17]⟩, ⟨(some 48), (.bslice 3 1 [(.int .i64 0)] 1 [(0, (.t 47))]), (some (46, true)), [18, 17]⟩, ⟨(some 49), (.build [(.str (.mk (.mk []))), .nils, .nils] [(2, (1, (.t 48)))]), (some (46, true)), [19, 17]⟩, ⟨(some 50), (.mv (.t 5)), (some (46, true)), [17]⟩, ⟨(some 51), (.mv (.t 1)), (some (46, true)), [17]⟩, ⟨(some 52), (.call 42 [(.t 49), (.t 50), (.t 51)]), (some (46, true)), [20, 21, 22, 17, 17]⟩, ⟨(some 53), (.mv (.t 4)), (some (46, true)), [17]⟩, ⟨(some 54), (.bin .eql (.t 52) (.t 53)), (some (46, true)), [23, 24, 17]⟩, ⟨(some 55), (.pick (.t 46) (.t 54) (.c (.bool false))), none, [17, 25]⟩, ⟨(some 12), (.mv (.t 55)), none, [26, 23, 0, 1, 2, 3, 4, 5, 6, 7, 8, 9, 10, 11, 12, 13, 14, 15, 16, 17, 18, 19, 20, 21, 22, 23, 24, 25, 26]⟩] false) .ret))))
theorem mcOk57 : (match Try.f57.body with | some c => compC Try.prog 56 c | none => none) = some mc57 := by kernel_rfl

theorem fc57 (l : List Sg) (want lies cell verdict : Int) (liars : List Int) (hl : l.length ≤ 40) (hle : liars.length ≤ 8) (hE : cellsE l 1 lies = 0) (hC : cellsL l 1 lies = [cell]) (hS : sureL l 1 lies = liars) (hV : verdS [want] l lies = verdict) : FC Try.prog 57 [iv want, iv lies, iv cell, ints liars, iv verdict, .rs 3 (l.map cS)] [] (.bool true) [] false := by
  have c1 : FC Try.prog 36 [.rs 3 (l.map cS), iv 1, iv lies] [] (.tup [ints [cell], iv 0]) [] false := by have := fc36 l 1 lies (by omega); rwa [hC, hE] at this
  have c2 : FC Try.prog 39 [.rs 3 (l.map cS), iv 1, iv lies] [] (.tup [ints liars, iv 0]) [] false := by have := fc39 l 1 lies (by omega); rwa [hS, hE] at this
  have c3 : FC Try.prog 42 [partV [want], .rs 3 (l.map cS), iv lies] [] (iv verdict) [] false := by have := fc42 [want] l lies (by simp) (by omega); rwa [hV] at this
  refine fc_run (nt := 56) Try.func57 rfl rfl mcOk57 (Nat.le_of_ble_eq_true rfl) ?_
  delta mc57
  refine aw_seq ?_
  refine aw_reg ?_
  refine rs_mv rfl rfl ?_
  refine rs_nil fun _ => ?_
  refine th_n ?_
  refine aw_seq ?_
  refine aw_reg ?_
  refine rs_mv rfl rfl ?_
  refine rs_mv rfl rfl ?_
  refine rs_calln [] rfl rfl (c1) (.cons (hv_same rfl) (.cons (hv_same rfl) (.cons (hv_same rfl) (.nil)))) rfl ?_
  refine rs_mv rfl rfl ?_
  refine rs_ext rfl rfl rfl ?_
  refine rs_ext rfl rfl rfl ?_
  refine rs_mv rfl rfl ?_
  refine rs_mv rfl rfl ?_
  refine rs_nil fun _ => ?_
  refine th_n ?_
  refine aw_seq ?_
  refine aw_reg ?_
  refine rs_mv rfl rfl ?_
  refine rs_mv rfl rfl ?_
  refine rs_calln [] rfl rfl (c2) (.cons (hv_same rfl) (.cons (hv_same rfl) (.cons (hv_same rfl) (.nil)))) rfl ?_
  refine rs_mv rfl rfl ?_
  refine rs_ext rfl rfl rfl ?_
  refine rs_ext rfl rfl rfl ?_
  refine rs_mv rfl rfl ?_
  refine rs_mv rfl rfl ?_
  refine rs_nil fun _ => ?_
  refine th_n ?_
  refine aw_seq ?_
  refine aw_reg ?_
  refine rs_mv rfl rfl ?_
  refine rs_cmp_t rfl rfl rfl rfl rfl ?_
  refine rs_mv rfl rfl ?_
  refine rs_mv rfl rfl ?_
  refine rs_cmp_t rfl rfl rfl rfl rfl ?_
  refine rs_pick rfl rfl rfl ?_
  refine rs_mv rfl rfl ?_
  refine rs_mv rfl rfl ?_
  refine rs_mv rfl rfl ?_
  refine rs_bslice rfl rfl rfl rfl rfl rfl ?_
  refine rs_calln [38] rfl rfl (fc38_t [cell] (by simp)) (.cons (hv_same rfl) (.cons (hv_sl (by simp) rfl (Nat.le_of_ble_eq_true rfl) rfl) (.nil))) rfl ?_
  refine rs_pick rfl rfl rfl ?_
  refine rs_mv rfl rfl ?_
  refine rs_mv rfl rfl ?_
  refine rs_mv rfl rfl ?_
  refine rs_calln [] rfl rfl (fc38_t liars (by omega)) (.cons (hv_same rfl) (.cons (hv_same rfl) (.nil))) rfl ?_
  refine rs_pick rfl rfl rfl ?_
  refine rs_mv rfl rfl ?_
  refine rs_mv rfl rfl ?_
  refine rs_bslice rfl rfl rfl rfl rfl rfl ?_
  refine rs_build rfl rfl ?_
  refine rs_mv rfl rfl ?_
  refine rs_mv rfl rfl ?_
  refine rs_calln [48] rfl rfl (c3) (.cons (hv_agg (.cons (hv_same rfl) (.cons (hv_same rfl) (.cons (hv_sl (by simp) rfl (Nat.le_of_ble_eq_true rfl) rfl) .nil)))) (.cons (hv_same rfl) (.cons (hv_same rfl) (.nil)))) rfl ?_
  refine rs_mv rfl rfl ?_
  refine rs_cmp_t rfl rfl rfl rfl rfl ?_
  refine rs_pick rfl rfl rfl ?_
  refine rs_mv rfl rfl ?_
  refine rs_nil fun _ => ?_
  refine th_n ?_
  refine aw_ret ?_
  exact ret_pure rfl rfl rfl (.inr rfl)

theorem ni54 : FC Try.prog 36 [.rs 3 (([(⟨0, 0, true⟩ : Sg), (⟨1, 0, false⟩ : Sg)]).map cS), iv 1, iv 0] [] (.tup [ints [], iv 21]) [] false := by
  have h := fc36 [(⟨0, 0, true⟩ : Sg), (⟨1, 0, false⟩ : Sg)] 1 0 (by decide)
  rwa [show cellsL [(⟨0, 0, true⟩ : Sg), (⟨1, 0, false⟩ : Sg)] 1 0 = [] by decide +kernel, show cellsE [(⟨0, 0, true⟩ : Sg), (⟨1, 0, false⟩ : Sg)] 1 0 = 21 by decide +kernel] at h
theorem ni61 : FC Try.prog 39 [.rs 3 (([(⟨0, 0, true⟩ : Sg), (⟨1, 0, false⟩ : Sg)]).map cS), iv 1, iv 0] [] (.tup [ints [], iv 21]) [] false := by
  have h := fc39 [(⟨0, 0, true⟩ : Sg), (⟨1, 0, false⟩ : Sg)] 1 0 (by decide)
  rwa [show sureL [(⟨0, 0, true⟩ : Sg), (⟨1, 0, false⟩ : Sg)] 1 0 = [] by decide +kernel, show cellsE [(⟨0, 0, true⟩ : Sg), (⟨1, 0, false⟩ : Sg)] 1 0 = 21 by decide +kernel] at h
theorem ni71 : FC Try.prog 36 [.rs 3 (([(⟨0, 0, true⟩ : Sg), (⟨0, 1, false⟩ : Sg), (⟨1, 1, true⟩ : Sg), (⟨1, 0, false⟩ : Sg)]).map cS), iv 2, iv 1] [] (.tup [ints [0, 0], iv 0]) [] false := by
  have h := fc36 [(⟨0, 0, true⟩ : Sg), (⟨0, 1, false⟩ : Sg), (⟨1, 1, true⟩ : Sg), (⟨1, 0, false⟩ : Sg)] 2 1 (by decide)
  rwa [show cellsL [(⟨0, 0, true⟩ : Sg), (⟨0, 1, false⟩ : Sg), (⟨1, 1, true⟩ : Sg), (⟨1, 0, false⟩ : Sg)] 2 1 = [0, 0] by decide +kernel, show cellsE [(⟨0, 0, true⟩ : Sg), (⟨0, 1, false⟩ : Sg), (⟨1, 1, true⟩ : Sg), (⟨1, 0, false⟩ : Sg)] 2 1 = 0 by decide +kernel] at h
theorem nv88 : FC Try.prog 42 [partV [3], .rs 3 (([(⟨0, 0, true⟩ : Sg), (⟨1, 0, false⟩ : Sg)]).map cS), iv 0] [] (iv 21) [] false := by
  have h := fc42 [3] [(⟨0, 0, true⟩ : Sg), (⟨1, 0, false⟩ : Sg)] 0 (by decide) (by decide)
  rwa [show verdS [3] [(⟨0, 0, true⟩ : Sg), (⟨1, 0, false⟩ : Sg)] 0 = 21 by decide +kernel] at h
theorem nv103 : FC Try.prog 42 [partV [1, 1], .rs 3 (([(⟨0, 0, true⟩ : Sg), (⟨0, 1, false⟩ : Sg), (⟨1, 1, true⟩ : Sg), (⟨1, 0, false⟩ : Sg)]).map cS), iv 1] [] (iv 35) [] false := by
  have h := fc42 [1, 1] [(⟨0, 0, true⟩ : Sg), (⟨0, 1, false⟩ : Sg), (⟨1, 1, true⟩ : Sg), (⟨1, 0, false⟩ : Sg)] 1 (by decide) (by decide)
  rwa [show verdS [1, 1] [(⟨0, 0, true⟩ : Sg), (⟨0, 1, false⟩ : Sg), (⟨1, 1, true⟩ : Sg), (⟨1, 0, false⟩ : Sg)] 1 = 35 by decide +kernel] at h
theorem nv115 : FC Try.prog 42 [partV [4], .rs 3 ((([] : List Sg)).map cS), iv 0] [] (iv 1) [] false := by
  have h := fc42 [4] ([] : List Sg) 0 (by decide) (by decide)
  rwa [show verdS [4] ([] : List Sg) 0 = 1 by decide +kernel] at h
theorem nc109 : FC Try.prog 34 [.rs 3 (([(⟨0, 1, false⟩ : Sg)]).map cS), iv 1, iv 0] [] (iv 3) [] false := by
  have h := fc34 [(⟨0, 1, false⟩ : Sg)] 1 0 (by decide)
  rwa [show checkI [(⟨0, 1, false⟩ : Sg)] 1 0 = 3 by decide +kernel] at h

def mc31 : MC := (.seq (.reg [⟨(some 0), (.mv (.c (.bool false))), none, []⟩] false) (.seq (.reg [⟨(some 12), (.build [(.int .i64 0), (.int .i64 0), (.bool false)] [(2, (1, (.c (.bool true))))]), none, []⟩, ⟨(some 13), (.build [(.int .i64 0), (.int .i64 0), (.bool false)] [(0, (1, (.c (.int .i64 1))))]), none, []⟩, ⟨(some 14), (.build [(.int .i64 0), (.int .i64 0), (.bool false)] [(0, (1, (.c (.int .i64 2)))), (2, (1, (.c (.bool true))))]), none, []⟩, ⟨(some 1), (.alloc 80 3 [(.int .i64 0), (.int .i64 0), (.bool false)]), none, []⟩, ⟨(some 2), (.alloc 80 3 [(.int .i64 0), (.int .i64 0), (.bool false)]), none, []⟩, ⟨(some 3), (.alloc 80 3 [(.int .i64 0), (.int .i64 0), (.bool false)]), none, []⟩, ⟨none, (.st 3 (.t 1) (.t 12)), none, [3, 0, 0, 3, 4, 5]⟩, ⟨none, (.st 3 (.t 2) (.t 13)), none, [4, 1, 6, 0, 1, 3, 4, 5, 6]⟩, ⟨none, (.st 3 (.t 3) (.t 14)), none, [5, 2, 7, 0, 1, 2, 3, 4, 5, 6, 7]⟩] false) (.seq (.seq (.reg [⟨(some 15), (.ld true 3 (.t 1)), none, []⟩, ⟨(some 16), (.bslice 80 3 [(.int .i64 0), (.int .i64 0), (.bool false)] 1 [(0, (.t 15))]), none, [0]⟩, ⟨(some 17), (.call 57 [(.c (.int .i64 1)), (.c (.int .i64 0)), (.c (.int .i64 1)), (.c .nils), (.c (.int .i64 0)), (.t 16)]), none, [1]⟩, ⟨(some 18), (.un .not (.t 17)), none, [2]⟩, ⟨(some 19), (.mv (.t 18)), none, [3, 2]⟩, ⟨(some 20), (.ld true 3 (.t 1)), (some (19, false)), [4]⟩, ⟨(some 21), (.bslice 80 3 [(.int .i64 0), (.int .i64 0), (.bool false)] 1 [(0, (.t 20))]), (some (19, false)), [5, 4]⟩, ⟨(some 22), (.call 57 [(.c (.int .i64 1)), (.c (.int .i64 1)), (.c (.int .i64 0)), (.c .nils), (.c (.int .i64 5)), (.t 21)]), (some (19, false)), [6, 4, 4]⟩, ⟨(some 23), (.un .not (.t 22)), (some (19, false)), [7, 4]⟩, ⟨(some 24), (.pick (.t 19) (.c (.bool true)) (.t 23)), none, [4, 8]⟩, ⟨(some 25), (.mv (.t 24)), none, [9, 7]⟩, ⟨(some 26), (.ld true 3 (.t 1)), (some (25, false)), [10]⟩, ⟨(some 27), (.ld true 3 (.t 2)), (some (25, false)), [10]⟩, ⟨(some 28), (.bslice 80 3 [(.int .i64 0), (.int .i64 0), (.bool false)] 2 [(0, (.t 26)), (1, (.t 27))]), (some (25, false)), [11, 12, 10]⟩, ⟨(some 29), (.call 57 [(.c (.int .i64 1)), (.c (.int .i64 1)), (.c (.int .i64 0)), (.c .nils), (.c (.int .i64 5)), (.t 28)]), (some (25, false)), [13, 10, 10]⟩, ⟨(some 30), (.un .not (.t 29)), (some (25, false)), [14, 10]⟩, ⟨(some 31), (.pick (.t 25) (.c (.bool true)) (.t 30)), none, [10, 15]⟩, ⟨(some 32), (.mv (.t 31)), none, [16, 14]⟩, ⟨(some 33), (.bslice 3 1 [(.int .i64 0)] 1 [(0, (.c (.int .i64 1)))]), (some (32, false)), [17]⟩, ⟨(some 34), (.ld true 3 (.t 1)), (some (32, false)), [17]⟩, ⟨(some 35), (.ld true 3 (.t 2)), (some (32, false)), [17]⟩, ⟨(some 36), (.ld true 3 (.t 3)), (some (32, false)), [17]⟩, ⟨(some 37), (.bslice 80 3 [(.int .i64 0), (.int .i64 0), (.bool false)] 3 [(0, (.t 34)), (1, (.t 35)), (2, (.t 36))]), (some (32, false)), [19, 20, 21, 17]⟩, ⟨(some 38), (.call 57 [(.c (.int .i64 1)), (.c (.int .i64 1)), (.c (.int .i64 1)), (.t 33), (.c (.int .i64 0)), (.t 37)]), (some (32, false)), [18, 22, 17, 17]⟩, ⟨(some 39), (.un .not (.t 38)), (some (32, false)), [23, 17]⟩, ⟨(some 40), (.pick (.t 32) (.c (.bool true)) (.t 39)), none, [17, 24]⟩, ⟨(some 41), (.mv (.t 40)), none, [25, 23]⟩, ⟨(some 42), (.bslice 3 1 [(.int .i64 0)] 1 [(0, (.c (.int .i64 1)))]), (some (41, false)), [26]⟩, ⟨(some 43), (.ld true 3 (.t 1)), (some (41, false)), [26]⟩, ⟨(some 44), (.ld true 3 (.t 2)), (some (41, false)), [26]⟩, ⟨(some 45), (.ld true 3 (.t 3)), (some (41, false)), [26]⟩, ⟨(some 46), (.bslice 80 3 [(.int .i64 0), (.int .i64 0), (.bool false)] 3 [(0, (.t 43)), (1, (.t 44)), (2, (.t 45))]), (some (41, false)), [28, 29, 30, 26]⟩, ⟨(some 47), (.call 57 [(.c (.int .i64 2)), (.c (.int .i64 1)), (.c (.int .i64 1)), (.t 42), (.c (.int .i64 35)), (.t 46)]), (some (41, false)), [27, 31, 26, 26]⟩, ⟨(some 48), (.un .not (.t 47)), (some (41, false)), [32, 26]⟩, ⟨(some 49), (.pick (.t 41) (.c (.bool true)) (.t 48)), none, [26, 33]⟩] false) (.cond (.t 49) (.seq (.reg [⟨(some 0), (.mv (.c (.bool false))), none, []⟩] false) .ret) .skip)) (.seq (.reg [⟨(some 51), (.ld true 3 (.t 1)), none, []⟩, ⟨(some 52), (.ld true 3 (.t 2)), none, []⟩, ⟨(some 53), (.bslice 80 3 [(.int .i64 0), (.int .i64 0), (.bool false)] 2 [(0, (.t 51)), (1, (.t 52))]), none, [0, 1]⟩, ⟨(some 54), (.call 36 [(.t 53), (.c (.int .i64 1)), (.c (.int .i64 0))]), none, [2]⟩, ⟨(some 50), (.mv (.t 54)), none, [3]⟩, ⟨(some 55), (.ext (.t 50) 0), none, [4]⟩, ⟨(some 56), (.ext (.t 50) 1), none, [4]⟩, ⟨(some 4), (.mv (.t 55)), none, [5, 3, 0, 1, 2, 3, 4, 5]⟩, ⟨(some 5), (.mv (.t 56)), none, [6, 7, 0, 1, 2, 3, 4, 5, 6, 7]⟩] false) (.seq (.reg [⟨(some 58), (.ld true 3 (.t 1)), none, []⟩, ⟨(some 59), (.ld true 3 (.t 2)), none, []⟩, ⟨(some 60), (.bslice 80 3 [(.int .i64 0), (.int .i64 0), (.bool false)] 2 [(0, (.t 58)), (1, (.t 59))]), none, [0, 1]⟩, ⟨(some 61), (.call 39 [(.t 60), (.c (.int .i64 1)), (.c (.int .i64 0))]), none, [2]⟩, ⟨(some 57), (.mv (.t 61)), none, [3]⟩, ⟨(some 62), (.ext (.t 57) 0), none, [4]⟩, ⟨(some 63), (.ext (.t 57) 1), none, [4]⟩, ⟨(some 6), (.mv (.t 62)), none, [5, 3, 0, 1, 2, 3, 4, 5]⟩, ⟨(some 7), (.mv (.t 63)), none, [6, 7, 0, 1, 2, 3, 4, 5, 6, 7]⟩] false) (.seq (.reg [⟨(some 64), (.ld true 3 (.t 1)), none, []⟩, ⟨(some 65), (.build [(.int .i64 0), (.int .i64 0), (.bool false)] [(1, (1, (.c (.int .i64 1))))]), none, []⟩, ⟨(some 66), (.build [(.int .i64 0), (.int .i64 0), (.bool false)] [(0, (1, (.c (.int .i64 1)))), (1, (1, (.c (.int .i64 1)))), (2, (1, (.c (.bool true))))]), none, []⟩, ⟨(some 67), (.ld true 3 (.t 2)), none, []⟩, ⟨(some 68), (.bslice 80 3 [(.int .i64 0), (.int .i64 0), (.bool false)] 4 [(0, (.t 64)), (1, (.t 65)), (2, (.t 66)), (3, (.t 67))]), none, [0, 1, 2, 3]⟩, ⟨(some 8), (.mv (.t 68)), none, [4, 0, 1, 2, 3, 4]⟩] false) (.seq (.reg [⟨(some 70), (.mv (.t 8)), none, []⟩, ⟨(some 71), (.call 36 [(.t 70), (.c (.int .i64 2)), (.c (.int .i64 1))]), none, [0]⟩, ⟨(some 69), (.mv (.t 71)), none, [1]⟩, ⟨(some 72), (.ext (.t 69) 0), none, [2]⟩, ⟨(some 73), (.ext (.t 69) 1), none, [2]⟩, ⟨(some 9), (.mv (.t 72)), none, [3, 1, 0, 1, 2, 3]⟩, ⟨(some 10), (.mv (.t 73)), none, [4, 5, 0, 1, 2, 3, 4, 5]⟩] false) (.seq (.reg [⟨(some 74), (.bslice 3 1 [(.int .i64 0)] 2 [(0, (.c (.int .i64 1))), (1, (.c (.int .i64 1)))]), none, []⟩, ⟨(some 75), (.build [(.str (.mk (.mk []))), .nils, .nils] [(2, (1, (.t 74)))]), none, [0]⟩, ⟨(some 11), (.alloc 74 3 [(.str (.mk (.mk []))), .nils, .nils]), none, []⟩, ⟨none, (.st 3 (.t 11) (.t 75)), none, [2, 1, 0, 1, 2]⟩] false) (.seq (.reg [⟨(some 76), (.mv (.t 5)), none, []⟩, ⟨(some 77), (.bin .eql (.t 76) (.c (.int .i64 21))), none, [0]⟩, ⟨(some 78), (.mv (.t 77)), none, [1]⟩, ⟨(some 79), (.mv (.t 7)), (some (78, true)), [2]⟩, ⟨(some 80), (.bin .eql (.t 79) (.c (.int .i64 21))), (some (78, true)), [3, 2]⟩, ⟨(some 81), (.pick (.t 78) (.t 80) (.c (.bool false))), none, [2, 4]⟩, ⟨(some 82), (.mv (.t 81)), none, [5, 2]⟩, ⟨(some 83), (.bslice 3 1 [(.int .i64 0)] 1 [(0, (.c (.int .i64 3)))]), (some (82, true)), [6]⟩, ⟨(some 84), (.build [(.str (.mk (.mk []))), .nils, .nils] [(2, (1, (.t 83)))]), (some (82, true)), [7, 6]⟩, ⟨(some 85), (.ld true 3 (.t 1)), (some (82, true)), [6]⟩, ⟨(some 86), (.ld true 3 (.t 2)), (some (82, true)), [6]⟩, ⟨(some 87), (.bslice 80 3 [(.int .i64 0), (.int .i64 0), (.bool false)] 2 [(0, (.t 85)), (1, (.t 86))]), (some (82, true)), [9, 10, 6]⟩, ⟨(some 88), (.call 42 [(.t 84), (.t 87), (.c (.int .i64 0))]), (some (82, true)), [8, 11, 6, 6]⟩, ⟨(some 89), (.bin .eql (.t 88) (.c (.int .i64 21))), (some (82, true)), [12, 6]⟩, ⟨(some 90), (.pick (.t 82) (.t 89) (.c (.bool false))), none, [6, 13]⟩, ⟨(some 91), (.mv (.t 90)), none, [14, 12]⟩, ⟨(some 92), (.mv (.t 10)), (some (91, true)), [15]⟩, ⟨(some 93), (.bin .eql (.t 92) (.c (.int .i64 0))), (some (91, true)), [16, 15]⟩, ⟨(some 94), (.pick (.t 91) (.t 93) (.c (.bool false))), none, [15, 17]⟩, ⟨(some 95), (.mv (.t 94)), none, [18, 15]⟩, ⟨(some 96), (.mv (.t 9)), (some (95, true)), [19]⟩, ⟨(some 97), (.bslice 3 1 [(.int .i64 0)] 2 [(0, (.c (.int .i64 0))), (1, (.c (.int .i64 0)))]), (some (95, true)), [19]⟩, ⟨(some 98), (.call 38 [(.t 96), (.t 97)]), (some (95, true)), [20, 21, 19, 19]⟩, ⟨(some 99), (.pick (.t 95) (.t 98) (.c (.bool false))), none, [19, 22]⟩, ⟨(some 100), (.mv (.t 99)), none, [23, 22]⟩, ⟨(some 101), (.ld true 3 (.t 11)), (some (100, true)), [24]⟩, ⟨(some 102), (.mv (.t 8)), (some (100, true)), [24]⟩, ⟨(some 103), (.call 42 [(.t 101), (.t 102), (.c (.int .i64 1))]), (some (100, true)), [25, 26, 24, 24]⟩, ⟨(some 104), (.bin .eql (.t 103) (.c (.int .i64 35))), (some (100, true)), [27, 24]⟩, ⟨(some 105), (.pick (.t 100) (.t 104) (.c (.bool false))), none, [24, 28]⟩, ⟨(some 106), (.mv (.t 105)), none, [29, 27]⟩, ⟨(some 107), (.build [(.int .i64 0), (.int .i64 0), (.bool false)] [(1, (1, (.c (.int .i64 1))))]), (some (106, true)), [30]⟩, ⟨(some 108), (.bslice 80 3 [(.int .i64 0), (.int .i64 0), (.bool false)] 1 [(0, (.t 107))]), (some (106, true)), [31, 30]⟩, ⟨(some 109), (.call 34 [(.t 108), (.c (.int .i64 1)), (.c (.int .i64 0))]), (some (106, true)), [32, 30, 30]⟩, ⟨(some 110), (.bin .eql (.t 109) (.c (.int .i64 3))), (some (106, true)), [33, 30]⟩, ⟨(some 111), (.pick (.t 106) (.t 110) (.c (.bool false))), none, [30, 34]⟩, ⟨(some 112), (.mv (.t 111)), none, [35, 33]⟩, ⟨(some 113), (.bslice 3 1 [(.int .i64 0)] 1 [(0, (.c (.int .i64 4)))]), (some (112, true)), [36]⟩, ⟨(some 114), (.build [(.str (.mk (.mk []))), .nils, .nils] [(2, (1, (.t 113)))]), (some (112, true)), [37, 36]⟩, ⟨(some 115), (.call 42 [(.t 114), (.c .nils), (.c (.int .i64 0))]), (some (112, true)), [38, 36, 36]⟩, ⟨(some 116), (.bin .eql (.t 115) (.c (.int .i64 1))), (some (112, true)), [39, 36]⟩, ⟨(some 117), (.pick (.t 112) (.t 116) (.c (.bool false))), none, [36, 40]⟩, ⟨(some 0), (.mv (.t 117)), none, [41, 39, 0, 1, 2, 3, 4, 5, 6, 7, 8, 9, 10, 11, 12, 13, 14, 15, 16, 17, 18, 19, 20, 21, 22, 23, 24, 25, 26, 27, 28, 29, 30, 31, 32, 33, 34, 35, 36, 37, 38, 39, 40, 41]⟩] false) .ret)))))))))
theorem mcOk31 : (match Try.f31.body with | some c => compC Try.prog 118 c | none => none) = some mc31 := by kernel_rfl

theorem fc31  : FC Try.prog 31 [] [] (.bool true) [] false := by
  refine fc_run (nt := 118) Try.func31 rfl rfl mcOk31 (Nat.le_of_ble_eq_true rfl) ?_
  delta mc31
  refine aw_seq ?_
  refine aw_reg ?_
  refine rs_mv rfl rfl ?_
  refine rs_nil fun _ => ?_
  refine th_n ?_
  refine aw_seq ?_
  refine aw_reg ?_
  refine rs_build rfl rfl ?_
  refine rs_build rfl rfl ?_
  refine rs_build rfl rfl ?_
  refine rs_alloc rfl rfl rfl ?_
  refine rs_alloc rfl rfl rfl ?_
  refine rs_alloc rfl rfl rfl ?_
  refine rs_st (els' := [cS (⟨0, 0, true⟩ : Sg)]) rfl rfl rfl rfl rfl rfl rfl (Nat.le_of_ble_eq_true rfl) rfl rfl ?_
  refine rs_st (els' := [cS (⟨1, 0, false⟩ : Sg)]) rfl rfl rfl rfl rfl rfl rfl (Nat.le_of_ble_eq_true rfl) rfl rfl ?_
  refine rs_st (els' := [cS (⟨2, 0, true⟩ : Sg)]) rfl rfl rfl rfl rfl rfl rfl (Nat.le_of_ble_eq_true rfl) rfl rfl ?_
  refine rs_nil fun _ => ?_
  refine th_n ?_
  refine aw_seq ?_
  refine aw_seq ?_
  refine aw_reg ?_
  first | refine rs_ld_pa rfl rfl rfl rfl (Nat.le_of_ble_eq_true rfl) rfl ?_ | refine rs_ld_ra rfl rfl (Nat.le_of_ble_eq_true rfl) rfl ?_ | refine rs_ld_ma rfl rfl rfl (by omega) (Nat.le_of_ble_eq_true rfl) rfl ?_
  refine rs_bslice rfl rfl rfl rfl rfl rfl ?_
  refine rs_calln [16] rfl rfl (fc57 [(⟨0, 0, true⟩ : Sg)] 1 0 1 0 [] (by decide) (by decide) (by decide +kernel) (by decide +kernel) (by decide +kernel) (by decide +kernel)) (.cons (hv_same rfl) (.cons (hv_same rfl) (.cons (hv_same rfl) (.cons (hv_nils) (.cons (hv_same rfl) (.cons (hv_sl (by simp) rfl (Nat.le_of_ble_eq_true rfl) rfl) (.nil))))))) rfl ?_
  refine rs_not rfl rfl ?_
  refine rs_mv rfl rfl ?_
  first | refine rs_ld_pa rfl rfl rfl rfl (Nat.le_of_ble_eq_true rfl) rfl ?_ | refine rs_ld_ra rfl rfl (Nat.le_of_ble_eq_true rfl) rfl ?_ | refine rs_ld_ma rfl rfl rfl (by omega) (Nat.le_of_ble_eq_true rfl) rfl ?_
  refine rs_bslice rfl rfl rfl rfl rfl rfl ?_
  refine rs_calln [21] rfl rfl (fc57 [(⟨0, 0, true⟩ : Sg)] 1 1 0 5 [] (by decide) (by decide) (by decide +kernel) (by decide +kernel) (by decide +kernel) (by decide +kernel)) (.cons (hv_same rfl) (.cons (hv_same rfl) (.cons (hv_same rfl) (.cons (hv_nils) (.cons (hv_same rfl) (.cons (hv_sl (by simp) rfl (Nat.le_of_ble_eq_true rfl) rfl) (.nil))))))) rfl ?_
  refine rs_not rfl rfl ?_
  refine rs_pick rfl rfl rfl ?_
  refine rs_mv rfl rfl ?_
  first | refine rs_ld_pa rfl rfl rfl rfl (Nat.le_of_ble_eq_true rfl) rfl ?_ | refine rs_ld_ra rfl rfl (Nat.le_of_ble_eq_true rfl) rfl ?_ | refine rs_ld_ma rfl rfl rfl (by omega) (Nat.le_of_ble_eq_true rfl) rfl ?_
  first | refine rs_ld_pa rfl rfl rfl rfl (Nat.le_of_ble_eq_true rfl) rfl ?_ | refine rs_ld_ra rfl rfl (Nat.le_of_ble_eq_true rfl) rfl ?_ | refine rs_ld_ma rfl rfl rfl (by omega) (Nat.le_of_ble_eq_true rfl) rfl ?_
  refine rs_bslice rfl rfl rfl rfl rfl rfl ?_
  refine rs_calln [28] rfl rfl (fc57 [(⟨0, 0, true⟩ : Sg), (⟨1, 0, false⟩ : Sg)] 1 1 0 5 [] (by decide) (by decide) (by decide +kernel) (by decide +kernel) (by decide +kernel) (by decide +kernel)) (.cons (hv_same rfl) (.cons (hv_same rfl) (.cons (hv_same rfl) (.cons (hv_nils) (.cons (hv_same rfl) (.cons (hv_sl (by simp) rfl (Nat.le_of_ble_eq_true rfl) rfl) (.nil))))))) rfl ?_
  refine rs_not rfl rfl ?_
  refine rs_pick rfl rfl rfl ?_
  refine rs_mv rfl rfl ?_
  refine rs_bslice rfl rfl rfl rfl rfl rfl ?_
  first | refine rs_ld_pa rfl rfl rfl rfl (Nat.le_of_ble_eq_true rfl) rfl ?_ | refine rs_ld_ra rfl rfl (Nat.le_of_ble_eq_true rfl) rfl ?_ | refine rs_ld_ma rfl rfl rfl (by omega) (Nat.le_of_ble_eq_true rfl) rfl ?_
  first | refine rs_ld_pa rfl rfl rfl rfl (Nat.le_of_ble_eq_true rfl) rfl ?_ | refine rs_ld_ra rfl rfl (Nat.le_of_ble_eq_true rfl) rfl ?_ | refine rs_ld_ma rfl rfl rfl (by omega) (Nat.le_of_ble_eq_true rfl) rfl ?_
  first | refine rs_ld_pa rfl rfl rfl rfl (Nat.le_of_ble_eq_true rfl) rfl ?_ | refine rs_ld_ra rfl rfl (Nat.le_of_ble_eq_true rfl) rfl ?_ | refine rs_ld_ma rfl rfl rfl (by omega) (Nat.le_of_ble_eq_true rfl) rfl ?_
  refine rs_bslice rfl rfl rfl rfl rfl rfl ?_
  refine rs_calln [33, 37] rfl rfl (fc57 [(⟨0, 0, true⟩ : Sg), (⟨1, 0, false⟩ : Sg), (⟨2, 0, true⟩ : Sg)] 1 1 1 0 [1] (by decide) (by decide) (by decide +kernel) (by decide +kernel) (by decide +kernel) (by decide +kernel)) (.cons (hv_same rfl) (.cons (hv_same rfl) (.cons (hv_same rfl) (.cons (hv_sl (by simp) rfl (Nat.le_of_ble_eq_true rfl) rfl) (.cons (hv_same rfl) (.cons (hv_sl (by simp) rfl (Nat.le_of_ble_eq_true rfl) rfl) (.nil))))))) rfl ?_
  refine rs_not rfl rfl ?_
  refine rs_pick rfl rfl rfl ?_
  refine rs_mv rfl rfl ?_
  refine rs_bslice rfl rfl rfl rfl rfl rfl ?_
  first | refine rs_ld_pa rfl rfl rfl rfl (Nat.le_of_ble_eq_true rfl) rfl ?_ | refine rs_ld_ra rfl rfl (Nat.le_of_ble_eq_true rfl) rfl ?_ | refine rs_ld_ma rfl rfl rfl (by omega) (Nat.le_of_ble_eq_true rfl) rfl ?_
  first | refine rs_ld_pa rfl rfl rfl rfl (Nat.le_of_ble_eq_true rfl) rfl ?_ | refine rs_ld_ra rfl rfl (Nat.le_of_ble_eq_true rfl) rfl ?_ | refine rs_ld_ma rfl rfl rfl (by omega) (Nat.le_of_ble_eq_true rfl) rfl ?_
  first | refine rs_ld_pa rfl rfl rfl rfl (Nat.le_of_ble_eq_true rfl) rfl ?_ | refine rs_ld_ra rfl rfl (Nat.le_of_ble_eq_true rfl) rfl ?_ | refine rs_ld_ma rfl rfl rfl (by omega) (Nat.le_of_ble_eq_true rfl) rfl ?_
  refine rs_bslice rfl rfl rfl rfl rfl rfl ?_
  refine rs_calln [42, 46] rfl rfl (fc57 [(⟨0, 0, true⟩ : Sg), (⟨1, 0, false⟩ : Sg), (⟨2, 0, true⟩ : Sg)] 2 1 1 35 [1] (by decide) (by decide) (by decide +kernel) (by decide +kernel) (by decide +kernel) (by decide +kernel)) (.cons (hv_same rfl) (.cons (hv_same rfl) (.cons (hv_same rfl) (.cons (hv_sl (by simp) rfl (Nat.le_of_ble_eq_true rfl) rfl) (.cons (hv_same rfl) (.cons (hv_sl (by simp) rfl (Nat.le_of_ble_eq_true rfl) rfl) (.nil))))))) rfl ?_
  refine rs_not rfl rfl ?_
  refine rs_pick rfl rfl rfl ?_
  refine rs_nil fun _ => ?_
  refine th_n ?_
  refine aw_cond rfl (fun h => by cases h) (fun _ => ?_)
  refine aw_skip ?_
  refine th_n ?_
  refine aw_seq ?_
  refine aw_reg ?_
  first | refine rs_ld_pa rfl rfl rfl rfl (Nat.le_of_ble_eq_true rfl) rfl ?_ | refine rs_ld_ra rfl rfl (Nat.le_of_ble_eq_true rfl) rfl ?_ | refine rs_ld_ma rfl rfl rfl (by omega) (Nat.le_of_ble_eq_true rfl) rfl ?_
  first | refine rs_ld_pa rfl rfl rfl rfl (Nat.le_of_ble_eq_true rfl) rfl ?_ | refine rs_ld_ra rfl rfl (Nat.le_of_ble_eq_true rfl) rfl ?_ | refine rs_ld_ma rfl rfl rfl (by omega) (Nat.le_of_ble_eq_true rfl) rfl ?_
  refine rs_bslice rfl rfl rfl rfl rfl rfl ?_
  refine rs_calln [53] rfl rfl (ni54) (.cons (hv_sl (by simp) rfl (Nat.le_of_ble_eq_true rfl) rfl) (.cons (hv_same rfl) (.cons (hv_same rfl) (.nil)))) rfl ?_
  refine rs_mv rfl rfl ?_
  refine rs_ext rfl rfl rfl ?_
  refine rs_ext rfl rfl rfl ?_
  refine rs_mv rfl rfl ?_
  refine rs_mv rfl rfl ?_
  refine rs_nil fun _ => ?_
  refine th_n ?_
  refine aw_seq ?_
  refine aw_reg ?_
  first | refine rs_ld_pa rfl rfl rfl rfl (Nat.le_of_ble_eq_true rfl) rfl ?_ | refine rs_ld_ra rfl rfl (Nat.le_of_ble_eq_true rfl) rfl ?_ | refine rs_ld_ma rfl rfl rfl (by omega) (Nat.le_of_ble_eq_true rfl) rfl ?_
  first | refine rs_ld_pa rfl rfl rfl rfl (Nat.le_of_ble_eq_true rfl) rfl ?_ | refine rs_ld_ra rfl rfl (Nat.le_of_ble_eq_true rfl) rfl ?_ | refine rs_ld_ma rfl rfl rfl (by omega) (Nat.le_of_ble_eq_true rfl) rfl ?_
  refine rs_bslice rfl rfl rfl rfl rfl rfl ?_
  refine rs_calln [60] rfl rfl (ni61) (.cons (hv_sl (by simp) rfl (Nat.le_of_ble_eq_true rfl) rfl) (.cons (hv_same rfl) (.cons (hv_same rfl) (.nil)))) rfl ?_
  refine rs_mv rfl rfl ?_
  refine rs_ext rfl rfl rfl ?_
  refine rs_ext rfl rfl rfl ?_
  refine rs_mv rfl rfl ?_
  refine rs_mv rfl rfl ?_
  refine rs_nil fun _ => ?_
  refine th_n ?_
  refine aw_seq ?_
  refine aw_reg ?_
  first | refine rs_ld_pa rfl rfl rfl rfl (Nat.le_of_ble_eq_true rfl) rfl ?_ | refine rs_ld_ra rfl rfl (Nat.le_of_ble_eq_true rfl) rfl ?_ | refine rs_ld_ma rfl rfl rfl (by omega) (Nat.le_of_ble_eq_true rfl) rfl ?_
  refine rs_build rfl rfl ?_
  refine rs_build rfl rfl ?_
  first | refine rs_ld_pa rfl rfl rfl rfl (Nat.le_of_ble_eq_true rfl) rfl ?_ | refine rs_ld_ra rfl rfl (Nat.le_of_ble_eq_true rfl) rfl ?_ | refine rs_ld_ma rfl rfl rfl (by omega) (Nat.le_of_ble_eq_true rfl) rfl ?_
  refine rs_bslice rfl rfl rfl rfl rfl rfl ?_
  refine rs_mv rfl rfl ?_
  refine rs_nil fun _ => ?_
  refine th_n ?_
  refine aw_seq ?_
  refine aw_reg ?_
  refine rs_mv rfl rfl ?_
  refine rs_calln [68] rfl rfl (ni71) (.cons (hv_sl (by simp) rfl (Nat.le_of_ble_eq_true rfl) rfl) (.cons (hv_same rfl) (.cons (hv_same rfl) (.nil)))) rfl ?_
  refine rs_mv rfl rfl ?_
  refine rs_ext rfl rfl rfl ?_
  refine rs_ext rfl rfl rfl ?_
  refine rs_mv rfl rfl ?_
  refine rs_mv rfl rfl ?_
  refine rs_nil fun _ => ?_
  refine th_n ?_
  refine aw_seq ?_
  refine aw_reg ?_
  refine rs_bslice rfl rfl rfl rfl rfl rfl ?_
  refine rs_build rfl rfl ?_
  refine rs_alloc rfl rfl rfl ?_
  refine rs_st rfl rfl rfl rfl rfl rfl rfl (Nat.le_of_ble_eq_true rfl) rfl rfl ?_
  refine rs_nil fun _ => ?_
  refine th_n ?_
  refine aw_seq ?_
  refine aw_reg ?_
  refine rs_mv rfl rfl ?_
  refine rs_cmp_t rfl rfl rfl rfl rfl ?_
  refine rs_mv rfl rfl ?_
  refine rs_mv rfl rfl ?_
  refine rs_cmp_t rfl rfl rfl rfl rfl ?_
  refine rs_pick rfl rfl rfl ?_
  refine rs_mv rfl rfl ?_
  refine rs_bslice rfl rfl rfl rfl rfl rfl ?_
  refine rs_build rfl rfl ?_
  first | refine rs_ld_pa rfl rfl rfl rfl (Nat.le_of_ble_eq_true rfl) rfl ?_ | refine rs_ld_ra rfl rfl (Nat.le_of_ble_eq_true rfl) rfl ?_ | refine rs_ld_ma rfl rfl rfl (by omega) (Nat.le_of_ble_eq_true rfl) rfl ?_
  first | refine rs_ld_pa rfl rfl rfl rfl (Nat.le_of_ble_eq_true rfl) rfl ?_ | refine rs_ld_ra rfl rfl (Nat.le_of_ble_eq_true rfl) rfl ?_ | refine rs_ld_ma rfl rfl rfl (by omega) (Nat.le_of_ble_eq_true rfl) rfl ?_
  refine rs_bslice rfl rfl rfl rfl rfl rfl ?_
  refine rs_calln [83, 87] rfl rfl (nv88) (.cons (hv_agg (.cons (hv_same rfl) (.cons (hv_same rfl) (.cons (hv_sl (by simp) rfl (Nat.le_of_ble_eq_true rfl) rfl) .nil)))) (.cons (hv_sl (by simp) rfl (Nat.le_of_ble_eq_true rfl) rfl) (.cons (hv_same rfl) (.nil)))) rfl ?_
  refine rs_cmp_t rfl rfl rfl rfl rfl ?_
  refine rs_pick rfl rfl rfl ?_
  refine rs_mv rfl rfl ?_
  refine rs_mv rfl rfl ?_
  refine rs_cmp_t rfl rfl rfl rfl rfl ?_
  refine rs_pick rfl rfl rfl ?_
  refine rs_mv rfl rfl ?_
  refine rs_mv rfl rfl ?_
  refine rs_bslice rfl rfl rfl rfl rfl rfl ?_
  refine rs_calln [97] rfl rfl (fc38_t [0, 0] (by decide)) (.cons (hv_same rfl) (.cons (hv_sl (by simp) rfl (Nat.le_of_ble_eq_true rfl) rfl) (.nil))) rfl ?_
  refine rs_pick rfl rfl rfl ?_
  refine rs_mv rfl rfl ?_
  first | refine rs_ld_pa rfl rfl rfl rfl (Nat.le_of_ble_eq_true rfl) rfl ?_ | refine rs_ld_ra rfl rfl (Nat.le_of_ble_eq_true rfl) rfl ?_ | refine rs_ld_ma rfl rfl rfl (by omega) (Nat.le_of_ble_eq_true rfl) rfl ?_
  refine rs_mv rfl rfl ?_
  refine rs_calln [74, 68] rfl rfl (nv103) (.cons (hv_agg (.cons (hv_same rfl) (.cons (hv_same rfl) (.cons (hv_sl (by simp) rfl (Nat.le_of_ble_eq_true rfl) rfl) .nil)))) (.cons (hv_sl (by simp) rfl (Nat.le_of_ble_eq_true rfl) rfl) (.cons (hv_same rfl) (.nil)))) rfl ?_
  refine rs_cmp_t rfl rfl rfl rfl rfl ?_
  refine rs_pick rfl rfl rfl ?_
  refine rs_mv rfl rfl ?_
  refine rs_build rfl rfl ?_
  refine rs_bslice rfl rfl rfl rfl rfl rfl ?_
  refine rs_calln [108] rfl rfl (nc109) (.cons (hv_sl (by simp) rfl (Nat.le_of_ble_eq_true rfl) rfl) (.cons (hv_same rfl) (.cons (hv_same rfl) (.nil)))) rfl ?_
  refine rs_cmp_t rfl rfl rfl rfl rfl ?_
  refine rs_pick rfl rfl rfl ?_
  refine rs_mv rfl rfl ?_
  refine rs_bslice rfl rfl rfl rfl rfl rfl ?_
  refine rs_build rfl rfl ?_
  refine rs_calln [113] rfl rfl (nv115) (.cons (hv_agg (.cons (hv_same rfl) (.cons (hv_same rfl) (.cons (hv_sl (by simp) rfl (Nat.le_of_ble_eq_true rfl) rfl) .nil)))) (.cons (hv_nils) (.cons (hv_same rfl) (.nil)))) rfl ?_
  refine rs_cmp_t rfl rfl rfl rfl rfl ?_
  refine rs_pick rfl rfl rfl ?_
  refine rs_mv rfl rfl ?_
  refine rs_nil fun _ => ?_
  refine th_n ?_
  refine aw_ret ?_
  exact ret_pure rfl rfl rfl (.inr rfl)

end Go.Proofs.Ytadjdnhnbkcakaa

/-! What Cells, Liars and Verdict say, told by truths that agree. No program in sight. -/
namespace Go.Proofs.Ytadjdnhnbkcakaa
open Go.RowKit

/-- A truth that agrees, with a small set of gauges that may lie. -/
structure AgI (l : List Sg) (lies : Int) (s : Nat) (T : Nat → Bool) : Prop where
  lt : s < 256
  small : (sizeS s 8 : Int) ≤ lies
  says : ∀ r ∈ l, hasS s r.gauge.toNat = true ∨ r.there = T r.cell.toNat

section
variable {l : List Sg} {lies : Int}
theorem exI_iff {s : Nat} : exI l lies s = true ↔ (sizeS s 8 : Int) ≤ lies ∧ thM l s &&& goM l s = 0 := by
  unfold exI
  simp only [Bool.and_eq_true, decide_eq_true_eq]
theorem agI_th {s : Nat} (hs : s < 256) (h : exI l lies s = true) : AgI l lies s fun c => (thM l s).testBit c := by
  obtain ⟨h1, h2⟩ := exI_iff.1 h
  refine ⟨hs, h1, fun r hr => ?_⟩
  cases hg : hasS s r.gauge.toNat
  · right
    cases ht : r.there
    · have hgo : (goM l s).testBit r.cell.toNat = true := goM_bit.2 ⟨r, hr, hg, ht, rfl⟩
      cases e : (thM l s).testBit r.cell.toNat
      · rfl
      · exact absurd ⟨e, hgo⟩ ((and_zero.1 h2) _)
    · exact (thM_bit.2 ⟨r, hr, hg, ht, rfl⟩).symm
  · exact .inl rfl
theorem agI_go {s : Nat} (hs : s < 256) (h : exI l lies s = true) : AgI l lies s fun c => !(goM l s).testBit c := by
  obtain ⟨h1, h2⟩ := exI_iff.1 h
  refine ⟨hs, h1, fun r hr => ?_⟩
  cases hg : hasS s r.gauge.toNat
  · right
    cases ht : r.there
    · rw [goM_bit.2 ⟨r, hr, hg, ht, rfl⟩]; rfl
    · have hth : (thM l s).testBit r.cell.toNat = true := thM_bit.2 ⟨r, hr, hg, ht, rfl⟩
      cases e : (goM l s).testBit r.cell.toNat
      · rfl
      · exact absurd ⟨hth, e⟩ ((and_zero.1 h2) _)
  · exact .inl rfl
theorem agI_thM {s : Nat} {T : Nat → Bool} (h : AgI l lies s T) {c : Nat} (hb : (thM l s).testBit c = true) : T c = true := by
  obtain ⟨r, hr, h1, h2, h3⟩ := thM_bit.1 hb
  rcases h.says r hr with e | e
  · rw [h1] at e; cases e
  · rw [← h3, ← e]; exact h2
theorem agI_goM {s : Nat} {T : Nat → Bool} (h : AgI l lies s T) {c : Nat} (hb : (goM l s).testBit c = true) : T c = false := by
  obtain ⟨r, hr, h1, h2, h3⟩ := goM_bit.1 hb
  rcases h.says r hr with e | e
  · rw [h1] at e; cases e
  · rw [← h3, ← e]; exact h2
theorem agI_ex {s : Nat} {T : Nat → Bool} (h : AgI l lies s T) : exI l lies s = true := by
  refine exI_iff.2 ⟨h.small, and_zero.2 fun i ⟨a, b⟩ => ?_⟩
  have := agI_thM h a
  rw [agI_goM h b] at this; cases this
theorem ts_ne : tsK l lies 256 ≠ [] ↔ ∃ s T, AgI l lies s T := by
  constructor
  · intro h
    obtain ⟨t, ht⟩ := List.exists_mem_of_ne_nil _ h
    obtain ⟨s, hs, hx, rfl⟩ := mem_tsK.1 ht
    exact ⟨s, _, agI_th hs hx⟩
  · rintro ⟨s, T, h⟩ e
    have : mkT l s ∈ tsK l lies 256 := mem_tsK.2 ⟨s, h.lt, agI_ex h, rfl⟩
    rw [e] at this
    simp at this
theorem whole_th (h : tsK l lies 256 ≠ []) (c : Nat) : (wholeT (tsK l lies 256)).1.testBit c = true ↔ ∀ s T, AgI l lies s T → T c = true := by
  rw [whole_bit (fun t => t.1) (fun _ _ => rfl) h]
  constructor
  · intro a s T hT
    exact agI_thM hT (a _ (mem_tsK.2 ⟨s, hT.lt, agI_ex hT, rfl⟩))
  · intro a t ht
    obtain ⟨s, hs, hx, rfl⟩ := mem_tsK.1 ht
    exact a s _ (agI_th hs hx)
theorem whole_go (h : tsK l lies 256 ≠ []) (c : Nat) : (wholeT (tsK l lies 256)).2.1.testBit c = true ↔ ∀ s T, AgI l lies s T → T c = false := by
  rw [whole_bit (fun t => t.2.1) (fun _ _ => rfl) h]
  constructor
  · intro a s T hT
    exact agI_goM hT (a _ (mem_tsK.2 ⟨s, hT.lt, agI_ex hT, rfl⟩))
  · intro a t ht
    obtain ⟨s, hs, hx, rfl⟩ := mem_tsK.1 ht
    have := a s _ (agI_go hs hx)
    show (goM l s).testBit c = true
    simpa using this
theorem whole_li (h : tsK l lies 256 ≠ []) (p : Nat) : hasS (wholeT (tsK l lies 256)).2.2 p = true ↔ ∀ s T, AgI l lies s T → hasS s p = true := by
  have hw : hasS (wholeT (tsK l lies 256)).2.2 p = true ↔ ∀ t ∈ tsK l lies 256, t.2.2.testBit p = true := whole_bit (fun t => t.2.2) (fun _ _ => rfl) h p
  rw [hw]
  constructor
  · intro a s T hT
    exact a _ (mem_tsK.2 ⟨s, hT.lt, agI_ex hT, rfl⟩)
  · intro a t ht
    obtain ⟨s, hs, hx, rfl⟩ := mem_tsK.1 ht
    exact a s _ (agI_th hs hx)

/-- The gauges that lie in a truth. -/
def lieI (l : List Sg) (T : Nat → Bool) (m : Nat) : Nat := l.foldl (fun m r => if r.there = T r.cell.toNat then m else m ||| 2 ^ r.gauge.toNat) m
def Gok (l : List Sg) : Prop := ∀ r ∈ l, 0 ≤ r.gauge ∧ r.gauge < 8
theorem lieI_has {T : Nat → Bool} {q : Nat} : ∀ (l : List Sg) (m : Nat), hasS (lieI l T m) q = true ↔ hasS m q = true ∨ ∃ r ∈ l, r.gauge.toNat = q ∧ r.there ≠ T r.cell.toNat
  | [], m => by simp [lieI]
  | r :: l, m => by
    show hasS (lieI l T (if r.there = T r.cell.toNat then m else m ||| 2 ^ r.gauge.toNat)) q = true ↔ _
    rw [lieI_has l]
    by_cases hb : r.there = T r.cell.toNat
    · rw [if_pos hb]
      simp only [List.mem_cons]
      constructor
      · rintro (h | ⟨r', h1, h2⟩)
        · exact .inl h
        · exact .inr ⟨r', .inr h1, h2⟩
      · rintro (h | ⟨r', rfl | h1, h2, h3⟩)
        · exact .inl h
        · exact absurd hb h3
        · exact .inr ⟨r', h1, h2, h3⟩
    · rw [if_neg hb, hasS_or]
      simp only [Bool.or_eq_true, decide_eq_true_eq, List.mem_cons]
      constructor
      · rintro ((h | h) | ⟨r', h1, h2⟩)
        · exact .inl h
        · exact .inr ⟨r, .inl rfl, h, hb⟩
        · exact .inr ⟨r', .inr h1, h2⟩
      · rintro (h | ⟨r', rfl | h1, h2, h3⟩)
        · exact .inl (.inl h)
        · exact .inl (.inr h2)
        · exact .inr ⟨r', h1, h2, h3⟩
theorem lieI_lt {T : Nat → Bool} : ∀ (l : List Sg) (m : Nat), Gok l → m < 256 → lieI l T m < 256
  | [], m, _, hm => hm
  | r :: l, m, hl, hm => by
    show lieI l T (if r.there = T r.cell.toNat then m else m ||| 2 ^ r.gauge.toNat) < 256
    have h0 := hl r (by simp)
    refine lieI_lt l _ (fun r h => hl r (by simp [h])) ?_
    split
    · exact hm
    · exact or_pow_lt m hm _ (by omega)
theorem agI_iff {T : Nat → Bool} (hg : Gok l) : (∃ s, AgI l lies s T) ↔ (sizeS (lieI l T 0) 8 : Int) ≤ lies := by
  constructor
  · rintro ⟨s, hs⟩
    have hsub : ∀ p, p < 8 → hasS (lieI l T 0) p = true → hasS s p = true := fun p _ hp => by
      rcases (lieI_has l 0).1 hp with h0 | ⟨r, hr, e, hb⟩
      · rw [hasS_0] at h0; cases h0
      · rcases hs.says r hr with h1 | h1
        · rw [← e]; exact h1
        · exact absurd h1 hb
    have := size_mono hsub 8 (Nat.le_refl _)
    have := hs.small
    omega
  · intro h
    refine ⟨_, lieI_lt l 0 hg (by decide), h, fun r hr => ?_⟩
    by_cases hb : r.there = T r.cell.toNat
    · exact .inr hb
    · exact .inl ((lieI_has l 0).2 (.inr ⟨r, hr, rfl, hb⟩))
theorem agI_lie {T : Nat → Bool} {s : Nat} (hg : Gok l) (h : AgI l lies s T) : AgI l lies (lieI l T 0) T := by
  refine ⟨lieI_lt l 0 hg (by decide), (agI_iff hg).1 ⟨s, h⟩, fun r hr => ?_⟩
  by_cases hb : r.there = T r.cell.toNat
  · exact .inr hb
  · exact .inl ((lieI_has l 0).2 (.inr ⟨r, hr, rfl, hb⟩))

/-- What Cells and Liars say where some truth agrees. -/
structure SemI (l : List Sg) (cells lies : Int) (K : List Int) (all : Nat) : Prop where
  len : K.length = cells.toNat
  val : ∀ (c : Nat) (x : Int), K[c]? = some x → (x = 1 ∧ ∀ s T, AgI l lies s T → T c = true) ∨ (x = -1 ∧ ∀ s T, AgI l lies s T → T c = false) ∨ (x = 0 ∧ (∃ s T, AgI l lies s T ∧ T c = true) ∧ ∃ s T, AgI l lies s T ∧ T c = false)
  liars : ∀ p, p < 8 → (hasS all p = true ↔ ∀ s T, AgI l lies s T → hasS s p = true)
theorem cells_sem {cells : Int} (hok : SgOk l cells lies) :
    ((∃ s T, AgI l lies s T) ∧ cellsE l cells lies = 0 ∧ ∃ all, sureL l cells lies = outK all 8 ∧ SemI l cells lies (cellsL l cells lies) all) ∨
    ((¬ ∃ s T, AgI l lies s T) ∧ cellsE l cells lies = 21 ∧ cellsL l cells lies = [] ∧ sureL l cells lies = []) := by
  have h0 := checkI_ok.2 hok
  by_cases hx : ∃ s T, AgI l lies s T
  · left
    have hts := ts_ne.2 hx
    obtain ⟨e1, e2, e3⟩ := cells_3 h0 hts
    refine ⟨hx, e1, _, e3, ?_⟩
    rw [e2]
    refine ⟨length_cellW _ _, fun c x hc => ?_, fun p _ => whole_li hts p⟩
    have hlt := lt_of_at hc
    rw [length_cellW] at hlt
    rw [cellW_at hlt] at hc
    injection hc with hc
    subst hc
    have h1 := whole_th hts c
    have h2 := whole_go hts c
    have hd := (and_zero.1 (whole_disj hts)) c
    unfold cellF bitN
    cases e1 : (wholeT (tsK l lies 256)).1.testBit c <;> cases e2 : (wholeT (tsK l lies 256)).2.1.testBit c
    · right; right
      refine ⟨by simp, ?_, ?_⟩
      · rw [e2] at h2
        have h3 : ¬ ∀ s T, AgI l lies s T → T c = false := fun h => by simpa using h2.2 h
        simp only [Classical.not_forall] at h3
        obtain ⟨s, T, a, b⟩ := h3
        exact ⟨s, T, a, by simpa using b⟩
      · rw [e1] at h1
        have h3 : ¬ ∀ s T, AgI l lies s T → T c = true := fun h => by simpa using h1.2 h
        simp only [Classical.not_forall] at h3
        obtain ⟨s, T, a, b⟩ := h3
        exact ⟨s, T, a, by simpa using b⟩
    · right; left
      exact ⟨by simp, h2.1 e2⟩
    · left
      exact ⟨by simp, h1.1 e1⟩
    · exact absurd ⟨e1, e2⟩ hd
  · right
    have hts : tsK l lies 256 = [] := by
      by_cases e : tsK l lies 256 = []
      · exact e
      · exact absurd (ts_ne.1 e) hx
    obtain ⟨e1, e2, e3⟩ := cells_2 h0 hts
    exact ⟨hx, e1, e2, e3⟩
end

/-! ### Verdict -/
/-- A truth is good for wants. -/
def GoodT (want : List Int) (T : Nat → Bool) : Prop := ∀ c, c < want.length → (want.getD c 0 = 1 → T c = true) ∧ (want.getD c 0 = 2 → T c = false)
section
variable {l : List Sg} {lies : Int} {want : List Int}
theorem goodK_iff (t : Nat) : goodK want t want.length = true ↔ GoodT want fun c => hasS t c := by
  unfold goodK GoodT
  rw [List.all_eq_true]
  constructor
  · intro h c hc
    have := h c (List.mem_range.2 hc)
    unfold goodF at this
    simp only [Bool.and_eq_true, Bool.not_eq_true', Bool.and_eq_false_iff, decide_eq_false_iff_not, Bool.not_eq_false'] at this
    exact ⟨fun e => this.1.resolve_left (fun q => q e), fun e => this.2.resolve_left (fun q => q e)⟩
  · intro h c hc
    obtain ⟨a, b⟩ := h c (List.mem_range.1 hc)
    unfold goodF
    simp only [Bool.and_eq_true, Bool.not_eq_true', Bool.and_eq_false_iff, decide_eq_false_iff_not, Bool.not_eq_false']
    refine ⟨?_, ?_⟩
    · by_cases e : want.getD c 0 = 1
      · exact .inr (a e)
      · exact .inl e
    · by_cases e : want.getD c 0 = 2
      · exact .inr (b e)
      · exact .inl e
theorem sure_good (hts : tsK l lies 256 ≠ []) (h : sureK want (wholeT (tsK l lies 256)) want.length = true) {s : Nat} {T : Nat → Bool} (hT : AgI l lies s T) : GoodT want T := fun c hc => by
  unfold sureK at h
  have h1 := (List.all_eq_true.1 h) c (List.mem_range.2 hc)
  unfold sureF at h1
  rw [decide_eq_true_eq] at h1
  have hd := whole_disj hts
  rw [(cellF_1 hd c).1, (cellF_1 hd c).2, whole_th hts, whole_go hts] at h1
  refine ⟨fun e => ?_, fun e => ?_⟩
  · rcases h1 with q | q | q
    · omega
    · exact q.1 s T hT
    · omega
  · rcases h1 with q | q | q
    · omega
    · omega
    · exact q.1 s T hT
theorem good_sure (hbw : badW want = false) (hts : tsK l lies 256 ≠ []) (h : ∀ s T, AgI l lies s T → GoodT want T) : sureK want (wholeT (tsK l lies 256)) want.length = true := by
  unfold sureK
  rw [List.all_eq_true]
  intro c hc
  have hc := List.mem_range.1 hc
  unfold sureF
  rw [decide_eq_true_eq]
  have hd := whole_disj hts
  rw [(cellF_1 hd c).1, (cellF_1 hd c).2, whole_th hts, whole_go hts]
  rcases want_cases hbw hc with e | e | e
  · exact .inr (.inl ⟨fun s T hT => (h s T hT c hc).1 e, e⟩)
  · exact .inr (.inr ⟨fun s T hT => (h s T hT c hc).2 e, e⟩)
  · exact .inl e
theorem good_fit (hbw : badW want = false) {s : Nat} {T : Nat → Bool} (hT : AgI l lies s T) (hg : GoodT want T) : fitK want (mkT l s).1 (mkT l s).2.1 want.length = true := by
  unfold fitK
  rw [List.all_eq_true]
  intro c hc
  have hc := List.mem_range.1 hc
  unfold fitF
  rw [decide_eq_true_eq]
  have hd : thM l s &&& goM l s = 0 := (exI_iff.1 (agI_ex hT)).2
  rcases want_cases hbw hc with e | e | e
  · refine .inr (.inl ⟨fun q => ?_, e⟩)
    have h1 := agI_goM hT ((leftF_1 hd c).2.1 q)
    rw [(hg c hc).1 e] at h1; cases h1
  · refine .inr (.inr ⟨fun q => ?_, e⟩)
    have h1 := agI_thM hT ((leftF_1 hd c).1.1 q)
    rw [(hg c hc).2 e] at h1; cases h1
  · exact .inl e
theorem fit_good {t : T3} (ht : t ∈ tsK l lies 256) (hf : fitK want t.1 t.2.1 want.length = true) (hcl : ∀ r ∈ l, r.cell.toNat < want.length) : ∃ s T, AgI l lies s T ∧ GoodT want T := by
  obtain ⟨s, hs, hx, rfl⟩ := mem_tsK.1 ht
  obtain ⟨h1, hd⟩ := exI_iff.1 hx
  unfold fitK at hf
  have hf := List.all_eq_true.1 hf
  refine ⟨s, fun c => if want.getD c 0 = 1 then true else if want.getD c 0 = 2 then false else (thM l s).testBit c, ⟨hs, h1, fun r hr => ?_⟩, fun c hc => ⟨fun e => if_pos e, fun e => ?_⟩⟩
  · have hag := (agI_th hs hx).says r hr
    rcases hag with e | e
    · exact .inl e
    · cases hg : hasS s r.gauge.toNat
      · right
        have hfc := hf r.cell.toNat (List.mem_range.2 (hcl r hr))
        unfold fitF at hfc
        rw [decide_eq_true_eq] at hfc
        show r.there = if want.getD r.cell.toNat 0 = 1 then true else if want.getD r.cell.toNat 0 = 2 then false else (thM l s).testBit r.cell.toNat
        by_cases w1 : want.getD r.cell.toNat 0 = 1
        · rw [if_pos w1]
          cases hth : r.there
          · have hgo : (goM l s).testBit r.cell.toNat = true := goM_bit.2 ⟨r, hr, hg, hth, rfl⟩
            have hl := (leftF_1 hd r.cell.toNat).2.2 hgo
            rcases hfc with q | q | q
            · omega
            · exact absurd hl q.1
            · omega
          · rfl
        · rw [if_neg w1]
          by_cases w2 : want.getD r.cell.toNat 0 = 2
          · rw [if_pos w2]
            cases hth : r.there
            · rfl
            · have hth' : (thM l s).testBit r.cell.toNat = true := thM_bit.2 ⟨r, hr, hg, hth, rfl⟩
              have hl := (leftF_1 hd r.cell.toNat).1.2 hth'
              rcases hfc with q | q | q
              · omega
              · omega
              · exact absurd hl q.1
          · rw [if_neg w2]; exact e
      · exact .inl rfl
  · show (if want.getD c 0 = 1 then true else if want.getD c 0 = 2 then false else (thM l s).testBit c) = false
    rw [if_neg (by omega), if_pos e]
/-- What Verdict says, told by truths. -/
theorem verd_sem (hbw : badW want = false) (hok : SgOk l want.length lies) :
    ((∃ s T, AgI l lies s T) → (((∀ s T, AgI l lies s T → GoodT want T) ∧ verdS want l lies = 0) ∨ ((∃ s T, AgI l lies s T ∧ GoodT want T) ∧ (∃ s T, AgI l lies s T ∧ ¬ GoodT want T) ∧ verdS want l lies = 5) ∨ ((∀ s T, AgI l lies s T → ¬ GoodT want T) ∧ verdS want l lies = 35))) ∧
    ((¬ ∃ s T, AgI l lies s T) → verdS want l lies = 21) := by
  have h0 := checkI_ok.2 hok
  have hcl : ∀ r ∈ l, r.cell.toNat < want.length := fun r hr => by have := hok.sg r hr; omega
  constructor
  · intro hx
    have hts := ts_ne.2 hx
    have hE := (cells_3 h0 hts).1
    cases hs : sureK want (wholeT (tsK l lies 256)) want.length
    · right
      have hbad : ∃ s T, AgI l lies s T ∧ ¬ GoodT want T := by
        have : ¬ ∀ s T, AgI l lies s T → GoodT want T := fun h => by rw [good_sure hbw hts h] at hs; cases hs
        simp only [Classical.not_forall] at this
        obtain ⟨s, T, a, b⟩ := this
        exact ⟨s, T, a, b⟩
      by_cases hg : ∃ s T, AgI l lies s T ∧ GoodT want T
      · obtain ⟨s, T, a, b⟩ := hg
        exact .inl ⟨⟨s, T, a, b⟩, hbad, verd_5 hbw hE hs (mem_tsK.2 ⟨s, a.lt, agI_ex a, rfl⟩) (good_fit hbw a b)⟩
      · right
        refine ⟨fun s T a b => hg ⟨s, T, a, b⟩, verd_6 hbw hE hs fun t ht => ?_⟩
        cases hf : fitK want t.1 t.2.1 want.length
        · rfl
        · exact absurd (fit_good ht hf hcl) hg
    · exact .inl ⟨fun s T hT => sure_good hts hs hT, verd_4 hbw hE hs⟩
  · intro hx
    have hts : tsK l lies 256 = [] := by
      by_cases e : tsK l lies 256 = []
      · exact e
      · exact absurd (ts_ne.1 e) hx
    exact verd_3 hbw h0 hts
end
end Go.Proofs.Ytadjdnhnbkcakaa

/-! Walks: A32. -/
namespace Go.Proofs.Ytadjdnhnbkcakaa
open Go.RowKit

/-- While sights are changed: the first k are as they should be. -/
structure FixI (n : Int) (N : Nat) (T : Nat → Bool) (bs : List Bool) (k : Nat) (L : List Sg) (W : List Bool) : Prop where
  le : k ≤ N
  len : L.length = N
  lenW : W.length = 8
  sg : ∀ r ∈ L, 0 ≤ r.gauge ∧ r.gauge < 4 ∧ 0 ≤ r.cell ∧ r.cell < n
  good : ∀ j r, j < k → L[j]? = some r → (bs.getD r.gauge.toNat false = false → r.there = T r.cell.toNat) ∧ (r.there ≠ T r.cell.toNat → W.getD r.gauge.toNat false = true)
structure FxI (n : Int) (T : Nat → Bool) (bs : List Bool) (L : List Sg) (k : Nat) (L' : List Sg) : Prop where
  len : L'.length = L.length
  sg : ∀ r ∈ L', 0 ≤ r.gauge ∧ r.gauge < 4 ∧ 0 ≤ r.cell ∧ r.cell < n
  ne : ∀ j, j ≠ k → L'[j]? = L[j]?
  at_ : ∃ r, L'[k]? = some r ∧ (bs.getD r.gauge.toNat false = false → r.there = T r.cell.toNat)
theorem fixI_t {n : Int} {T : Nat → Bool} {bs : List Bool} {L : List Sg} {k : Nat} {r : Sg} (hL : ∀ r ∈ L, 0 ≤ r.gauge ∧ r.gauge < 4 ∧ 0 ≤ r.cell ∧ r.cell < n) (hr : L[k]? = some r) : FxI n T bs L k (L.set k ⟨r.gauge, r.cell, T r.cell.toNat⟩) := by
  have hk := lt_of_at hr
  have h0 := hL r (mem_of_at hr)
  refine ⟨by simp, fun r' hr' => ?_, fun j hj => by rw [List.getElem?_set_ne (Ne.symm hj)], ⟨_, List.getElem?_set_self hk, fun _ => rfl⟩⟩
  rcases List.mem_or_eq_of_mem_set hr' with h | rfl
  · exact hL r' h
  · exact h0
theorem fixI_f {n : Int} {T : Nat → Bool} {bs : List Bool} {L : List Sg} {k : Nat} {r : Sg} (hL : ∀ r ∈ L, 0 ≤ r.gauge ∧ r.gauge < 4 ∧ 0 ≤ r.cell ∧ r.cell < n) (hr : L[k]? = some r) (hb : bs[r.gauge.toNat]? = some true) : FxI n T bs L k L :=
  ⟨rfl, hL, fun _ _ => rfl, r, hr, fun h => by rw [getDb_of hb] at h; cases h⟩
theorem fixI_end {n : Int} {N : Nat} {T : Nat → Bool} {bs : List Bool} {k : Nat} {L L' : List Sg} {W : List Bool} {r : Sg} {b w : Bool} (h : FixI n N T bs k L W) (hk : k < N) (hx : FxI n T bs L k L') (hr : L'[k]? = some r) (hw : W[r.gauge.toNat]? = some w)
    (hb : b = (w || r.there != T r.cell.toNat)) : FixI n N T bs (k + 1) L' (W.set r.gauge.toNat b) := by
  refine ⟨by omega, hx.len.trans h.len, by simp [h.lenW], hx.sg, fun j r' hj hr' => ?_⟩
  have hup : W.getD r'.gauge.toNat false = true → (W.set r.gauge.toNat b).getD r'.gauge.toNat false = true := fun e => by
    by_cases hp : r.gauge.toNat = r'.gauge.toNat
    · rw [hp] at hw ⊢
      rw [getDb_of hw] at e
      have := lt_of_at hw
      simp [this, hb, e]
    · simp only [List.getD_eq_getElem?_getD] at e ⊢
      rw [List.getElem?_set_ne hp]; exact e
  by_cases e : j = k
  · subst e
    obtain ⟨r0, q1, q2⟩ := hx.at_
    rw [hr'] at q1
    injection q1 with q1
    subst q1
    rw [hr'] at hr
    injection hr with hr
    subst hr
    refine ⟨q2, fun hbad => ?_⟩
    have := lt_of_at hw
    have hne : (r'.there != T r'.cell.toNat) = true := by simpa using hbad
    simp [this, hb, hne]
  · rw [hx.ne j e] at hr'
    obtain ⟨q1, q2⟩ := h.good j r' (by omega) hr'
    exact ⟨q1, fun hb => hup (q2 hb)⟩
/-- How many of the first ones are true. -/
def cntT (bs : List Bool) (k : Nat) : Nat := ((bs.take k).filter fun b => b).length
theorem cntT_set {bs : List Bool} {k : Nat} {b : Bool} (h : k < bs.length) : cntT (bs.set k b) (k + 1) = cntT bs k + (if b = true then 1 else 0) := by
  have e : (bs.set k b).take (k + 1) = bs.take k ++ [b] := by
    rw [List.take_succ_eq_append_getElem (by simpa using h), List.getElem_set_self, List.take_set_of_le (Nat.le_refl _)]
  unfold cntT
  rw [e, List.filter_append, List.length_append]
  cases b <;> simp
def maskT8 (b0 b1 b2 b3 b4 b5 b6 b7 : Bool) : Nat := (if b0 then 1 else 0) + (if b1 then 2 else 0) + (if b2 then 4 else 0) + (if b3 then 8 else 0) + (if b4 then 16 else 0) + (if b5 then 32 else 0) + (if b6 then 64 else 0) + (if b7 then 128 else 0)
theorem maskT_ex8 : ∀ b0 b1 b2 b3 b4 b5 b6 b7 : Bool, maskT8 b0 b1 b2 b3 b4 b5 b6 b7 < 256 ∧ sizeS (maskT8 b0 b1 b2 b3 b4 b5 b6 b7) 8 = cntT [b0, b1, b2, b3, b4, b5, b6, b7] 8 ∧ ∀ p, p < 8 → hasS (maskT8 b0 b1 b2 b3 b4 b5 b6 b7) p = [b0, b1, b2, b3, b4, b5, b6, b7].getD p false := by decide +kernel
theorem maskT_ex (bs : List Bool) (h : bs.length = 8) : ∃ s, s < 256 ∧ sizeS s 8 = cntT bs 8 ∧ ∀ p, p < 8 → hasS s p = bs.getD p false := by
  match bs, h with
  | [b0, b1, b2, b3, b4, b5, b6, b7], _ => exact ⟨_, maskT_ex8 b0 b1 b2 b3 b4 b5 b6 b7⟩
theorem has_bits_u8 : ∀ s : Nat, s < 256 → ∀ p : Nat, p < 8 → decide (bits .and .u8 ((s : Int).fdiv (2 ^ min ((p : Int)).toNat 8)) 1 = 1) = hasS s p := by decide +kernel
/-- What InspectTruth's calls say. -/
theorem truthI_calls {N : Nat} {m f : Int} {R L : List Sg} {bs W : List Bool} {t : Nat} (hm : MadeI (N : Int) m R) (hbs : bs.length = 8) (hf : 0 ≤ f) (hc : (cntT bs 8 : Int) + f = m) (h : FixI (N : Int) R.length (fun c => hasS t c) bs R.length L W) (ws : List Int) :
    ∃ (K Ls : List Int) (v : Int), FC Try.prog 36 [.rs 3 (L.map cS), iv (N : Int), iv m] [] (.tup [ints K, iv 0]) [] false ∧ FC Try.prog 39 [.rs 3 (L.map cS), iv (N : Int), iv m] [] (.tup [ints Ls, iv 0]) [] false ∧ FC Try.prog 42 [partV (wantsS ws N), .rs 3 (L.map cS), iv m] [] (iv v) [] false ∧
      K.length = N ∧ Ls.length ≤ 8 ∧ (∀ (c : Nat) (x : Int), K[c]? = some x → -1 ≤ x ∧ x ≤ 1 ∧ (x = 1 → hasS t c = true) ∧ (x = -1 → hasS t c = false)) ∧ (∀ (k : Nat) (p : Int), Ls[k]? = some p → 0 ≤ p ∧ p < 8 ∧ W[p.toNat]? = some true) ∧
      (goodK (wantsS ws N) t N = true → v = 0 ∨ v = 5) ∧ (goodK (wantsS ws N) t N = false → v = 35 ∨ v = 5) := by
  have hn1 := hm.n1
  have hn5 := hm.n5
  have hlR := hm.lR
  have hLl := h.len
  have hok : SgOk L (N : Int) m := ⟨by omega, by omega, by omega, hm.m0, hm.m3, fun r hr => by have := h.sg r hr; omega⟩
  have hg : Gok L := fun r hr => by have := h.sg r hr; omega
  obtain ⟨s, s1, s2, s3⟩ := maskT_ex bs hbs
  have hag : AgI L m s fun c => hasS t c := by
    refine ⟨s1, by rw [s2]; omega, fun r hr => ?_⟩
    have h0 := h.sg r hr
    obtain ⟨j, hj⟩ := List.getElem?_of_mem hr
    have hgd := (h.good j r (by have := lt_of_at hj; omega) hj).1
    rw [s3 r.gauge.toNat (by omega)]
    cases e : bs.getD r.gauge.toNat false
    · exact .inr (hgd e)
    · exact .inl rfl
  have f1 := fc36 L (N : Int) m (by omega)
  have f2 := fc39 L (N : Int) m (by omega)
  have hwl := length_wants ws N
  have f3 := fc42 (wantsS ws N) L m (by omega) (by omega)
  have hbw : badW (wantsS ws N) = false := badW_f fun x hx => by have := wants_range ws N x hx; omega
  rcases cells_sem hok with ⟨_, a1, all, a2, a3⟩ | ⟨hx, _⟩
  · rw [a1] at f1 f2
    refine ⟨_, _, _, f1, f2, f3, by rw [a3.len]; simp, by rw [a2]; exact outK_le _ _, fun c x hcx => ?_, fun k p hp => ?_, ?_, ?_⟩
    · rcases a3.val c x hcx with ⟨rfl, q⟩ | ⟨rfl, q⟩ | ⟨rfl, _⟩
      · exact ⟨by omega, by omega, fun _ => q s _ hag, fun e => by omega⟩
      · exact ⟨by omega, by omega, fun e => by omega, fun _ => q s _ hag⟩
      · exact ⟨by omega, by omega, fun e => by omega, fun e => by omega⟩
    · rw [a2] at hp
      obtain ⟨p0, p8, hp'⟩ := mem_outK.1 (mem_of_at hp)
      refine ⟨p0, p8, ?_⟩
      have hin := (a3.liars p.toNat (by omega)).1 hp' _ _ (agI_lie hg hag)
      rcases (lieI_has L 0).1 hin with h0 | ⟨r, hr, hrp, hb⟩
      · rw [hasS_0] at h0; cases h0
      · obtain ⟨j, hj⟩ := List.getElem?_of_mem hr
        have hgd := (h.good j r (by have := lt_of_at hj; omega) hj).2 hb
        rw [hrp] at hgd
        have hlt : p.toNat < W.length := by have := h.lenW; omega
        rw [List.getElem?_eq_getElem hlt]
        simpa [hlt] using hgd
    · intro hgk
      have hgt : GoodT (wantsS ws N) fun c => hasS t c := (goodK_iff t).1 (by rw [hwl]; exact hgk)
      rcases (verd_sem hbw (by rw [hwl]; exact hok)).1 ⟨s, _, hag⟩ with ⟨_, e⟩ | ⟨_, _, e⟩ | ⟨q, _⟩
      · exact .inl e
      · exact .inr e
      · exact absurd hgt (q s _ hag)
    · intro hgk
      have hgt : ¬ GoodT (wantsS ws N) fun c => hasS t c := fun q => by
        have := (goodK_iff t).2 q
        rw [hwl, hgk] at this; cases this
      rcases (verd_sem hbw (by rw [hwl]; exact hok)).1 ⟨s, _, hag⟩ with ⟨q, _⟩ | ⟨_, _, e⟩ | ⟨_, e⟩
      · exact absurd (q s _ hag) hgt
      · exact .inr e
      · exact .inl e
  · exact absurd ⟨s, _, hag⟩ hx

def mc11 : MC := (.seq (.reg [⟨(some 4), (.box 60 3 (.t 0)), none, []⟩, ⟨(some 8), (.mv (.c (.bool false))), none, []⟩] false) (.seq (.reg [⟨(some 31), (.call 31 []), none, []⟩, ⟨(some 9), (.mv (.t 31)), none, [0, 0, 0]⟩] false) (.seq (.reg [⟨(some 33), (.ld true 3 (.t 4)), none, []⟩, ⟨(some 34), (.call 32 [(.t 33)]), none, [0]⟩, ⟨(some 32), (.mv (.t 34)), none, [1]⟩, ⟨(some 35), (.ext (.t 32) 0), none, [2]⟩, ⟨(some 36), (.ext (.t 32) 1), none, [2]⟩, ⟨(some 37), (.ext (.t 32) 2), none, [2]⟩, ⟨(some 10), (.mv (.t 35)), none, [3, 1, 0, 1, 2, 3]⟩, ⟨(some 11), (.mv (.t 36)), none, [4, 6, 0, 1, 2, 3, 4, 6]⟩, ⟨(some 12), (.mv (.t 37)), none, [5, 7, 0, 1, 2, 3, 4, 5, 6, 7]⟩] false) (.seq (.reg [⟨(some 38), (.build [(.bool false), (.bool false), (.bool false), (.bool false), (.bool false), (.bool false), (.bool false), (.bool false)] []), none, []⟩, ⟨(some 13), (.alloc 47 8 [(.bool false), (.bool false), (.bool false), (.bool false), (.bool false), (.bool false), (.bool false), (.bool false)]), none, []⟩, ⟨none, (.st 8 (.t 13) (.t 38)), none, [1, 0, 0, 1]⟩] false) (.seq (.reg [⟨(some 39), (.mv (.t 12)), none, []⟩, ⟨(some 14), (.mv (.t 39)), none, [0, 0]⟩] false) (.seq (.seq (.reg [⟨(some 40), (.mv (.c (.int .i64 0))), none, []⟩] false) (.block 0 (.loop (.seq (.reg [⟨(some 41), (.bin .lss (.t 40) (.c (.int .i64 8))), none, []⟩] false) (.seq (.cond (.t 41) .skip (.exit 0)) (.seq (.block 1 (.seq (.reg [⟨(some 42), (.mv (.t 40)), none, []⟩, ⟨(some 15), (.mv (.t 42)), none, [0, 0]⟩] false) (.seq (.reg [⟨(some 43), (.mv (.t 15)), none, []⟩, ⟨(some 44), (.mv (.t 2)), none, []⟩, ⟨(some 45), (.mv (.t 15)), none, []⟩, ⟨(some 46), (.bin .shr (.t 44) (.t 45)), none, [1, 2]⟩, ⟨(some 47), (.bin .and (.t 46) (.c (.int .u8 1))), none, [3]⟩, ⟨(some 48), (.bin .eql (.t 47) (.c (.int .u8 1))), none, [4]⟩, ⟨(some 49), (.mv (.t 48)), none, [5]⟩, ⟨(some 50), (.mv (.t 14)), (some (49, true)), [6]⟩, ⟨(some 51), (.bin .gtr (.t 50) (.c (.int .i64 0))), (some (49, true)), [7, 6]⟩, ⟨(some 52), (.pick (.t 49) (.t 51) (.c (.bool false))), none, [6, 8]⟩, ⟨(some 53), (.ixarr 8 1 (.t 13) (.t 43)), none, [0, 0, 1, 2, 3, 4, 5, 6, 7, 8, 9]⟩, ⟨none, (.st 1 (.t 53) (.t 52)), none, [10, 9, 6, 0, 1, 2, 3, 4, 5, 6, 7, 8, 9]⟩] false) (.seq (.reg [⟨(some 54), (.mv (.t 15)), none, []⟩, ⟨(some 55), (.ixarr 8 1 (.t 13) (.t 54)), none, [0]⟩, ⟨(some 56), (.ld false 1 (.t 55)), none, [1]⟩] false) (.cond (.t 56) (.reg [⟨(some 57), (.mv (.t 14)), none, []⟩, ⟨(some 58), (.bin .sub (.t 57) (.c (.int .i64 1))), none, [0]⟩, ⟨(some 14), (.mv (.t 58)), none, [1, 0, 1]⟩] false) .skip))))) (.reg [⟨(some 59), (.bin .add (.t 40) (.c (.int .i64 1))), none, []⟩, ⟨(some 40), (.mv (.t 59)), none, [0]⟩] false))))))) (.seq (.reg [⟨(some 60), (.build [(.bool false), (.bool false), (.bool false), (.bool false), (.bool false), (.bool false), (.bool false), (.bool false)] []), none, []⟩, ⟨(some 16), (.alloc 47 8 [(.bool false), (.bool false), (.bool false), (.bool false), (.bool false), (.bool false), (.bool false), (.bool false)]), none, []⟩, ⟨none, (.st 8 (.t 16) (.t 60)), none, [1, 0, 0, 1]⟩] false) (.seq (.seq (.reg [⟨(some 61), (.mv (.t 10)), none, []⟩, ⟨(some 62), (.len (.t 61)), none, [0]⟩, ⟨(some 63), (.mv (.c (.int .i64 0))), none, []⟩] false) (.block 2 (.loop (.seq (.reg [⟨(some 64), (.bin .lss (.t 63) (.t 62)), none, []⟩] false) (.seq (.cond (.t 64) .skip (.exit 2)) (.seq (.block 3 (.seq (.reg [⟨(some 65), (.mv (.t 63)), none, []⟩, ⟨(some 17), (.mv (.t 65)), none, [0, 0]⟩] false) (.seq (.reg [⟨(some 66), (.mv (.t 10)), none, []⟩, ⟨(some 67), (.mv (.t 17)), none, []⟩, ⟨(some 68), (.ixsl 3 (.t 66) (.t 67)), none, [0, 1]⟩, ⟨(some 18), (.mv (.t 68)), none, [2, 0, 1, 2]⟩] false) (.seq (.reg [⟨(some 69), (.mv (.t 1)), none, []⟩, ⟨(some 70), (.mv (.t 18)), none, []⟩, ⟨(some 71), (.nilc (.t 70)), none, [1]⟩, ⟨(some 72), (.fa 1 (.t 71)), none, [2]⟩, ⟨(some 73), (.ld false 1 (.t 72)), none, [3]⟩, ⟨(some 74), (.bin .shr (.t 69) (.t 73)), none, [0, 4]⟩, ⟨(some 75), (.bin .and (.t 74) (.c (.int .u8 1))), none, [5]⟩, ⟨(some 76), (.bin .eql (.t 75) (.c (.int .u8 1))), none, [6]⟩, ⟨(some 19), (.mv (.t 76)), none, [7, 0, 1, 2, 3, 4, 5, 6, 7]⟩] false) (.seq (.seq (.reg [⟨(some 77), (.mv (.t 18)), none, []⟩, ⟨(some 78), (.nilc (.t 77)), none, [0]⟩, ⟨(some 79), (.fa 0 (.t 78)), none, [1]⟩, ⟨(some 80), (.ld false 1 (.t 79)), none, [2]⟩, ⟨(some 81), (.ixarr 8 1 (.t 13) (.t 80)), none, [3]⟩, ⟨(some 82), (.ld false 1 (.t 81)), none, [4]⟩, ⟨(some 83), (.un .not (.t 82)), none, [5]⟩] false) (.cond (.t 83) (.reg [⟨(some 84), (.mv (.t 18)), none, []⟩, ⟨(some 85), (.mv (.t 19)), none, []⟩, ⟨(some 86), (.nilc (.t 84)), none, [0, 0, 1]⟩, ⟨(some 87), (.fa 2 (.t 86)), none, [2, 0, 1]⟩, ⟨none, (.st 1 (.t 87) (.t 85)), none, [3, 1, 0, 1]⟩] false) .skip)) (.reg [⟨(some 88), (.mv (.t 18)), none, []⟩, ⟨(some 89), (.nilc (.t 88)), none, [0]⟩, ⟨(some 90), (.fa 0 (.t 89)), none, [1]⟩, ⟨(some 91), (.ld false 1 (.t 90)), none, [2]⟩, ⟨(some 92), (.mv (.t 18)), none, []⟩, ⟨(some 93), (.nilc (.t 92)), none, [4]⟩, ⟨(some 94), (.fa 0 (.t 93)), none, [5]⟩, ⟨(some 95), (.ld false 1 (.t 94)), none, [6]⟩, ⟨(some 96), (.ixarr 8 1 (.t 16) (.t 95)), none, [7]⟩, ⟨(some 97), (.ld false 1 (.t 96)), none, [8]⟩, ⟨(some 98), (.mv (.t 97)), none, [9]⟩, ⟨(some 99), (.mv (.t 18)), (some (98, false)), [10]⟩, ⟨(some 100), (.nilc (.t 99)), (some (98, false)), [11, 10]⟩, ⟨(some 101), (.fa 2 (.t 100)), (some (98, false)), [12, 10]⟩, ⟨(some 102), (.ld false 1 (.t 101)), (some (98, false)), [13, 10]⟩, ⟨(some 103), (.mv (.t 19)), (some (98, false)), [10]⟩, ⟨(some 104), (.beq true (.t 102) (.t 103)), (some (98, false)), [14, 15, 10]⟩, ⟨(some 105), (.pick (.t 98) (.c (.bool true)) (.t 104)), none, [10, 16]⟩, ⟨(some 106), (.ixarr 8 1 (.t 16) (.t 91)), none, [3, 0, 1, 2, 3, 4, 5, 6, 7, 8, 9, 10, 11, 12, 13, 14, 15, 16, 17]⟩, ⟨none, (.st 1 (.t 106) (.t 105)), none, [18, 17, 10, 0, 1, 2, 3, 4, 5, 6, 7, 8, 9, 10, 11, 12, 13, 14, 15, 16, 17]⟩] true)))))) (.reg [⟨(some 107), (.bin .add (.t 63) (.c (.int .i64 1))), none, []⟩, ⟨(some 63), (.mv (.t 107)), none, [0]⟩] false))))))) (.seq (.reg [⟨(some 109), (.mv (.t 10)), none, []⟩, ⟨(some 110), (.mv (.t 11)), none, []⟩, ⟨(some 111), (.mv (.t 12)), none, []⟩, ⟨(some 112), (.call 36 [(.t 109), (.t 110), (.t 111)]), none, [0, 1, 2]⟩, ⟨(some 108), (.mv (.t 112)), none, [3]⟩, ⟨(some 113), (.ext (.t 108) 0), none, [4]⟩, ⟨(some 114), (.ext (.t 108) 1), none, [4]⟩, ⟨(some 20), (.mv (.t 113)), none, [5, 3, 0, 1, 2, 3, 4, 5]⟩, ⟨(some 21), (.mv (.t 114)), none, [6, 7, 0, 1, 2, 3, 4, 5, 6, 7]⟩] false) (.seq (.reg [⟨(some 116), (.mv (.t 10)), none, []⟩, ⟨(some 117), (.mv (.t 11)), none, []⟩, ⟨(some 118), (.mv (.t 12)), none, []⟩, ⟨(some 119), (.call 39 [(.t 116), (.t 117), (.t 118)]), none, [0, 1, 2]⟩, ⟨(some 115), (.mv (.t 119)), none, [3]⟩, ⟨(some 120), (.ext (.t 115) 0), none, [4]⟩, ⟨(some 121), (.ext (.t 115) 1), none, [4]⟩, ⟨(some 22), (.mv (.t 120)), none, [5, 3, 0, 1, 2, 3, 4, 5]⟩, ⟨(some 23), (.mv (.t 121)), none, [6, 7, 0, 1, 2, 3, 4, 5, 6, 7]⟩] false) (.seq (.seq (.reg [⟨(some 122), (.mv (.t 21)), none, []⟩, ⟨(some 123), (.bin .neq (.t 122) (.c (.int .i64 0))), none, [0]⟩, ⟨(some 124), (.mv (.t 123)), none, [1]⟩, ⟨(some 125), (.mv (.t 23)), (some (124, false)), [2]⟩, ⟨(some 126), (.bin .neq (.t 125) (.c (.int .i64 0))), (some (124, false)), [3, 2]⟩, ⟨(some 127), (.pick (.t 124) (.c (.bool true)) (.t 126)), none, [2, 4]⟩, ⟨(some 128), (.mv (.t 127)), none, [5, 2]⟩, ⟨(some 129), (.mv (.t 20)), (some (128, false)), [6]⟩, ⟨(some 130), (.len (.t 129)), (some (128, false)), [7, 6]⟩, ⟨(some 131), (.mv (.t 11)), (some (128, false)), [6]⟩, ⟨(some 132), (.bin .neq (.t 130) (.t 131)), (some (128, false)), [8, 9, 6]⟩, ⟨(some 133), (.pick (.t 128) (.c (.bool true)) (.t 132)), none, [6, 10]⟩] false) (.cond (.t 133) (.seq (.reg [⟨(some 8), (.mv (.c (.bool false))), none, []⟩] false) .ret) .skip)) (.seq (.seq (.reg [⟨(some 134), (.mv (.t 20)), none, []⟩, ⟨(some 135), (.len (.t 134)), none, [0]⟩, ⟨(some 136), (.mv (.c (.int .i64 0))), none, []⟩] false) (.block 4 (.loop (.seq (.reg [⟨(some 137), (.bin .lss (.t 136) (.t 135)), none, []⟩] false) (.seq (.cond (.t 137) .skip (.exit 4)) (.seq (.block 5 (.seq (.reg [⟨(some 138), (.mv (.t 136)), none, []⟩, ⟨(some 139), (.ixsl 1 (.t 134) (.t 136)), none, []⟩, ⟨(some 140), (.ld false 1 (.t 139)), none, [1]⟩, ⟨(some 24), (.mv (.t 138)), none, [0, 0, 1, 2]⟩, ⟨(some 25), (.mv (.t 140)), none, [2, 3, 0, 1, 2, 3]⟩] false) (.seq (.reg [⟨(some 141), (.mv (.t 1)), none, []⟩, ⟨(some 142), (.mv (.t 24)), none, []⟩, ⟨(some 143), (.bin .shr (.t 141) (.t 142)), none, [0, 1]⟩, ⟨(some 144), (.bin .and (.t 143) (.c (.int .u8 1))), none, [2]⟩, ⟨(some 145), (.bin .eql (.t 144) (.c (.int .u8 1))), none, [3]⟩, ⟨(some 26), (.mv (.t 145)), none, [4, 0, 1, 2, 3, 4]⟩] false) (.seq (.reg [⟨(some 146), (.mv (.t 25)), none, []⟩, ⟨(some 147), (.bin .lss (.t 146) (.c (.int .i64 (-1)))), none, [0]⟩, ⟨(some 148), (.mv (.t 147)), none, [1]⟩, ⟨(some 149), (.mv (.t 25)), (some (148, false)), [2]⟩, ⟨(some 150), (.bin .gtr (.t 149) (.c (.int .i64 1))), (some (148, false)), [3, 2]⟩, ⟨(some 151), (.pick (.t 148) (.c (.bool true)) (.t 150)), none, [2, 4]⟩, ⟨(some 152), (.mv (.t 151)), none, [5, 2]⟩, ⟨(some 153), (.mv (.t 25)), (some (152, false)), [6]⟩, ⟨(some 154), (.bin .eql (.t 153) (.c (.int .i64 1))), (some (152, false)), [7, 6]⟩, ⟨(some 155), (.mv (.t 154)), (some (152, false)), [8, 6, 6]⟩, ⟨(some 156), (.mv (.t 26)), (some (155, true)), [9]⟩, ⟨(some 157), (.un .not (.t 156)), (some (155, true)), [10, 9]⟩, ⟨(some 158), (.pick (.t 155) (.t 157) (.c (.bool false))), (some (152, false)), [9, 11, 6]⟩, ⟨(some 159), (.pick (.t 152) (.c (.bool true)) (.t 158)), none, [6, 12]⟩, ⟨(some 160), (.mv (.t 159)), none, [13, 9]⟩, ⟨(some 161), (.mv (.t 25)), (some (160, false)), [14]⟩, ⟨(some 162), (.bin .eql (.t 161) (.c (.int .i64 (-1)))), (some (160, false)), [15, 14]⟩, ⟨(some 163), (.mv (.t 162)), (some (160, false)), [16, 14, 14]⟩, ⟨(some 164), (.mv (.t 26)), (some (163, true)), [17]⟩, ⟨(some 165), (.pick (.t 163) (.t 164) (.c (.bool false))), (some (160, false)), [17, 18, 14]⟩, ⟨(some 166), (.pick (.t 160) (.c (.bool true)) (.t 165)), none, [14, 19]⟩] false) (.cond (.t 166) (.seq (.reg [⟨(some 8), (.mv (.c (.bool false))), none, []⟩] false) .ret) .skip))))) (.reg [⟨(some 167), (.bin .add (.t 136) (.c (.int .i64 1))), none, []⟩, ⟨(some 136), (.mv (.t 167)), none, [0]⟩] false))))))) (.seq (.seq (.reg [⟨(some 168), (.mv (.t 22)), none, []⟩, ⟨(some 169), (.len (.t 168)), none, [0]⟩, ⟨(some 170), (.mv (.c (.int .i64 0))), none, []⟩] false) (.block 6 (.loop (.seq (.reg [⟨(some 171), (.bin .lss (.t 170) (.t 169)), none, []⟩] false) (.seq (.cond (.t 171) .skip (.exit 6)) (.seq (.block 7 (.seq (.reg [⟨(some 172), (.ixsl 1 (.t 168) (.t 170)), none, []⟩, ⟨(some 173), (.ld false 1 (.t 172)), none, [0]⟩, ⟨(some 28), (.mv (.t 173)), none, [1, 0, 1]⟩] false) (.seq (.reg [⟨(some 174), (.mv (.t 28)), none, []⟩, ⟨(some 175), (.bin .lss (.t 174) (.c (.int .i64 0))), none, [0]⟩, ⟨(some 176), (.mv (.t 175)), none, [1]⟩, ⟨(some 177), (.mv (.t 28)), (some (176, false)), [2]⟩, ⟨(some 178), (.bin .geq (.t 177) (.c (.int .i64 8))), (some (176, false)), [3, 2]⟩, ⟨(some 179), (.pick (.t 176) (.c (.bool true)) (.t 178)), none, [2, 4]⟩, ⟨(some 180), (.mv (.t 179)), none, [5, 2]⟩, ⟨(some 181), (.mv (.t 28)), (some (180, false)), [6]⟩, ⟨(some 182), (.ixarr 8 1 (.t 16) (.t 181)), (some (180, false)), [7, 6]⟩, ⟨(some 183), (.ld false 1 (.t 182)), (some (180, false)), [8, 6]⟩, ⟨(some 184), (.un .not (.t 183)), (some (180, false)), [9, 6]⟩, ⟨(some 185), (.pick (.t 180) (.c (.bool true)) (.t 184)), none, [6, 10]⟩] false) (.cond (.t 185) (.seq (.reg [⟨(some 8), (.mv (.c (.bool false))), none, []⟩] false) .ret) .skip)))) (.reg [⟨(some 186), (.bin .add (.t 170) (.c (.int .i64 1))), none, []⟩, ⟨(some 170), (.mv (.t 186)), none, [0]⟩] false))))))) (.seq (.reg [⟨(some 187), (.mv (.t 3)), none, []⟩, ⟨(some 188), (.mv (.t 11)), none, []⟩, ⟨(some 189), (.call 41 [(.t 187), (.t 188)]), none, [0, 1]⟩, ⟨(some 29), (.mv (.t 189)), none, [2, 2, 0, 1, 2]⟩] false) (.seq (.reg [⟨(some 190), (.mv (.t 29)), none, []⟩, ⟨(some 191), (.build [(.str (.mk (.mk []))), .nils, .nils] [(2, (1, (.t 190)))]), none, [0]⟩, ⟨(some 192), (.mv (.t 10)), none, []⟩, ⟨(some 193), (.mv (.t 12)), none, []⟩, ⟨(some 194), (.call 42 [(.t 191), (.t 192), (.t 193)]), none, [1, 2, 3]⟩, ⟨(some 30), (.mv (.t 194)), none, [4, 4, 0, 1, 2, 3, 4]⟩] false) (.seq (.seq (.reg [⟨(some 195), (.mv (.t 29)), none, []⟩, ⟨(some 196), (.mv (.t 1)), none, []⟩, ⟨(some 197), (.cvt .i64 (.t 196)), none, [1]⟩, ⟨(some 198), (.call 44 [(.t 195), (.t 197)]), none, [0, 2]⟩] false) (.cond (.t 198) (.seq (.reg [⟨(some 199), (.mv (.t 9)), none, []⟩, ⟨(some 200), (.mv (.t 199)), none, [0]⟩, ⟨(some 201), (.mv (.t 30)), (some (200, true)), [1]⟩, ⟨(some 202), (.bin .eql (.t 201) (.c (.int .i64 0))), (some (200, true)), [2, 1]⟩, ⟨(some 203), (.mv (.t 202)), (some (200, true)), [3, 1, 1]⟩, ⟨(some 204), (.mv (.t 30)), (some (203, false)), [4]⟩, ⟨(some 205), (.bin .eql (.t 204) (.c (.int .i64 5))), (some (203, false)), [5, 4]⟩, ⟨(some 206), (.pick (.t 203) (.c (.bool true)) (.t 205)), (some (200, true)), [4, 6, 1]⟩, ⟨(some 207), (.pick (.t 200) (.t 206) (.c (.bool false))), none, [1, 7]⟩, ⟨(some 8), (.mv (.t 207)), none, [8, 4, 0, 1, 2, 3, 4, 5, 6, 7, 8]⟩] false) .ret) .skip)) (.seq (.reg [⟨(some 208), (.mv (.t 9)), none, []⟩, ⟨(some 209), (.mv (.t 208)), none, [0]⟩, ⟨(some 210), (.mv (.t 30)), (some (209, true)), [1]⟩, ⟨(some 211), (.bin .eql (.t 210) (.c (.int .i64 35))), (some (209, true)), [2, 1]⟩, ⟨(some 212), (.mv (.t 211)), (some (209, true)), [3, 1, 1]⟩, ⟨(some 213), (.mv (.t 30)), (some (212, false)), [4]⟩, ⟨(some 214), (.bin .eql (.t 213) (.c (.int .i64 5))), (some (212, false)), [5, 4]⟩, ⟨(some 215), (.pick (.t 212) (.c (.bool true)) (.t 214)), (some (209, true)), [4, 6, 1]⟩, ⟨(some 216), (.pick (.t 209) (.t 215) (.c (.bool false))), none, [1, 7]⟩, ⟨(some 8), (.mv (.t 216)), none, [8, 4, 0, 1, 2, 3, 4, 5, 6, 7, 8]⟩] false) .ret)))))))))))))))))
theorem mcOk11 : (match Try.f11.body with | some c => compC Try.prog 217 c | none => none) = some mc11 := by kernel_rfl

theorem fc11 (L : List Int) (c5 l4 : Int) (t : Nat) (lr : Int) (ws : List Int) (ht : t < 256) (hlr : 0 ≤ lr ∧ lr < 256) (hws : ∀ x ∈ ws, 0 ≤ x ∧ x < 256) (hL : L.length ≤ 4611686018427387904) (hc : 0 ≤ c5 ∧ c5 < 256) (hl4 : 0 ≤ l4 ∧ l4 < 256) : FC Try.prog 11 [.agg [ints L, .int .u8 c5, .int .u8 l4], .int .u8 (t : Int), .int .u8 lr, .rs 1 (ws.map cu8)] [] (.bool true) [] false := by
  obtain ⟨n, m, R, hm, hmade⟩ := made_i L c5 l4 hL hc hl4
  have hn1 := hm.n1
  have hn5 := hm.n5
  have hm0 := hm.m0
  have hm3 := hm.m3
  have hlR := hm.lR
  obtain ⟨N, rfl⟩ : ∃ N : Nat, n = (N : Int) := ⟨n.toNat, by omega⟩
  refine fc_run (nt := 217) Try.func11 rfl rfl mcOk11 (Nat.le_of_ble_eq_true rfl) ?_
  delta mc11
  refine aw_seq ?_
  refine aw_reg ?_
  refine rs_box rfl rfl rfl rfl rfl rfl ?_
  refine rs_mv rfl rfl ?_
  refine rs_nil fun _ => ?_
  refine th_n ?_
  refine aw_seq ?_
  refine aw_reg ?_
  refine rs_calln [] rfl rfl fc31 .nil rfl ?_
  refine rs_mv rfl rfl ?_
  refine rs_nil fun _ => ?_
  refine th_n ?_
  refine aw_seq ?_
  refine aw_reg ?_
  first | refine rs_ld_pa rfl rfl rfl rfl (Nat.le_of_ble_eq_true rfl) rfl ?_ | refine rs_ld_ra rfl rfl (Nat.le_of_ble_eq_true rfl) rfl ?_ | refine rs_ld_ma rfl rfl rfl (by omega) (Nat.le_of_ble_eq_true rfl) rfl ?_
  refine rs_callo [] rfl rfl hmade (.cons (hv_same rfl) .nil) .nil rfl rfl rfl ?_
  refine rs_mv rfl rfl ?_
  refine rs_ext rfl rfl rfl ?_
  refine rs_ext rfl rfl rfl ?_
  refine rs_ext rfl rfl rfl ?_
  refine rs_mv rfl rfl ?_
  refine rs_mv rfl rfl ?_
  refine rs_mv rfl rfl ?_
  refine rs_nil fun _ => ?_
  refine th_n ?_
  refine aw_seq ?_
  refine aw_weak (F0 := [(1, .int .u8 (t : Int)), (2, .int .u8 lr), (3, .rs 1 (ws.map cu8)), (9, .bool true), (10, .sl 1005 0 R.length), (11, iv (N : Int)), (12, iv m)]) (H0 := [(1005, .cells 80 3 (R.map cS) true)]) (weak_to (.cons rfl (rc_same rfl (.inl rfl)) (.cons rfl (rc_same rfl (.inl rfl)) (.cons rfl (rc_same rfl (.inl rfl)) (.cons rfl (rc_same rfl (.inl rfl)) (.cons rfl (rc_same rfl (.inl rfl)) (.cons rfl (rc_same rfl (.inl rfl)) (.cons rfl (rc_same rfl (.inl rfl)) (.nil)))))))) (.keep (rfl) rfl (.nil)) (fun i h => by cases h)) ?_
  refine aw_reg ?_
  refine rs_build rfl rfl ?_
  refine rs_alloc rfl rfl rfl ?_
  refine rs_st (els' := [[.bool false, .bool false, .bool false, .bool false, .bool false, .bool false, .bool false, .bool false]]) (fl' := true) rfl rfl rfl rfl rfl rfl rfl (Nat.le_of_ble_eq_true rfl) rfl rfl ?_
  refine rs_nil fun _ => ?_
  refine th_n ?_
  refine aw_seq ?_
  refine aw_reg ?_
  refine rs_mv rfl rfl ?_
  refine rs_mv rfl rfl ?_
  refine rs_nil fun _ => ?_
  refine th_n ?_
  refine aw_seq ?_
  refine aw_seq ?_
  refine aw_reg ?_
  refine rs_mv rfl rfl ?_
  refine rs_nil fun _ => ?_
  refine th_n ?_
  refine aw_block ?_
  refine aw_fam (α := Nat × List Bool × Int) (fun a => 8 - a.1) (fun a => [(1, .int .u8 (t : Int)), (2, .int .u8 lr), (3, .rs 1 (ws.map cu8)), (9, .bool true), (10, .sl 1005 0 R.length), (11, iv (N : Int)), (12, iv m), (13, .ptr 13 0 0), (14, iv a.2.2), (40, iv (((a.1) : Nat) : Int))]) (fun a => [(1005, .cells 80 3 (R.map cS) true), (13, .cells 47 8 [(a.2.1).map AV.bool] true)]) (fun a => a.1 ≤ 8 ∧ a.2.1.length = 8 ∧ 0 ≤ a.2.2 ∧ (cntT a.2.1 a.1 : Int) + a.2.2 = m) (0, List.replicate 8 false, m) (⟨by simp, by simp, hm0, by simp [cntT]⟩)
    (weak_to (.cons rfl (rc_same rfl (.inl rfl)) (.cons rfl (rc_same rfl (.inl rfl)) (.cons rfl (rc_same rfl (.inl rfl)) (.cons rfl (rc_same rfl (.inl rfl)) (.cons rfl (rc_same rfl (.inl rfl)) (.cons rfl (rc_same rfl (.inl rfl)) (.cons rfl (rc_same rfl (.inl rfl)) (.cons rfl (rc_same rfl (.inl rfl)) (.cons rfl (rc_same rfl (.inl rfl)) (.cons rfl (rc_same rfl (.inl rfl)) (.nil))))))))))) (.keep (rfl) rfl (.keep (rfl) rfl (.nil))) (fun i h => by cases h)) ?_
  rintro ⟨k, bs, f⟩ ⟨hk, hbs, hf, hc⟩
  dsimp only at hk hbs hf hc ⊢
  refine aw_seq ?_
  refine aw_reg ?_
  refine rs_lss rfl rfl rfl ?_
  refine rs_nil fun _ => ?_
  refine th_n ?_
  refine aw_seq ?_
  refine aw_cond rfl (fun h41 => ?_) (fun h41 => ?_)
  · first | replace h41 := of_decide_eq_true h41 | skip
    refine aw_skip ?_
    refine th_n ?_
    refine aw_seq ?_
    refine aw_block ?_
    refine aw_seq ?_
    refine aw_reg ?_
    refine rs_mv rfl rfl ?_
    refine rs_mv rfl rfl ?_
    refine rs_nil fun _ => ?_
    refine th_n ?_
    refine aw_seq ?_
    refine aw_reg ?_
    refine rs_mv rfl rfl ?_
    refine rs_mv rfl rfl ?_
    refine rs_mv rfl rfl ?_
    refine rs_shr rfl rfl rfl (by omega) rfl ?_
    refine rs_and rfl rfl rfl rfl ?_
    refine rs_cmp rfl rfl rfl rfl (fun h48 => ?_) (fun h48 => ?_)
    · skip
      refine rs_mv rfl rfl ?_
      refine rs_mv rfl rfl ?_
      refine rs_cmp rfl rfl rfl rfl (fun h51 => ?_) (fun h51 => ?_)
      · skip
        refine rs_pick rfl rfl rfl ?_
        refine rs_ixarr_p rfl rfl rfl (by omega) (by omega) ?_
        refine rs_st_f (k := k) (y := true) rfl rfl rfl rfl rfl rfl rfl (by simp) (by omega) ?_
        refine rs_nil fun _ => ?_
        refine th_n ?_
        refine aw_seq ?_
        refine aw_reg ?_
        refine rs_mv rfl rfl ?_
        refine rs_ixarr_p rfl rfl rfl (by omega) (by omega) ?_
        refine rs_ld_f (k := k) (y := true) rfl rfl rfl (by simp) (List.getElem?_set_self (by omega)) ?_
        refine rs_nil fun _ => ?_
        refine th_n ?_
        refine aw_cond rfl (fun _ => ?_) (fun h => by cases h)
        refine aw_reg ?_
        refine rs_mv rfl rfl ?_
        first | refine rs_sub rfl rfl rfl (by omega) ?_ | refine rs_subw rfl rfl rfl rfl ?_
        refine rs_mv rfl rfl ?_
        refine rs_nil fun _ => ?_
        refine in_n ?_
        refine th_n ?_
        refine aw_reg ?_
        first | refine rs_add rfl rfl rfl (by omega) ?_ | refine rs_addw rfl rfl rfl rfl ?_
        refine rs_mv rfl rfl ?_
        refine rs_nil fun _ => ?_
        refine th_n ?_
        first
          | exact ⟨(k + 1, bs.set k false, f), ⟨by simp; omega, by simpa using hbs, hf, by simp [cntT_set (b := false) (show k < bs.length by omega)]; omega⟩, by simp; omega, weak_to (.cons rfl (rc_same rfl (.inl rfl)) (.cons rfl (rc_same rfl (.inl rfl)) (.cons rfl (rc_same rfl (.inl rfl)) (.cons rfl (rc_same rfl (.inl rfl)) (.cons rfl (rc_same rfl (.inl rfl)) (.cons rfl (rc_same rfl (.inl rfl)) (.cons rfl (rc_same rfl (.inl rfl)) (.cons rfl (rc_same rfl (.inl rfl)) (.cons rfl (rc_same rfl (.inl rfl)) (.cons rfl (rc_same rfl (.inl rfl)) (.nil))))))))))) (.keep (rfl) rfl (.keep (rfl) rfl (.nil))) (fun i h => by cases h)⟩
          | exact ⟨(k + 1, bs.set k true, f - 1), ⟨by simp; omega, by simpa using hbs, by simp; omega, by simp [cntT_set (b := true) (show k < bs.length by omega)]; omega⟩, by simp; omega, weak_to (.cons rfl (rc_same rfl (.inl rfl)) (.cons rfl (rc_same rfl (.inl rfl)) (.cons rfl (rc_same rfl (.inl rfl)) (.cons rfl (rc_same rfl (.inl rfl)) (.cons rfl (rc_same rfl (.inl rfl)) (.cons rfl (rc_same rfl (.inl rfl)) (.cons rfl (rc_same rfl (.inl rfl)) (.cons rfl (rc_same rfl (.inl rfl)) (.cons rfl (rc_same rfl (.inl rfl)) (.cons rfl (rc_same rfl (.inl rfl)) (.nil))))))))))) (.keep (rfl) rfl (.keep (rfl) rfl (.nil))) (fun i h => by cases h)⟩
      · skip
        refine rs_pick rfl rfl rfl ?_
        refine rs_ixarr_p rfl rfl rfl (by omega) (by omega) ?_
        refine rs_st_f (k := k) (y := false) rfl rfl rfl rfl rfl rfl rfl (by simp) (by omega) ?_
        refine rs_nil fun _ => ?_
        refine th_n ?_
        refine aw_seq ?_
        refine aw_reg ?_
        refine rs_mv rfl rfl ?_
        refine rs_ixarr_p rfl rfl rfl (by omega) (by omega) ?_
        refine rs_ld_f (k := k) (y := false) rfl rfl rfl (by simp) (List.getElem?_set_self (by omega)) ?_
        refine rs_nil fun _ => ?_
        refine th_n ?_
        refine aw_cond rfl (fun h => by cases h) (fun _ => ?_)
        refine aw_skip ?_
        refine in_n ?_
        refine th_n ?_
        refine aw_reg ?_
        first | refine rs_add rfl rfl rfl (by omega) ?_ | refine rs_addw rfl rfl rfl rfl ?_
        refine rs_mv rfl rfl ?_
        refine rs_nil fun _ => ?_
        refine th_n ?_
        first
          | exact ⟨(k + 1, bs.set k false, f), ⟨by simp; omega, by simpa using hbs, hf, by simp [cntT_set (b := false) (show k < bs.length by omega)]; omega⟩, by simp; omega, weak_to (.cons rfl (rc_same rfl (.inl rfl)) (.cons rfl (rc_same rfl (.inl rfl)) (.cons rfl (rc_same rfl (.inl rfl)) (.cons rfl (rc_same rfl (.inl rfl)) (.cons rfl (rc_same rfl (.inl rfl)) (.cons rfl (rc_same rfl (.inl rfl)) (.cons rfl (rc_same rfl (.inl rfl)) (.cons rfl (rc_same rfl (.inl rfl)) (.cons rfl (rc_same rfl (.inl rfl)) (.cons rfl (rc_same rfl (.inl rfl)) (.nil))))))))))) (.keep (rfl) rfl (.keep (rfl) rfl (.nil))) (fun i h => by cases h)⟩
          | exact ⟨(k + 1, bs.set k true, f - 1), ⟨by simp; omega, by simpa using hbs, by simp; omega, by simp [cntT_set (b := true) (show k < bs.length by omega)]; omega⟩, by simp; omega, weak_to (.cons rfl (rc_same rfl (.inl rfl)) (.cons rfl (rc_same rfl (.inl rfl)) (.cons rfl (rc_same rfl (.inl rfl)) (.cons rfl (rc_same rfl (.inl rfl)) (.cons rfl (rc_same rfl (.inl rfl)) (.cons rfl (rc_same rfl (.inl rfl)) (.cons rfl (rc_same rfl (.inl rfl)) (.cons rfl (rc_same rfl (.inl rfl)) (.cons rfl (rc_same rfl (.inl rfl)) (.cons rfl (rc_same rfl (.inl rfl)) (.nil))))))))))) (.keep (rfl) rfl (.keep (rfl) rfl (.nil))) (fun i h => by cases h)⟩
    · skip
      refine rs_mv rfl rfl ?_
      refine rs_skip rfl ?_
      refine rs_skip rfl ?_
      refine rs_pick rfl rfl rfl ?_
      refine rs_ixarr_p rfl rfl rfl (by omega) (by omega) ?_
      refine rs_st_f (k := k) (y := false) rfl rfl rfl rfl rfl rfl rfl (by simp) (by omega) ?_
      refine rs_nil fun _ => ?_
      refine th_n ?_
      refine aw_seq ?_
      refine aw_reg ?_
      refine rs_mv rfl rfl ?_
      refine rs_ixarr_p rfl rfl rfl (by omega) (by omega) ?_
      refine rs_ld_f (k := k) (y := false) rfl rfl rfl (by simp) (List.getElem?_set_self (by omega)) ?_
      refine rs_nil fun _ => ?_
      refine th_n ?_
      refine aw_cond rfl (fun h => by cases h) (fun _ => ?_)
      refine aw_skip ?_
      refine in_n ?_
      refine th_n ?_
      refine aw_reg ?_
      first | refine rs_add rfl rfl rfl (by omega) ?_ | refine rs_addw rfl rfl rfl rfl ?_
      refine rs_mv rfl rfl ?_
      refine rs_nil fun _ => ?_
      refine th_n ?_
      first
        | exact ⟨(k + 1, bs.set k false, f), ⟨by simp; omega, by simpa using hbs, hf, by simp [cntT_set (b := false) (show k < bs.length by omega)]; omega⟩, by simp; omega, weak_to (.cons rfl (rc_same rfl (.inl rfl)) (.cons rfl (rc_same rfl (.inl rfl)) (.cons rfl (rc_same rfl (.inl rfl)) (.cons rfl (rc_same rfl (.inl rfl)) (.cons rfl (rc_same rfl (.inl rfl)) (.cons rfl (rc_same rfl (.inl rfl)) (.cons rfl (rc_same rfl (.inl rfl)) (.cons rfl (rc_same rfl (.inl rfl)) (.cons rfl (rc_same rfl (.inl rfl)) (.cons rfl (rc_same rfl (.inl rfl)) (.nil))))))))))) (.keep (rfl) rfl (.keep (rfl) rfl (.nil))) (fun i h => by cases h)⟩
        | exact ⟨(k + 1, bs.set k true, f - 1), ⟨by simp; omega, by simpa using hbs, by simp; omega, by simp [cntT_set (b := true) (show k < bs.length by omega)]; omega⟩, by simp; omega, weak_to (.cons rfl (rc_same rfl (.inl rfl)) (.cons rfl (rc_same rfl (.inl rfl)) (.cons rfl (rc_same rfl (.inl rfl)) (.cons rfl (rc_same rfl (.inl rfl)) (.cons rfl (rc_same rfl (.inl rfl)) (.cons rfl (rc_same rfl (.inl rfl)) (.cons rfl (rc_same rfl (.inl rfl)) (.cons rfl (rc_same rfl (.inl rfl)) (.cons rfl (rc_same rfl (.inl rfl)) (.cons rfl (rc_same rfl (.inl rfl)) (.nil))))))))))) (.keep (rfl) rfl (.keep (rfl) rfl (.nil))) (fun i h => by cases h)⟩
  · first | replace h41 := of_decide_eq_false h41 | skip
    refine aw_exit ?_
    refine th_e ?_
    refine th_e ?_
    refine in_hit ?_
    refine th_n ?_
    refine aw_seq ?_
    obtain rfl : k = 8 := by omega
    refine aw_reg ?_
    refine rs_build rfl rfl ?_
    refine rs_alloc rfl rfl rfl ?_
    refine rs_st (els' := [[.bool false, .bool false, .bool false, .bool false, .bool false, .bool false, .bool false, .bool false]]) (fl' := true) rfl rfl rfl rfl rfl rfl rfl (Nat.le_of_ble_eq_true rfl) rfl rfl ?_
    refine rs_nil fun _ => ?_
    refine th_n ?_
    refine aw_seq ?_
    refine aw_seq ?_
    refine aw_reg ?_
    refine rs_mv rfl rfl ?_
    first | refine rs_len_m rfl rfl ?_ | refine rs_len_s rfl rfl ?_ | refine rs_len_n rfl rfl ?_ | refine rs_len_r rfl rfl rfl ?_
    refine rs_mv rfl rfl ?_
    refine rs_nil fun _ => ?_
    refine th_n ?_
    refine aw_block ?_
    refine aw_fam (α := Nat × List Sg × List Bool) (fun a => R.length - a.1) (fun a => [(1, .int .u8 (t : Int)), (2, .int .u8 lr), (3, .rs 1 (ws.map cu8)), (9, .bool true), (10, .sl 1005 0 R.length), (11, iv (N : Int)), (12, iv m), (13, .ptr 13 0 0), (16, .ptr 16 0 0), (61, .sl 1005 0 R.length), (62, iv (R.length : Int)), (63, iv (((a.1) : Nat) : Int))]) (fun a => [(1005, .cells 80 3 ((a.2.1).map cS) true), (13, .cells 47 8 [bs.map AV.bool] true), (16, .cells 47 8 [(a.2.2).map AV.bool] true)]) (fun a => FixI (N : Int) R.length (fun c => hasS t c) bs a.1 a.2.1 a.2.2) (0, R, List.replicate 8 false) (⟨by simp, rfl, by simp, hm.sg, fun j r hj => by simp at hj⟩)
      (weak_to (.cons rfl (rc_same rfl (.inl rfl)) (.cons rfl (rc_same rfl (.inl rfl)) (.cons rfl (rc_same rfl (.inl rfl)) (.cons rfl (rc_same rfl (.inl rfl)) (.cons rfl (rc_same rfl (.inl rfl)) (.cons rfl (rc_same rfl (.inl rfl)) (.cons rfl (rc_same rfl (.inl rfl)) (.cons rfl (rc_same rfl (.inl rfl)) (.cons rfl (rc_same rfl (.inl rfl)) (.cons rfl (rc_same rfl (.inl rfl)) (.cons rfl (rc_same rfl (.inl rfl)) (.cons rfl (rc_same rfl (.inl rfl)) (.nil))))))))))))) (.keep (rfl) rfl (.keep (rfl) rfl (.keep (rfl) rfl (.nil)))) (fun i h => by cases h)) ?_
    rintro ⟨k, L, W⟩ hx
    dsimp only at hx ⊢
    have hkN := hx.le
    refine aw_seq ?_
    refine aw_reg ?_
    refine rs_lss rfl rfl rfl ?_
    refine rs_nil fun _ => ?_
    refine th_n ?_
    refine aw_seq ?_
    refine aw_cond rfl (fun h64 => ?_) (fun h64 => ?_)
    · first | replace h64 := of_decide_eq_true h64 | skip
      refine aw_skip ?_
      refine th_n ?_
      refine aw_seq ?_
      refine aw_block ?_
      refine aw_seq ?_
      refine aw_reg ?_
      obtain ⟨r, hr, hrm⟩ := at_some (L := L) (k := k) (by have := hx.len; omega)
      have hrk := hx.sg r hrm
      have hLl := hx.len
      obtain ⟨b, hbk, _⟩ := at_some (L := bs) (k := r.gauge.toNat) (by omega)
      obtain ⟨c, hcc⟩ : ∃ c : Nat, r.cell = (c : Int) := ⟨r.cell.toNat, by omega⟩
      have hcn : r.cell.toNat = c := by omega
      refine rs_mv rfl rfl ?_
      refine rs_mv rfl rfl ?_
      refine rs_nil fun _ => ?_
      refine th_n ?_
      refine aw_seq ?_
      refine aw_reg ?_
      refine rs_mv rfl rfl ?_
      refine rs_mv rfl rfl ?_
      refine rs_ix_sm (t := k) rfl rfl rfl rfl (by omega) ?_
      refine rs_mv rfl rfl ?_
      refine rs_nil fun _ => ?_
      refine th_n ?_
      refine aw_seq ?_
      refine aw_reg ?_
      refine rs_mv rfl rfl ?_
      refine rs_mv rfl rfl ?_
      first | refine rs_nilc_p rfl rfl ?_ | refine rs_nilc_r rfl rfl ?_
      first | refine rs_fa_p rfl rfl ?_ | refine rs_fa_r rfl rfl rfl ?_
      refine rs_ld_g (v := iv (c : Int)) rfl rfl rfl hr (by rw [← hcc]; rfl) ?_
      refine rs_shr rfl rfl rfl (by omega) rfl ?_
      refine rs_and rfl rfl rfl rfl ?_
      refine rs_eql rfl rfl rfl ?_
      rw [show decide (bits .and .u8 (((t : Nat) : Int).fdiv (2 ^ min (((c) : Nat) : Int).toNat IntKind.u8.bits)) 1 = 1) = hasS t (c) from has_bits_u8 t ht (c) (by omega)]
      refine rs_mv rfl rfl ?_
      refine rs_nil fun _ => ?_
      refine th_n ?_
      refine aw_seq ?_
      refine aw_seq ?_
      refine aw_reg ?_
      refine rs_mv rfl rfl ?_
      first | refine rs_nilc_p rfl rfl ?_ | refine rs_nilc_r rfl rfl ?_
      first | refine rs_fa_p rfl rfl ?_ | refine rs_fa_r rfl rfl rfl ?_
      refine rs_ld_g rfl rfl rfl hr rfl ?_
      refine rs_ixarr_p rfl rfl rfl (by omega) (by omega) ?_
      refine rs_ld_f (k := r.gauge.toNat) rfl rfl rfl (by simp) hbk ?_
      refine rs_not rfl rfl ?_
      refine rs_nil fun _ => ?_
      refine th_n ?_
      refine aw_cond rfl (fun h83 => ?_) (fun h83 => ?_)
      · first | replace h83 := of_decide_eq_true h83 | skip
        refine aw_reg ?_
        refine rs_mv rfl rfl ?_
        refine rs_mv rfl rfl ?_
        first | refine rs_nilc_p rfl rfl ?_ | refine rs_nilc_r rfl rfl ?_
        first | refine rs_fa_p rfl rfl ?_ | refine rs_fa_r rfl rfl rfl ?_
        refine rs_st_m (v := ⟨r.gauge, r.cell, hasS t c⟩) (fl' := true) rfl rfl rfl rfl (by omega) rfl rfl (Nat.le_of_ble_eq_true rfl) (by rw [(List.getElem?_eq_some_iff.1 hr).2]; rfl) rfl ?_
        refine rs_nil fun _ => ?_
        refine th_n ?_
        obtain ⟨L2, hL2, hfx⟩ : ∃ L2, L.set k ⟨r.gauge, r.cell, hasS t c⟩ = L2 ∧ FxI (N : Int) (fun c => hasS t c) bs L k L2 := ⟨_, rfl, (by have := fixI_t (T := fun c => hasS t c) (bs := bs) hx.sg hr; rw [hcn] at this; exact this)⟩
        obtain ⟨q, hr2, _⟩ := at_some (L := L2) (k := k) (by have := hfx.len; omega)
        have hqk := hfx.sg q (mem_of_at hr2)
        have hW8 := hx.lenW
        obtain ⟨w, hwk, _⟩ := at_some (L := W) (k := q.gauge.toNat) (by omega)
        have hqc : hasS t q.cell.toNat = hasS t c := (by subst hL2; rw [List.getElem?_set_self (by omega)] at hr2; injection hr2 with hr2; subst hr2; rw [hcn])
        refine aw_weak (F0 := [(1, .int .u8 (t : Int)), (2, .int .u8 lr), (3, .rs 1 (ws.map cu8)), (9, .bool true), (10, .sl 1005 0 R.length), (11, iv (N : Int)), (12, iv m), (13, .ptr 13 0 0), (16, .ptr 16 0 0), (61, .sl 1005 0 R.length), (62, iv (R.length : Int)), (63, iv (((k) : Nat) : Int)), (18, .ptr 1005 k 0), (19, .bool (hasS t c))]) (H0 := [(1005, .cells 80 3 ((L2).map cS) true), (13, .cells 47 8 [bs.map AV.bool] true), (16, .cells 47 8 [(W).map AV.bool] true)]) (weak_to (.cons rfl (rc_same rfl (.inl rfl)) (.cons rfl (rc_same rfl (.inl rfl)) (.cons rfl (rc_same rfl (.inl rfl)) (.cons rfl (rc_same rfl (.inl rfl)) (.cons rfl (rc_same rfl (.inl rfl)) (.cons rfl (rc_same rfl (.inl rfl)) (.cons rfl (rc_same rfl (.inl rfl)) (.cons rfl (rc_same rfl (.inl rfl)) (.cons rfl (rc_same rfl (.inl rfl)) (.cons rfl (rc_same rfl (.inl rfl)) (.cons rfl (rc_same rfl (.inl rfl)) (.cons rfl (rc_same rfl (.inl rfl)) (.cons rfl (rc_same rfl (.inl rfl)) (.cons rfl (rc_same rfl (.inl rfl)) (.nil))))))))))))))) (.keep ((by rw [← hL2]; rfl)) rfl (.keep (rfl) rfl (.keep (rfl) rfl (.nil)))) (fun i h => by cases h)) ?_
        
        refine aw_draw hmix ?_
        refine rs_mv rfl rfl ?_
        first | refine rs_nilc_p rfl rfl ?_ | refine rs_nilc_r rfl rfl ?_
        first | refine rs_fa_p rfl rfl ?_ | refine rs_fa_r rfl rfl rfl ?_
        refine rs_ld_g rfl rfl rfl hr2 rfl ?_
        refine rs_mv rfl rfl ?_
        first | refine rs_nilc_p rfl rfl ?_ | refine rs_nilc_r rfl rfl ?_
        first | refine rs_fa_p rfl rfl ?_ | refine rs_fa_r rfl rfl rfl ?_
        refine rs_ld_g rfl rfl rfl hr2 rfl ?_
        refine rs_ixarr_p rfl rfl rfl (by omega) (by omega) ?_
        refine rs_ld_f (k := q.gauge.toNat) rfl rfl rfl (by simp) hwk ?_
        refine rs_mv rfl rfl ?_
        cases h98 : w
        · skip
          refine rs_mv rfl rfl ?_
          first | refine rs_nilc_p rfl rfl ?_ | refine rs_nilc_r rfl rfl ?_
          first | refine rs_fa_p rfl rfl ?_ | refine rs_fa_r rfl rfl rfl ?_
          refine rs_ld_g rfl rfl rfl hr2 rfl ?_
          refine rs_mv rfl rfl ?_
          refine rs_beq rfl rfl rfl ?_
          refine rs_pick rfl rfl rfl ?_
          refine rs_ixarr_p rfl rfl rfl (by omega) (by omega) ?_
          refine rs_st_f (k := q.gauge.toNat) (y := (true != (q.there == hasS t c))) rfl rfl rfl rfl rfl rfl rfl (by simp) (by omega) ?_
          refine rs_nil ⟨by kernel_rfl, fun _ => ?_⟩
          refine in_n ?_
          refine th_n ?_
          refine aw_reg ?_
          first | refine rs_add rfl rfl rfl (by omega) ?_ | refine rs_addw rfl rfl rfl rfl ?_
          refine rs_mv rfl rfl ?_
          refine rs_nil fun _ => ?_
          refine th_n ?_
          first
            | exact ⟨(k + 1, L2, W.set q.gauge.toNat true), fixI_end hx (by omega) hfx hr2 hwk (by rw [h98]; rfl), by simp; omega, weak_to (.cons rfl (rc_same rfl (.inl rfl)) (.cons rfl (rc_same rfl (.inl rfl)) (.cons rfl (rc_same rfl (.inl rfl)) (.cons rfl (rc_same rfl (.inl rfl)) (.cons rfl (rc_same rfl (.inl rfl)) (.cons rfl (rc_same rfl (.inl rfl)) (.cons rfl (rc_same rfl (.inl rfl)) (.cons rfl (rc_same rfl (.inl rfl)) (.cons rfl (rc_same rfl (.inl rfl)) (.cons rfl (rc_same rfl (.inl rfl)) (.cons rfl (rc_same rfl (.inl rfl)) (.cons rfl (rc_same rfl (.inl rfl)) (.nil))))))))))))) (.keep (rfl) rfl (.keep (rfl) rfl (.keep (rfl) rfl (.nil)))) (fun i h => by cases h)⟩
            | exact ⟨(k + 1, L2, W.set q.gauge.toNat (true != (q.there == hasS t c))), fixI_end hx (by omega) hfx hr2 hwk (by rw [h98, hqc]; cases q.there <;> cases hasS t c <;> rfl), by simp; omega, weak_to (.cons rfl (rc_same rfl (.inl rfl)) (.cons rfl (rc_same rfl (.inl rfl)) (.cons rfl (rc_same rfl (.inl rfl)) (.cons rfl (rc_same rfl (.inl rfl)) (.cons rfl (rc_same rfl (.inl rfl)) (.cons rfl (rc_same rfl (.inl rfl)) (.cons rfl (rc_same rfl (.inl rfl)) (.cons rfl (rc_same rfl (.inl rfl)) (.cons rfl (rc_same rfl (.inl rfl)) (.cons rfl (rc_same rfl (.inl rfl)) (.cons rfl (rc_same rfl (.inl rfl)) (.cons rfl (rc_same rfl (.inl rfl)) (.nil))))))))))))) (.keep (rfl) rfl (.keep (rfl) rfl (.keep (rfl) rfl (.nil)))) (fun i h => by cases h)⟩
        · skip
          refine rs_skip rfl ?_
          refine rs_skip rfl ?_
          refine rs_skip rfl ?_
          refine rs_skip rfl ?_
          refine rs_skip rfl ?_
          refine rs_skip rfl ?_
          refine rs_pick rfl rfl rfl ?_
          refine rs_ixarr_p rfl rfl rfl (by omega) (by omega) ?_
          refine rs_st_f (k := q.gauge.toNat) (y := true) rfl rfl rfl rfl rfl rfl rfl (by simp) (by omega) ?_
          refine rs_nil ⟨by kernel_rfl, fun _ => ?_⟩
          refine in_n ?_
          refine th_n ?_
          refine aw_reg ?_
          first | refine rs_add rfl rfl rfl (by omega) ?_ | refine rs_addw rfl rfl rfl rfl ?_
          refine rs_mv rfl rfl ?_
          refine rs_nil fun _ => ?_
          refine th_n ?_
          first
            | exact ⟨(k + 1, L2, W.set q.gauge.toNat true), fixI_end hx (by omega) hfx hr2 hwk (by rw [h98]; rfl), by simp; omega, weak_to (.cons rfl (rc_same rfl (.inl rfl)) (.cons rfl (rc_same rfl (.inl rfl)) (.cons rfl (rc_same rfl (.inl rfl)) (.cons rfl (rc_same rfl (.inl rfl)) (.cons rfl (rc_same rfl (.inl rfl)) (.cons rfl (rc_same rfl (.inl rfl)) (.cons rfl (rc_same rfl (.inl rfl)) (.cons rfl (rc_same rfl (.inl rfl)) (.cons rfl (rc_same rfl (.inl rfl)) (.cons rfl (rc_same rfl (.inl rfl)) (.cons rfl (rc_same rfl (.inl rfl)) (.cons rfl (rc_same rfl (.inl rfl)) (.nil))))))))))))) (.keep (rfl) rfl (.keep (rfl) rfl (.keep (rfl) rfl (.nil)))) (fun i h => by cases h)⟩
            | exact ⟨(k + 1, L2, W.set q.gauge.toNat (true != (q.there == hasS t c))), fixI_end hx (by omega) hfx hr2 hwk (by rw [h98, hqc]; cases q.there <;> cases hasS t c <;> rfl), by simp; omega, weak_to (.cons rfl (rc_same rfl (.inl rfl)) (.cons rfl (rc_same rfl (.inl rfl)) (.cons rfl (rc_same rfl (.inl rfl)) (.cons rfl (rc_same rfl (.inl rfl)) (.cons rfl (rc_same rfl (.inl rfl)) (.cons rfl (rc_same rfl (.inl rfl)) (.cons rfl (rc_same rfl (.inl rfl)) (.cons rfl (rc_same rfl (.inl rfl)) (.cons rfl (rc_same rfl (.inl rfl)) (.cons rfl (rc_same rfl (.inl rfl)) (.cons rfl (rc_same rfl (.inl rfl)) (.cons rfl (rc_same rfl (.inl rfl)) (.nil))))))))))))) (.keep (rfl) rfl (.keep (rfl) rfl (.keep (rfl) rfl (.nil)))) (fun i h => by cases h)⟩
      · first | replace h83 := of_decide_eq_false h83 | skip
        refine aw_skip ?_
        refine th_n ?_
        obtain ⟨L2, hL2, hfx⟩ : ∃ L2, L = L2 ∧ FxI (N : Int) (fun c => hasS t c) bs L k L2 := ⟨_, rfl, (fixI_f hx.sg hr (by rw [hbk]; simpa using h83))⟩
        obtain ⟨q, hr2, _⟩ := at_some (L := L2) (k := k) (by have := hfx.len; omega)
        have hqk := hfx.sg q (mem_of_at hr2)
        have hW8 := hx.lenW
        obtain ⟨w, hwk, _⟩ := at_some (L := W) (k := q.gauge.toNat) (by omega)
        have hqc : hasS t q.cell.toNat = hasS t c := (by subst hL2; rw [hr] at hr2; injection hr2 with hr2; subst hr2; rw [hcn])
        refine aw_weak (F0 := [(1, .int .u8 (t : Int)), (2, .int .u8 lr), (3, .rs 1 (ws.map cu8)), (9, .bool true), (10, .sl 1005 0 R.length), (11, iv (N : Int)), (12, iv m), (13, .ptr 13 0 0), (16, .ptr 16 0 0), (61, .sl 1005 0 R.length), (62, iv (R.length : Int)), (63, iv (((k) : Nat) : Int)), (18, .ptr 1005 k 0), (19, .bool (hasS t c))]) (H0 := [(1005, .cells 80 3 ((L2).map cS) true), (13, .cells 47 8 [bs.map AV.bool] true), (16, .cells 47 8 [(W).map AV.bool] true)]) (weak_to (.cons rfl (rc_same rfl (.inl rfl)) (.cons rfl (rc_same rfl (.inl rfl)) (.cons rfl (rc_same rfl (.inl rfl)) (.cons rfl (rc_same rfl (.inl rfl)) (.cons rfl (rc_same rfl (.inl rfl)) (.cons rfl (rc_same rfl (.inl rfl)) (.cons rfl (rc_same rfl (.inl rfl)) (.cons rfl (rc_same rfl (.inl rfl)) (.cons rfl (rc_same rfl (.inl rfl)) (.cons rfl (rc_same rfl (.inl rfl)) (.cons rfl (rc_same rfl (.inl rfl)) (.cons rfl (rc_same rfl (.inl rfl)) (.cons rfl (rc_same rfl (.inl rfl)) (.cons rfl (rc_same rfl (.inl rfl)) (.nil))))))))))))))) (.keep ((by rw [← hL2]; rfl)) rfl (.keep (rfl) rfl (.keep (rfl) rfl (.nil)))) (fun i h => by cases h)) ?_
        
        refine aw_draw hmix ?_
        refine rs_mv rfl rfl ?_
        first | refine rs_nilc_p rfl rfl ?_ | refine rs_nilc_r rfl rfl ?_
        first | refine rs_fa_p rfl rfl ?_ | refine rs_fa_r rfl rfl rfl ?_
        refine rs_ld_g rfl rfl rfl hr2 rfl ?_
        refine rs_mv rfl rfl ?_
        first | refine rs_nilc_p rfl rfl ?_ | refine rs_nilc_r rfl rfl ?_
        first | refine rs_fa_p rfl rfl ?_ | refine rs_fa_r rfl rfl rfl ?_
        refine rs_ld_g rfl rfl rfl hr2 rfl ?_
        refine rs_ixarr_p rfl rfl rfl (by omega) (by omega) ?_
        refine rs_ld_f (k := q.gauge.toNat) rfl rfl rfl (by simp) hwk ?_
        refine rs_mv rfl rfl ?_
        cases h98 : w
        · skip
          refine rs_mv rfl rfl ?_
          first | refine rs_nilc_p rfl rfl ?_ | refine rs_nilc_r rfl rfl ?_
          first | refine rs_fa_p rfl rfl ?_ | refine rs_fa_r rfl rfl rfl ?_
          refine rs_ld_g rfl rfl rfl hr2 rfl ?_
          refine rs_mv rfl rfl ?_
          refine rs_beq rfl rfl rfl ?_
          refine rs_pick rfl rfl rfl ?_
          refine rs_ixarr_p rfl rfl rfl (by omega) (by omega) ?_
          refine rs_st_f (k := q.gauge.toNat) (y := (true != (q.there == hasS t c))) rfl rfl rfl rfl rfl rfl rfl (by simp) (by omega) ?_
          refine rs_nil ⟨by kernel_rfl, fun _ => ?_⟩
          refine in_n ?_
          refine th_n ?_
          refine aw_reg ?_
          first | refine rs_add rfl rfl rfl (by omega) ?_ | refine rs_addw rfl rfl rfl rfl ?_
          refine rs_mv rfl rfl ?_
          refine rs_nil fun _ => ?_
          refine th_n ?_
          first
            | exact ⟨(k + 1, L2, W.set q.gauge.toNat true), fixI_end hx (by omega) hfx hr2 hwk (by rw [h98]; rfl), by simp; omega, weak_to (.cons rfl (rc_same rfl (.inl rfl)) (.cons rfl (rc_same rfl (.inl rfl)) (.cons rfl (rc_same rfl (.inl rfl)) (.cons rfl (rc_same rfl (.inl rfl)) (.cons rfl (rc_same rfl (.inl rfl)) (.cons rfl (rc_same rfl (.inl rfl)) (.cons rfl (rc_same rfl (.inl rfl)) (.cons rfl (rc_same rfl (.inl rfl)) (.cons rfl (rc_same rfl (.inl rfl)) (.cons rfl (rc_same rfl (.inl rfl)) (.cons rfl (rc_same rfl (.inl rfl)) (.cons rfl (rc_same rfl (.inl rfl)) (.nil))))))))))))) (.keep (rfl) rfl (.keep (rfl) rfl (.keep (rfl) rfl (.nil)))) (fun i h => by cases h)⟩
            | exact ⟨(k + 1, L2, W.set q.gauge.toNat (true != (q.there == hasS t c))), fixI_end hx (by omega) hfx hr2 hwk (by rw [h98, hqc]; cases q.there <;> cases hasS t c <;> rfl), by simp; omega, weak_to (.cons rfl (rc_same rfl (.inl rfl)) (.cons rfl (rc_same rfl (.inl rfl)) (.cons rfl (rc_same rfl (.inl rfl)) (.cons rfl (rc_same rfl (.inl rfl)) (.cons rfl (rc_same rfl (.inl rfl)) (.cons rfl (rc_same rfl (.inl rfl)) (.cons rfl (rc_same rfl (.inl rfl)) (.cons rfl (rc_same rfl (.inl rfl)) (.cons rfl (rc_same rfl (.inl rfl)) (.cons rfl (rc_same rfl (.inl rfl)) (.cons rfl (rc_same rfl (.inl rfl)) (.cons rfl (rc_same rfl (.inl rfl)) (.nil))))))))))))) (.keep (rfl) rfl (.keep (rfl) rfl (.keep (rfl) rfl (.nil)))) (fun i h => by cases h)⟩
        · skip
          refine rs_skip rfl ?_
          refine rs_skip rfl ?_
          refine rs_skip rfl ?_
          refine rs_skip rfl ?_
          refine rs_skip rfl ?_
          refine rs_skip rfl ?_
          refine rs_pick rfl rfl rfl ?_
          refine rs_ixarr_p rfl rfl rfl (by omega) (by omega) ?_
          refine rs_st_f (k := q.gauge.toNat) (y := true) rfl rfl rfl rfl rfl rfl rfl (by simp) (by omega) ?_
          refine rs_nil ⟨by kernel_rfl, fun _ => ?_⟩
          refine in_n ?_
          refine th_n ?_
          refine aw_reg ?_
          first | refine rs_add rfl rfl rfl (by omega) ?_ | refine rs_addw rfl rfl rfl rfl ?_
          refine rs_mv rfl rfl ?_
          refine rs_nil fun _ => ?_
          refine th_n ?_
          first
            | exact ⟨(k + 1, L2, W.set q.gauge.toNat true), fixI_end hx (by omega) hfx hr2 hwk (by rw [h98]; rfl), by simp; omega, weak_to (.cons rfl (rc_same rfl (.inl rfl)) (.cons rfl (rc_same rfl (.inl rfl)) (.cons rfl (rc_same rfl (.inl rfl)) (.cons rfl (rc_same rfl (.inl rfl)) (.cons rfl (rc_same rfl (.inl rfl)) (.cons rfl (rc_same rfl (.inl rfl)) (.cons rfl (rc_same rfl (.inl rfl)) (.cons rfl (rc_same rfl (.inl rfl)) (.cons rfl (rc_same rfl (.inl rfl)) (.cons rfl (rc_same rfl (.inl rfl)) (.cons rfl (rc_same rfl (.inl rfl)) (.cons rfl (rc_same rfl (.inl rfl)) (.nil))))))))))))) (.keep (rfl) rfl (.keep (rfl) rfl (.keep (rfl) rfl (.nil)))) (fun i h => by cases h)⟩
            | exact ⟨(k + 1, L2, W.set q.gauge.toNat (true != (q.there == hasS t c))), fixI_end hx (by omega) hfx hr2 hwk (by rw [h98, hqc]; cases q.there <;> cases hasS t c <;> rfl), by simp; omega, weak_to (.cons rfl (rc_same rfl (.inl rfl)) (.cons rfl (rc_same rfl (.inl rfl)) (.cons rfl (rc_same rfl (.inl rfl)) (.cons rfl (rc_same rfl (.inl rfl)) (.cons rfl (rc_same rfl (.inl rfl)) (.cons rfl (rc_same rfl (.inl rfl)) (.cons rfl (rc_same rfl (.inl rfl)) (.cons rfl (rc_same rfl (.inl rfl)) (.cons rfl (rc_same rfl (.inl rfl)) (.cons rfl (rc_same rfl (.inl rfl)) (.cons rfl (rc_same rfl (.inl rfl)) (.cons rfl (rc_same rfl (.inl rfl)) (.nil))))))))))))) (.keep (rfl) rfl (.keep (rfl) rfl (.keep (rfl) rfl (.nil)))) (fun i h => by cases h)⟩
    · first | replace h64 := of_decide_eq_false h64 | skip
      refine aw_exit ?_
      refine th_e ?_
      refine th_e ?_
      refine in_hit ?_
      refine th_n ?_
      refine aw_seq ?_
      obtain rfl : k = R.length := by omega
      obtain ⟨K, Ls, v, c112, c119, c194, hlK, hlL, hK, hLs, hg1, hg0⟩ := truthI_calls hm hbs hf hc hx ws
      refine aw_weak (F0 := [(1, .int .u8 (t : Int)), (3, .rs 1 (ws.map cu8)), (9, .bool true), (11, iv (N : Int)), (12, iv m), (16, .ptr 16 0 0), (10, .rs 3 (L.map cS))]) (H0 := [(16, .cells 47 8 [W.map AV.bool] true)]) (weak_to (.cons rfl (rc_same rfl (.inl rfl)) (.cons rfl (rc_same rfl (.inl rfl)) (.cons rfl (rc_same rfl (.inl rfl)) (.cons rfl (rc_same rfl (.inl rfl)) (.cons rfl (rc_same rfl (.inl rfl)) (.cons rfl (rc_same rfl (.inl rfl)) (.cons rfl (rc_frz rfl rfl hx.len (fun _ => rfl)) (.nil)))))))) (.keep (rfl) rfl (.nil)) (fun i h => by cases h)) ?_
      refine aw_reg ?_
      refine rs_mv rfl rfl ?_
      refine rs_mv rfl rfl ?_
      refine rs_mv rfl rfl ?_
      refine rs_calln [] rfl rfl (c112) (.cons (hv_same rfl) (.cons (hv_same rfl) (.cons (hv_same rfl) (.nil)))) rfl ?_
      refine rs_mv rfl rfl ?_
      refine rs_ext rfl rfl rfl ?_
      refine rs_ext rfl rfl rfl ?_
      refine rs_mv rfl rfl ?_
      refine rs_mv rfl rfl ?_
      refine rs_nil fun _ => ?_
      refine th_n ?_
      refine aw_seq ?_
      refine aw_reg ?_
      refine rs_mv rfl rfl ?_
      refine rs_mv rfl rfl ?_
      refine rs_mv rfl rfl ?_
      refine rs_calln [] rfl rfl (c119) (.cons (hv_same rfl) (.cons (hv_same rfl) (.cons (hv_same rfl) (.nil)))) rfl ?_
      refine rs_mv rfl rfl ?_
      refine rs_ext rfl rfl rfl ?_
      refine rs_ext rfl rfl rfl ?_
      refine rs_mv rfl rfl ?_
      refine rs_mv rfl rfl ?_
      refine rs_nil fun _ => ?_
      refine th_n ?_
      refine aw_seq ?_
      refine aw_seq ?_
      refine aw_reg ?_
      refine rs_mv rfl rfl ?_
      refine rs_cmp_f rfl rfl rfl rfl (fun h => h rfl) ?_
      refine rs_mv rfl rfl ?_
      refine rs_mv rfl rfl ?_
      refine rs_cmp_f rfl rfl rfl rfl (fun h => h rfl) ?_
      refine rs_pick rfl rfl rfl ?_
      refine rs_mv rfl rfl ?_
      refine rs_mv rfl rfl ?_
      first | refine rs_len_m rfl rfl ?_ | refine rs_len_s rfl rfl ?_ | refine rs_len_n rfl rfl ?_ | refine rs_len_r rfl rfl rfl ?_
      refine rs_mv rfl rfl ?_
      refine rs_cmp_f rfl rfl rfl rfl (by omega) ?_
      refine rs_pick rfl rfl rfl ?_
      refine rs_nil fun _ => ?_
      refine th_n ?_
      refine aw_cond rfl (fun h => by cases h) (fun _ => ?_)
      refine aw_skip ?_
      refine th_n ?_
      refine aw_seq ?_
      refine aw_seq ?_
      refine aw_reg ?_
      refine rs_mv rfl rfl ?_
      first | refine rs_len_m rfl rfl ?_ | refine rs_len_s rfl rfl ?_ | refine rs_len_n rfl rfl ?_ | refine rs_len_r rfl rfl rfl ?_
      refine rs_mv rfl rfl ?_
      refine rs_nil fun _ => ?_
      refine th_n ?_
      refine aw_block ?_
      refine aw_fam (α := Nat) (fun k => K.length - k) (fun k => [(1, .int .u8 (t : Int)), (3, .rs 1 (ws.map cu8)), (9, .bool true), (11, iv (N : Int)), (12, iv m), (16, .ptr 16 0 0), (10, .rs 3 (L.map cS)), (22, ints Ls), (134, ints K), (135, iv (K.length : Int)), (136, iv (((k) : Nat) : Int))]) (fun k => [(16, .cells 47 8 [W.map AV.bool] true)]) (fun k => k ≤ K.length) 0 (by omega)
        (weak_to (.cons rfl (rc_same rfl (.inl rfl)) (.cons rfl (rc_same rfl (.inl rfl)) (.cons rfl (rc_same rfl (.inl rfl)) (.cons rfl (rc_same rfl (.inl rfl)) (.cons rfl (rc_same rfl (.inl rfl)) (.cons rfl (rc_same rfl (.inl rfl)) (.cons rfl (rc_same rfl (.inl rfl)) (.cons rfl (rc_same rfl (.inl rfl)) (.cons rfl (rc_same rfl (.inl rfl)) (.cons rfl (rc_same rfl (.inl rfl)) (.cons rfl (rc_same rfl (.inl rfl)) (.nil)))))))))))) (.keep (rfl) rfl (.nil)) (fun i h => by cases h)) ?_
      intro k hk
      refine aw_seq ?_
      refine aw_reg ?_
      refine rs_lss rfl rfl rfl ?_
      refine rs_nil fun _ => ?_
      refine th_n ?_
      refine aw_seq ?_
      refine aw_cond rfl (fun h137 => ?_) (fun h137 => ?_)
      · first | replace h137 := of_decide_eq_true h137 | skip
        refine aw_skip ?_
        refine th_n ?_
        refine aw_seq ?_
        refine aw_block ?_
        refine aw_seq ?_
        refine aw_reg ?_
        obtain ⟨x, hkx, _⟩ := at_some (L := K) (k := k) (by omega)
        obtain ⟨x1, x2, x3, x4⟩ := hK k x hkx
        refine rs_mv rfl rfl ?_
        refine rs_ix_g rfl rfl rfl (by omega) hkx ?_
        refine rs_ld_r rfl rfl rfl ?_
        refine rs_mv rfl rfl ?_
        refine rs_mv rfl rfl ?_
        refine rs_nil fun _ => ?_
        refine th_n ?_
        refine aw_seq ?_
        refine aw_reg ?_
        refine rs_mv rfl rfl ?_
        refine rs_mv rfl rfl ?_
        refine rs_shr rfl rfl rfl (by omega) rfl ?_
        refine rs_and rfl rfl rfl rfl ?_
        refine rs_eql rfl rfl rfl ?_
        rw [show decide (bits .and .u8 (((t : Nat) : Int).fdiv (2 ^ min (((k) : Nat) : Int).toNat IntKind.u8.bits)) 1 = 1) = hasS t (k) from has_bits_u8 t ht (k) (by omega)]
        refine rs_mv rfl rfl ?_
        refine rs_nil fun _ => ?_
        refine th_n ?_
        refine aw_seq ?_
        refine aw_reg ?_
        refine rs_mv rfl rfl ?_
        refine rs_cmp_f rfl rfl rfl rfl (by omega) ?_
        refine rs_mv rfl rfl ?_
        refine rs_mv rfl rfl ?_
        refine rs_cmp_f rfl rfl rfl rfl (by omega) ?_
        refine rs_pick rfl rfl rfl ?_
        refine rs_mv rfl rfl ?_
        refine rs_mv rfl rfl ?_
        refine rs_cmp rfl rfl rfl rfl (fun h154 => ?_) (fun h154 => ?_)
        · skip
          refine rs_mv rfl rfl ?_
          refine rs_mv rfl rfl ?_
          rw [x3 h154]
          refine rs_not rfl rfl ?_
          refine rs_pick rfl rfl rfl ?_
          refine rs_pick rfl rfl rfl ?_
          refine rs_mv rfl rfl ?_
          refine rs_mv rfl rfl ?_
          refine rs_cmp_f rfl rfl rfl rfl (fun h => by have h1 : x = 1 := h154; have h2 : x = -1 := h; omega) ?_
          refine rs_mv rfl rfl ?_
          refine rs_skip rfl ?_
          first | rw [x4 (of_decide_eq_true h162)] | skip
          refine rs_pick rfl rfl rfl ?_
          refine rs_pick rfl rfl rfl ?_
          refine rs_nil fun _ => ?_
          refine th_n ?_
          refine aw_cond rfl (fun h => by cases h) (fun _ => ?_)
          refine aw_skip ?_
          refine in_n ?_
          refine th_n ?_
          refine aw_reg ?_
          first | refine rs_add rfl rfl rfl (by omega) ?_ | refine rs_addw rfl rfl rfl rfl ?_
          refine rs_mv rfl rfl ?_
          refine rs_nil fun _ => ?_
          refine th_n ?_
          exact ⟨k + 1, by omega, by omega, weak_to (.cons rfl (rc_same rfl (.inl rfl)) (.cons rfl (rc_same rfl (.inl rfl)) (.cons rfl (rc_same rfl (.inl rfl)) (.cons rfl (rc_same rfl (.inl rfl)) (.cons rfl (rc_same rfl (.inl rfl)) (.cons rfl (rc_same rfl (.inl rfl)) (.cons rfl (rc_same rfl (.inl rfl)) (.cons rfl (rc_same rfl (.inl rfl)) (.cons rfl (rc_same rfl (.inl rfl)) (.cons rfl (rc_same rfl (.inl rfl)) (.cons rfl (rc_same rfl (.inl rfl)) (.nil)))))))))))) (.keep (rfl) rfl (.nil)) (fun i h => by cases h)⟩
        · skip
          refine rs_mv rfl rfl ?_
          refine rs_skip rfl ?_
          refine rs_skip rfl ?_
          refine rs_pick rfl rfl rfl ?_
          refine rs_pick rfl rfl rfl ?_
          refine rs_mv rfl rfl ?_
          refine rs_mv rfl rfl ?_
          refine rs_eql rfl rfl rfl ?_
          cases h162 : decide (x = -1)
          · skip
            refine rs_mv rfl rfl ?_
            refine rs_skip rfl ?_
            first | rw [x4 (of_decide_eq_true h162)] | skip
            refine rs_pick rfl rfl rfl ?_
            refine rs_pick rfl rfl rfl ?_
            refine rs_nil fun _ => ?_
            refine th_n ?_
            refine aw_cond rfl (fun h => by cases h) (fun _ => ?_)
            refine aw_skip ?_
            refine in_n ?_
            refine th_n ?_
            refine aw_reg ?_
            first | refine rs_add rfl rfl rfl (by omega) ?_ | refine rs_addw rfl rfl rfl rfl ?_
            refine rs_mv rfl rfl ?_
            refine rs_nil fun _ => ?_
            refine th_n ?_
            exact ⟨k + 1, by omega, by omega, weak_to (.cons rfl (rc_same rfl (.inl rfl)) (.cons rfl (rc_same rfl (.inl rfl)) (.cons rfl (rc_same rfl (.inl rfl)) (.cons rfl (rc_same rfl (.inl rfl)) (.cons rfl (rc_same rfl (.inl rfl)) (.cons rfl (rc_same rfl (.inl rfl)) (.cons rfl (rc_same rfl (.inl rfl)) (.cons rfl (rc_same rfl (.inl rfl)) (.cons rfl (rc_same rfl (.inl rfl)) (.cons rfl (rc_same rfl (.inl rfl)) (.cons rfl (rc_same rfl (.inl rfl)) (.nil)))))))))))) (.keep (rfl) rfl (.nil)) (fun i h => by cases h)⟩
          · skip
            refine rs_mv rfl rfl ?_
            refine rs_mv rfl rfl ?_
            first | rw [x4 (of_decide_eq_true h162)] | skip
            refine rs_pick rfl rfl rfl ?_
            refine rs_pick rfl rfl rfl ?_
            refine rs_nil fun _ => ?_
            refine th_n ?_
            refine aw_cond rfl (fun h => by cases h) (fun _ => ?_)
            refine aw_skip ?_
            refine in_n ?_
            refine th_n ?_
            refine aw_reg ?_
            first | refine rs_add rfl rfl rfl (by omega) ?_ | refine rs_addw rfl rfl rfl rfl ?_
            refine rs_mv rfl rfl ?_
            refine rs_nil fun _ => ?_
            refine th_n ?_
            exact ⟨k + 1, by omega, by omega, weak_to (.cons rfl (rc_same rfl (.inl rfl)) (.cons rfl (rc_same rfl (.inl rfl)) (.cons rfl (rc_same rfl (.inl rfl)) (.cons rfl (rc_same rfl (.inl rfl)) (.cons rfl (rc_same rfl (.inl rfl)) (.cons rfl (rc_same rfl (.inl rfl)) (.cons rfl (rc_same rfl (.inl rfl)) (.cons rfl (rc_same rfl (.inl rfl)) (.cons rfl (rc_same rfl (.inl rfl)) (.cons rfl (rc_same rfl (.inl rfl)) (.cons rfl (rc_same rfl (.inl rfl)) (.nil)))))))))))) (.keep (rfl) rfl (.nil)) (fun i h => by cases h)⟩
      · first | replace h137 := of_decide_eq_false h137 | skip
        refine aw_exit ?_
        refine th_e ?_
        refine th_e ?_
        refine in_hit ?_
        refine th_n ?_
        refine aw_seq ?_
        refine aw_seq ?_
        refine aw_reg ?_
        refine rs_mv rfl rfl ?_
        first | refine rs_len_m rfl rfl ?_ | refine rs_len_s rfl rfl ?_ | refine rs_len_n rfl rfl ?_ | refine rs_len_r rfl rfl rfl ?_
        refine rs_mv rfl rfl ?_
        refine rs_nil fun _ => ?_
        refine th_n ?_
        refine aw_block ?_
        refine aw_fam (α := Nat) (fun k => Ls.length - k) (fun k => [(1, .int .u8 (t : Int)), (3, .rs 1 (ws.map cu8)), (9, .bool true), (11, iv (N : Int)), (12, iv m), (16, .ptr 16 0 0), (10, .rs 3 (L.map cS)), (168, ints Ls), (169, iv (Ls.length : Int)), (170, iv (((k) : Nat) : Int))]) (fun k => [(16, .cells 47 8 [W.map AV.bool] true)]) (fun k => k ≤ Ls.length) 0 (by omega)
          (weak_to (.cons rfl (rc_same rfl (.inl rfl)) (.cons rfl (rc_same rfl (.inl rfl)) (.cons rfl (rc_same rfl (.inl rfl)) (.cons rfl (rc_same rfl (.inl rfl)) (.cons rfl (rc_same rfl (.inl rfl)) (.cons rfl (rc_same rfl (.inl rfl)) (.cons rfl (rc_same rfl (.inl rfl)) (.cons rfl (rc_same rfl (.inl rfl)) (.cons rfl (rc_same rfl (.inl rfl)) (.cons rfl (rc_same rfl (.inl rfl)) (.nil))))))))))) (.keep (rfl) rfl (.nil)) (fun i h => by cases h)) ?_
        intro k hk
        refine aw_seq ?_
        refine aw_reg ?_
        refine rs_lss rfl rfl rfl ?_
        refine rs_nil fun _ => ?_
        refine th_n ?_
        refine aw_seq ?_
        refine aw_cond rfl (fun h171 => ?_) (fun h171 => ?_)
        · first | replace h171 := of_decide_eq_true h171 | skip
          refine aw_skip ?_
          refine th_n ?_
          refine aw_seq ?_
          refine aw_block ?_
          refine aw_seq ?_
          refine aw_reg ?_
          obtain ⟨p, hp, _⟩ := at_some (L := Ls) (k := k) (by omega)
          obtain ⟨hp0, hp8, hpw⟩ := hLs k p hp
          refine rs_ix_g rfl rfl rfl (by omega) hp ?_
          refine rs_ld_r rfl rfl rfl ?_
          refine rs_mv rfl rfl ?_
          refine rs_nil fun _ => ?_
          refine th_n ?_
          refine aw_seq ?_
          refine aw_reg ?_
          refine rs_mv rfl rfl ?_
          refine rs_cmp_f rfl rfl rfl rfl (by omega) ?_
          refine rs_mv rfl rfl ?_
          refine rs_mv rfl rfl ?_
          refine rs_cmp_f rfl rfl rfl rfl (by omega) ?_
          refine rs_pick rfl rfl rfl ?_
          refine rs_mv rfl rfl ?_
          refine rs_mv rfl rfl ?_
          refine rs_ixarr_p rfl rfl rfl (by omega) (by omega) ?_
          refine rs_ld_f (k := p.toNat) rfl rfl rfl (by simp) hpw ?_
          refine rs_not rfl rfl ?_
          refine rs_pick rfl rfl rfl ?_
          refine rs_nil fun _ => ?_
          refine th_n ?_
          refine aw_cond rfl (fun h => by cases h) (fun _ => ?_)
          refine aw_skip ?_
          refine in_n ?_
          refine th_n ?_
          refine aw_reg ?_
          first | refine rs_add rfl rfl rfl (by omega) ?_ | refine rs_addw rfl rfl rfl rfl ?_
          refine rs_mv rfl rfl ?_
          refine rs_nil fun _ => ?_
          refine th_n ?_
          exact ⟨k + 1, by omega, by omega, weak_to (.cons rfl (rc_same rfl (.inl rfl)) (.cons rfl (rc_same rfl (.inl rfl)) (.cons rfl (rc_same rfl (.inl rfl)) (.cons rfl (rc_same rfl (.inl rfl)) (.cons rfl (rc_same rfl (.inl rfl)) (.cons rfl (rc_same rfl (.inl rfl)) (.cons rfl (rc_same rfl (.inl rfl)) (.cons rfl (rc_same rfl (.inl rfl)) (.cons rfl (rc_same rfl (.inl rfl)) (.cons rfl (rc_same rfl (.inl rfl)) (.nil))))))))))) (.keep (rfl) rfl (.nil)) (fun i h => by cases h)⟩
        · first | replace h171 := of_decide_eq_false h171 | skip
          refine aw_exit ?_
          refine th_e ?_
          refine th_e ?_
          refine in_hit ?_
          refine th_n ?_
          refine aw_seq ?_
          have hwl := length_wants ws N
          refine aw_reg ?_
          refine rs_mv rfl rfl ?_
          refine rs_mv rfl rfl ?_
          refine rs_calln [] rfl rfl (fc41 ws N (by omega) hws) (.cons (hv_same rfl) (.cons (hv_same rfl) (.nil))) rfl ?_
          refine rs_mv rfl rfl ?_
          refine rs_nil fun _ => ?_
          refine th_n ?_
          refine aw_seq ?_
          refine aw_reg ?_
          refine rs_mv rfl rfl ?_
          refine rs_build rfl rfl ?_
          refine rs_mv rfl rfl ?_
          refine rs_mv rfl rfl ?_
          refine rs_calln [] rfl rfl (c194) (.cons (hv_same rfl) (.cons (hv_same rfl) (.cons (hv_same rfl) (.nil)))) rfl ?_
          refine rs_mv rfl rfl ?_
          refine rs_nil fun _ => ?_
          refine th_n ?_
          refine aw_seq ?_
          refine aw_seq ?_
          refine aw_reg ?_
          refine rs_mv rfl rfl ?_
          refine rs_mv rfl rfl ?_
          refine rs_cvt (m := (t : Int)) rfl rfl (wrap64_eq (by omega)) ?_
          refine rs_calln [] rfl rfl (fc44 (wantsS ws N) t ht (by omega)) (.cons (hv_same rfl) (.cons (hv_same rfl) (.nil))) rfl ?_
          refine rs_nil fun _ => ?_
          refine th_n ?_
          refine aw_cond rfl (fun h198 => ?_) (fun h198 => ?_)
          · first | replace h198 := of_decide_eq_true h198 | skip
            have hv := hg1 (by rw [hwl] at h198; exact h198)
            refine aw_seq ?_
            refine aw_reg ?_
            refine rs_mv rfl rfl ?_
            refine rs_mv rfl rfl ?_
            refine rs_mv rfl rfl ?_
            refine rs_cmp rfl rfl rfl rfl (fun h202 => ?_) (fun h202 => ?_)
            · skip
              refine rs_mv rfl rfl ?_
              refine rs_skip rfl ?_
              refine rs_skip rfl ?_
              refine rs_pick rfl rfl rfl ?_
              refine rs_pick rfl rfl rfl ?_
              refine rs_mv rfl rfl ?_
              refine rs_nil fun _ => ?_
              refine th_n ?_
              refine aw_ret ?_
              refine th_r ?_
              exact ret_pure rfl rfl rfl (.inr rfl)
            · skip
              refine rs_mv rfl rfl ?_
              refine rs_mv rfl rfl ?_
              refine rs_cmp_t rfl rfl rfl rfl (by omega) ?_
              refine rs_pick rfl rfl rfl ?_
              refine rs_pick rfl rfl rfl ?_
              refine rs_mv rfl rfl ?_
              refine rs_nil fun _ => ?_
              refine th_n ?_
              refine aw_ret ?_
              refine th_r ?_
              exact ret_pure rfl rfl rfl (.inr rfl)
          · first | replace h198 := of_decide_eq_false h198 | skip
            have hv := hg0 (by rw [hwl] at h198; exact h198)
            refine aw_skip ?_
            refine th_n ?_
            refine aw_seq ?_
            refine aw_reg ?_
            refine rs_mv rfl rfl ?_
            refine rs_mv rfl rfl ?_
            refine rs_mv rfl rfl ?_
            refine rs_cmp rfl rfl rfl rfl (fun h211 => ?_) (fun h211 => ?_)
            · skip
              refine rs_mv rfl rfl ?_
              refine rs_skip rfl ?_
              refine rs_skip rfl ?_
              refine rs_pick rfl rfl rfl ?_
              refine rs_pick rfl rfl rfl ?_
              refine rs_mv rfl rfl ?_
              refine rs_nil fun _ => ?_
              refine th_n ?_
              refine aw_ret ?_
              exact ret_pure rfl rfl rfl (.inr rfl)
            · skip
              refine rs_mv rfl rfl ?_
              refine rs_mv rfl rfl ?_
              refine rs_cmp_t rfl rfl rfl rfl (by omega) ?_
              refine rs_pick rfl rfl rfl ?_
              refine rs_pick rfl rfl rfl ?_
              refine rs_mv rfl rfl ?_
              refine rs_nil fun _ => ?_
              refine th_n ?_
              refine aw_ret ?_
              exact ret_pure rfl rfl rfl (.inr rfl)

end Go.Proofs.Ytadjdnhnbkcakaa

/-! The arguments of the laws of inspect, as they are read. -/
namespace Go.Proofs.Ytadjdnhnbkcakaa
open Go.RowKit Go.WideShapes Go.ChangeShapes Go.ChangeAt
set_option maxRecDepth 100000

theorem own_knob : ownKnob Try.prog.godebug = none := by kernel_rfl
theorem laid_out : laidOutB Try.prog = true := by kernel_rfl

theorem rd_i {H : Type} (d : DataW H) (h : Gd (.int .i64) d) : ∃ n : Int, True ∧ avD (.int .i64) d = ci n := by
  obtain ⟨n, _, e⟩ := rd_int d h
  exact ⟨n, trivial, e⟩
theorem rd_u8 {H : Type} (d : DataW H) (h : Gd (.int .u8) d) : ∃ n : Int, (0 ≤ n ∧ n < 256) ∧ avD (.int .u8) d = cu8 n := by
  obtain ⟨n, hw, e⟩ := rd_int d h
  have := bounds_u8 hw
  exact ⟨n, by omega, e⟩
theorem rd_ints {H : Type} (d : DataW H) (h : Gd (.sl 1 (.int .i64)) d) : ∃ L : List Int, L.length ≤ 140737488351232 ∧ avD (.sl 1 (.int .i64)) d = [ints L] := by
  obtain ⟨L, ⟨h1, _⟩, e⟩ := rd_sl (fun _ => True) ci rd_i d h
  exact ⟨L, h1, e⟩
theorem rd_u8s {H : Type} (d : DataW H) (h : Gd (.sl 1 (.int .u8)) d) : ∃ ls : List Int, (ls.length ≤ 140737488351232 ∧ ∀ x ∈ ls, 0 ≤ x ∧ x < 256) ∧ avD (.sl 1 (.int .u8)) d = [.rs 1 (ls.map cu8)] :=
  rd_sl _ cu8 rd_u8 d h
abbrev shCase42 : Sh := .st [.sl 1 (.int .i64), .int .u8, .int .u8]
abbrev shSg : Sh := .st [.int .i64, .int .i64, .bool]
theorem rd_sg {H : Type} (d : DataW H) (h : Gd shSg d) : ∃ r : Sg, True ∧ avD shSg d = cS r := by
  obtain ⟨ps, g, e⟩ := rd_st d h
  obtain ⟨d0, r0, g0, g, e0⟩ := rd_cons ps g
  obtain ⟨d1, r1, g1, g, e1⟩ := rd_cons r0 g
  obtain ⟨d2, r2, g2, g, e2⟩ := rd_cons r1 g
  obtain ⟨n0, _, a0⟩ := rd_i d0 g0
  obtain ⟨n1, _, a1⟩ := rd_i d1 g1
  obtain ⟨n2, a2⟩ := rd_bool d2 g2
  exact ⟨⟨n0, n1, n2⟩, trivial, by rw [e, e0, e1, e2, rd_nil r2 g, a0, a1, a2]; rfl⟩
theorem rd_case42 {H : Type} (d : DataW H) (h : Gd shCase42 d) : ∃ (L : List Int) (c5 l4 : Int), (L.length ≤ 4611686018427387904 ∧ (0 ≤ c5 ∧ c5 < 256) ∧ (0 ≤ l4 ∧ l4 < 256)) ∧
    argA shCase42 d = .agg [ints L, .int .u8 c5, .int .u8 l4] := by
  obtain ⟨ps, g, e⟩ := rd_st d h
  obtain ⟨d0, r0, g0, g, e0⟩ := rd_cons ps g
  obtain ⟨d1, r1, g1, g, e1⟩ := rd_cons r0 g
  obtain ⟨d2, r2, g2, g, e2⟩ := rd_cons r1 g
  obtain ⟨n0, k0, a0⟩ := rd_ints d0 g0
  obtain ⟨n1, k1, a1⟩ := rd_u8 d1 g1
  obtain ⟨n2, k2, a2⟩ := rd_u8 d2 g2
  exact ⟨n0, n1, n2, ⟨Nat.le_trans k0 (by decide), k1, k2⟩, by simp only [argA]; rw [e, e0, e1, e2, rd_nil r2 g, a0, a1, a2]; rfl⟩
end Go.Proofs.Ytadjdnhnbkcakaa
namespace Go.Proofs.Ytadjdnhnbkcakaa
open Go.RowKit Go.WideShapes Go.ChangeShapes Go.ChangeAt
set_option maxRecDepth 100000

abbrev shs11 : List Sh := [shCase42, .int .u8, .int .u8, .sl 1 (.int .u8)]

theorem lifted11 (os : Os) (started : os.Started) (H : Type) (enc : TypeId × Value → H) :
    ReturnsInHanded {} Try.checked os 11 .any (Rows.inspectTruthSpec.pre6 enc Try.prog Try.f11 Rows.inspectTruthRow.domain false) (Rows.inspectTruthSpec.post enc Try.prog Try.f11 false true false false) := by
  refine law_row (C := Try.checked) own_knob started (by kernel_rfl) Try.func11 laid_out rfl (tb := 4) rfl Try.underlying4 shs11 (by kernel_rfl) (fun ds h => ?_)
    (ChangeSpec.witness6 (enc := enc) (C := Try.checked) false ⟨#[], #[.agg #[.slice none 0 0, .int .u8 0, .int .u8 0], .int .u8 0, .int .u8 0, .slice none 0 0], []⟩ 8 (by kernel_rfl) (by kernel_rfl) (by kernel_rfl) (by kernel_rfl)) fun ds hg => ⟨false, ?_⟩
  · match ds, h with
    | [_, _, _, _], _ => rfl
  · simp only [shs11, GdFs] at hg
    obtain ⟨d0, _, rfl, g0, d1, _, rfl, g1, d2, _, rfl, g2, d3, _, rfl, g3, rfl⟩ := hg
    obtain ⟨L, c5, l4, ⟨hL, hc5, hl4⟩, e0⟩ := rd_case42 d0 g0
    obtain ⟨z_t, hu_t, e1⟩ := rd_u8 d1 g1
    obtain ⟨t, rfl⟩ : ∃ t : Nat, z_t = (t : Int) := ⟨z_t.toNat, by omega⟩
    obtain ⟨lr, hu_lr, e2⟩ := rd_u8 d2 g2
    obtain ⟨ws, ⟨hl_ws, hr_ws⟩, e3⟩ := rd_sl _ cu8 rd_u8 d3 g3
    have e : argAs shs11 [d0, d1, d2, d3] = [.agg [ints L, .int .u8 c5, .int .u8 l4], .int .u8 (t : Int), .int .u8 lr, .rs 1 (ws.map cu8)] := by
      simp only [argAs, shs11]
      rw [e0]
      simp only [argA]
      rw [e1, e2, e3]
      rfl
    rw [e]
    exact fc11 L c5 l4 t lr ws (by omega) hu_lr hr_ws hL hc5 hl4

theorem over11 : Rows.inspectTruthRow.holds Try.pinned (OpenSpec.ofChange Rows.inspectTruthSpec) :=
  OpenClaim.holds_of_wide 11 Try.f11 rfl rfl rfl rfl rfl rfl rfl ⟨rfl, rfl, rfl, rfl, rfl⟩ rfl rfl rfl rfl rfl (by kernel_rfl) Try.func11 (by kernel_rfl)
    (of_decide_eq_true (by kernel_rfl)) (by unfold Func.isWrapper; rw [if_neg (of_decide_eq_false (by kernel_rfl))]; exact ⟨rfl, rfl⟩)
    (fun os started H enc _ => lifted11 os started H enc)

theorem inspectTruth_holds : Rows.InspectTruthSaid := over11
#print axioms inspectTruth_holds
end Go.Proofs.Ytadjdnhnbkcakaa
