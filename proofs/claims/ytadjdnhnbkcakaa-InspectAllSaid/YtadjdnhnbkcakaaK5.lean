/-
  Proved: colletlaw42.InspectAll returns true for every input, and its arguments read as before. No condition.
-/
import Derived.Test.YtadjdnhnbkcakaaK4
import Derived.Test.YtadjdnhnbkcakaaRows
set_option linter.unusedVariables false

/-! Walks: A30. -/
namespace Go.Proofs.Ytadjdnhnbkcakaa
open Go.RowKit


def mc38 : MC := (.seq (.reg [⟨(some 4), (.mv (.c (.bool false))), none, []⟩] false) (.seq (.reg [⟨(some 5), (.mv (.t 0)), none, []⟩, ⟨(some 6), (.mv (.t 1)), none, []⟩, ⟨(some 7), (.call 23 [(.t 5), (.t 6)]), none, [0, 1]⟩, ⟨(some 4), (.mv (.t 7)), none, [2, 2, 0, 1, 2]⟩] false) .ret))
theorem mcOk38 : (match Try.f38.body with | some c => compC Try.prog 8 c | none => none) = some mc38 := by kernel_rfl

theorem fc38 (xs ys : List Int) (hx : xs.length ≤ 4611686018427387904) : FC Try.prog 38 [ints xs, ints ys] [] (.bool (sameS xs ys)) [] false := by
  refine fc_run (nt := 8) Try.func38 rfl rfl mcOk38 (Nat.le_of_ble_eq_true rfl) ?_
  delta mc38
  refine aw_seq ?_
  refine aw_reg ?_
  refine rs_mv rfl rfl ?_
  refine rs_nil fun _ => ?_
  refine th_n ?_
  refine aw_seq ?_
  refine aw_reg ?_
  refine rs_mv rfl rfl ?_
  refine rs_mv rfl rfl ?_
  refine rs_calln [] rfl rfl (fc23 xs ys hx) (.cons (hv_same rfl) (.cons (hv_same rfl) (.nil))) rfl ?_
  refine rs_mv rfl rfl ?_
  refine rs_nil fun _ => ?_
  refine th_n ?_
  refine aw_ret ?_
  exact ret_pure rfl rfl rfl (.inr rfl)

theorem fc38_t (xs : List Int) (hx : xs.length ≤ 4611686018427387904) : FC Try.prog 38 [ints xs, ints xs] [] (.bool true) [] false := by
  have := fc38 xs xs hx
  rwa [show sameS xs xs = true from decide_eq_true rfl] at this

def mc57 : MC := (.seq (.reg [⟨(some 12), (.mv (.c (.bool false))), none, []⟩] false) (.seq (.reg [⟨(some 18), (.mv (.t 5)), none, []⟩, ⟨(some 19), (.mv (.t 1)), none, []⟩, ⟨(some 20), (.call 36 [(.t 18), (.c (.int .i64 1)), (.t 19)]), none, [0, 1]⟩, ⟨(some 17), (.mv (.t 20)), none, [2]⟩, ⟨(some 21), (.ext (.t 17) 0), none, [3]⟩, ⟨(some 22), (.ext (.t 17) 1), none, [3]⟩, ⟨(some 13), (.mv (.t 21)), none, [4, 2, 0, 1, 2, 3, 4]⟩, ⟨(some 14), (.mv (.t 22)), none, [5, 6, 0, 1, 2, 3, 4, 5, 6]⟩] false) (.seq (.reg [⟨(some 24), (.mv (.t 5)), none, []⟩, ⟨(some 25), (.mv (.t 1)), none, []⟩, ⟨(some 26), (.call 39 [(.t 24), (.c (.int .i64 1)), (.t 25)]), none, [0, 1]⟩, ⟨(some 23), (.mv (.t 26)), none, [2]⟩, ⟨(some 27), (.ext (.t 23) 0), none, [3]⟩, ⟨(some 28), (.ext (.t 23) 1), none, [3]⟩, ⟨(some 15), (.mv (.t 27)), none, [4, 2, 0, 1, 2, 3, 4]⟩, ⟨(some 16), (.mv (.t 28)), none, [5, 6, 0, 1, 2, 3, 4, 5, 6]⟩] false) (.seq (.reg [⟨(some 29), (.mv (.t 14)), none, []⟩, ⟨(some 30), (.bin .eql (.t 29) (.c (.int .i64 0))), none, [0]⟩, ⟨(some 31), (.mv (.t 30)), none, [1]⟩, ⟨(some 32), (.mv (.t 16)), (some (31, true)), [2]⟩, ⟨(some 33), (.bin .eql (.t 32) (.c (.int .i64 0))), (some (31, true)), [3, 2]⟩, ⟨(some 34), (.pick (.t 31) (.t 33) (.c (.bool false))), none, [2, 4]⟩, ⟨(some 35), (.mv (.t 34)), none, [5, 2]⟩, ⟨(some 36), (.mv (.t 13)), (some (35, true)), [6]⟩, ⟨(some 37), (.mv (.t 2)), (some (35, true)), [6]⟩, ⟨(some 38), (.bslice 3 1 [(.int .i64 0)] 1 [(0, (.t 37))]), (some (35, true)), [8, 6]⟩, ⟨(some 39), (.call 38 [(.t 36), (.t 38)]), (some (35, true)), [7, 9, 6, 6]⟩, ⟨(some 40), (.pick (.t 35) (.t 39) (.c (.bool false))), none, [6, 10]⟩, ⟨(some 41), (.mv (.t 40)), none, [11, 10]⟩, ⟨(some 42), (.mv (.t 15)), (some (41, true)), [12]⟩, ⟨(some 43), (.mv (.t 3)), (some (41, true)), [12]⟩, ⟨(some 44), (.call 38 [(.t 42), (.t 43)]), (some (41, true)), [13, 14, 12, 12]⟩, ⟨(some 45), (.pick (.t 41) (.t 44) (.c (.bool false))), none, [12, 15]⟩, ⟨(some 46), (.mv (.t 45)), none, [16, 15]⟩, ⟨(some 47), (.mv (.t 0)), (some (46, true)), [17]⟩, ⟨(some 48), (.bslice 3 1 [(.int .i64 0)] 1 [(0, (.t 47))]), (some (46, true)), [18, 17]⟩, ⟨(some 49), (.build [(.str (.mk (.mk []))), .nils, .nils] [(2, (1, (.t 48)))]), (some (46, true)), [19, 17]⟩, ⟨(some 50), (.mv (.t 5)), (some (46, true)), [17]⟩, ⟨(some 51), (.mv (.t 1)), (some (46, true)), [17]⟩, ⟨(some 52), (.call 42 [(.t 49), (.t 50), (.t 51)]), (some (46, true)), [20, 21, 22, 17, 17]⟩, ⟨(some 53), (.mv (.t 4)), (some (46, true)), [17]⟩, ⟨(some 54), (.bin .eql (.t 52) (.t 53)), (some (46, true)), [23, 24, 17]⟩, ⟨(some 55), (.pick (.t 46) (.t 54) (.c (.bool false))), none, [17, 25]⟩, ⟨(some 12), (.mv (.t 55)), none, [26, 23, 0, 1, 2, 3, 4, 5, 6, 7, 8, 9, 10, 11, 12, 13, 14, 15, 16, 17, 18, 19, 20, 21, 22, 23, 24, 25, 26]⟩] false) .ret))))
theorem mcOk57 : (match Try.f57.body with | some c => compC Try.prog 56 c | none => none) = some mc57 := by kernel_rfl

theorem fc57 (l : List Sg) (want lies cell verdict : Int) (liars : List Int) (hl : l.length ≤ 40) (hle : liars.length ≤ 8) (hE : cellsE l 1 lies = 0) (hC : cellsL l 1 lies = [cell]) (hS : sureL l 1 lies = liars) (hV : verdS [want] l lies = verdict) : FC Try.prog 57 [iv want, iv lies, iv cell, ints liars, iv verdict, .rs 3 (l.map cS)] [] (.bool true) [] false := by
  have c1 : FC Try.prog 36 [.rs 3 (l.map cS), iv 1, iv lies] [] (.tup [ints [cell], iv 0]) [] false := by have := fc36 l 1 lies (by omega); rwa [hC, hE] at this
  have c2 : FC Try.prog 39 [.rs 3 (l.map cS), iv 1, iv lies] [] (.tup [ints liars, iv 0]) [] false := by have := fc39 l 1 lies (by omega); rwa [hS, hE] at this
  have c3 : FC Try.prog 42 [partV [want], .rs 3 (l.map cS), iv lies] [] (iv verdict) [] false := by have := fc42 [want] l lies (by simp) (by omega); rwa [hV] at this
  refine fc_run (nt := 56) Try.func57 rfl rfl mcOk57 (Nat.le_of_ble_eq_true rfl) ?_
  delta mc57
  refine aw_seq ?_
  refine aw_reg ?_
  refine rs_mv rfl rfl ?_
  refine rs_nil fun _ => ?_
  refine th_n ?_
  refine aw_seq ?_
  refine aw_reg ?_
  refine rs_mv rfl rfl ?_
  refine rs_mv rfl rfl ?_
  refine rs_calln [] rfl rfl (c1) (.cons (hv_same rfl) (.cons (hv_same rfl) (.cons (hv_same rfl) (.nil)))) rfl ?_
  refine rs_mv rfl rfl ?_
  refine rs_ext rfl rfl rfl ?_
  refine rs_ext rfl rfl rfl ?_
  refine rs_mv rfl rfl ?_
  refine rs_mv rfl rfl ?_
  refine rs_nil fun _ => ?_
  refine th_n ?_
  refine aw_seq ?_
  refine aw_reg ?_
  refine rs_mv rfl rfl ?_
  refine rs_mv rfl rfl ?_
  refine rs_calln [] rfl rfl (c2) (.cons (hv_same rfl) (.cons (hv_same rfl) (.cons (hv_same rfl) (.nil)))) rfl ?_
  refine rs_mv rfl rfl ?_
  refine rs_ext rfl rfl rfl ?_
  refine rs_ext rfl rfl rfl ?_
  refine rs_mv rfl rfl ?_
  refine rs_mv rfl rfl ?_
  refine rs_nil fun _ => ?_
  refine th_n ?_
  refine aw_seq ?_
  refine aw_reg ?_
  refine rs_mv rfl rfl ?_
  refine rs_cmp_t rfl rfl rfl rfl rfl ?_
  refine rs_mv rfl rfl ?_
  refine rs_mv rfl rfl ?_
  refine rs_cmp_t rfl rfl rfl rfl rfl ?_
  refine rs_pick rfl rfl rfl ?_
  refine rs_mv rfl rfl ?_
  refine rs_mv rfl rfl ?_
  refine rs_mv rfl rfl ?_
  refine rs_bslice rfl rfl rfl rfl rfl rfl ?_
  refine rs_calln [38] rfl rfl (fc38_t [cell] (by simp)) (.cons (hv_same rfl) (.cons (hv_sl (by simp) rfl (Nat.le_of_ble_eq_true rfl) rfl) (.nil))) rfl ?_
  refine rs_pick rfl rfl rfl ?_
  refine rs_mv rfl rfl ?_
  refine rs_mv rfl rfl ?_
  refine rs_mv rfl rfl ?_
  refine rs_calln [] rfl rfl (fc38_t liars (by omega)) (.cons (hv_same rfl) (.cons (hv_same rfl) (.nil))) rfl ?_
  refine rs_pick rfl rfl rfl ?_
  refine rs_mv rfl rfl ?_
  refine rs_mv rfl rfl ?_
  refine rs_bslice rfl rfl rfl rfl rfl rfl ?_
  refine rs_build rfl rfl ?_
  refine rs_mv rfl rfl ?_
  refine rs_mv rfl rfl ?_
  refine rs_calln [48] rfl rfl (c3) (.cons (hv_agg (.cons (hv_same rfl) (.cons (hv_same rfl) (.cons (hv_sl (by simp) rfl (Nat.le_of_ble_eq_true rfl) rfl) .nil)))) (.cons (hv_same rfl) (.cons (hv_same rfl) (.nil)))) rfl ?_
  refine rs_mv rfl rfl ?_
  refine rs_cmp_t rfl rfl rfl rfl rfl ?_
  refine rs_pick rfl rfl rfl ?_
  refine rs_mv rfl rfl ?_
  refine rs_nil fun _ => ?_
  refine th_n ?_
  refine aw_ret ?_
  exact ret_pure rfl rfl rfl (.inr rfl)

theorem ni54 : FC Try.prog 36 [.rs 3 (([(⟨0, 0, true⟩ : Sg), (⟨1, 0, false⟩ : Sg)]).map cS), iv 1, iv 0] [] (.tup [ints [], iv 21]) [] false := by
  have h := fc36 [(⟨0, 0, true⟩ : Sg), (⟨1, 0, false⟩ : Sg)] 1 0 (by decide)
  rwa [show cellsL [(⟨0, 0, true⟩ : Sg), (⟨1, 0, false⟩ : Sg)] 1 0 = [] by decide +kernel, show cellsE [(⟨0, 0, true⟩ : Sg), (⟨1, 0, false⟩ : Sg)] 1 0 = 21 by decide +kernel] at h
theorem ni61 : FC Try.prog 39 [.rs 3 (([(⟨0, 0, true⟩ : Sg), (⟨1, 0, false⟩ : Sg)]).map cS), iv 1, iv 0] [] (.tup [ints [], iv 21]) [] false := by
  have h := fc39 [(⟨0, 0, true⟩ : Sg), (⟨1, 0, false⟩ : Sg)] 1 0 (by decide)
  rwa [show sureL [(⟨0, 0, true⟩ : Sg), (⟨1, 0, false⟩ : Sg)] 1 0 = [] by decide +kernel, show cellsE [(⟨0, 0, true⟩ : Sg), (⟨1, 0, false⟩ : Sg)] 1 0 = 21 by decide +kernel] at h
theorem ni71 : FC Try.prog 36 [.rs 3 (([(⟨0, 0, true⟩ : Sg), (⟨0, 1, false⟩ : Sg), (⟨1, 1, true⟩ : Sg), (⟨1, 0, false⟩ : Sg)]).map cS), iv 2, iv 1] [] (.tup [ints [0, 0], iv 0]) [] false := by
  have h := fc36 [(⟨0, 0, true⟩ : Sg), (⟨0, 1, false⟩ : Sg), (⟨1, 1, true⟩ : Sg), (⟨1, 0, false⟩ : Sg)] 2 1 (by decide)
  rwa [show cellsL [(⟨0, 0, true⟩ : Sg), (⟨0, 1, false⟩ : Sg), (⟨1, 1, true⟩ : Sg), (⟨1, 0, false⟩ : Sg)] 2 1 = [0, 0] by decide +kernel, show cellsE [(⟨0, 0, true⟩ : Sg), (⟨0, 1, false⟩ : Sg), (⟨1, 1, true⟩ : Sg), (⟨1, 0, false⟩ : Sg)] 2 1 = 0 by decide +kernel] at h
theorem nv88 : FC Try.prog 42 [partV [3], .rs 3 (([(⟨0, 0, true⟩ : Sg), (⟨1, 0, false⟩ : Sg)]).map cS), iv 0] [] (iv 21) [] false := by
  have h := fc42 [3] [(⟨0, 0, true⟩ : Sg), (⟨1, 0, false⟩ : Sg)] 0 (by decide) (by decide)
  rwa [show verdS [3] [(⟨0, 0, true⟩ : Sg), (⟨1, 0, false⟩ : Sg)] 0 = 21 by decide +kernel] at h
theorem nv103 : FC Try.prog 42 [partV [1, 1], .rs 3 (([(⟨0, 0, true⟩ : Sg), (⟨0, 1, false⟩ : Sg), (⟨1, 1, true⟩ : Sg), (⟨1, 0, false⟩ : Sg)]).map cS), iv 1] [] (iv 35) [] false := by
  have h := fc42 [1, 1] [(⟨0, 0, true⟩ : Sg), (⟨0, 1, false⟩ : Sg), (⟨1, 1, true⟩ : Sg), (⟨1, 0, false⟩ : Sg)] 1 (by decide) (by decide)
  rwa [show verdS [1, 1] [(⟨0, 0, true⟩ : Sg), (⟨0, 1, false⟩ : Sg), (⟨1, 1, true⟩ : Sg), (⟨1, 0, false⟩ : Sg)] 1 = 35 by decide +kernel] at h
theorem nv115 : FC Try.prog 42 [partV [4], .rs 3 ((([] : List Sg)).map cS), iv 0] [] (iv 1) [] false := by
  have h := fc42 [4] ([] : List Sg) 0 (by decide) (by decide)
  rwa [show verdS [4] ([] : List Sg) 0 = 1 by decide +kernel] at h
theorem nc109 : FC Try.prog 34 [.rs 3 (([(⟨0, 1, false⟩ : Sg)]).map cS), iv 1, iv 0] [] (iv 3) [] false := by
  have h := fc34 [(⟨0, 1, false⟩ : Sg)] 1 0 (by decide)
  rwa [show checkI [(⟨0, 1, false⟩ : Sg)] 1 0 = 3 by decide +kernel] at h

def mc31 : MC := (.seq (.reg [⟨(some 0), (.mv (.c (.bool false))), none, []⟩] false) (.seq (.reg [⟨(some 12), (.build [(.int .i64 0), (.int .i64 0), (.bool false)] [(2, (1, (.c (.bool true))))]), none, []⟩, ⟨(some 13), (.build [(.int .i64 0), (.int .i64 0), (.bool false)] [(0, (1, (.c (.int .i64 1))))]), none, []⟩, ⟨(some 14), (.build [(.int .i64 0), (.int .i64 0), (.bool false)] [(0, (1, (.c (.int .i64 2)))), (2, (1, (.c (.bool true))))]), none, []⟩, ⟨(some 1), (.alloc 80 3 [(.int .i64 0), (.int .i64 0), (.bool false)]), none, []⟩, ⟨(some 2), (.alloc 80 3 [(.int .i64 0), (.int .i64 0), (.bool false)]), none, []⟩, ⟨(some 3), (.alloc 80 3 [(.int .i64 0), (.int .i64 0), (.bool false)]), none, []⟩, ⟨none, (.st 3 (.t 1) (.t 12)), none, [3, 0, 0, 3, 4, 5]⟩, ⟨none, (.st 3 (.t 2) (.t 13)), none, [4, 1, 6, 0, 1, 3, 4, 5, 6]⟩, ⟨none, (.st 3 (.t 3) (.t 14)), none, [5, 2, 7, 0, 1, 2, 3, 4, 5, 6, 7]⟩] false) (.seq (.seq (.reg [⟨(some 15), (.ld true 3 (.t 1)), none, []⟩, ⟨(some 16), (.bslice 80 3 [(.int .i64 0), (.int .i64 0), (.bool false)] 1 [(0, (.t 15))]), none, [0]⟩, ⟨(some 17), (.call 57 [(.c (.int .i64 1)), (.c (.int .i64 0)), (.c (.int .i64 1)), (.c .nils), (.c (.int .i64 0)), (.t 16)]), none, [1]⟩, ⟨(some 18), (.un .not (.t 17)), none, [2]⟩, ⟨(some 19), (.mv (.t 18)), none, [3, 2]⟩, ⟨(some 20), (.ld true 3 (.t 1)), (some (19, false)), [4]⟩, ⟨(some 21), (.bslice 80 3 [(.int .i64 0), (.int .i64 0), (.bool false)] 1 [(0, (.t 20))]), (some (19, false)), [5, 4]⟩, ⟨(some 22), (.call 57 [(.c (.int .i64 1)), (.c (.int .i64 1)), (.c (.int .i64 0)), (.c .nils), (.c (.int .i64 5)), (.t 21)]), (some (19, false)), [6, 4, 4]⟩, ⟨(some 23), (.un .not (.t 22)), (some (19, false)), [7, 4]⟩, ⟨(some 24), (.pick (.t 19) (.c (.bool true)) (.t 23)), none, [4, 8]⟩, ⟨(some 25), (.mv (.t 24)), none, [9, 7]⟩, ⟨(some 26), (.ld true 3 (.t 1)), (some (25, false)), [10]⟩, ⟨(some 27), (.ld true 3 (.t 2)), (some (25, false)), [10]⟩, ⟨(some 28), (.bslice 80 3 [(.int .i64 0), (.int .i64 0), (.bool false)] 2 [(0, (.t 26)), (1, (.t 27))]), (some (25, false)), [11, 12, 10]⟩, ⟨(some 29), (.call 57 [(.c (.int .i64 1)), (.c (.int .i64 1)), (.c (.int .i64 0)), (.c .nils), (.c (.int .i64 5)), (.t 28)]), (some (25, false)), [13, 10, 10]⟩, ⟨(some 30), (.un .not (.t 29)), (some (25, false)), [14, 10]⟩, ⟨(some 31), (.pick (.t 25) (.c (.bool true)) (.t 30)), none, [10, 15]⟩, ⟨(some 32), (.mv (.t 31)), none, [16, 14]⟩, ⟨(some 33), (.bslice 3 1 [(.int .i64 0)] 1 [(0, (.c (.int .i64 1)))]), (some (32, false)), [17]⟩, ⟨(some 34), (.ld true 3 (.t 1)), (some (32, false)), [17]⟩, ⟨(some 35), (.ld true 3 (.t 2)), (some (32, false)), [17]⟩, ⟨(some 36), (.ld true 3 (.t 3)), (some (32, false)), [17]⟩, ⟨(some 37), (.bslice 80 3 [(.int .i64 0), (.int .i64 0), (.bool false)] 3 [(0, (.t 34)), (1, (.t 35)), (2, (.t 36))]), (some (32, false)), [19, 20, 21, 17]⟩, ⟨(some 38), (.call 57 [(.c (.int .i64 1)), (.c (.int .i64 1)), (.c (.int .i64 1)), (.t 33), (.c (.int .i64 0)), (.t 37)]), (some (32, false)), [18, 22, 17, 17]⟩, ⟨(some 39), (.un .not (.t 38)), (some (32, false)), [23, 17]⟩, ⟨(some 40), (.pick (.t 32) (.c (.bool true)) (.t 39)), none, [17, 24]⟩, ⟨(some 41), (.mv (.t 40)), none, [25, 23]⟩, ⟨(some 42), (.bslice 3 1 [(.int .i64 0)] 1 [(0, (.c (.int .i64 1)))]), (some (41, false)), [26]⟩, ⟨(some 43), (.ld true 3 (.t 1)), (some (41, false)), [26]⟩, ⟨(some 44), (.ld true 3 (.t 2)), (some (41, false)), [26]⟩, ⟨(some 45), (.ld true 3 (.t 3)), (some (41, false)), [26]⟩, ⟨(some 46), (.bslice 80 3 [(.int .i64 0), (.int .i64 0), (.bool false)] 3 [(0, (.t 43)), (1, (.t 44)), (2, (.t 45))]), (some (41, false)), [28, 29, 30, 26]⟩, ⟨(some 47), (.call 57 [(.c (.int .i64 2)), (.c (.int .i64 1)), (.c (.int .i64 1)), (.t 42), (.c (.int .i64 35)), (.t 46)]), (some (41, false)), [27, 31, 26, 26]⟩, ⟨(some 48), (.un .not (.t 47)), (some (41, false)), [32, 26]⟩, ⟨(some 49), (.pick (.t 41) (.c (.bool true)) (.t 48)), none, [26, 33]⟩] false) (.cond (.t 49) (.seq (.reg [⟨(some 0), (.mv (.c (.bool false))), none, []⟩] false) .ret) .skip)) (.seq (.reg [⟨(some 51), (.ld true 3 (.t 1)), none, []⟩, ⟨(some 52), (.ld true 3 (.t 2)), none, []⟩, ⟨(some 53), (.bslice 80 3 [(.int .i64 0), (.int .i64 0), (.bool false)] 2 [(0, (.t 51)), (1, (.t 52))]), none, [0, 1]⟩, ⟨(some 54), (.call 36 [(.t 53), (.c (.int .i64 1)), (.c (.int .i64 0))]), none, [2]⟩, ⟨(some 50), (.mv (.t 54)), none, [3]⟩, ⟨(some 55), (.ext (.t 50) 0), none, [4]⟩, ⟨(some 56), (.ext (.t 50) 1), none, [4]⟩, ⟨(some 4), (.mv (.t 55)), none, [5, 3, 0, 1, 2, 3, 4, 5]⟩, ⟨(some 5), (.mv (.t 56)), none, [6, 7, 0, 1, 2, 3, 4, 5, 6, 7]⟩] false) (.seq (.reg [⟨(some 58), (.ld true 3 (.t 1)), none, []⟩, ⟨(some 59), (.ld true 3 (.t 2)), none, []⟩, ⟨(some 60), (.bslice 80 3 [(.int .i64 0), (.int .i64 0), (.bool false)] 2 [(0, (.t 58)), (1, (.t 59))]), none, [0, 1]⟩, ⟨(some 61), (.call 39 [(.t 60), (.c (.int .i64 1)), (.c (.int .i64 0))]), none, [2]⟩, ⟨(some 57), (.mv (.t 61)), none, [3]⟩, ⟨(some 62), (.ext (.t 57) 0), none, [4]⟩, ⟨(some 63), (.ext (.t 57) 1), none, [4]⟩, ⟨(some 6), (.mv (.t 62)), none, [5, 3, 0, 1, 2, 3, 4, 5]⟩, ⟨(some 7), (.mv (.t 63)), none, [6, 7, 0, 1, 2, 3, 4, 5, 6, 7]⟩] false) (.seq (.reg [⟨(some 64), (.ld true 3 (.t 1)), none, []⟩, ⟨(some 65), (.build [(.int .i64 0), (.int .i64 0), (.bool false)] [(1, (1, (.c (.int .i64 1))))]), none, []⟩, ⟨(some 66), (.build [(.int .i64 0), (.int .i64 0), (.bool false)] [(0, (1, (.c (.int .i64 1)))), (1, (1, (.c (.int .i64 1)))), (2, (1, (.c (.bool true))))]), none, []⟩, ⟨(some 67), (.ld true 3 (.t 2)), none, []⟩, ⟨(some 68), (.bslice 80 3 [(.int .i64 0), (.int .i64 0), (.bool false)] 4 [(0, (.t 64)), (1, (.t 65)), (2, (.t 66)), (3, (.t 67))]), none, [0, 1, 2, 3]⟩, ⟨(some 8), (.mv (.t 68)), none, [4, 0, 1, 2, 3, 4]⟩] false) (.seq (.reg [⟨(some 70), (.mv (.t 8)), none, []⟩, ⟨(some 71), (.call 36 [(.t 70), (.c (.int .i64 2)), (.c (.int .i64 1))]), none, [0]⟩, ⟨(some 69), (.mv (.t 71)), none, [1]⟩, ⟨(some 72), (.ext (.t 69) 0), none, [2]⟩, ⟨(some 73), (.ext (.t 69) 1), none, [2]⟩, ⟨(some 9), (.mv (.t 72)), none, [3, 1, 0, 1, 2, 3]⟩, ⟨(some 10), (.mv (.t 73)), none, [4, 5, 0, 1, 2, 3, 4, 5]⟩] false) (.seq (.reg [⟨(some 74), (.bslice 3 1 [(.int .i64 0)] 2 [(0, (.c (.int .i64 1))), (1, (.c (.int .i64 1)))]), none, []⟩, ⟨(some 75), (.build [(.str (.mk (.mk []))), .nils, .nils] [(2, (1, (.t 74)))]), none, [0]⟩, ⟨(some 11), (.alloc 74 3 [(.str (.mk (.mk []))), .nils, .nils]), none, []⟩, ⟨none, (.st 3 (.t 11) (.t 75)), none, [2, 1, 0, 1, 2]⟩] false) (.seq (.reg [⟨(some 76), (.mv (.t 5)), none, []⟩, ⟨(some 77), (.bin .eql (.t 76) (.c (.int .i64 21))), none, [0]⟩, ⟨(some 78), (.mv (.t 77)), none, [1]⟩, ⟨(some 79), (.mv (.t 7)), (some (78, true)), [2]⟩, ⟨(some 80), (.bin .eql (.t 79) (.c (.int .i64 21))), (some (78, true)), [3, 2]⟩, ⟨(some 81), (.pick (.t 78) (.t 80) (.c (.bool false))), none, [2, 4]⟩, ⟨(some 82), (.mv (.t 81)), none, [5, 2]⟩, ⟨(some 83), (.bslice 3 1 [(.int .i64 0)] 1 [(0, (.c (.int .i64 3)))]), (some (82, true)), [6]⟩, ⟨(some 84), (.build [(.str (.mk (.mk []))), .nils, .nils] [(2, (1, (.t 83)))]), (some (82, true)), [7, 6]⟩, ⟨(some 85), (.ld true 3 (.t 1)), (some (82, true)), [6]⟩, ⟨(some 86), (.ld true 3 (.t 2)), (some (82, true)), [6]⟩, ⟨(some 87), (.bslice 80 3 [(.int .i64 0), (.int .i64 0), (.bool false)] 2 [(0, (.t 85)), (1, (.t 86))]), (some (82, true)), [9, 10, 6]⟩, ⟨(some 88), (.call 42 [(.t 84), (.t 87), (.c (.int .i64 0))]), (some (82, true)), [8, 11, 6, 6]⟩, ⟨(some 89), (.bin .eql (.t 88) (.c (.int .i64 21))), (some (82, true)), [12, 6]⟩, ⟨(some 90), (.pick (.t 82) (.t 89) (.c (.bool false))), none, [6, 13]⟩, ⟨(some 91), (.mv (.t 90)), none, [14, 12]⟩, ⟨(some 92), (.mv (.t 10)), (some (91, true)), [15]⟩, ⟨(some 93), (.bin .eql (.t 92) (.c (.int .i64 0))), (some (91, true)), [16, 15]⟩, ⟨(some 94), (.pick (.t 91) (.t 93) (.c (.bool false))), none, [15, 17]⟩, ⟨(some 95), (.mv (.t 94)), none, [18, 15]⟩, ⟨(some 96), (.mv (.t 9)), (some (95, true)), [19]⟩, ⟨(some 97), (.bslice 3 1 [(.int .i64 0)] 2 [(0, (.c (.int .i64 0))), (1, (.c (.int .i64 0)))]), (some (95, true)), [19]⟩, ⟨(some 98), (.call 38 [(.t 96), (.t 97)]), (some (95, true)), [20, 21, 19, 19]⟩, ⟨(some 99), (.pick (.t 95) (.t 98) (.c (.bool false))), none, [19, 22]⟩, ⟨(some 100), (.mv (.t 99)), none, [23, 22]⟩, ⟨(some 101), (.ld true 3 (.t 11)), (some (100, true)), [24]⟩, ⟨(some 102), (.mv (.t 8)), (some (100, true)), [24]⟩, ⟨(some 103), (.call 42 [(.t 101), (.t 102), (.c (.int .i64 1))]), (some (100, true)), [25, 26, 24, 24]⟩, ⟨(some 104), (.bin .eql (.t 103) (.c (.int .i64 35))), (some (100, true)), [27, 24]⟩, ⟨(some 105), (.pick (.t 100) (.t 104) (.c (.bool false))), none, [24, 28]⟩, ⟨(some 106), (.mv (.t 105)), none, [29, 27]⟩, ⟨(some 107), (.build [(.int .i64 0), (.int .i64 0), (.bool false)] [(1, (1, (.c (.int .i64 1))))]), (some (106, true)), [30]⟩, ⟨(some 108), (.bslice 80 3 [(.int .i64 0), (.int .i64 0), (.bool false)] 1 [(0, (.t 107))]), (some (106, true)), [31, 30]⟩, ⟨(some 109), (.call 34 [(.t 108), (.c (.int .i64 1)), (.c (.int .i64 0))]), (some (106, true)), [32, 30, 30]⟩, ⟨(some 110), (.bin .eql (.t 109) (.c (.int .i64 3))), (some (106, true)), [33, 30]⟩, ⟨(some 111), (.pick (.t 106) (.t 110) (.c (.bool false))), none, [30, 34]⟩, ⟨(some 112), (.mv (.t 111)), none, [35, 33]⟩, ⟨(some 113), (.bslice 3 1 [(.int .i64 0)] 1 [(0, (.c (.int .i64 4)))]), (some (112, true)), [36]⟩, ⟨(some 114), (.build [(.str (.mk (.mk []))), .nils, .nils] [(2, (1, (.t 113)))]), (some (112, true)), [37, 36]⟩, ⟨(some 115), (.call 42 [(.t 114), (.c .nils), (.c (.int .i64 0))]), (some (112, true)), [38, 36, 36]⟩, ⟨(some 116), (.bin .eql (.t 115) (.c (.int .i64 1))), (some (112, true)), [39, 36]⟩, ⟨(some 117), (.pick (.t 112) (.t 116) (.c (.bool false))), none, [36, 40]⟩, ⟨(some 0), (.mv (.t 117)), none, [41, 39, 0, 1, 2, 3, 4, 5, 6, 7, 8, 9, 10, 11, 12, 13, 14, 15, 16, 17, 18, 19, 20, 21, 22, 23, 24, 25, 26, 27, 28, 29, 30, 31, 32, 33, 34, 35, 36, 37, 38, 39, 40, 41]⟩] false) .ret)))))))))
theorem mcOk31 : (match Try.f31.body with | some c => compC Try.prog 118 c | none => none) = some mc31 := by kernel_rfl

theorem fc31  : FC Try.prog 31 [] [] (.bool true) [] false := by
  refine fc_run (nt := 118) Try.func31 rfl rfl mcOk31 (Nat.le_of_ble_eq_true rfl) ?_
  delta mc31
  refine aw_seq ?_
  refine aw_reg ?_
  refine rs_mv rfl rfl ?_
  refine rs_nil fun _ => ?_
  refine th_n ?_
  refine aw_seq ?_
  refine aw_reg ?_
  refine rs_build rfl rfl ?_
  refine rs_build rfl rfl ?_
  refine rs_build rfl rfl ?_
  refine rs_alloc rfl rfl rfl ?_
  refine rs_alloc rfl rfl rfl ?_
  refine rs_alloc rfl rfl rfl ?_
  refine rs_st (els' := [cS (⟨0, 0, true⟩ : Sg)]) rfl rfl rfl rfl rfl rfl rfl (Nat.le_of_ble_eq_true rfl) rfl rfl ?_
  refine rs_st (els' := [cS (⟨1, 0, false⟩ : Sg)]) rfl rfl rfl rfl rfl rfl rfl (Nat.le_of_ble_eq_true rfl) rfl rfl ?_
  refine rs_st (els' := [cS (⟨2, 0, true⟩ : Sg)]) rfl rfl rfl rfl rfl rfl rfl (Nat.le_of_ble_eq_true rfl) rfl rfl ?_
  refine rs_nil fun _ => ?_
  refine th_n ?_
  refine aw_seq ?_
  refine aw_seq ?_
  refine aw_reg ?_
  first | refine rs_ld_pa rfl rfl rfl rfl (Nat.le_of_ble_eq_true rfl) rfl ?_ | refine rs_ld_ra rfl rfl (Nat.le_of_ble_eq_true rfl) rfl ?_ | refine rs_ld_ma rfl rfl rfl (by omega) (Nat.le_of_ble_eq_true rfl) rfl ?_
  refine rs_bslice rfl rfl rfl rfl rfl rfl ?_
  refine rs_calln [16] rfl rfl (fc57 [(⟨0, 0, true⟩ : Sg)] 1 0 1 0 [] (by decide) (by decide) (by decide +kernel) (by decide +kernel) (by decide +kernel) (by decide +kernel)) (.cons (hv_same rfl) (.cons (hv_same rfl) (.cons (hv_same rfl) (.cons (hv_nils) (.cons (hv_same rfl) (.cons (hv_sl (by simp) rfl (Nat.le_of_ble_eq_true rfl) rfl) (.nil))))))) rfl ?_
  refine rs_not rfl rfl ?_
  refine rs_mv rfl rfl ?_
  first | refine rs_ld_pa rfl rfl rfl rfl (Nat.le_of_ble_eq_true rfl) rfl ?_ | refine rs_ld_ra rfl rfl (Nat.le_of_ble_eq_true rfl) rfl ?_ | refine rs_ld_ma rfl rfl rfl (by omega) (Nat.le_of_ble_eq_true rfl) rfl ?_
  refine rs_bslice rfl rfl rfl rfl rfl rfl ?_
  refine rs_calln [21] rfl rfl (fc57 [(⟨0, 0, true⟩ : Sg)] 1 1 0 5 [] (by decide) (by decide) (by decide +kernel) (by decide +kernel) (by decide +kernel) (by decide +kernel)) (.cons (hv_same rfl) (.cons (hv_same rfl) (.cons (hv_same rfl) (.cons (hv_nils) (.cons (hv_same rfl) (.cons (hv_sl (by simp) rfl (Nat.le_of_ble_eq_true rfl) rfl) (.nil))))))) rfl ?_
  refine rs_not rfl rfl ?_
  refine rs_pick rfl rfl rfl ?_
  refine rs_mv rfl rfl ?_
  first | refine rs_ld_pa rfl rfl rfl rfl (Nat.le_of_ble_eq_true rfl) rfl ?_ | refine rs_ld_ra rfl rfl (Nat.le_of_ble_eq_true rfl) rfl ?_ | refine rs_ld_ma rfl rfl rfl (by omega) (Nat.le_of_ble_eq_true rfl) rfl ?_
  first | refine rs_ld_pa rfl rfl rfl rfl (Nat.le_of_ble_eq_true rfl) rfl ?_ | refine rs_ld_ra rfl rfl (Nat.le_of_ble_eq_true rfl) rfl ?_ | refine rs_ld_ma rfl rfl rfl (by omega) (Nat.le_of_ble_eq_true rfl) rfl ?_
  refine rs_bslice rfl rfl rfl rfl rfl rfl ?_
  refine rs_calln [28] rfl rfl (fc57 [(⟨0, 0, true⟩ : Sg), (⟨1, 0, false⟩ : Sg)] 1 1 0 5 [] (by decide) (by decide) (by decide +kernel) (by decide +kernel) (by decide +kernel) (by decide +kernel)) (.cons (hv_same rfl) (.cons (hv_same rfl) (.cons (hv_same rfl) (.cons (hv_nils) (.cons (hv_same rfl) (.cons (hv_sl (by simp) rfl (Nat.le_of_ble_eq_true rfl) rfl) (.nil))))))) rfl ?_
  refine rs_not rfl rfl ?_
  refine rs_pick rfl rfl rfl ?_
  refine rs_mv rfl rfl ?_
  refine rs_bslice rfl rfl rfl rfl rfl rfl ?_
  first | refine rs_ld_pa rfl rfl rfl rfl (Nat.le_of_ble_eq_true rfl) rfl ?_ | refine rs_ld_ra rfl rfl (Nat.le_of_ble_eq_true rfl) rfl ?_ | refine rs_ld_ma rfl rfl rfl (by omega) (Nat.le_of_ble_eq_true rfl) rfl ?_
  first | refine rs_ld_pa rfl rfl rfl rfl (Nat.le_of_ble_eq_true rfl) rfl ?_ | refine rs_ld_ra rfl rfl (Nat.le_of_ble_eq_true rfl) rfl ?_ | refine rs_ld_ma rfl rfl rfl (by omega) (Nat.le_of_ble_eq_true rfl) rfl ?_
  first | refine rs_ld_pa rfl rfl rfl rfl (Nat.le_of_ble_eq_true rfl) rfl ?_ | refine rs_ld_ra rfl rfl (Nat.le_of_ble_eq_true rfl) rfl ?_ | refine rs_ld_ma rfl rfl rfl (by omega) (Nat.le_of_ble_eq_true rfl) rfl ?_
  refine rs_bslice rfl rfl rfl rfl rfl rfl ?_
  refine rs_calln [33, 37] rfl rfl (fc57 [(⟨0, 0, true⟩ : Sg), (⟨1, 0, false⟩ : Sg), (⟨2, 0, true⟩ : Sg)] 1 1 1 0 [1] (by decide) (by decide) (by decide +kernel) (by decide +kernel) (by decide +kernel) (by decide +kernel)) (.cons (hv_same rfl) (.cons (hv_same rfl) (.cons (hv_same rfl) (.cons (hv_sl (by simp) rfl (Nat.le_of_ble_eq_true rfl) rfl) (.cons (hv_same rfl) (.cons (hv_sl (by simp) rfl (Nat.le_of_ble_eq_true rfl) rfl) (.nil))))))) rfl ?_
  refine rs_not rfl rfl ?_
  refine rs_pick rfl rfl rfl ?_
  refine rs_mv rfl rfl ?_
  refine rs_bslice rfl rfl rfl rfl rfl rfl ?_
  first | refine rs_ld_pa rfl rfl rfl rfl (Nat.le_of_ble_eq_true rfl) rfl ?_ | refine rs_ld_ra rfl rfl (Nat.le_of_ble_eq_true rfl) rfl ?_ | refine rs_ld_ma rfl rfl rfl (by omega) (Nat.le_of_ble_eq_true rfl) rfl ?_
  first | refine rs_ld_pa rfl rfl rfl rfl (Nat.le_of_ble_eq_true rfl) rfl ?_ | refine rs_ld_ra rfl rfl (Nat.le_of_ble_eq_true rfl) rfl ?_ | refine rs_ld_ma rfl rfl rfl (by omega) (Nat.le_of_ble_eq_true rfl) rfl ?_
  first | refine rs_ld_pa rfl rfl rfl rfl (Nat.le_of_ble_eq_true rfl) rfl ?_ | refine rs_ld_ra rfl rfl (Nat.le_of_ble_eq_true rfl) rfl ?_ | refine rs_ld_ma rfl rfl rfl (by omega) (Nat.le_of_ble_eq_true rfl) rfl ?_
  refine rs_bslice rfl rfl rfl rfl rfl rfl ?_
  refine rs_calln [42, 46] rfl rfl (fc57 [(⟨0, 0, true⟩ : Sg), (⟨1, 0, false⟩ : Sg), (⟨2, 0, true⟩ : Sg)] 2 1 1 35 [1] (by decide) (by decide) (by decide +kernel) (by decide +kernel) (by decide +kernel) (by decide +kernel)) (.cons (hv_same rfl) (.cons (hv_same rfl) (.cons (hv_same rfl) (.cons (hv_sl (by simp) rfl (Nat.le_of_ble_eq_true rfl) rfl) (.cons (hv_same rfl) (.cons (hv_sl (by simp) rfl (Nat.le_of_ble_eq_true rfl) rfl) (.nil))))))) rfl ?_
  refine rs_not rfl rfl ?_
  refine rs_pick rfl rfl rfl ?_
  refine rs_nil fun _ => ?_
  refine th_n ?_
  refine aw_cond rfl (fun h => by cases h) (fun _ => ?_)
  refine aw_skip ?_
  refine th_n ?_
  refine aw_seq ?_
  refine aw_reg ?_
  first | refine rs_ld_pa rfl rfl rfl rfl (Nat.le_of_ble_eq_true rfl) rfl ?_ | refine rs_ld_ra rfl rfl (Nat.le_of_ble_eq_true rfl) rfl ?_ | refine rs_ld_ma rfl rfl rfl (by omega) (Nat.le_of_ble_eq_true rfl) rfl ?_
  first | refine rs_ld_pa rfl rfl rfl rfl (Nat.le_of_ble_eq_true rfl) rfl ?_ | refine rs_ld_ra rfl rfl (Nat.le_of_ble_eq_true rfl) rfl ?_ | refine rs_ld_ma rfl rfl rfl (by omega) (Nat.le_of_ble_eq_true rfl) rfl ?_
  refine rs_bslice rfl rfl rfl rfl rfl rfl ?_
  refine rs_calln [53] rfl rfl (ni54) (.cons (hv_sl (by simp) rfl (Nat.le_of_ble_eq_true rfl) rfl) (.cons (hv_same rfl) (.cons (hv_same rfl) (.nil)))) rfl ?_
  refine rs_mv rfl rfl ?_
  refine rs_ext rfl rfl rfl ?_
  refine rs_ext rfl rfl rfl ?_
  refine rs_mv rfl rfl ?_
  refine rs_mv rfl rfl ?_
  refine rs_nil fun _ => ?_
  refine th_n ?_
  refine aw_seq ?_
  refine aw_reg ?_
  first | refine rs_ld_pa rfl rfl rfl rfl (Nat.le_of_ble_eq_true rfl) rfl ?_ | refine rs_ld_ra rfl rfl (Nat.le_of_ble_eq_true rfl) rfl ?_ | refine rs_ld_ma rfl rfl rfl (by omega) (Nat.le_of_ble_eq_true rfl) rfl ?_
  first | refine rs_ld_pa rfl rfl rfl rfl (Nat.le_of_ble_eq_true rfl) rfl ?_ | refine rs_ld_ra rfl rfl (Nat.le_of_ble_eq_true rfl) rfl ?_ | refine rs_ld_ma rfl rfl rfl (by omega) (Nat.le_of_ble_eq_true rfl) rfl ?_
  refine rs_bslice rfl rfl rfl rfl rfl rfl ?_
  refine rs_calln [60] rfl rfl (ni61) (.cons (hv_sl (by simp) rfl (Nat.le_of_ble_eq_true rfl) rfl) (.cons (hv_same rfl) (.cons (hv_same rfl) (.nil)))) rfl ?_
  refine rs_mv rfl rfl ?_
  refine rs_ext rfl rfl rfl ?_
  refine rs_ext rfl rfl rfl ?_
  refine rs_mv rfl rfl ?_
  refine rs_mv rfl rfl ?_
  refine rs_nil fun _ => ?_
  refine th_n ?_
  refine aw_seq ?_
  refine aw_reg ?_
  first | refine rs_ld_pa rfl rfl rfl rfl (Nat.le_of_ble_eq_true rfl) rfl ?_ | refine rs_ld_ra rfl rfl (Nat.le_of_ble_eq_true rfl) rfl ?_ | refine rs_ld_ma rfl rfl rfl (by omega) (Nat.le_of_ble_eq_true rfl) rfl ?_
  refine rs_build rfl rfl ?_
  refine rs_build rfl rfl ?_
  first | refine rs_ld_pa rfl rfl rfl rfl (Nat.le_of_ble_eq_true rfl) rfl ?_ | refine rs_ld_ra rfl rfl (Nat.le_of_ble_eq_true rfl) rfl ?_ | refine rs_ld_ma rfl rfl rfl (by omega) (Nat.le_of_ble_eq_true rfl) rfl ?_
  refine rs_bslice rfl rfl rfl rfl rfl rfl ?_
  refine rs_mv rfl rfl ?_
  refine rs_nil fun _ => ?_
  refine th_n ?_
  refine aw_seq ?_
  refine aw_reg ?_
  refine rs_mv rfl rfl ?_
  refine rs_calln [68] rfl rfl (ni71) (.cons (hv_sl (by simp) rfl (Nat.le_of_ble_eq_true rfl) rfl) (.cons (hv_same rfl) (.cons (hv_same rfl) (.nil)))) rfl ?_
  refine rs_mv rfl rfl ?_
  refine rs_ext rfl rfl rfl ?_
  refine rs_ext rfl rfl rfl ?_
  refine rs_mv rfl rfl ?_
  refine rs_mv rfl rfl ?_
  refine rs_nil fun _ => ?_
  refine th_n ?_
  refine aw_seq ?_
  refine aw_reg ?_
  refine rs_bslice rfl rfl rfl rfl rfl rfl ?_
  refine rs_build rfl rfl ?_
  refine rs_alloc rfl rfl rfl ?_
  refine rs_st rfl rfl rfl rfl rfl rfl rfl (Nat.le_of_ble_eq_true rfl) rfl rfl ?_
  refine rs_nil fun _ => ?_
  refine th_n ?_
  refine aw_seq ?_
  refine aw_reg ?_
  refine rs_mv rfl rfl ?_
  refine rs_cmp_t rfl rfl rfl rfl rfl ?_
  refine rs_mv rfl rfl ?_
  refine rs_mv rfl rfl ?_
  refine rs_cmp_t rfl rfl rfl rfl rfl ?_
  refine rs_pick rfl rfl rfl ?_
  refine rs_mv rfl rfl ?_
  refine rs_bslice rfl rfl rfl rfl rfl rfl ?_
  refine rs_build rfl rfl ?_
  first | refine rs_ld_pa rfl rfl rfl rfl (Nat.le_of_ble_eq_true rfl) rfl ?_ | refine rs_ld_ra rfl rfl (Nat.le_of_ble_eq_true rfl) rfl ?_ | refine rs_ld_ma rfl rfl rfl (by omega) (Nat.le_of_ble_eq_true rfl) rfl ?_
  first | refine rs_ld_pa rfl rfl rfl rfl (Nat.le_of_ble_eq_true rfl) rfl ?_ | refine rs_ld_ra rfl rfl (Nat.le_of_ble_eq_true rfl) rfl ?_ | refine rs_ld_ma rfl rfl rfl (by omega) (Nat.le_of_ble_eq_true rfl) rfl ?_
  refine rs_bslice rfl rfl rfl rfl rfl rfl ?_
  refine rs_calln [83, 87] rfl rfl (nv88) (.cons (hv_agg (.cons (hv_same rfl) (.cons (hv_same rfl) (.cons (hv_sl (by simp) rfl (Nat.le_of_ble_eq_true rfl) rfl) .nil)))) (.cons (hv_sl (by simp) rfl (Nat.le_of_ble_eq_true rfl) rfl) (.cons (hv_same rfl) (.nil)))) rfl ?_
  refine rs_cmp_t rfl rfl rfl rfl rfl ?_
  refine rs_pick rfl rfl rfl ?_
  refine rs_mv rfl rfl ?_
  refine rs_mv rfl rfl ?_
  refine rs_cmp_t rfl rfl rfl rfl rfl ?_
  refine rs_pick rfl rfl rfl ?_
  refine rs_mv rfl rfl ?_
  refine rs_mv rfl rfl ?_
  refine rs_bslice rfl rfl rfl rfl rfl rfl ?_
  refine rs_calln [97] rfl rfl (fc38_t [0, 0] (by decide)) (.cons (hv_same rfl) (.cons (hv_sl (by simp) rfl (Nat.le_of_ble_eq_true rfl) rfl) (.nil))) rfl ?_
  refine rs_pick rfl rfl rfl ?_
  refine rs_mv rfl rfl ?_
  first | refine rs_ld_pa rfl rfl rfl rfl (Nat.le_of_ble_eq_true rfl) rfl ?_ | refine rs_ld_ra rfl rfl (Nat.le_of_ble_eq_true rfl) rfl ?_ | refine rs_ld_ma rfl rfl rfl (by omega) (Nat.le_of_ble_eq_true rfl) rfl ?_
  refine rs_mv rfl rfl ?_
  refine rs_calln [74, 68] rfl rfl (nv103) (.cons (hv_agg (.cons (hv_same rfl) (.cons (hv_same rfl) (.cons (hv_sl (by simp) rfl (Nat.le_of_ble_eq_true rfl) rfl) .nil)))) (.cons (hv_sl (by simp) rfl (Nat.le_of_ble_eq_true rfl) rfl) (.cons (hv_same rfl) (.nil)))) rfl ?_
  refine rs_cmp_t rfl rfl rfl rfl rfl ?_
  refine rs_pick rfl rfl rfl ?_
  refine rs_mv rfl rfl ?_
  refine rs_build rfl rfl ?_
  refine rs_bslice rfl rfl rfl rfl rfl rfl ?_
  refine rs_calln [108] rfl rfl (nc109) (.cons (hv_sl (by simp) rfl (Nat.le_of_ble_eq_true rfl) rfl) (.cons (hv_same rfl) (.cons (hv_same rfl) (.nil)))) rfl ?_
  refine rs_cmp_t rfl rfl rfl rfl rfl ?_
  refine rs_pick rfl rfl rfl ?_
  refine rs_mv rfl rfl ?_
  refine rs_bslice rfl rfl rfl rfl rfl rfl ?_
  refine rs_build rfl rfl ?_
  refine rs_calln [113] rfl rfl (nv115) (.cons (hv_agg (.cons (hv_same rfl) (.cons (hv_same rfl) (.cons (hv_sl (by simp) rfl (Nat.le_of_ble_eq_true rfl) rfl) .nil)))) (.cons (hv_nils) (.cons (hv_same rfl) (.nil)))) rfl ?_
  refine rs_cmp_t rfl rfl rfl rfl rfl ?_
  refine rs_pick rfl rfl rfl ?_
  refine rs_mv rfl rfl ?_
  refine rs_nil fun _ => ?_
  refine th_n ?_
  refine aw_ret ?_
  exact ret_pure rfl rfl rfl (.inr rfl)

end Go.Proofs.Ytadjdnhnbkcakaa

/-! What Cells, Liars and Verdict say, told by truths that agree. No program in sight. -/
namespace Go.Proofs.Ytadjdnhnbkcakaa
open Go.RowKit

/-- A truth that agrees, with a small set of gauges that may lie. -/
structure AgI (l : List Sg) (lies : Int) (s : Nat) (T : Nat → Bool) : Prop where
  lt : s < 256
  small : (sizeS s 8 : Int) ≤ lies
  says : ∀ r ∈ l, hasS s r.gauge.toNat = true ∨ r.there = T r.cell.toNat

section
variable {l : List Sg} {lies : Int}
theorem exI_iff {s : Nat} : exI l lies s = true ↔ (sizeS s 8 : Int) ≤ lies ∧ thM l s &&& goM l s = 0 := by
  unfold exI
  simp only [Bool.and_eq_true, decide_eq_true_eq]
theorem agI_th {s : Nat} (hs : s < 256) (h : exI l lies s = true) : AgI l lies s fun c => (thM l s).testBit c := by
  obtain ⟨h1, h2⟩ := exI_iff.1 h
  refine ⟨hs, h1, fun r hr => ?_⟩
  cases hg : hasS s r.gauge.toNat
  · right
    cases ht : r.there
    · have hgo : (goM l s).testBit r.cell.toNat = true := goM_bit.2 ⟨r, hr, hg, ht, rfl⟩
      cases e : (thM l s).testBit r.cell.toNat
      · rfl
      · exact absurd ⟨e, hgo⟩ ((and_zero.1 h2) _)
    · exact (thM_bit.2 ⟨r, hr, hg, ht, rfl⟩).symm
  · exact .inl rfl
theorem agI_go {s : Nat} (hs : s < 256) (h : exI l lies s = true) : AgI l lies s fun c => !(goM l s).testBit c := by
  obtain ⟨h1, h2⟩ := exI_iff.1 h
  refine ⟨hs, h1, fun r hr => ?_⟩
  cases hg : hasS s r.gauge.toNat
  · right
    cases ht : r.there
    · rw [goM_bit.2 ⟨r, hr, hg, ht, rfl⟩]; rfl
    · have hth : (thM l s).testBit r.cell.toNat = true := thM_bit.2 ⟨r, hr, hg, ht, rfl⟩
      cases e : (goM l s).testBit r.cell.toNat
      · rfl
      · exact absurd ⟨hth, e⟩ ((and_zero.1 h2) _)
  · exact .inl rfl
theorem agI_thM {s : Nat} {T : Nat → Bool} (h : AgI l lies s T) {c : Nat} (hb : (thM l s).testBit c = true) : T c = true := by
  obtain ⟨r, hr, h1, h2, h3⟩ := thM_bit.1 hb
  rcases h.says r hr with e | e
  · rw [h1] at e; cases e
  · rw [← h3, ← e]; exact h2
theorem agI_goM {s : Nat} {T : Nat → Bool} (h : AgI l lies s T) {c : Nat} (hb : (goM l s).testBit c = true) : T c = false := by
  obtain ⟨r, hr, h1, h2, h3⟩ := goM_bit.1 hb
  rcases h.says r hr with e | e
  · rw [h1] at e; cases e
  · rw [← h3, ← e]; exact h2
theorem agI_ex {s : Nat} {T : Nat → Bool} (h : AgI l lies s T) : exI l lies s = true := by
  refine exI_iff.2 ⟨h.small, and_zero.2 fun i ⟨a, b⟩ => ?_⟩
  have := agI_thM h a
  rw [agI_goM h b] at this; cases this
theorem ts_ne : tsK l lies 256 ≠ [] ↔ ∃ s T, AgI l lies s T := by
  constructor
  · intro h
    obtain ⟨t, ht⟩ := List.exists_mem_of_ne_nil _ h
    obtain ⟨s, hs, hx, rfl⟩ := mem_tsK.1 ht
    exact ⟨s, _, agI_th hs hx⟩
  · rintro ⟨s, T, h⟩ e
    have : mkT l s ∈ tsK l lies 256 := mem_tsK.2 ⟨s, h.lt, agI_ex h, rfl⟩
    rw [e] at this
    simp at this
theorem whole_th (h : tsK l lies 256 ≠ []) (c : Nat) : (wholeT (tsK l lies 256)).1.testBit c = true ↔ ∀ s T, AgI l lies s T → T c = true := by
  rw [whole_bit (fun t => t.1) (fun _ _ => rfl) h]
  constructor
  · intro a s T hT
    exact agI_thM hT (a _ (mem_tsK.2 ⟨s, hT.lt, agI_ex hT, rfl⟩))
  · intro a t ht
    obtain ⟨s, hs, hx, rfl⟩ := mem_tsK.1 ht
    exact a s _ (agI_th hs hx)
theorem whole_go (h : tsK l lies 256 ≠ []) (c : Nat) : (wholeT (tsK l lies 256)).2.1.testBit c = true ↔ ∀ s T, AgI l lies s T → T c = false := by
  rw [whole_bit (fun t => t.2.1) (fun _ _ => rfl) h]
  constructor
  · intro a s T hT
    exact agI_goM hT (a _ (mem_tsK.2 ⟨s, hT.lt, agI_ex hT, rfl⟩))
  · intro a t ht
    obtain ⟨s, hs, hx, rfl⟩ := mem_tsK.1 ht
    have := a s _ (agI_go hs hx)
    show (goM l s).testBit c = true
    simpa using this
theorem whole_li (h : tsK l lies 256 ≠ []) (p : Nat) : hasS (wholeT (tsK l lies 256)).2.2 p = true ↔ ∀ s T, AgI l lies s T → hasS s p = true := by
  have hw : hasS (wholeT (tsK l lies 256)).2.2 p = true ↔ ∀ t ∈ tsK l lies 256, t.2.2.testBit p = true := whole_bit (fun t => t.2.2) (fun _ _ => rfl) h p
  rw [hw]
  constructor
  · intro a s T hT
    exact a _ (mem_tsK.2 ⟨s, hT.lt, agI_ex hT, rfl⟩)
  · intro a t ht
    obtain ⟨s, hs, hx, rfl⟩ := mem_tsK.1 ht
    exact a s _ (agI_th hs hx)

/-- The gauges that lie in a truth. -/
def lieI (l : List Sg) (T : Nat → Bool) (m : Nat) : Nat := l.foldl (fun m r => if r.there = T r.cell.toNat then m else m ||| 2 ^ r.gauge.toNat) m
def Gok (l : List Sg) : Prop := ∀ r ∈ l, 0 ≤ r.gauge ∧ r.gauge < 8
theorem lieI_has {T : Nat → Bool} {q : Nat} : ∀ (l : List Sg) (m : Nat), hasS (lieI l T m) q = true ↔ hasS m q = true ∨ ∃ r ∈ l, r.gauge.toNat = q ∧ r.there ≠ T r.cell.toNat
  | [], m => by simp [lieI]
  | r :: l, m => by
    show hasS (lieI l T (if r.there = T r.cell.toNat then m else m ||| 2 ^ r.gauge.toNat)) q = true ↔ _
    rw [lieI_has l]
    by_cases hb : r.there = T r.cell.toNat
    · rw [if_pos hb]
      simp only [List.mem_cons]
      constructor
      · rintro (h | ⟨r', h1, h2⟩)
        · exact .inl h
        · exact .inr ⟨r', .inr h1, h2⟩
      · rintro (h | ⟨r', rfl | h1, h2, h3⟩)
        · exact .inl h
        · exact absurd hb h3
        · exact .inr ⟨r', h1, h2, h3⟩
    · rw [if_neg hb, hasS_or]
      simp only [Bool.or_eq_true, decide_eq_true_eq, List.mem_cons]
      constructor
      · rintro ((h | h) | ⟨r', h1, h2⟩)
        · exact .inl h
        · exact .inr ⟨r, .inl rfl, h, hb⟩
        · exact .inr ⟨r', .inr h1, h2⟩
      · rintro (h | ⟨r', rfl | h1, h2, h3⟩)
        · exact .inl (.inl h)
        · exact .inl (.inr h2)
        · exact .inr ⟨r', h1, h2, h3⟩
theorem lieI_lt {T : Nat → Bool} : ∀ (l : List Sg) (m : Nat), Gok l → m < 256 → lieI l T m < 256
  | [], m, _, hm => hm
  | r :: l, m, hl, hm => by
    show lieI l T (if r.there = T r.cell.toNat then m else m ||| 2 ^ r.gauge.toNat) < 256
    have h0 := hl r (by simp)
    refine lieI_lt l _ (fun r h => hl r (by simp [h])) ?_
    split
    · exact hm
    · exact or_pow_lt m hm _ (by omega)
theorem agI_iff {T : Nat → Bool} (hg : Gok l) : (∃ s, AgI l lies s T) ↔ (sizeS (lieI l T 0) 8 : Int) ≤ lies := by
  constructor
  · rintro ⟨s, hs⟩
    have hsub : ∀ p, p < 8 → hasS (lieI l T 0) p = true → hasS s p = true := fun p _ hp => by
      rcases (lieI_has l 0).1 hp with h0 | ⟨r, hr, e, hb⟩
      · rw [hasS_0] at h0; cases h0
      · rcases hs.says r hr with h1 | h1
        · rw [← e]; exact h1
        · exact absurd h1 hb
    have := size_mono hsub 8 (Nat.le_refl _)
    have := hs.small
    omega
  · intro h
    refine ⟨_, lieI_lt l 0 hg (by decide), h, fun r hr => ?_⟩
    by_cases hb : r.there = T r.cell.toNat
    · exact .inr hb
    · exact .inl ((lieI_has l 0).2 (.inr ⟨r, hr, rfl, hb⟩))
theorem agI_lie {T : Nat → Bool} {s : Nat} (hg : Gok l) (h : AgI l lies s T) : AgI l lies (lieI l T 0) T := by
  refine ⟨lieI_lt l 0 hg (by decide), (agI_iff hg).1 ⟨s, h⟩, fun r hr => ?_⟩
  by_cases hb : r.there = T r.cell.toNat
  · exact .inr hb
  · exact .inl ((lieI_has l 0).2 (.inr ⟨r, hr, rfl, hb⟩))

/-- What Cells and Liars say where some truth agrees. -/
structure SemI (l : List Sg) (cells lies : Int) (K : List Int) (all : Nat) : Prop where
  len : K.length = cells.toNat
  val : ∀ (c : Nat) (x : Int), K[c]? = some x → (x = 1 ∧ ∀ s T, AgI l lies s T → T c = true) ∨ (x = -1 ∧ ∀ s T, AgI l lies s T → T c = false) ∨ (x = 0 ∧ (∃ s T, AgI l lies s T ∧ T c = true) ∧ ∃ s T, AgI l lies s T ∧ T c = false)
  liars : ∀ p, p < 8 → (hasS all p = true ↔ ∀ s T, AgI l lies s T → hasS s p = true)
theorem cells_sem {cells : Int} (hok : SgOk l cells lies) :
    ((∃ s T, AgI l lies s T) ∧ cellsE l cells lies = 0 ∧ ∃ all, sureL l cells lies = outK all 8 ∧ SemI l cells lies (cellsL l cells lies) all) ∨
    ((¬ ∃ s T, AgI l lies s T) ∧ cellsE l cells lies = 21 ∧ cellsL l cells lies = [] ∧ sureL l cells lies = []) := by
  have h0 := checkI_ok.2 hok
  by_cases hx : ∃ s T, AgI l lies s T
  · left
    have hts := ts_ne.2 hx
    obtain ⟨e1, e2, e3⟩ := cells_3 h0 hts
    refine ⟨hx, e1, _, e3, ?_⟩
    rw [e2]
    refine ⟨length_cellW _ _, fun c x hc => ?_, fun p _ => whole_li hts p⟩
    have hlt := lt_of_at hc
    rw [length_cellW] at hlt
    rw [cellW_at hlt] at hc
    injection hc with hc
    subst hc
    have h1 := whole_th hts c
    have h2 := whole_go hts c
    have hd := (and_zero.1 (whole_disj hts)) c
    unfold cellF bitN
    cases e1 : (wholeT (tsK l lies 256)).1.testBit c <;> cases e2 : (wholeT (tsK l lies 256)).2.1.testBit c
    · right; right
      refine ⟨by simp, ?_, ?_⟩
      · rw [e2] at h2
        have h3 : ¬ ∀ s T, AgI l lies s T → T c = false := fun h => by simpa using h2.2 h
        simp only [Classical.not_forall] at h3
        obtain ⟨s, T, a, b⟩ := h3
        exact ⟨s, T, a, by simpa using b⟩
      · rw [e1] at h1
        have h3 : ¬ ∀ s T, AgI l lies s T → T c = true := fun h => by simpa using h1.2 h
        simp only [Classical.not_forall] at h3
        obtain ⟨s, T, a, b⟩ := h3
        exact ⟨s, T, a, by simpa using b⟩
    · right; left
      exact ⟨by simp, h2.1 e2⟩
    · left
      exact ⟨by simp, h1.1 e1⟩
    · exact absurd ⟨e1, e2⟩ hd
  · right
    have hts : tsK l lies 256 = [] := by
      by_cases e : tsK l lies 256 = []
      · exact e
      · exact absurd (ts_ne.1 e) hx
    obtain ⟨e1, e2, e3⟩ := cells_2 h0 hts
    exact ⟨hx, e1, e2, e3⟩
end

/-! ### Verdict -/
/-- A truth is good for wants. -/
def GoodT (want : List Int) (T : Nat → Bool) : Prop := ∀ c, c < want.length → (want.getD c 0 = 1 → T c = true) ∧ (want.getD c 0 = 2 → T c = false)
section
variable {l : List Sg} {lies : Int} {want : List Int}
theorem goodK_iff (t : Nat) : goodK want t want.length = true ↔ GoodT want fun c => hasS t c := by
  unfold goodK GoodT
  rw [List.all_eq_true]
  constructor
  · intro h c hc
    have := h c (List.mem_range.2 hc)
    unfold goodF at this
    simp only [Bool.and_eq_true, Bool.not_eq_true', Bool.and_eq_false_iff, decide_eq_false_iff_not, Bool.not_eq_false'] at this
    exact ⟨fun e => this.1.resolve_left (fun q => q e), fun e => this.2.resolve_left (fun q => q e)⟩
  · intro h c hc
    obtain ⟨a, b⟩ := h c (List.mem_range.1 hc)
    unfold goodF
    simp only [Bool.and_eq_true, Bool.not_eq_true', Bool.and_eq_false_iff, decide_eq_false_iff_not, Bool.not_eq_false']
    refine ⟨?_, ?_⟩
    · by_cases e : want.getD c 0 = 1
      · exact .inr (a e)
      · exact .inl e
    · by_cases e : want.getD c 0 = 2
      · exact .inr (b e)
      · exact .inl e
theorem sure_good (hts : tsK l lies 256 ≠ []) (h : sureK want (wholeT (tsK l lies 256)) want.length = true) {s : Nat} {T : Nat → Bool} (hT : AgI l lies s T) : GoodT want T := fun c hc => by
  unfold sureK at h
  have h1 := (List.all_eq_true.1 h) c (List.mem_range.2 hc)
  unfold sureF at h1
  rw [decide_eq_true_eq] at h1
  have hd := whole_disj hts
  rw [(cellF_1 hd c).1, (cellF_1 hd c).2, whole_th hts, whole_go hts] at h1
  refine ⟨fun e => ?_, fun e => ?_⟩
  · rcases h1 with q | q | q
    · omega
    · exact q.1 s T hT
    · omega
  · rcases h1 with q | q | q
    · omega
    · omega
    · exact q.1 s T hT
theorem good_sure (hbw : badW want = false) (hts : tsK l lies 256 ≠ []) (h : ∀ s T, AgI l lies s T → GoodT want T) : sureK want (wholeT (tsK l lies 256)) want.length = true := by
  unfold sureK
  rw [List.all_eq_true]
  intro c hc
  have hc := List.mem_range.1 hc
  unfold sureF
  rw [decide_eq_true_eq]
  have hd := whole_disj hts
  rw [(cellF_1 hd c).1, (cellF_1 hd c).2, whole_th hts, whole_go hts]
  rcases want_cases hbw hc with e | e | e
  · exact .inr (.inl ⟨fun s T hT => (h s T hT c hc).1 e, e⟩)
  · exact .inr (.inr ⟨fun s T hT => (h s T hT c hc).2 e, e⟩)
  · exact .inl e
theorem good_fit (hbw : badW want = false) {s : Nat} {T : Nat → Bool} (hT : AgI l lies s T) (hg : GoodT want T) : fitK want (mkT l s).1 (mkT l s).2.1 want.length = true := by
  unfold fitK
  rw [List.all_eq_true]
  intro c hc
  have hc := List.mem_range.1 hc
  unfold fitF
  rw [decide_eq_true_eq]
  have hd : thM l s &&& goM l s = 0 := (exI_iff.1 (agI_ex hT)).2
  rcases want_cases hbw hc with e | e | e
  · refine .inr (.inl ⟨fun q => ?_, e⟩)
    have h1 := agI_goM hT ((leftF_1 hd c).2.1 q)
    rw [(hg c hc).1 e] at h1; cases h1
  · refine .inr (.inr ⟨fun q => ?_, e⟩)
    have h1 := agI_thM hT ((leftF_1 hd c).1.1 q)
    rw [(hg c hc).2 e] at h1; cases h1
  · exact .inl e
theorem fit_good {t : T3} (ht : t ∈ tsK l lies 256) (hf : fitK want t.1 t.2.1 want.length = true) (hcl : ∀ r ∈ l, r.cell.toNat < want.length) : ∃ s T, AgI l lies s T ∧ GoodT want T := by
  obtain ⟨s, hs, hx, rfl⟩ := mem_tsK.1 ht
  obtain ⟨h1, hd⟩ := exI_iff.1 hx
  unfold fitK at hf
  have hf := List.all_eq_true.1 hf
  refine ⟨s, fun c => if want.getD c 0 = 1 then true else if want.getD c 0 = 2 then false else (thM l s).testBit c, ⟨hs, h1, fun r hr => ?_⟩, fun c hc => ⟨fun e => if_pos e, fun e => ?_⟩⟩
  · have hag := (agI_th hs hx).says r hr
    rcases hag with e | e
    · exact .inl e
    · cases hg : hasS s r.gauge.toNat
      · right
        have hfc := hf r.cell.toNat (List.mem_range.2 (hcl r hr))
        unfold fitF at hfc
        rw [decide_eq_true_eq] at hfc
        show r.there = if want.getD r.cell.toNat 0 = 1 then true else if want.getD r.cell.toNat 0 = 2 then false else (thM l s).testBit r.cell.toNat
        by_cases w1 : want.getD r.cell.toNat 0 = 1
        · rw [if_pos w1]
          cases hth : r.there
          · have hgo : (goM l s).testBit r.cell.toNat = true := goM_bit.2 ⟨r, hr, hg, hth, rfl⟩
            have hl := (leftF_1 hd r.cell.toNat).2.2 hgo
            rcases hfc with q | q | q
            · omega
            · exact absurd hl q.1
            · omega
          · rfl
        · rw [if_neg w1]
          by_cases w2 : want.getD r.cell.toNat 0 = 2
          · rw [if_pos w2]
            cases hth : r.there
            · rfl
            · have hth' : (thM l s).testBit r.cell.toNat = true := thM_bit.2 ⟨r, hr, hg, hth, rfl⟩
              have hl := (leftF_1 hd r.cell.toNat).1.2 hth'
              rcases hfc with q | q | q
              · omega
              · omega
              · exact absurd hl q.1
          · rw [if_neg w2]; exact e
      · exact .inl rfl
  · show (if want.getD c 0 = 1 then true else if want.getD c 0 = 2 then false else (thM l s).testBit c) = false
    rw [if_neg (by omega), if_pos e]
/-- What Verdict says, told by truths. -/
theorem verd_sem (hbw : badW want = false) (hok : SgOk l want.length lies) :
    ((∃ s T, AgI l lies s T) → (((∀ s T, AgI l lies s T → GoodT want T) ∧ verdS want l lies = 0) ∨ ((∃ s T, AgI l lies s T ∧ GoodT want T) ∧ (∃ s T, AgI l lies s T ∧ ¬ GoodT want T) ∧ verdS want l lies = 5) ∨ ((∀ s T, AgI l lies s T → ¬ GoodT want T) ∧ verdS want l lies = 35))) ∧
    ((¬ ∃ s T, AgI l lies s T) → verdS want l lies = 21) := by
  have h0 := checkI_ok.2 hok
  have hcl : ∀ r ∈ l, r.cell.toNat < want.length := fun r hr => by have := hok.sg r hr; omega
  constructor
  · intro hx
    have hts := ts_ne.2 hx
    have hE := (cells_3 h0 hts).1
    cases hs : sureK want (wholeT (tsK l lies 256)) want.length
    · right
      have hbad : ∃ s T, AgI l lies s T ∧ ¬ GoodT want T := by
        have : ¬ ∀ s T, AgI l lies s T → GoodT want T := fun h => by rw [good_sure hbw hts h] at hs; cases hs
        simp only [Classical.not_forall] at this
        obtain ⟨s, T, a, b⟩ := this
        exact ⟨s, T, a, b⟩
      by_cases hg : ∃ s T, AgI l lies s T ∧ GoodT want T
      · obtain ⟨s, T, a, b⟩ := hg
        exact .inl ⟨⟨s, T, a, b⟩, hbad, verd_5 hbw hE hs (mem_tsK.2 ⟨s, a.lt, agI_ex a, rfl⟩) (good_fit hbw a b)⟩
      · right
        refine ⟨fun s T a b => hg ⟨s, T, a, b⟩, verd_6 hbw hE hs fun t ht => ?_⟩
        cases hf : fitK want t.1 t.2.1 want.length
        · rfl
        · exact absurd (fit_good ht hf hcl) hg
    · exact .inl ⟨fun s T hT => sure_good hts hs hT, verd_4 hbw hE hs⟩
  · intro hx
    have hts : tsK l lies 256 = [] := by
      by_cases e : tsK l lies 256 = []
      · exact e
      · exact absurd (ts_ne.1 e) hx
    exact verd_3 hbw h0 hts
end
end Go.Proofs.Ytadjdnhnbkcakaa

/-! Every truth in turn: what agrees with sights, as bits. No program in sight. -/
namespace Go.Proofs.Ytadjdnhnbkcakaa
open Go.RowKit

theorem ex_bits (T : Nat → Bool) : ∀ N : Nat, ∃ t, t < 2 ^ N ∧ ∀ c, c < N → hasS t c = T c
  | 0 => ⟨0, by simp, fun c h => by omega⟩
  | N + 1 => by
    obtain ⟨t, h1, h2⟩ := ex_bits T N
    have hp : (2 : Nat) ^ (N + 1) = 2 ^ N * 2 := Nat.pow_succ ..
    have hN : hasS t N = false := Nat.testBit_lt_two_pow h1
    cases e : T N
    · refine ⟨t, by omega, fun c hc => ?_⟩
      by_cases q : c = N
      · subst q; rw [hN, e]
      · exact h2 c (by omega)
    · refine ⟨t ||| 2 ^ N, Nat.or_lt_two_pow (by omega) (by omega), fun c hc => ?_⟩
      rw [hasS_or]
      by_cases q : c = N
      · subst q; rw [e]; simp
      · rw [h2 c (by omega), decide_eq_false (fun h => q h.symm), Bool.or_false]
theorem lieI_congr {T T' : Nat → Bool} : ∀ (l : List Sg) (m : Nat), (∀ r ∈ l, T r.cell.toNat = T' r.cell.toNat) → lieI l T m = lieI l T' m
  | [], _, _ => rfl
  | r :: l, m, h => by
    show lieI l T (if r.there = T r.cell.toNat then m else m ||| 2 ^ r.gauge.toNat) = lieI l T' (if r.there = T' r.cell.toNat then m else m ||| 2 ^ r.gauge.toNat)
    rw [h r (by simp), lieI_congr l _ fun r hr => h r (by simp [hr])]
/-- The gauges that lie in the truth t. -/
abbrev lieT (l : List Sg) (t : Nat) : Nat := lieI l (fun c => hasS t c) 0
def lieK (l : List Sg) (t k : Nat) : Nat := lieT (l.take k) t
theorem lieK_all (l : List Sg) (t : Nat) : lieK l t l.length = lieT l t := by unfold lieK; rw [List.take_length]
theorem lieK_0 (l : List Sg) (t : Nat) : lieK l t 0 = 0 := rfl
theorem lieK_succ {l : List Sg} {t k : Nat} {r : Sg} (h : l[k]? = some r) : lieK l t (k + 1) = if r.there = hasS t r.cell.toNat then lieK l t k else lieK l t k ||| 2 ^ r.gauge.toNat := by
  unfold lieK lieT lieI
  rw [List.take_add_one, h, Option.toList_some, List.foldl_append]
  rfl
theorem lieK_lt {l : List Sg} (hg : Gok l) (t k : Nat) : lieK l t k < 256 := lieI_lt _ 0 (fun r hr => hg r (List.mem_of_mem_take hr)) (by decide)
theorem or_has {m p : Nat} (h : hasS m p = true) : m ||| 2 ^ p = m := by
  apply Nat.eq_of_testBit_eq
  intro i
  rw [or_bit]
  by_cases e : p = i
  · subst e; simp [show m.testBit p = true from h]
  · simp [e]
/-- One more sight: it agrees, or its gauge is known to lie. -/
theorem lieK_same {l : List Sg} {t k : Nat} {r : Sg} (h : l[k]? = some r) (hq : (!(hasS t r.cell.toNat == r.there) && !hasS (lieK l t k) r.gauge.toNat) = false) : lieK l t (k + 1) = lieK l t k := by
  rw [lieK_succ h]
  split
  · rfl
  · rename_i hne
    simp only [Bool.and_eq_false_iff, Bool.not_eq_false'] at hq
    rcases hq with q | q
    · exact absurd (beq_iff_eq.1 q).symm hne
    · exact or_has q
theorem lieK_new {l : List Sg} {t k : Nat} {r : Sg} (hg : Gok l) (h : l[k]? = some r) (hq : (!(hasS t r.cell.toNat == r.there) && !hasS (lieK l t k) r.gauge.toNat) = true) : lieK l t (k + 1) = lieK l t k ||| 2 ^ r.gauge.toNat ∧ sizeS (lieK l t (k + 1)) 8 = sizeS (lieK l t k) 8 + 1 := by
  simp only [Bool.and_eq_true, Bool.not_eq_true'] at hq
  have h0 := hg r (mem_of_at h)
  have hne : ¬ r.there = hasS t r.cell.toNat := fun e => by rw [e] at hq; simp at hq
  have e : lieK l t (k + 1) = lieK l t k ||| 2 ^ r.gauge.toNat := by rw [lieK_succ h, if_neg hne]
  refine ⟨e, ?_⟩
  rw [e, size_or _ (lieK_lt hg t k) _ (by omega), if_neg (by rw [hq.2]; decide)]

/-- t agrees. -/
def okT (l : List Sg) (m : Int) (t : Nat) : Bool := decide ((sizeS (lieT l t) 8 : Int) ≤ m)
/-- What is held when the truths below k were looked at. -/
structure AllI (l : List Sg) (m : Int) (N : Nat) (want : List Int) (k th go li : Nat) (some right bad : Bool) : Prop where
  th : th < 2 ^ N ∧ ∀ c, c < N → (hasS th c = true ↔ ∀ t, t < k → okT l m t = true → hasS t c = true)
  go : go < 2 ^ N ∧ ∀ c, c < N → (hasS go c = true ↔ ∀ t, t < k → okT l m t = true → hasS t c = false)
  li : li < 256 ∧ ∀ p, p < 8 → (hasS li p = true ↔ ∀ t, t < k → okT l m t = true → hasS (lieT l t) p = true)
  some : some = true ↔ ∃ t, t < k ∧ okT l m t = true
  right : right = true ↔ ∃ t, t < k ∧ okT l m t = true ∧ goodK want t N = true
  bad : bad = true ↔ ∃ t, t < k ∧ okT l m t = true ∧ goodK want t N = false
section
variable {l : List Sg} {m : Int} {N : Nat} {want : List Int}
theorem allI_0 : AllI l m N want 0 (2 ^ N - 1) (2 ^ N - 1) 255 false false false := by
  have hp : 0 < 2 ^ N := Nat.two_pow_pos N
  refine ⟨⟨by omega, fun c hc => ⟨fun _ t ht => by omega, fun _ => ?_⟩⟩, ⟨by omega, fun c hc => ⟨fun _ t ht => by omega, fun _ => ?_⟩⟩, ⟨by decide, fun p hp => ⟨fun _ t ht => by omega, fun _ => hasS_255 p hp⟩⟩, ⟨(fun h => by cases h), fun ⟨t, ht, _⟩ => by omega⟩, ⟨(fun h => by cases h), fun ⟨t, ht, _⟩ => by omega⟩, ⟨(fun h => by cases h), fun ⟨t, ht, _⟩ => by omega⟩⟩ <;>
  · unfold hasS; rw [Nat.testBit_two_pow_sub_one]; simpa using hc
theorem allS {p : Nat → Prop} {q : Nat → Prop} {k : Nat} (h : ¬ q k ∨ p k) : (∀ t, t < k + 1 → q t → p t) ↔ ∀ t, t < k → q t → p t := by
  refine ⟨fun h t ht => h t (by omega), fun h' t ht hq => ?_⟩
  by_cases e : t = k
  · subst e; rcases h with h | h
    · exact absurd hq h
    · exact h
  · exact h' t (by omega) hq
theorem exS {q : Nat → Prop} {k : Nat} (h : ¬ q k) : (∃ t, t < k + 1 ∧ q t) ↔ ∃ t, t < k ∧ q t := by
  refine ⟨fun ⟨t, ht, hq⟩ => ?_, fun ⟨t, ht, hq⟩ => ⟨t, by omega, hq⟩⟩
  by_cases e : t = k
  · subst e; exact absurd hq h
  · exact ⟨t, by omega, hq⟩
theorem allI_no {k th go li : Nat} {s r b : Bool} (h : AllI l m N want k th go li s r b) (hk : okT l m k = false) : AllI l m N want (k + 1) th go li s r b := by
  have hn : ¬ okT l m k = true := by rw [hk]; decide
  exact ⟨⟨h.th.1, fun c hc => (h.th.2 c hc).trans (allS (.inl hn)).symm⟩, ⟨h.go.1, fun c hc => (h.go.2 c hc).trans (allS (.inl hn)).symm⟩, ⟨h.li.1, fun c hc => (h.li.2 c hc).trans (allS (.inl hn)).symm⟩,
    h.some.trans (exS hn).symm, h.right.trans (exS fun q => hn q.1).symm, h.bad.trans (exS fun q => hn q.1).symm⟩
theorem allN {p q : Nat → Prop} {k : Nat} {x y : Bool} (h : x = true ↔ ∀ t, t < k → q t → p t) (hq : q k) (hy : y = true ↔ p k) : (x && y) = true ↔ ∀ t, t < k + 1 → q t → p t := by
  rw [Bool.and_eq_true, h, hy]
  refine ⟨fun ⟨a, b⟩ t ht hqt => ?_, fun a => ⟨fun t ht => a t (by omega), a k (by omega) hq⟩⟩
  by_cases e : t = k
  · subst e; exact b
  · exact a t (by omega) hqt
theorem exN {q : Nat → Prop} {k : Nat} {x y : Bool} (h : x = true ↔ ∃ t, t < k ∧ q t) (hy : y = true ↔ q k) : (x || y) = true ↔ ∃ t, t < k + 1 ∧ q t := by
  rw [Bool.or_eq_true, h, hy]
  refine ⟨fun a => ?_, fun ⟨t, ht, hq⟩ => ?_⟩
  · rcases a with ⟨t, ht, hq⟩ | a
    · exact ⟨t, by omega, hq⟩
    · exact ⟨k, by omega, a⟩
  · by_cases e : t = k
    · subst e; exact .inr hq
    · exact .inl ⟨t, by omega, hq⟩
theorem allI_ok {k th go li : Nat} {s r b : Bool} (h : AllI l m N want k th go li s r b) (hk : okT l m k = true) (hkN : k < 2 ^ N) :
    AllI l m N want (k + 1) (th &&& k) (go &&& (2 ^ N - 1 - k)) (li &&& lieT l k) true (r || goodK want k N) (b || !goodK want k N) := by
  refine ⟨⟨Nat.lt_of_le_of_lt Nat.and_le_left h.th.1, fun c hc => ?_⟩, ⟨Nat.lt_of_le_of_lt Nat.and_le_left h.go.1, fun c hc => ?_⟩, ⟨Nat.lt_of_le_of_lt Nat.and_le_left h.li.1, fun c hc => ?_⟩, ⟨fun _ => ⟨k, by omega, hk⟩, fun _ => rfl⟩, exN h.right ?_, exN h.bad ?_⟩
  · rw [hasS_and]
    exact allN (h.th.2 c hc) hk Iff.rfl
  · rw [hasS_and]
    refine allN (h.go.2 c hc) hk ?_
    have e : 2 ^ N - 1 - k = 2 ^ N - (k + 1) := by omega
    unfold hasS
    rw [e, Nat.testBit_two_pow_sub_succ hkN, decide_eq_true hc, Bool.true_and]
    cases k.testBit c <;> simp
  · rw [hasS_and]
    exact allN (h.li.2 c hc) hk Iff.rfl
  · exact ⟨fun e => ⟨hk, e⟩, fun e => e.2⟩
  · exact ⟨fun e => ⟨hk, by simpa using e⟩, fun e => by simpa using e.2⟩

theorem bitN_eq (a c : Nat) : bitN a c = if hasS a c = true then 1 else 0 := rfl
theorem goodT_congr {T T' : Nat → Bool} (h : ∀ c, c < want.length → T c = T' c) : GoodT want T ↔ GoodT want T' := by
  unfold GoodT
  refine ⟨fun a c hc => ?_, fun a c hc => ?_⟩
  · rw [← h c hc]; exact a c hc
  · rw [h c hc]; exact a c hc
theorem okT_iff {t : Nat} (hg : Gok l) : okT l m t = true ↔ ∃ s, AgI l m s fun c => hasS t c := by
  unfold okT
  rw [decide_eq_true_eq, agI_iff hg]
/-- Each truth that agrees is one of those that are looked at. -/
theorem agI_num (hok : SgOk l N m) (hg : Gok l) {s : Nat} {T : Nat → Bool} (h : AgI l m s T) : ∃ t, t < 2 ^ N ∧ okT l m t = true ∧ (∀ c, c < N → hasS t c = T c) ∧ lieT l t = lieI l T 0 := by
  obtain ⟨t, h1, h2⟩ := ex_bits T N
  have e : lieT l t = lieI l T 0 := lieI_congr l 0 fun r hr => h2 _ (by have := hok.sg r hr; omega)
  refine ⟨t, h1, ?_, h2, e⟩
  unfold okT
  rw [e, decide_eq_true_eq]
  exact (agI_iff hg).1 ⟨s, h⟩
theorem allI_end {th go li : Nat} {s r b : Bool} (hg : Gok l) (hbw : badW want = false) (hw : want.length = N) (hok : SgOk l N m) (h : AllI l m N want (2 ^ N) th go li s r b) :
    (s = false ∧ cellsE l N m = 21 ∧ verdS want l m = 21) ∨
    (s = true ∧ cellsE l N m = 0 ∧ (cellsL l N m).length = N ∧ (∀ (c : Nat) (x : Int), (cellsL l N m)[c]? = some x → x = bitN th c - bitN go c) ∧ sureL l N m = outK li 8 ∧
      (r = true ∧ b = true ∧ verdS want l m = 5 ∨ r = true ∧ b = false ∧ verdS want l m = 0 ∨ r = false ∧ b = true ∧ verdS want l m = 35)) := by
  have hG : ∀ T : Nat → Bool, ∀ t, (∀ c, c < N → hasS t c = T c) → (goodK want t N = true ↔ GoodT want T) := fun T t ht => by
    have := goodK_iff (want := want) t
    rw [hw] at this
    rw [this]
    exact goodT_congr fun c hc => ht c (by omega)
  rcases cells_sem hok with ⟨hx, a1, all, a2, a3⟩ | ⟨hx, a1, a2, a3⟩
  · right
    have hs : s = true := by
      obtain ⟨s', T, hT⟩ := hx
      obtain ⟨t, t1, t2, _⟩ := agI_num hok hg hT
      exact h.some.2 ⟨t, t1, t2⟩
    refine ⟨hs, a1, by rw [a3.len]; simp, fun c x hcx => ?_, ?_, ?_⟩
    · have hcN : c < N := by have := lt_of_at hcx; rw [a3.len] at this; simpa using this
      obtain ⟨t0, k1, k2⟩ := h.some.1 hs
      obtain ⟨s0, hs0⟩ := (okT_iff hg).1 k2
      have hth := h.th.2 c hcN
      have hgo := h.go.2 c hcN
      rw [bitN_eq, bitN_eq]
      rcases a3.val c x hcx with ⟨rfl, q⟩ | ⟨rfl, q⟩ | ⟨rfl, ⟨s1, T1, q1, q1'⟩, ⟨s2, T2, q2, q2'⟩⟩
      · rw [if_pos (hth.2 fun t ht hk => by obtain ⟨s', hs'⟩ := (okT_iff hg).1 hk; exact q s' _ hs'), if_neg fun e => ?_]
        · rfl
        · have := hgo.1 e t0 k1 k2
          have := q s0 _ hs0
          simp_all
      · rw [if_neg fun e => ?_, if_pos (hgo.2 fun t ht hk => by obtain ⟨s', hs'⟩ := (okT_iff hg).1 hk; exact q s' _ hs')]
        · rfl
        · have := hth.1 e t0 k1 k2
          have := q s0 _ hs0
          simp_all
      · obtain ⟨t1, r1, r2, r3, _⟩ := agI_num hok hg q1
        obtain ⟨t2, p1, p2, p3, _⟩ := agI_num hok hg q2
        rw [if_neg fun e => ?_, if_neg fun e => ?_]
        · rfl
        · have := hgo.1 e t1 r1 r2
          rw [r3 c hcN, q1'] at this; cases this
        · have := hth.1 e t2 p1 p2
          rw [p3 c hcN, q2'] at this; cases this
    · rw [a2]
      refine outK_congr fun p hp => ?_
      rw [Bool.eq_iff_iff, a3.liars p hp, h.li.2 p hp]
      refine ⟨fun q t ht hk => ?_, fun q s' T hT => ?_⟩
      · obtain ⟨s', hs'⟩ := (okT_iff hg).1 hk
        exact q _ _ (agI_lie hg hs')
      · obtain ⟨t, t1, t2, t3, t4⟩ := agI_num hok hg hT
        have := q t t1 t2
        rw [t4] at this
        rcases (lieI_has l 0).1 this with h0 | ⟨r', hr, e, hb⟩
        · rw [hasS_0] at h0; cases h0
        · rcases hT.says r' hr with h1 | h1
          · rw [← e]; exact h1
          · exact absurd h1 hb
    · have hr1 : (∃ s T, AgI l m s T ∧ GoodT want T) ↔ r = true := by
        rw [h.right]
        refine ⟨fun ⟨s', T, hT, hg'⟩ => ?_, fun ⟨t, t1, t2, t3⟩ => ?_⟩
        · obtain ⟨t, t1, t2, t3, _⟩ := agI_num hok hg hT
          exact ⟨t, t1, t2, (hG T t t3).2 hg'⟩
        · obtain ⟨s', hs'⟩ := (okT_iff hg).1 t2
          exact ⟨s', _, hs', (hG _ t fun _ _ => rfl).1 t3⟩
      have hb1 : (∃ s T, AgI l m s T ∧ ¬ GoodT want T) ↔ b = true := by
        rw [h.bad]
        refine ⟨fun ⟨s', T, hT, hg'⟩ => ?_, fun ⟨t, t1, t2, t3⟩ => ?_⟩
        · obtain ⟨t, t1, t2, t3, _⟩ := agI_num hok hg hT
          refine ⟨t, t1, t2, ?_⟩
          cases e : goodK want t N
          · rfl
          · exact absurd ((hG T t t3).1 e) hg'
        · obtain ⟨s', hs'⟩ := (okT_iff hg).1 t2
          exact ⟨s', _, hs', fun q => by rw [(hG _ t fun _ _ => rfl).2 q] at t3; cases t3⟩
      rcases (verd_sem hbw (by rw [hw]; exact hok)).1 hx with ⟨q, e⟩ | ⟨q1, q2, e⟩ | ⟨q, e⟩
      · refine .inr (.inl ⟨?_, ?_, e⟩)
        · obtain ⟨s', T, hT⟩ := hx
          exact hr1.1 ⟨s', T, hT, q _ _ hT⟩
        · cases eb : b
          · rfl
          · obtain ⟨s', T, hT, hn⟩ := hb1.2 eb
            exact absurd (q _ _ hT) hn
      · exact .inl ⟨hr1.1 q1, hb1.1 q2, e⟩
      · refine .inr (.inr ⟨?_, ?_, e⟩)
        · cases er : r
          · rfl
          · obtain ⟨s', T, hT, hn⟩ := hr1.2 er
            exact absurd hn (q _ _ hT)
        · obtain ⟨s', T, hT⟩ := hx
          exact hb1.1 ⟨s', T, hT, q _ _ hT⟩
  · left
    refine ⟨?_, a1, (verd_sem hbw (by rw [hw]; exact hok)).2 hx⟩
    cases e : s
    · rfl
    · obtain ⟨t, t1, t2⟩ := h.some.1 e
      obtain ⟨s', hs'⟩ := (okT_iff hg).1 t2
      exact absurd ⟨s', _, hs'⟩ hx
end

/-! ### The same of i64 -/
theorem or_i64 (a : Nat) (ha : a < 256) (b : Nat) (hb : b < 256) : bits .or .i64 (a : Int) (b : Int) = ((a ||| b : Nat) : Int) := by
  have h : a ||| b < 2 ^ 8 := Nat.or_lt_two_pow ha hb
  unfold bits
  simp only [BitVec.toNat_or]
  rw [show (BitVec.ofInt IntKind.i64.bits (a : Int)).toNat = a by rw [BitVec.ofInt_natCast]; simp [IntKind.bits]; omega, show (BitVec.ofInt IntKind.i64.bits (b : Int)).toNat = b by rw [BitVec.ofInt_natCast]; simp [IntKind.bits]; omega, IntKind.wrap_i64]
  omega
theorem shl_i64 : ∀ c : Nat, c < 8 → IntKind.i64.wrap (1 * 2 ^ min ((c : Nat) : Int).toNat IntKind.i64.bits) = ((2 ^ c : Nat) : Int) := by decide +kernel
theorem has_bits_0 : ∀ s : Nat, s < 256 → ∀ p : Nat, p < 8 → decide (bits .and .i64 ((s : Int).fdiv (2 ^ min ((p : Int)).toNat IntKind.i64.bits)) 1 = 0) = !hasS s p := by decide +kernel
theorem bit_i64 : ∀ s : Nat, s < 256 → ∀ p : Nat, p < 8 → bits .and .i64 ((s : Int).fdiv (2 ^ min ((p : Int)).toNat IntKind.i64.bits)) 1 = bitN s p := by decide +kernel
theorem bitN_01 (a c : Nat) : 0 ≤ bitN a c ∧ bitN a c ≤ 1 := by unfold bitN; split <;> omega
end Go.Proofs.Ytadjdnhnbkcakaa

/-! Walks: A33. -/
namespace Go.Proofs.Ytadjdnhnbkcakaa
open Go.RowKit

theorem pow_32 {N : Nat} (h : N ≤ 5) : 1 ≤ 2 ^ N ∧ 2 ^ N ≤ 32 := by
  have h1 := Nat.pow_le_pow_right (n := 2) (by decide) h
  have h2 := Nat.two_pow_pos N
  omega
theorem madeI_gok {n m : Int} {R : List Sg} (h : MadeI n m R) : Gok R := fun r hr => by have := h.sg r hr; omega
theorem madeI_sg {n m : Int} {R : List Sg} (h : MadeI n m R) : SgOk R n m := by
  have := h.n1
  have := h.n5
  have := h.lR
  refine ⟨by omega, by omega, by omega, h.m0, h.m3, fun r hr => ?_⟩
  have := h.sg r hr
  omega
section
variable {l : List Sg} {t k q c : Nat} {y : Bool}
theorem lk_s1 (hr : l[k]? = some ⟨(q : Int), (c : Int), y⟩) (h : (true != (hasS t c == y)) = false) : lieK l t (k + 1) = lieK l t k :=
  lieK_same hr (by
    show (!(hasS t c == y) && !hasS (lieK l t k) q) = false
    cases e : (hasS t c == y)
    · rw [e] at h; cases h
    · rfl)
theorem lk_s2 (hr : l[k]? = some ⟨(q : Int), (c : Int), y⟩) (h : (!hasS (lieK l t k) q) = false) : lieK l t (k + 1) = lieK l t k :=
  lieK_same hr (by
    show (!(hasS t c == y) && !hasS (lieK l t k) q) = false
    rw [h, Bool.and_false])
theorem lk_n (hg : Gok l) (hr : l[k]? = some ⟨(q : Int), (c : Int), y⟩) (h1 : (true != (hasS t c == y)) = true) (h2 : (!hasS (lieK l t k) q) = true) : lieK l t (k + 1) = lieK l t k ||| 2 ^ q ∧ sizeS (lieK l t (k + 1)) 8 = sizeS (lieK l t k) 8 + 1 :=
  lieK_new hg hr (by
    show (!(hasS t c == y) && !hasS (lieK l t k) q) = true
    cases e : (hasS t c == y)
    · rw [h2]; rfl
    · rw [e] at h1; cases h1)
end
theorem allI_calls {N : Nat} {m : Int} {R : List Sg} {th go li : Nat} {s r b : Bool} (hm : MadeI (N : Int) m R) (ws : List Int) (h : AllI R m N (wantsS ws N) (2 ^ N) th go li s r b) :
    ∃ (K Ls : List Int) (v E : Int), FC Try.prog 36 [.rs 3 (R.map cS), iv (N : Int), iv m] [] (.tup [ints K, iv E]) [] false ∧ FC Try.prog 39 [.rs 3 (R.map cS), iv (N : Int), iv m] [] (.tup [ints Ls, iv E]) [] false ∧ FC Try.prog 42 [partV (wantsS ws N), .rs 3 (R.map cS), iv m] [] (iv v) [] false ∧
      (s = false ∧ E = 21 ∧ v = 21 ∨ s = true ∧ E = 0 ∧ K.length = N ∧ (∀ (c : Nat) (x : Int), K[c]? = some x → x = bitN th c - bitN go c) ∧ Ls = outK li 8 ∧ (r = true ∧ b = true ∧ v = 5 ∨ r = true ∧ b = false ∧ v = 0 ∨ r = false ∧ b = true ∧ v = 35)) := by
  have hn1 := hm.n1
  have hn5 := hm.n5
  have hlR := hm.lR
  have f1 := fc36 R (N : Int) m (by omega)
  have f2 := fc39 R (N : Int) m (by omega)
  have hwl := length_wants ws N
  have f3 := fc42 (wantsS ws N) R m (by omega) (by omega)
  have hbw : badW (wantsS ws N) = false := badW_f fun x hx => by have := wants_range ws N x hx; omega
  exact ⟨_, _, _, _, f1, f2, f3, allI_end (madeI_gok hm) hbw hwl (madeI_sg hm) h⟩
section
variable {r b : Bool} {v : Int} (h : r = true ∧ b = true ∧ v = 5 ∨ r = true ∧ b = false ∧ v = 0 ∨ r = false ∧ b = true ∧ v = 35)
include h
theorem rb_5 (h1 : r = true) (h2 : b = true) : v = 5 := by subst h1 h2; rcases h with ⟨_, _, h⟩ | ⟨_, h, _⟩ | ⟨h, _⟩; exact h; cases h; cases h
theorem rb_0 (h1 : r = true) (h2 : b = false) : v = 0 := by subst h1 h2; rcases h with ⟨_, h, _⟩ | ⟨_, _, h⟩ | ⟨h, _⟩; cases h; exact h; cases h
theorem rb_35 (h1 : r = false) : v = 35 := by subst h1; rcases h with ⟨h, _⟩ | ⟨h, _⟩ | ⟨_, _, h⟩; cases h; cases h; exact h
theorem rb_b (h1 : r = false) : b = true := by subst h1; rcases h with ⟨h, _⟩ | ⟨h, _⟩ | ⟨_, h, _⟩; cases h; cases h; exact h
end

def mc12 : MC := (.seq (.reg [⟨(some 2), (.box 60 3 (.t 0)), none, []⟩, ⟨(some 4), (.mv (.c (.bool false))), none, []⟩] false) (.seq (.reg [⟨(some 29), (.call 31 []), none, []⟩, ⟨(some 5), (.mv (.t 29)), none, [0, 0, 0]⟩] false) (.seq (.reg [⟨(some 31), (.ld true 3 (.t 2)), none, []⟩, ⟨(some 32), (.call 32 [(.t 31)]), none, [0]⟩, ⟨(some 30), (.mv (.t 32)), none, [1]⟩, ⟨(some 33), (.ext (.t 30) 0), none, [2]⟩, ⟨(some 34), (.ext (.t 30) 1), none, [2]⟩, ⟨(some 35), (.ext (.t 30) 2), none, [2]⟩, ⟨(some 6), (.mv (.t 33)), none, [3, 1, 0, 1, 2, 3]⟩, ⟨(some 7), (.mv (.t 34)), none, [4, 6, 0, 1, 2, 3, 4, 6]⟩, ⟨(some 8), (.mv (.t 35)), none, [5, 7, 0, 1, 2, 3, 4, 5, 6, 7]⟩] false) (.seq (.reg [⟨(some 36), (.mv (.t 1)), none, []⟩, ⟨(some 37), (.mv (.t 7)), none, []⟩, ⟨(some 38), (.call 41 [(.t 36), (.t 37)]), none, [0, 1]⟩, ⟨(some 9), (.mv (.t 38)), none, [2, 2, 0, 1, 2]⟩] false) (.seq (.reg [⟨(some 39), (.mv (.t 7)), none, []⟩, ⟨(some 40), (.bin .shl (.c (.int .i64 1)) (.t 39)), none, [0]⟩, ⟨(some 41), (.bin .sub (.t 40) (.c (.int .i64 1))), none, [1]⟩, ⟨(some 42), (.mv (.t 7)), none, []⟩, ⟨(some 43), (.bin .shl (.c (.int .i64 1)) (.t 42)), none, [3]⟩, ⟨(some 44), (.bin .sub (.t 43) (.c (.int .i64 1))), none, [4]⟩, ⟨(some 10), (.mv (.t 41)), none, [2, 0, 1, 2]⟩, ⟨(some 11), (.mv (.t 44)), none, [5, 6, 0, 1, 2, 3, 4, 5, 6]⟩, ⟨(some 12), (.mv (.c (.int .i64 255))), none, [7, 0, 1, 2, 3, 4, 5, 6, 7]⟩] true) (.seq (.reg [⟨(some 13), (.mv (.c (.bool false))), none, []⟩, ⟨(some 14), (.mv (.c (.bool false))), none, [0, 0]⟩, ⟨(some 15), (.mv (.c (.bool false))), none, [1, 0, 1]⟩] false) (.seq (.seq (.reg [⟨(some 16), (.mv (.c (.int .i64 0))), none, []⟩] false) (.block 0 (.loop (.seq (.seq (.reg [⟨(some 45), (.mv (.t 16)), none, []⟩, ⟨(some 46), (.mv (.t 7)), none, []⟩, ⟨(some 47), (.bin .shl (.c (.int .i64 1)) (.t 46)), none, [1]⟩, ⟨(some 48), (.bin .lss (.t 45) (.t 47)), none, [0, 2]⟩] false) (.cond (.t 48) .skip (.exit 0))) (.seq (.block 1 (.seq (.reg [⟨(some 17), (.mv (.c (.int .i64 0))), none, []⟩, ⟨(some 18), (.mv (.c (.int .i64 0))), none, [0, 0]⟩] false) (.seq (.seq (.reg [⟨(some 51), (.mv (.t 6)), none, []⟩, ⟨(some 52), (.len (.t 51)), none, [0]⟩, ⟨(some 53), (.mv (.c (.int .i64 0))), none, []⟩] false) (.block 2 (.loop (.seq (.reg [⟨(some 54), (.bin .lss (.t 53) (.t 52)), none, []⟩] false) (.seq (.cond (.t 54) .skip (.exit 2)) (.seq (.block 3 (.seq (.reg [⟨(some 55), (.ixsl 3 (.t 51) (.t 53)), none, []⟩, ⟨(some 56), (.ld true 3 (.t 55)), none, [0]⟩, ⟨(some 20), (.alloc 80 3 [(.int .i64 0), (.int .i64 0), (.bool false)]), none, []⟩, ⟨none, (.st 3 (.t 20) (.t 56)), none, [2, 1, 0, 1, 2]⟩] false) (.seq (.reg [⟨(some 57), (.mv (.t 16)), none, []⟩, ⟨(some 58), (.fa 1 (.t 20)), none, []⟩, ⟨(some 59), (.ld false 1 (.t 58)), none, [1]⟩, ⟨(some 60), (.bin .shr (.t 57) (.t 59)), none, [0, 2]⟩, ⟨(some 61), (.bin .and (.t 60) (.c (.int .i64 1))), none, [3]⟩, ⟨(some 62), (.bin .eql (.t 61) (.c (.int .i64 1))), none, [4]⟩, ⟨(some 63), (.fa 2 (.t 20)), none, []⟩, ⟨(some 64), (.ld false 1 (.t 63)), none, [6]⟩, ⟨(some 65), (.beq true (.t 62) (.t 64)), none, [5, 7]⟩, ⟨(some 66), (.mv (.t 65)), none, [8]⟩, ⟨(some 67), (.mv (.t 17)), (some (66, true)), [9]⟩, ⟨(some 68), (.fa 0 (.t 20)), (some (66, true)), [9]⟩, ⟨(some 69), (.ld false 1 (.t 68)), (some (66, true)), [11, 9]⟩, ⟨(some 70), (.bin .shr (.t 67) (.t 69)), (some (66, true)), [10, 12, 9]⟩, ⟨(some 71), (.bin .and (.t 70) (.c (.int .i64 1))), (some (66, true)), [13, 9]⟩, ⟨(some 72), (.bin .eql (.t 71) (.c (.int .i64 0))), (some (66, true)), [14, 9]⟩, ⟨(some 73), (.pick (.t 66) (.t 72) (.c (.bool false))), none, [9, 15]⟩] true) (.cond (.t 73) (.seq (.reg [⟨(some 74), (.mv (.t 17)), none, []⟩, ⟨(some 75), (.fa 0 (.t 20)), none, []⟩, ⟨(some 76), (.ld false 1 (.t 75)), none, [1]⟩, ⟨(some 77), (.bin .shl (.c (.int .i64 1)) (.t 76)), none, [2]⟩, ⟨(some 78), (.bin .or (.t 74) (.t 77)), none, [0, 3]⟩, ⟨(some 17), (.mv (.t 78)), none, [4, 0, 1, 2, 3, 4]⟩] false) (.reg [⟨(some 79), (.mv (.t 18)), none, []⟩, ⟨(some 80), (.bin .add (.t 79) (.c (.int .i64 1))), none, [0]⟩, ⟨(some 18), (.mv (.t 80)), none, [1, 0, 1]⟩] false)) .skip)))) (.reg [⟨(some 81), (.bin .add (.t 53) (.c (.int .i64 1))), none, []⟩, ⟨(some 53), (.mv (.t 81)), none, [0]⟩] false))))))) (.seq (.seq (.reg [⟨(some 82), (.mv (.t 18)), none, []⟩, ⟨(some 83), (.mv (.t 8)), none, []⟩, ⟨(some 84), (.bin .gtr (.t 82) (.t 83)), none, [0, 1]⟩] false) (.cond (.t 84) (.exit 1) .skip)) (.seq (.reg [⟨(some 13), (.mv (.c (.bool true))), none, []⟩] false) (.seq (.reg [⟨(some 85), (.mv (.t 10)), none, []⟩, ⟨(some 86), (.mv (.t 16)), none, []⟩, ⟨(some 87), (.bin .and (.t 85) (.t 86)), none, [0, 1]⟩, ⟨(some 10), (.mv (.t 87)), none, [2, 0, 1, 2]⟩] false) (.seq (.reg [⟨(some 88), (.mv (.t 11)), none, []⟩, ⟨(some 89), (.mv (.t 7)), none, []⟩, ⟨(some 90), (.bin .shl (.c (.int .i64 1)) (.t 89)), none, [1]⟩, ⟨(some 91), (.bin .sub (.t 90) (.c (.int .i64 1))), none, [2]⟩, ⟨(some 92), (.mv (.t 16)), none, []⟩, ⟨(some 93), (.bin .sub (.t 91) (.t 92)), none, [3, 4]⟩, ⟨(some 94), (.bin .and (.t 88) (.t 93)), none, [0, 5]⟩, ⟨(some 11), (.mv (.t 94)), none, [6, 0, 1, 2, 3, 4, 5, 6]⟩] false) (.seq (.reg [⟨(some 95), (.mv (.t 12)), none, []⟩, ⟨(some 96), (.mv (.t 17)), none, []⟩, ⟨(some 97), (.bin .and (.t 95) (.t 96)), none, [0, 1]⟩, ⟨(some 12), (.mv (.t 97)), none, [2, 0, 1, 2]⟩] false) (.seq (.reg [⟨(some 98), (.mv (.t 14)), none, []⟩, ⟨(some 99), (.mv (.t 98)), none, [0]⟩, ⟨(some 100), (.mv (.t 9)), (some (99, false)), [1]⟩, ⟨(some 101), (.mv (.t 16)), (some (99, false)), [1]⟩, ⟨(some 102), (.call 44 [(.t 100), (.t 101)]), (some (99, false)), [2, 3, 1, 1]⟩, ⟨(some 103), (.pick (.t 99) (.c (.bool true)) (.t 102)), none, [1, 4]⟩, ⟨(some 14), (.mv (.t 103)), none, [5, 4, 0, 1, 2, 3, 4, 5]⟩] false) (.reg [⟨(some 104), (.mv (.t 15)), none, []⟩, ⟨(some 105), (.mv (.t 104)), none, [0]⟩, ⟨(some 106), (.mv (.t 9)), (some (105, false)), [1]⟩, ⟨(some 107), (.mv (.t 16)), (some (105, false)), [1]⟩, ⟨(some 108), (.call 44 [(.t 106), (.t 107)]), (some (105, false)), [2, 3, 1, 1]⟩, ⟨(some 109), (.un .not (.t 108)), (some (105, false)), [4, 1]⟩, ⟨(some 110), (.pick (.t 105) (.c (.bool true)) (.t 109)), none, [1, 5]⟩, ⟨(some 15), (.mv (.t 110)), none, [6, 4, 0, 1, 2, 3, 4, 5, 6]⟩] false)))))))))) (.reg [⟨(some 49), (.mv (.t 16)), none, []⟩, ⟨(some 50), (.bin .add (.t 49) (.c (.int .i64 1))), none, [0]⟩, ⟨(some 16), (.mv (.t 50)), none, [1, 0, 1]⟩] false)))))) (.seq (.reg [⟨(some 112), (.mv (.t 6)), none, []⟩, ⟨(some 113), (.mv (.t 7)), none, []⟩, ⟨(some 114), (.mv (.t 8)), none, []⟩, ⟨(some 115), (.call 36 [(.t 112), (.t 113), (.t 114)]), none, [0, 1, 2]⟩, ⟨(some 111), (.mv (.t 115)), none, [3]⟩, ⟨(some 116), (.ext (.t 111) 0), none, [4]⟩, ⟨(some 117), (.ext (.t 111) 1), none, [4]⟩, ⟨(some 21), (.mv (.t 116)), none, [5, 3, 0, 1, 2, 3, 4, 5]⟩, ⟨(some 22), (.mv (.t 117)), none, [6, 7, 0, 1, 2, 3, 4, 5, 6, 7]⟩] false) (.seq (.reg [⟨(some 119), (.mv (.t 6)), none, []⟩, ⟨(some 120), (.mv (.t 7)), none, []⟩, ⟨(some 121), (.mv (.t 8)), none, []⟩, ⟨(some 122), (.call 39 [(.t 119), (.t 120), (.t 121)]), none, [0, 1, 2]⟩, ⟨(some 118), (.mv (.t 122)), none, [3]⟩, ⟨(some 123), (.ext (.t 118) 0), none, [4]⟩, ⟨(some 124), (.ext (.t 118) 1), none, [4]⟩, ⟨(some 23), (.mv (.t 123)), none, [5, 3, 0, 1, 2, 3, 4, 5]⟩, ⟨(some 24), (.mv (.t 124)), none, [6, 7, 0, 1, 2, 3, 4, 5, 6, 7]⟩] false) (.seq (.reg [⟨(some 125), (.mv (.t 9)), none, []⟩, ⟨(some 126), (.build [(.str (.mk (.mk []))), .nils, .nils] [(2, (1, (.t 125)))]), none, [0]⟩, ⟨(some 127), (.mv (.t 6)), none, []⟩, ⟨(some 128), (.mv (.t 8)), none, []⟩, ⟨(some 129), (.call 42 [(.t 126), (.t 127), (.t 128)]), none, [1, 2, 3]⟩, ⟨(some 25), (.mv (.t 129)), none, [4, 4, 0, 1, 2, 3, 4]⟩] false) (.seq (.seq (.reg [⟨(some 130), (.mv (.t 13)), none, []⟩, ⟨(some 131), (.un .not (.t 130)), none, [0]⟩] false) (.cond (.t 131) (.seq (.reg [⟨(some 132), (.mv (.t 5)), none, []⟩, ⟨(some 133), (.mv (.t 132)), none, [0]⟩, ⟨(some 134), (.mv (.t 22)), (some (133, true)), [1]⟩, ⟨(some 135), (.bin .eql (.t 134) (.c (.int .i64 21))), (some (133, true)), [2, 1]⟩, ⟨(some 136), (.pick (.t 133) (.t 135) (.c (.bool false))), none, [1, 3]⟩, ⟨(some 137), (.mv (.t 136)), none, [4, 1]⟩, ⟨(some 138), (.mv (.t 24)), (some (137, true)), [5]⟩, ⟨(some 139), (.bin .eql (.t 138) (.c (.int .i64 21))), (some (137, true)), [6, 5]⟩, ⟨(some 140), (.pick (.t 137) (.t 139) (.c (.bool false))), none, [5, 7]⟩, ⟨(some 141), (.mv (.t 140)), none, [8, 5]⟩, ⟨(some 142), (.mv (.t 25)), (some (141, true)), [9]⟩, ⟨(some 143), (.bin .eql (.t 142) (.c (.int .i64 21))), (some (141, true)), [10, 9]⟩, ⟨(some 144), (.pick (.t 141) (.t 143) (.c (.bool false))), none, [9, 11]⟩, ⟨(some 4), (.mv (.t 144)), none, [12, 9, 0, 1, 2, 3, 4, 5, 6, 7, 8, 9, 10, 11, 12]⟩] false) .ret) .skip)) (.seq (.seq (.reg [⟨(some 145), (.mv (.t 22)), none, []⟩, ⟨(some 146), (.bin .neq (.t 145) (.c (.int .i64 0))), none, [0]⟩, ⟨(some 147), (.mv (.t 146)), none, [1]⟩, ⟨(some 148), (.mv (.t 24)), (some (147, false)), [2]⟩, ⟨(some 149), (.bin .neq (.t 148) (.c (.int .i64 0))), (some (147, false)), [3, 2]⟩, ⟨(some 150), (.pick (.t 147) (.c (.bool true)) (.t 149)), none, [2, 4]⟩, ⟨(some 151), (.mv (.t 150)), none, [5, 2]⟩, ⟨(some 152), (.mv (.t 21)), (some (151, false)), [6]⟩, ⟨(some 153), (.len (.t 152)), (some (151, false)), [7, 6]⟩, ⟨(some 154), (.mv (.t 7)), (some (151, false)), [6]⟩, ⟨(some 155), (.bin .neq (.t 153) (.t 154)), (some (151, false)), [8, 9, 6]⟩, ⟨(some 156), (.pick (.t 151) (.c (.bool true)) (.t 155)), none, [6, 10]⟩] false) (.cond (.t 156) (.seq (.reg [⟨(some 4), (.mv (.c (.bool false))), none, []⟩] false) .ret) .skip)) (.seq (.seq (.reg [⟨(some 157), (.mv (.t 21)), none, []⟩, ⟨(some 158), (.len (.t 157)), none, [0]⟩, ⟨(some 159), (.mv (.c (.int .i64 0))), none, []⟩] false) (.block 4 (.loop (.seq (.reg [⟨(some 160), (.bin .lss (.t 159) (.t 158)), none, []⟩] false) (.seq (.cond (.t 160) .skip (.exit 4)) (.seq (.block 5 (.seq (.reg [⟨(some 161), (.mv (.t 159)), none, []⟩, ⟨(some 26), (.mv (.t 161)), none, [0, 0]⟩] false) (.seq (.reg [⟨(some 162), (.mv (.t 21)), none, []⟩, ⟨(some 163), (.mv (.t 26)), none, []⟩, ⟨(some 164), (.ixsl 1 (.t 162) (.t 163)), none, [0, 1]⟩, ⟨(some 165), (.ld false 1 (.t 164)), none, [2]⟩, ⟨(some 166), (.mv (.t 10)), none, []⟩, ⟨(some 167), (.mv (.t 26)), none, []⟩, ⟨(some 168), (.bin .shr (.t 166) (.t 167)), none, [4, 5]⟩, ⟨(some 169), (.bin .and (.t 168) (.c (.int .i64 1))), none, [6]⟩, ⟨(some 170), (.mv (.t 11)), none, []⟩, ⟨(some 171), (.mv (.t 26)), none, []⟩, ⟨(some 172), (.bin .shr (.t 170) (.t 171)), none, [8, 9]⟩, ⟨(some 173), (.bin .and (.t 172) (.c (.int .i64 1))), none, [10]⟩, ⟨(some 174), (.bin .sub (.t 169) (.t 173)), none, [7, 11]⟩, ⟨(some 175), (.bin .neq (.t 165) (.t 174)), none, [3, 12]⟩] true) (.cond (.t 175) (.seq (.reg [⟨(some 4), (.mv (.c (.bool false))), none, []⟩] false) .ret) .skip)))) (.reg [⟨(some 176), (.bin .add (.t 159) (.c (.int .i64 1))), none, []⟩, ⟨(some 159), (.mv (.t 176)), none, [0]⟩] false))))))) (.seq (.reg [⟨(some 27), (.mv (.c .nils)), none, []⟩] false) (.seq (.seq (.reg [⟨(some 28), (.mv (.c (.int .i64 0))), none, []⟩] false) (.block 6 (.loop (.seq (.seq (.reg [⟨(some 177), (.mv (.t 28)), none, []⟩, ⟨(some 178), (.bin .lss (.t 177) (.c (.int .i64 8))), none, [0]⟩] false) (.cond (.t 178) .skip (.exit 6))) (.seq (.block 7 (.seq (.reg [⟨(some 181), (.mv (.t 12)), none, []⟩, ⟨(some 182), (.mv (.t 28)), none, []⟩, ⟨(some 183), (.bin .shr (.t 181) (.t 182)), none, [0, 1]⟩, ⟨(some 184), (.bin .and (.t 183) (.c (.int .i64 1))), none, [2]⟩, ⟨(some 185), (.bin .eql (.t 184) (.c (.int .i64 1))), none, [3]⟩] false) (.cond (.t 185) (.reg [⟨(some 186), (.mv (.t 27)), none, []⟩, ⟨(some 187), (.mv (.t 28)), none, []⟩, ⟨(some 188), (.bslice 3 1 [(.int .i64 0)] 1 [(0, (.t 187))]), none, [1]⟩, ⟨(some 189), (.app 3 1 8 [(.int .i64 0)] (.t 186) (.t 188)), none, [0, 2]⟩, ⟨(some 27), (.mv (.t 189)), none, [3, 3, 0, 1, 2, 3]⟩] false) .skip))) (.reg [⟨(some 179), (.mv (.t 28)), none, []⟩, ⟨(some 180), (.bin .add (.t 179) (.c (.int .i64 1))), none, [0]⟩, ⟨(some 28), (.mv (.t 180)), none, [1, 0, 1]⟩] false)))))) (.seq (.seq (.reg [⟨(some 190), (.mv (.t 23)), none, []⟩, ⟨(some 191), (.mv (.t 27)), none, []⟩, ⟨(some 192), (.call 38 [(.t 190), (.t 191)]), none, [0, 1]⟩, ⟨(some 193), (.un .not (.t 192)), none, [2]⟩] false) (.cond (.t 193) (.seq (.reg [⟨(some 4), (.mv (.c (.bool false))), none, []⟩] false) .ret) .skip)) (.seq (.seq (.reg [⟨(some 194), (.mv (.t 14)), none, []⟩, ⟨(some 195), (.mv (.t 194)), none, [0]⟩, ⟨(some 196), (.mv (.t 15)), (some (195, true)), [1]⟩, ⟨(some 197), (.pick (.t 195) (.t 196) (.c (.bool false))), none, [1, 2]⟩] false) (.cond (.t 197) (.seq (.reg [⟨(some 198), (.mv (.t 5)), none, []⟩, ⟨(some 199), (.mv (.t 198)), none, [0]⟩, ⟨(some 200), (.mv (.t 25)), (some (199, true)), [1]⟩, ⟨(some 201), (.bin .eql (.t 200) (.c (.int .i64 5))), (some (199, true)), [2, 1]⟩, ⟨(some 202), (.pick (.t 199) (.t 201) (.c (.bool false))), none, [1, 3]⟩, ⟨(some 4), (.mv (.t 202)), none, [4, 1, 0, 1, 2, 3, 4]⟩] false) .ret) .skip)) (.seq (.reg [⟨(some 203), (.mv (.t 5)), none, []⟩, ⟨(some 204), (.mv (.t 203)), none, [0]⟩, ⟨(some 205), (.mv (.t 14)), (some (204, true)), [1]⟩, ⟨(some 206), (.mv (.t 205)), (some (204, true)), [2, 1, 1]⟩, ⟨(some 207), (.mv (.t 25)), (some (206, true)), [3]⟩, ⟨(some 208), (.bin .eql (.t 207) (.c (.int .i64 0))), (some (206, true)), [4, 3]⟩, ⟨(some 209), (.pick (.t 206) (.t 208) (.c (.bool false))), (some (204, true)), [3, 5, 1]⟩, ⟨(some 210), (.mv (.t 209)), (some (204, true)), [6, 3, 1]⟩, ⟨(some 211), (.mv (.t 15)), (some (210, false)), [7]⟩, ⟨(some 212), (.mv (.t 211)), (some (210, false)), [8, 7, 7]⟩, ⟨(some 213), (.mv (.t 25)), (some (212, true)), [9]⟩, ⟨(some 214), (.bin .eql (.t 213) (.c (.int .i64 35))), (some (212, true)), [10, 9]⟩, ⟨(some 215), (.pick (.t 212) (.t 214) (.c (.bool false))), (some (210, false)), [9, 11, 7]⟩, ⟨(some 216), (.pick (.t 210) (.c (.bool true)) (.t 215)), (some (204, true)), [7, 12, 1]⟩, ⟨(some 217), (.pick (.t 204) (.t 216) (.c (.bool false))), none, [1, 13]⟩, ⟨(some 4), (.mv (.t 217)), none, [14, 9, 0, 1, 2, 3, 4, 5, 6, 7, 8, 9, 10, 11, 12, 13, 14]⟩] false) .ret))))))))))))))))))
theorem mcOk12 : (match Try.f12.body with | some c => compC Try.prog 218 c | none => none) = some mc12 := by kernel_rfl

theorem fc12 (L : List Int) (c5 l4 : Int) (ws : List Int) (hws : ∀ x ∈ ws, 0 ≤ x ∧ x < 256) (hL : L.length ≤ 4611686018427387904) (hc : 0 ≤ c5 ∧ c5 < 256) (hl4 : 0 ≤ l4 ∧ l4 < 256) : FC Try.prog 12 [.agg [ints L, .int .u8 c5, .int .u8 l4], .rs 1 (ws.map cu8)] [] (.bool true) [] false := by
  obtain ⟨n, m, R, hm, hmade⟩ := made_i L c5 l4 hL hc hl4
  have hn1 := hm.n1
  have hn5 := hm.n5
  have hm0 := hm.m0
  have hm3 := hm.m3
  have hlR := hm.lR
  obtain ⟨N, rfl⟩ : ∃ N : Nat, n = (N : Int) := ⟨n.toNat, by omega⟩
  obtain ⟨P, hP⟩ : ∃ P : Nat, P = 2 ^ N := ⟨_, rfl⟩
  have hP1 : 1 ≤ P ∧ P ≤ 32 := by rw [hP]; exact pow_32 (by omega)
  have hgR := madeI_gok hm
  have hwl := length_wants ws N
  refine fc_run (nt := 218) Try.func12 rfl rfl mcOk12 (Nat.le_of_ble_eq_true rfl) ?_
  delta mc12
  refine aw_seq ?_
  refine aw_reg ?_
  refine rs_box rfl rfl rfl rfl rfl rfl ?_
  refine rs_mv rfl rfl ?_
  refine rs_nil fun _ => ?_
  refine th_n ?_
  refine aw_seq ?_
  refine aw_reg ?_
  refine rs_calln [] rfl rfl fc31 .nil rfl ?_
  refine rs_mv rfl rfl ?_
  refine rs_nil fun _ => ?_
  refine th_n ?_
  refine aw_seq ?_
  refine aw_reg ?_
  first | refine rs_ld_pa rfl rfl rfl rfl (Nat.le_of_ble_eq_true rfl) rfl ?_ | refine rs_ld_ra rfl rfl (Nat.le_of_ble_eq_true rfl) rfl ?_ | refine rs_ld_ma rfl rfl rfl (by omega) (Nat.le_of_ble_eq_true rfl) rfl ?_
  refine rs_callo [] rfl rfl hmade (.cons (hv_same rfl) .nil) .nil rfl rfl rfl ?_
  refine rs_mv rfl rfl ?_
  refine rs_ext rfl rfl rfl ?_
  refine rs_ext rfl rfl rfl ?_
  refine rs_ext rfl rfl rfl ?_
  refine rs_mv rfl rfl ?_
  refine rs_mv rfl rfl ?_
  refine rs_mv rfl rfl ?_
  refine rs_nil fun _ => ?_
  refine th_n ?_
  refine aw_seq ?_
  refine aw_weak (F0 := [(1, .rs 1 (ws.map cu8)), (5, .bool true), (6, .rs 3 (R.map cS)), (7, iv (N : Int)), (8, iv m)]) (H0 := []) (weak_to (.cons rfl (rc_same rfl (.inl rfl)) (.cons rfl (rc_same rfl (.inl rfl)) (.cons rfl (rc_frz rfl rfl rfl (fun _ => rfl)) (.cons rfl (rc_same rfl (.inl rfl)) (.cons rfl (rc_same rfl (.inl rfl)) (.nil)))))) (.nil) (fun i h => by cases h)) ?_
  refine aw_reg ?_
  refine rs_mv rfl rfl ?_
  refine rs_mv rfl rfl ?_
  refine rs_calln [] rfl rfl (fc41 ws N (by omega) hws) (.cons (hv_same rfl) (.cons (hv_same rfl) (.nil))) rfl ?_
  refine rs_mv rfl rfl ?_
  refine rs_nil fun _ => ?_
  refine th_n ?_
  refine aw_seq ?_
  refine aw_draw hmix ?_
  refine rs_mv rfl rfl ?_
  refine rs_shl rfl rfl rfl (by omega) (show _ = ((P : Nat) : Int) by rw [hP]; exact shl_i64 N (by omega)) ?_
  first | refine rs_sub rfl rfl rfl (by omega) ?_ | refine rs_subw rfl rfl rfl rfl ?_
  refine rs_mv rfl rfl ?_
  refine rs_shl rfl rfl rfl (by omega) (show _ = ((P : Nat) : Int) by rw [hP]; exact shl_i64 N (by omega)) ?_
  first | refine rs_sub rfl rfl rfl (by omega) ?_ | refine rs_subw rfl rfl rfl rfl ?_
  refine rs_mv rfl rfl ?_
  refine rs_mv rfl rfl ?_
  refine rs_mv rfl rfl ?_
  refine rs_nil ⟨by kernel_rfl, fun _ => ?_⟩
  refine th_n ?_
  refine aw_seq ?_
  refine aw_reg ?_
  refine rs_mv rfl rfl ?_
  refine rs_mv rfl rfl ?_
  refine rs_mv rfl rfl ?_
  refine rs_nil fun _ => ?_
  refine th_n ?_
  refine aw_seq ?_
  refine aw_seq ?_
  refine aw_reg ?_
  refine rs_mv rfl rfl ?_
  refine rs_nil fun _ => ?_
  refine th_n ?_
  refine aw_block ?_
  refine aw_fam (α := Nat × Nat × Nat × Nat × Bool × Bool × Bool) (fun a => P - a.1) (fun a => [(5, .bool true), (6, .rs 3 (R.map cS)), (7, iv (N : Int)), (8, iv m), (9, ints (wantsS ws N)), (10, iv (((a.2.1) : Nat) : Int)), (11, iv (((a.2.2.1) : Nat) : Int)), (12, iv (((a.2.2.2.1) : Nat) : Int)), (13, .bool (a.2.2.2.2.1)), (14, .bool (a.2.2.2.2.2.1)), (15, .bool (a.2.2.2.2.2.2)), (16, iv (((a.1) : Nat) : Int))]) (fun a => []) (fun a => a.1 ≤ P ∧ AllI R m N (wantsS ws N) a.1 a.2.1 a.2.2.1 a.2.2.2.1 a.2.2.2.2.1 a.2.2.2.2.2.1 a.2.2.2.2.2.2) (0, P - 1, P - 1, 255, false, false, false) (⟨by simp, by rw [hP]; exact allI_0⟩)
    (weak_to (.cons rfl (rc_same rfl (.inl rfl)) (.cons rfl (rc_same rfl (.inl rfl)) (.cons rfl (rc_same rfl (.inl rfl)) (.cons rfl (rc_same rfl (.inl rfl)) (.cons rfl (rc_same rfl (.inl rfl)) (.cons rfl (rc_eq (by rw [show ((P : Nat) : Int) - 1 = ((P - 1 : Nat) : Int) by omega]) rfl) (.cons rfl (rc_eq (by rw [show ((P : Nat) : Int) - 1 = ((P - 1 : Nat) : Int) by omega]) rfl) (.cons rfl (rc_same rfl (.inl rfl)) (.cons rfl (rc_same rfl (.inl rfl)) (.cons rfl (rc_same rfl (.inl rfl)) (.cons rfl (rc_same rfl (.inl rfl)) (.cons rfl (rc_same rfl (.inl rfl)) (.nil))))))))))))) (.nil) (fun i h => by cases h)) ?_
  rintro ⟨k, th, go, li, s, r, b⟩ ⟨hk, hx⟩
  dsimp only at hk hx ⊢
  have q1 := hx.th.1
  have q2 := hx.go.1
  have q3 := hx.li.1
  rw [← hP] at q1 q2
  refine aw_seq ?_
  refine aw_seq ?_
  refine aw_reg ?_
  refine rs_mv rfl rfl ?_
  refine rs_mv rfl rfl ?_
  refine rs_shl rfl rfl rfl (by omega) (show _ = ((P : Nat) : Int) by rw [hP]; exact shl_i64 N (by omega)) ?_
  refine rs_lss rfl rfl rfl ?_
  refine rs_nil fun _ => ?_
  refine th_n ?_
  refine aw_cond rfl (fun h48 => ?_) (fun h48 => ?_)
  · first | replace h48 := of_decide_eq_true h48 | skip
    refine aw_skip ?_
    refine th_n ?_
    refine aw_seq ?_
    refine aw_block ?_
    refine aw_seq ?_
    refine aw_reg ?_
    refine rs_mv rfl rfl ?_
    refine rs_mv rfl rfl ?_
    refine rs_nil fun _ => ?_
    refine th_n ?_
    refine aw_seq ?_
    refine aw_seq ?_
    refine aw_reg ?_
    refine rs_mv rfl rfl ?_
    first | refine rs_len_m rfl rfl ?_ | refine rs_len_s rfl rfl ?_ | refine rs_len_n rfl rfl ?_ | refine rs_len_r rfl rfl rfl ?_
    refine rs_mv rfl rfl ?_
    refine rs_nil fun _ => ?_
    refine th_n ?_
    refine aw_block ?_
    refine aw_fam (α := Nat) (fun j => R.length - j) (fun j => [(5, .bool true), (6, .rs 3 (R.map cS)), (7, iv (N : Int)), (8, iv m), (9, ints (wantsS ws N)), (10, iv (((th) : Nat) : Int)), (11, iv (((go) : Nat) : Int)), (12, iv (((li) : Nat) : Int)), (13, .bool (s)), (14, .bool (r)), (15, .bool (b)), (16, iv (((k) : Nat) : Int)), (17, iv (((lieK R k (j)) : Nat) : Int)), (18, iv (((sizeS (lieK R k (j)) 8) : Nat) : Int)), (51, .rs 3 (R.map cS)), (52, iv (R.length : Int)), (53, iv (((j) : Nat) : Int))]) (fun j => []) (fun j => j ≤ R.length) 0 (by omega)
      (weak_to (.cons rfl (rc_same rfl (.inl rfl)) (.cons rfl (rc_same rfl (.inl rfl)) (.cons rfl (rc_same rfl (.inl rfl)) (.cons rfl (rc_same rfl (.inl rfl)) (.cons rfl (rc_same rfl (.inl rfl)) (.cons rfl (rc_same rfl (.inl rfl)) (.cons rfl (rc_same rfl (.inl rfl)) (.cons rfl (rc_same rfl (.inl rfl)) (.cons rfl (rc_same rfl (.inl rfl)) (.cons rfl (rc_same rfl (.inl rfl)) (.cons rfl (rc_same rfl (.inl rfl)) (.cons rfl (rc_same rfl (.inl rfl)) (.cons rfl (rc_same rfl (.inl rfl)) (.cons rfl (rc_eq (by rw [lieK_0]; rfl) rfl) (.cons rfl (rc_same rfl (.inl rfl)) (.cons rfl (rc_same rfl (.inl rfl)) (.cons rfl (rc_same rfl (.inl rfl)) (.nil)))))))))))))))))) (.nil) (fun i h => by cases h)) ?_
    intro j hj
    refine aw_seq ?_
    refine aw_reg ?_
    refine rs_lss rfl rfl rfl ?_
    refine rs_nil fun _ => ?_
    refine th_n ?_
    refine aw_seq ?_
    refine aw_cond rfl (fun h54 => ?_) (fun h54 => ?_)
    · first | replace h54 := of_decide_eq_true h54 | skip
      refine aw_skip ?_
      refine th_n ?_
      refine aw_seq ?_
      refine aw_block ?_
      refine aw_seq ?_
      refine aw_reg ?_
      obtain ⟨r0, hr, hrm⟩ := at_some (L := R) (k := j) (by omega)
      have hrk := hm.sg r0 hrm
      obtain ⟨q, c, y, rfl⟩ : ∃ (q c : Nat) (y : Bool), r0 = ⟨(q : Int), (c : Int), y⟩ := ⟨r0.gauge.toNat, r0.cell.toNat, r0.there, by rcases r0 with ⟨a, b, c⟩; dsimp only at hrk ⊢; rw [Int.toNat_of_nonneg (by omega), Int.toNat_of_nonneg (by omega)]⟩
      dsimp only at hrk
      have hsz := sizeS_le (lieK R k j) 8
      refine rs_ix_g rfl rfl rfl (by omega) hr ?_
      refine rs_ld_ra rfl rfl (Nat.le_of_ble_eq_true rfl) rfl ?_
      refine rs_alloc rfl rfl rfl ?_
      refine rs_st (els' := [[iv ((q : Nat) : Int), iv ((c : Nat) : Int), .bool y]]) rfl rfl rfl rfl rfl rfl rfl (Nat.le_of_ble_eq_true rfl) rfl rfl ?_
      refine rs_nil fun _ => ?_
      refine th_n ?_
      refine aw_seq ?_
      refine aw_draw hmix ?_
      refine rs_mv rfl rfl ?_
      first | refine rs_fa_p rfl rfl ?_ | refine rs_fa_r rfl rfl rfl ?_
      first | refine rs_ld_r rfl rfl rfl ?_ | refine rs_ld_p rfl rfl rfl rfl rfl ?_ | refine rs_ld_m rfl rfl rfl (by omega) rfl ?_
      refine rs_shr rfl rfl rfl (by omega) rfl ?_
      refine rs_and rfl rfl rfl rfl ?_
      refine rs_eql rfl rfl rfl ?_
      rw [show decide (bits .and .i64 (((k : Nat) : Int).fdiv (2 ^ min (((c) : Nat) : Int).toNat IntKind.i64.bits)) 1 = 1) = hasS k (c) from has_bits k (by omega) (c) (by omega)]
      first | refine rs_fa_p rfl rfl ?_ | refine rs_fa_r rfl rfl rfl ?_
      first | refine rs_ld_r rfl rfl rfl ?_ | refine rs_ld_p rfl rfl rfl rfl rfl ?_ | refine rs_ld_m rfl rfl rfl (by omega) rfl ?_
      refine rs_beq rfl rfl rfl ?_
      refine rs_mv rfl rfl ?_
      cases h66 : (true != (hasS k c == y))
      · skip
        refine rs_skip rfl ?_
        refine rs_skip rfl ?_
        refine rs_skip rfl ?_
        refine rs_skip rfl ?_
        refine rs_skip rfl ?_
        refine rs_skip rfl ?_
        refine rs_pick rfl rfl rfl ?_
        refine rs_nil ⟨by kernel_rfl, fun _ => ?_⟩
        refine th_n ?_
        refine aw_cond rfl (fun h => by cases h) (fun _ => ?_)
        refine aw_skip ?_
        refine in_n ?_
        refine th_n ?_
        refine aw_reg ?_
        first | refine rs_add rfl rfl rfl (by omega) ?_ | refine rs_addw rfl rfl rfl rfl ?_
        refine rs_mv rfl rfl ?_
        refine rs_nil fun _ => ?_
        refine th_n ?_
        first
          | (have he := lk_s1 hr h66; exact ⟨j + 1, by omega, by omega, weak_to (.cons rfl (rc_same rfl (.inl rfl)) (.cons rfl (rc_same rfl (.inl rfl)) (.cons rfl (rc_same rfl (.inl rfl)) (.cons rfl (rc_same rfl (.inl rfl)) (.cons rfl (rc_same rfl (.inl rfl)) (.cons rfl (rc_same rfl (.inl rfl)) (.cons rfl (rc_same rfl (.inl rfl)) (.cons rfl (rc_same rfl (.inl rfl)) (.cons rfl (rc_same rfl (.inl rfl)) (.cons rfl (rc_same rfl (.inl rfl)) (.cons rfl (rc_same rfl (.inl rfl)) (.cons rfl (rc_same rfl (.inl rfl)) (.cons rfl (rc_eq (by rw [he]) rfl) (.cons rfl (rc_eq (by rw [he]) rfl) (.cons rfl (rc_same rfl (.inl rfl)) (.cons rfl (rc_same rfl (.inl rfl)) (.cons rfl (rc_same rfl (.inl rfl)) (.nil)))))))))))))))))) (.nil) (fun i h => by cases h)⟩)
          | (have he := lk_s2 (c := c) (y := y) hr h72; exact ⟨j + 1, by omega, by omega, weak_to (.cons rfl (rc_same rfl (.inl rfl)) (.cons rfl (rc_same rfl (.inl rfl)) (.cons rfl (rc_same rfl (.inl rfl)) (.cons rfl (rc_same rfl (.inl rfl)) (.cons rfl (rc_same rfl (.inl rfl)) (.cons rfl (rc_same rfl (.inl rfl)) (.cons rfl (rc_same rfl (.inl rfl)) (.cons rfl (rc_same rfl (.inl rfl)) (.cons rfl (rc_same rfl (.inl rfl)) (.cons rfl (rc_same rfl (.inl rfl)) (.cons rfl (rc_same rfl (.inl rfl)) (.cons rfl (rc_same rfl (.inl rfl)) (.cons rfl (rc_eq (by rw [he]) rfl) (.cons rfl (rc_eq (by rw [he]) rfl) (.cons rfl (rc_same rfl (.inl rfl)) (.cons rfl (rc_same rfl (.inl rfl)) (.cons rfl (rc_same rfl (.inl rfl)) (.nil)))))))))))))))))) (.nil) (fun i h => by cases h)⟩)
          | (obtain ⟨he, hz⟩ := lk_n hgR hr h66 h72; exact ⟨j + 1, by omega, by omega, weak_to (.cons rfl (rc_same rfl (.inl rfl)) (.cons rfl (rc_same rfl (.inl rfl)) (.cons rfl (rc_same rfl (.inl rfl)) (.cons rfl (rc_same rfl (.inl rfl)) (.cons rfl (rc_same rfl (.inl rfl)) (.cons rfl (rc_same rfl (.inl rfl)) (.cons rfl (rc_same rfl (.inl rfl)) (.cons rfl (rc_same rfl (.inl rfl)) (.cons rfl (rc_same rfl (.inl rfl)) (.cons rfl (rc_same rfl (.inl rfl)) (.cons rfl (rc_same rfl (.inl rfl)) (.cons rfl (rc_same rfl (.inl rfl)) (.cons rfl (rc_eq (by rw [he]) rfl) (.cons rfl (rc_eq (by rw [hz]; rfl) rfl) (.cons rfl (rc_same rfl (.inl rfl)) (.cons rfl (rc_same rfl (.inl rfl)) (.cons rfl (rc_same rfl (.inl rfl)) (.nil)))))))))))))))))) (.nil) (fun i h => by cases h)⟩)
      · skip
        refine rs_mv rfl rfl ?_
        first | refine rs_fa_p rfl rfl ?_ | refine rs_fa_r rfl rfl rfl ?_
        first | refine rs_ld_r rfl rfl rfl ?_ | refine rs_ld_p rfl rfl rfl rfl rfl ?_ | refine rs_ld_m rfl rfl rfl (by omega) rfl ?_
        refine rs_shr rfl rfl rfl (by omega) rfl ?_
        refine rs_and rfl rfl rfl rfl ?_
        refine rs_eql rfl rfl rfl ?_
        rw [show decide (bits .and .i64 (((lieK R k j : Nat) : Int).fdiv (2 ^ min (((q) : Nat) : Int).toNat IntKind.i64.bits)) 1 = 0) = !hasS (lieK R k j) q from has_bits_0 _ (lieK_lt hgR k j) q (by omega)]
        cases h72 : (!hasS (lieK R k j) q)
        · skip
          refine rs_pick rfl rfl rfl ?_
          refine rs_nil ⟨by kernel_rfl, fun _ => ?_⟩
          refine th_n ?_
          refine aw_cond rfl (fun h => by cases h) (fun _ => ?_)
          refine aw_skip ?_
          refine in_n ?_
          refine th_n ?_
          refine aw_reg ?_
          first | refine rs_add rfl rfl rfl (by omega) ?_ | refine rs_addw rfl rfl rfl rfl ?_
          refine rs_mv rfl rfl ?_
          refine rs_nil fun _ => ?_
          refine th_n ?_
          first
            | (have he := lk_s1 hr h66; exact ⟨j + 1, by omega, by omega, weak_to (.cons rfl (rc_same rfl (.inl rfl)) (.cons rfl (rc_same rfl (.inl rfl)) (.cons rfl (rc_same rfl (.inl rfl)) (.cons rfl (rc_same rfl (.inl rfl)) (.cons rfl (rc_same rfl (.inl rfl)) (.cons rfl (rc_same rfl (.inl rfl)) (.cons rfl (rc_same rfl (.inl rfl)) (.cons rfl (rc_same rfl (.inl rfl)) (.cons rfl (rc_same rfl (.inl rfl)) (.cons rfl (rc_same rfl (.inl rfl)) (.cons rfl (rc_same rfl (.inl rfl)) (.cons rfl (rc_same rfl (.inl rfl)) (.cons rfl (rc_eq (by rw [he]) rfl) (.cons rfl (rc_eq (by rw [he]) rfl) (.cons rfl (rc_same rfl (.inl rfl)) (.cons rfl (rc_same rfl (.inl rfl)) (.cons rfl (rc_same rfl (.inl rfl)) (.nil)))))))))))))))))) (.nil) (fun i h => by cases h)⟩)
            | (have he := lk_s2 (c := c) (y := y) hr h72; exact ⟨j + 1, by omega, by omega, weak_to (.cons rfl (rc_same rfl (.inl rfl)) (.cons rfl (rc_same rfl (.inl rfl)) (.cons rfl (rc_same rfl (.inl rfl)) (.cons rfl (rc_same rfl (.inl rfl)) (.cons rfl (rc_same rfl (.inl rfl)) (.cons rfl (rc_same rfl (.inl rfl)) (.cons rfl (rc_same rfl (.inl rfl)) (.cons rfl (rc_same rfl (.inl rfl)) (.cons rfl (rc_same rfl (.inl rfl)) (.cons rfl (rc_same rfl (.inl rfl)) (.cons rfl (rc_same rfl (.inl rfl)) (.cons rfl (rc_same rfl (.inl rfl)) (.cons rfl (rc_eq (by rw [he]) rfl) (.cons rfl (rc_eq (by rw [he]) rfl) (.cons rfl (rc_same rfl (.inl rfl)) (.cons rfl (rc_same rfl (.inl rfl)) (.cons rfl (rc_same rfl (.inl rfl)) (.nil)))))))))))))))))) (.nil) (fun i h => by cases h)⟩)
            | (obtain ⟨he, hz⟩ := lk_n hgR hr h66 h72; exact ⟨j + 1, by omega, by omega, weak_to (.cons rfl (rc_same rfl (.inl rfl)) (.cons rfl (rc_same rfl (.inl rfl)) (.cons rfl (rc_same rfl (.inl rfl)) (.cons rfl (rc_same rfl (.inl rfl)) (.cons rfl (rc_same rfl (.inl rfl)) (.cons rfl (rc_same rfl (.inl rfl)) (.cons rfl (rc_same rfl (.inl rfl)) (.cons rfl (rc_same rfl (.inl rfl)) (.cons rfl (rc_same rfl (.inl rfl)) (.cons rfl (rc_same rfl (.inl rfl)) (.cons rfl (rc_same rfl (.inl rfl)) (.cons rfl (rc_same rfl (.inl rfl)) (.cons rfl (rc_eq (by rw [he]) rfl) (.cons rfl (rc_eq (by rw [hz]; rfl) rfl) (.cons rfl (rc_same rfl (.inl rfl)) (.cons rfl (rc_same rfl (.inl rfl)) (.cons rfl (rc_same rfl (.inl rfl)) (.nil)))))))))))))))))) (.nil) (fun i h => by cases h)⟩)
        · skip
          refine rs_pick rfl rfl rfl ?_
          refine rs_nil ⟨by kernel_rfl, fun _ => ?_⟩
          refine th_n ?_
          refine aw_cond rfl (fun _ => ?_) (fun h => by cases h)
          refine aw_seq ?_
          refine aw_reg ?_
          refine rs_mv rfl rfl ?_
          first | refine rs_fa_p rfl rfl ?_ | refine rs_fa_r rfl rfl rfl ?_
          first | refine rs_ld_r rfl rfl rfl ?_ | refine rs_ld_p rfl rfl rfl rfl rfl ?_ | refine rs_ld_m rfl rfl rfl (by omega) rfl ?_
          refine rs_shl rfl rfl rfl (by omega) (shl_i64 q (by omega)) ?_
          refine rs_or rfl rfl rfl (or_i64 _ (lieK_lt hgR k j) _ (Nat.lt_of_le_of_lt (Nat.pow_le_pow_right (by decide) (show q ≤ 3 by omega)) (by decide))) ?_
          refine rs_mv rfl rfl ?_
          refine rs_nil fun _ => ?_
          refine th_n ?_
          refine aw_reg ?_
          refine rs_mv rfl rfl ?_
          first | refine rs_add rfl rfl rfl (by omega) ?_ | refine rs_addw rfl rfl rfl rfl ?_
          refine rs_mv rfl rfl ?_
          refine rs_nil fun _ => ?_
          refine in_n ?_
          refine th_n ?_
          refine aw_reg ?_
          first | refine rs_add rfl rfl rfl (by omega) ?_ | refine rs_addw rfl rfl rfl rfl ?_
          refine rs_mv rfl rfl ?_
          refine rs_nil fun _ => ?_
          refine th_n ?_
          first
            | (have he := lk_s1 hr h66; exact ⟨j + 1, by omega, by omega, weak_to (.cons rfl (rc_same rfl (.inl rfl)) (.cons rfl (rc_same rfl (.inl rfl)) (.cons rfl (rc_same rfl (.inl rfl)) (.cons rfl (rc_same rfl (.inl rfl)) (.cons rfl (rc_same rfl (.inl rfl)) (.cons rfl (rc_same rfl (.inl rfl)) (.cons rfl (rc_same rfl (.inl rfl)) (.cons rfl (rc_same rfl (.inl rfl)) (.cons rfl (rc_same rfl (.inl rfl)) (.cons rfl (rc_same rfl (.inl rfl)) (.cons rfl (rc_same rfl (.inl rfl)) (.cons rfl (rc_same rfl (.inl rfl)) (.cons rfl (rc_eq (by rw [he]) rfl) (.cons rfl (rc_eq (by rw [he]) rfl) (.cons rfl (rc_same rfl (.inl rfl)) (.cons rfl (rc_same rfl (.inl rfl)) (.cons rfl (rc_same rfl (.inl rfl)) (.nil)))))))))))))))))) (.nil) (fun i h => by cases h)⟩)
            | (have he := lk_s2 (c := c) (y := y) hr h72; exact ⟨j + 1, by omega, by omega, weak_to (.cons rfl (rc_same rfl (.inl rfl)) (.cons rfl (rc_same rfl (.inl rfl)) (.cons rfl (rc_same rfl (.inl rfl)) (.cons rfl (rc_same rfl (.inl rfl)) (.cons rfl (rc_same rfl (.inl rfl)) (.cons rfl (rc_same rfl (.inl rfl)) (.cons rfl (rc_same rfl (.inl rfl)) (.cons rfl (rc_same rfl (.inl rfl)) (.cons rfl (rc_same rfl (.inl rfl)) (.cons rfl (rc_same rfl (.inl rfl)) (.cons rfl (rc_same rfl (.inl rfl)) (.cons rfl (rc_same rfl (.inl rfl)) (.cons rfl (rc_eq (by rw [he]) rfl) (.cons rfl (rc_eq (by rw [he]) rfl) (.cons rfl (rc_same rfl (.inl rfl)) (.cons rfl (rc_same rfl (.inl rfl)) (.cons rfl (rc_same rfl (.inl rfl)) (.nil)))))))))))))))))) (.nil) (fun i h => by cases h)⟩)
            | (obtain ⟨he, hz⟩ := lk_n hgR hr h66 h72; exact ⟨j + 1, by omega, by omega, weak_to (.cons rfl (rc_same rfl (.inl rfl)) (.cons rfl (rc_same rfl (.inl rfl)) (.cons rfl (rc_same rfl (.inl rfl)) (.cons rfl (rc_same rfl (.inl rfl)) (.cons rfl (rc_same rfl (.inl rfl)) (.cons rfl (rc_same rfl (.inl rfl)) (.cons rfl (rc_same rfl (.inl rfl)) (.cons rfl (rc_same rfl (.inl rfl)) (.cons rfl (rc_same rfl (.inl rfl)) (.cons rfl (rc_same rfl (.inl rfl)) (.cons rfl (rc_same rfl (.inl rfl)) (.cons rfl (rc_same rfl (.inl rfl)) (.cons rfl (rc_eq (by rw [he]) rfl) (.cons rfl (rc_eq (by rw [hz]; rfl) rfl) (.cons rfl (rc_same rfl (.inl rfl)) (.cons rfl (rc_same rfl (.inl rfl)) (.cons rfl (rc_same rfl (.inl rfl)) (.nil)))))))))))))))))) (.nil) (fun i h => by cases h)⟩)
    · first | replace h54 := of_decide_eq_false h54 | skip
      refine aw_exit ?_
      refine th_e ?_
      refine th_e ?_
      refine in_hit ?_
      refine th_n ?_
      refine aw_seq ?_
      refine aw_seq ?_
      obtain rfl : j = R.length := by omega
      rw [lieK_all]
      refine aw_reg ?_
      refine rs_mv rfl rfl ?_
      refine rs_mv rfl rfl ?_
      refine rs_gtr rfl rfl rfl ?_
      refine rs_nil fun _ => ?_
      refine th_n ?_
      refine aw_cond rfl (fun h84 => ?_) (fun h84 => ?_)
      · first | replace h84 := of_decide_eq_true h84 | skip
        have hok : okT R m k = false := decide_eq_false (by omega)
        refine aw_exit ?_
        refine th_e ?_
        refine in_hit ?_
        refine th_n ?_
        refine aw_reg ?_
        refine rs_mv rfl rfl ?_
        first | refine rs_add rfl rfl rfl (by omega) ?_ | refine rs_addw rfl rfl rfl rfl ?_
        refine rs_mv rfl rfl ?_
        refine rs_nil fun _ => ?_
        refine th_n ?_
        first
          | exact ⟨(k + 1, th, go, li, s, r, b), ⟨by simp; omega, allI_no hx hok⟩, by simp; omega, weak_to (.cons rfl (rc_same rfl (.inl rfl)) (.cons rfl (rc_same rfl (.inl rfl)) (.cons rfl (rc_same rfl (.inl rfl)) (.cons rfl (rc_same rfl (.inl rfl)) (.cons rfl (rc_same rfl (.inl rfl)) (.cons rfl (rc_same rfl (.inl rfl)) (.cons rfl (rc_same rfl (.inl rfl)) (.cons rfl (rc_same rfl (.inl rfl)) (.cons rfl (rc_same rfl (.inl rfl)) (.cons rfl (rc_same rfl (.inl rfl)) (.cons rfl (rc_same rfl (.inl rfl)) (.cons rfl (rc_same rfl (.inl rfl)) (.nil))))))))))))) (.nil) (fun i h => by cases h)⟩
          | exact ⟨(k + 1, th &&& k, go &&& (P - 1 - k), li &&& lieT R k, true, r || goodK (wantsS ws N) k N, b || !goodK (wantsS ws N) k N), ⟨by simp; omega, by have := allI_ok hx hok (by omega); rw [← hP] at this; exact this⟩, by simp; omega, weak_to (.cons rfl (rc_same rfl (.inl rfl)) (.cons rfl (rc_same rfl (.inl rfl)) (.cons rfl (rc_same rfl (.inl rfl)) (.cons rfl (rc_same rfl (.inl rfl)) (.cons rfl (rc_same rfl (.inl rfl)) (.cons rfl (rc_same rfl (.inl rfl)) (.cons rfl (rc_same rfl (.inl rfl)) (.cons rfl (rc_same rfl (.inl rfl)) (.cons rfl (rc_same rfl (.inl rfl)) (.cons rfl (rc_eq (by rw [h99]; rfl) rfl) (.cons rfl (rc_eq (by rw [h105]; rfl) rfl) (.cons rfl (rc_same rfl (.inl rfl)) (.nil))))))))))))) (.nil) (fun i h => by cases h)⟩
          | exact ⟨(k + 1, th &&& k, go &&& (P - 1 - k), li &&& lieT R k, true, r || goodK (wantsS ws N) k N, b || !goodK (wantsS ws N) k N), ⟨by simp; omega, by have := allI_ok hx hok (by omega); rw [← hP] at this; exact this⟩, by simp; omega, weak_to (.cons rfl (rc_same rfl (.inl rfl)) (.cons rfl (rc_same rfl (.inl rfl)) (.cons rfl (rc_same rfl (.inl rfl)) (.cons rfl (rc_same rfl (.inl rfl)) (.cons rfl (rc_same rfl (.inl rfl)) (.cons rfl (rc_same rfl (.inl rfl)) (.cons rfl (rc_same rfl (.inl rfl)) (.cons rfl (rc_same rfl (.inl rfl)) (.cons rfl (rc_same rfl (.inl rfl)) (.cons rfl (rc_eq (by rw [h99]; rfl) rfl) (.cons rfl (rc_eq (by rw [h105, hwl]; rfl) rfl) (.cons rfl (rc_same rfl (.inl rfl)) (.nil))))))))))))) (.nil) (fun i h => by cases h)⟩
          | exact ⟨(k + 1, th &&& k, go &&& (P - 1 - k), li &&& lieT R k, true, r || goodK (wantsS ws N) k N, b || !goodK (wantsS ws N) k N), ⟨by simp; omega, by have := allI_ok hx hok (by omega); rw [← hP] at this; exact this⟩, by simp; omega, weak_to (.cons rfl (rc_same rfl (.inl rfl)) (.cons rfl (rc_same rfl (.inl rfl)) (.cons rfl (rc_same rfl (.inl rfl)) (.cons rfl (rc_same rfl (.inl rfl)) (.cons rfl (rc_same rfl (.inl rfl)) (.cons rfl (rc_same rfl (.inl rfl)) (.cons rfl (rc_same rfl (.inl rfl)) (.cons rfl (rc_same rfl (.inl rfl)) (.cons rfl (rc_same rfl (.inl rfl)) (.cons rfl (rc_eq (by rw [h99, hwl]; rfl) rfl) (.cons rfl (rc_eq (by rw [h105]; rfl) rfl) (.cons rfl (rc_same rfl (.inl rfl)) (.nil))))))))))))) (.nil) (fun i h => by cases h)⟩
          | exact ⟨(k + 1, th &&& k, go &&& (P - 1 - k), li &&& lieT R k, true, r || goodK (wantsS ws N) k N, b || !goodK (wantsS ws N) k N), ⟨by simp; omega, by have := allI_ok hx hok (by omega); rw [← hP] at this; exact this⟩, by simp; omega, weak_to (.cons rfl (rc_same rfl (.inl rfl)) (.cons rfl (rc_same rfl (.inl rfl)) (.cons rfl (rc_same rfl (.inl rfl)) (.cons rfl (rc_same rfl (.inl rfl)) (.cons rfl (rc_same rfl (.inl rfl)) (.cons rfl (rc_same rfl (.inl rfl)) (.cons rfl (rc_same rfl (.inl rfl)) (.cons rfl (rc_same rfl (.inl rfl)) (.cons rfl (rc_same rfl (.inl rfl)) (.cons rfl (rc_eq (by rw [h99, hwl]; rfl) rfl) (.cons rfl (rc_eq (by rw [h105, hwl]; rfl) rfl) (.cons rfl (rc_same rfl (.inl rfl)) (.nil))))))))))))) (.nil) (fun i h => by cases h)⟩
      · first | replace h84 := of_decide_eq_false h84 | skip
        have hok : okT R m k = true := decide_eq_true (by omega)
        refine aw_skip ?_
        refine th_n ?_
        refine aw_seq ?_
        refine aw_reg ?_
        refine rs_mv rfl rfl ?_
        refine rs_nil fun _ => ?_
        refine th_n ?_
        refine aw_seq ?_
        refine aw_reg ?_
        refine rs_mv rfl rfl ?_
        refine rs_mv rfl rfl ?_
        refine rs_and rfl rfl rfl (and_i64 th (by omega) k (by omega)) ?_
        refine rs_mv rfl rfl ?_
        refine rs_nil fun _ => ?_
        refine th_n ?_
        refine aw_seq ?_
        refine aw_reg ?_
        refine rs_mv rfl rfl ?_
        refine rs_mv rfl rfl ?_
        refine rs_shl rfl rfl rfl (by omega) (show _ = ((P : Nat) : Int) by rw [hP]; exact shl_i64 N (by omega)) ?_
        first | refine rs_sub rfl rfl rfl (by omega) ?_ | refine rs_subw rfl rfl rfl rfl ?_
        refine rs_mv rfl rfl ?_
        first | refine rs_sub rfl rfl rfl (by omega) ?_ | refine rs_subw rfl rfl rfl rfl ?_
        refine rs_and rfl rfl rfl (show bits .and .i64 ((go : Nat) : Int) (((P : Nat) : Int) - 1 - (k : Int)) = ((go &&& (P - 1 - k) : Nat) : Int) by rw [show ((P : Nat) : Int) - 1 - (k : Int) = ((P - 1 - k : Nat) : Int) by omega]; exact and_i64 go (by omega) (P - 1 - k) (by omega)) ?_
        refine rs_mv rfl rfl ?_
        refine rs_nil fun _ => ?_
        refine th_n ?_
        refine aw_seq ?_
        refine aw_reg ?_
        refine rs_mv rfl rfl ?_
        refine rs_mv rfl rfl ?_
        refine rs_and rfl rfl rfl (and_i64 li (by omega) _ (lieI_lt R 0 hgR (by decide))) ?_
        refine rs_mv rfl rfl ?_
        refine rs_nil fun _ => ?_
        refine th_n ?_
        refine aw_seq ?_
        refine aw_reg ?_
        refine rs_mv rfl rfl ?_
        refine rs_mv rfl rfl ?_
        cases h99 : r
        · skip
          refine rs_mv rfl rfl ?_
          refine rs_mv rfl rfl ?_
          refine rs_calln [] rfl rfl (fc44 (wantsS ws N) k (by omega) (by omega)) (.cons (hv_same rfl) (.cons (hv_same rfl) (.nil))) rfl ?_
          refine rs_pick rfl rfl rfl ?_
          refine rs_mv rfl rfl ?_
          refine rs_nil fun _ => ?_
          refine th_n ?_
          refine aw_reg ?_
          refine rs_mv rfl rfl ?_
          refine rs_mv rfl rfl ?_
          cases h105 : b
          · skip
            refine rs_mv rfl rfl ?_
            refine rs_mv rfl rfl ?_
            refine rs_calln [] rfl rfl (fc44 (wantsS ws N) k (by omega) (by omega)) (.cons (hv_same rfl) (.cons (hv_same rfl) (.nil))) rfl ?_
            refine rs_not rfl rfl ?_
            refine rs_pick rfl rfl rfl ?_
            refine rs_mv rfl rfl ?_
            refine rs_nil fun _ => ?_
            refine in_n ?_
            refine th_n ?_
            refine aw_reg ?_
            refine rs_mv rfl rfl ?_
            first | refine rs_add rfl rfl rfl (by omega) ?_ | refine rs_addw rfl rfl rfl rfl ?_
            refine rs_mv rfl rfl ?_
            refine rs_nil fun _ => ?_
            refine th_n ?_
            first
              | exact ⟨(k + 1, th, go, li, s, r, b), ⟨by simp; omega, allI_no hx hok⟩, by simp; omega, weak_to (.cons rfl (rc_same rfl (.inl rfl)) (.cons rfl (rc_same rfl (.inl rfl)) (.cons rfl (rc_same rfl (.inl rfl)) (.cons rfl (rc_same rfl (.inl rfl)) (.cons rfl (rc_same rfl (.inl rfl)) (.cons rfl (rc_same rfl (.inl rfl)) (.cons rfl (rc_same rfl (.inl rfl)) (.cons rfl (rc_same rfl (.inl rfl)) (.cons rfl (rc_same rfl (.inl rfl)) (.cons rfl (rc_same rfl (.inl rfl)) (.cons rfl (rc_same rfl (.inl rfl)) (.cons rfl (rc_same rfl (.inl rfl)) (.nil))))))))))))) (.nil) (fun i h => by cases h)⟩
              | exact ⟨(k + 1, th &&& k, go &&& (P - 1 - k), li &&& lieT R k, true, r || goodK (wantsS ws N) k N, b || !goodK (wantsS ws N) k N), ⟨by simp; omega, by have := allI_ok hx hok (by omega); rw [← hP] at this; exact this⟩, by simp; omega, weak_to (.cons rfl (rc_same rfl (.inl rfl)) (.cons rfl (rc_same rfl (.inl rfl)) (.cons rfl (rc_same rfl (.inl rfl)) (.cons rfl (rc_same rfl (.inl rfl)) (.cons rfl (rc_same rfl (.inl rfl)) (.cons rfl (rc_same rfl (.inl rfl)) (.cons rfl (rc_same rfl (.inl rfl)) (.cons rfl (rc_same rfl (.inl rfl)) (.cons rfl (rc_same rfl (.inl rfl)) (.cons rfl (rc_eq (by rw [h99]; rfl) rfl) (.cons rfl (rc_eq (by rw [h105]; rfl) rfl) (.cons rfl (rc_same rfl (.inl rfl)) (.nil))))))))))))) (.nil) (fun i h => by cases h)⟩
              | exact ⟨(k + 1, th &&& k, go &&& (P - 1 - k), li &&& lieT R k, true, r || goodK (wantsS ws N) k N, b || !goodK (wantsS ws N) k N), ⟨by simp; omega, by have := allI_ok hx hok (by omega); rw [← hP] at this; exact this⟩, by simp; omega, weak_to (.cons rfl (rc_same rfl (.inl rfl)) (.cons rfl (rc_same rfl (.inl rfl)) (.cons rfl (rc_same rfl (.inl rfl)) (.cons rfl (rc_same rfl (.inl rfl)) (.cons rfl (rc_same rfl (.inl rfl)) (.cons rfl (rc_same rfl (.inl rfl)) (.cons rfl (rc_same rfl (.inl rfl)) (.cons rfl (rc_same rfl (.inl rfl)) (.cons rfl (rc_same rfl (.inl rfl)) (.cons rfl (rc_eq (by rw [h99]; rfl) rfl) (.cons rfl (rc_eq (by rw [h105, hwl]; rfl) rfl) (.cons rfl (rc_same rfl (.inl rfl)) (.nil))))))))))))) (.nil) (fun i h => by cases h)⟩
              | exact ⟨(k + 1, th &&& k, go &&& (P - 1 - k), li &&& lieT R k, true, r || goodK (wantsS ws N) k N, b || !goodK (wantsS ws N) k N), ⟨by simp; omega, by have := allI_ok hx hok (by omega); rw [← hP] at this; exact this⟩, by simp; omega, weak_to (.cons rfl (rc_same rfl (.inl rfl)) (.cons rfl (rc_same rfl (.inl rfl)) (.cons rfl (rc_same rfl (.inl rfl)) (.cons rfl (rc_same rfl (.inl rfl)) (.cons rfl (rc_same rfl (.inl rfl)) (.cons rfl (rc_same rfl (.inl rfl)) (.cons rfl (rc_same rfl (.inl rfl)) (.cons rfl (rc_same rfl (.inl rfl)) (.cons rfl (rc_same rfl (.inl rfl)) (.cons rfl (rc_eq (by rw [h99, hwl]; rfl) rfl) (.cons rfl (rc_eq (by rw [h105]; rfl) rfl) (.cons rfl (rc_same rfl (.inl rfl)) (.nil))))))))))))) (.nil) (fun i h => by cases h)⟩
              | exact ⟨(k + 1, th &&& k, go &&& (P - 1 - k), li &&& lieT R k, true, r || goodK (wantsS ws N) k N, b || !goodK (wantsS ws N) k N), ⟨by simp; omega, by have := allI_ok hx hok (by omega); rw [← hP] at this; exact this⟩, by simp; omega, weak_to (.cons rfl (rc_same rfl (.inl rfl)) (.cons rfl (rc_same rfl (.inl rfl)) (.cons rfl (rc_same rfl (.inl rfl)) (.cons rfl (rc_same rfl (.inl rfl)) (.cons rfl (rc_same rfl (.inl rfl)) (.cons rfl (rc_same rfl (.inl rfl)) (.cons rfl (rc_same rfl (.inl rfl)) (.cons rfl (rc_same rfl (.inl rfl)) (.cons rfl (rc_same rfl (.inl rfl)) (.cons rfl (rc_eq (by rw [h99, hwl]; rfl) rfl) (.cons rfl (rc_eq (by rw [h105, hwl]; rfl) rfl) (.cons rfl (rc_same rfl (.inl rfl)) (.nil))))))))))))) (.nil) (fun i h => by cases h)⟩
          · skip
            refine rs_skip rfl ?_
            refine rs_skip rfl ?_
            refine rs_skip rfl ?_
            refine rs_skip rfl ?_
            refine rs_pick rfl rfl rfl ?_
            refine rs_mv rfl rfl ?_
            refine rs_nil fun _ => ?_
            refine in_n ?_
            refine th_n ?_
            refine aw_reg ?_
            refine rs_mv rfl rfl ?_
            first | refine rs_add rfl rfl rfl (by omega) ?_ | refine rs_addw rfl rfl rfl rfl ?_
            refine rs_mv rfl rfl ?_
            refine rs_nil fun _ => ?_
            refine th_n ?_
            first
              | exact ⟨(k + 1, th, go, li, s, r, b), ⟨by simp; omega, allI_no hx hok⟩, by simp; omega, weak_to (.cons rfl (rc_same rfl (.inl rfl)) (.cons rfl (rc_same rfl (.inl rfl)) (.cons rfl (rc_same rfl (.inl rfl)) (.cons rfl (rc_same rfl (.inl rfl)) (.cons rfl (rc_same rfl (.inl rfl)) (.cons rfl (rc_same rfl (.inl rfl)) (.cons rfl (rc_same rfl (.inl rfl)) (.cons rfl (rc_same rfl (.inl rfl)) (.cons rfl (rc_same rfl (.inl rfl)) (.cons rfl (rc_same rfl (.inl rfl)) (.cons rfl (rc_same rfl (.inl rfl)) (.cons rfl (rc_same rfl (.inl rfl)) (.nil))))))))))))) (.nil) (fun i h => by cases h)⟩
              | exact ⟨(k + 1, th &&& k, go &&& (P - 1 - k), li &&& lieT R k, true, r || goodK (wantsS ws N) k N, b || !goodK (wantsS ws N) k N), ⟨by simp; omega, by have := allI_ok hx hok (by omega); rw [← hP] at this; exact this⟩, by simp; omega, weak_to (.cons rfl (rc_same rfl (.inl rfl)) (.cons rfl (rc_same rfl (.inl rfl)) (.cons rfl (rc_same rfl (.inl rfl)) (.cons rfl (rc_same rfl (.inl rfl)) (.cons rfl (rc_same rfl (.inl rfl)) (.cons rfl (rc_same rfl (.inl rfl)) (.cons rfl (rc_same rfl (.inl rfl)) (.cons rfl (rc_same rfl (.inl rfl)) (.cons rfl (rc_same rfl (.inl rfl)) (.cons rfl (rc_eq (by rw [h99]; rfl) rfl) (.cons rfl (rc_eq (by rw [h105]; rfl) rfl) (.cons rfl (rc_same rfl (.inl rfl)) (.nil))))))))))))) (.nil) (fun i h => by cases h)⟩
              | exact ⟨(k + 1, th &&& k, go &&& (P - 1 - k), li &&& lieT R k, true, r || goodK (wantsS ws N) k N, b || !goodK (wantsS ws N) k N), ⟨by simp; omega, by have := allI_ok hx hok (by omega); rw [← hP] at this; exact this⟩, by simp; omega, weak_to (.cons rfl (rc_same rfl (.inl rfl)) (.cons rfl (rc_same rfl (.inl rfl)) (.cons rfl (rc_same rfl (.inl rfl)) (.cons rfl (rc_same rfl (.inl rfl)) (.cons rfl (rc_same rfl (.inl rfl)) (.cons rfl (rc_same rfl (.inl rfl)) (.cons rfl (rc_same rfl (.inl rfl)) (.cons rfl (rc_same rfl (.inl rfl)) (.cons rfl (rc_same rfl (.inl rfl)) (.cons rfl (rc_eq (by rw [h99]; rfl) rfl) (.cons rfl (rc_eq (by rw [h105, hwl]; rfl) rfl) (.cons rfl (rc_same rfl (.inl rfl)) (.nil))))))))))))) (.nil) (fun i h => by cases h)⟩
              | exact ⟨(k + 1, th &&& k, go &&& (P - 1 - k), li &&& lieT R k, true, r || goodK (wantsS ws N) k N, b || !goodK (wantsS ws N) k N), ⟨by simp; omega, by have := allI_ok hx hok (by omega); rw [← hP] at this; exact this⟩, by simp; omega, weak_to (.cons rfl (rc_same rfl (.inl rfl)) (.cons rfl (rc_same rfl (.inl rfl)) (.cons rfl (rc_same rfl (.inl rfl)) (.cons rfl (rc_same rfl (.inl rfl)) (.cons rfl (rc_same rfl (.inl rfl)) (.cons rfl (rc_same rfl (.inl rfl)) (.cons rfl (rc_same rfl (.inl rfl)) (.cons rfl (rc_same rfl (.inl rfl)) (.cons rfl (rc_same rfl (.inl rfl)) (.cons rfl (rc_eq (by rw [h99, hwl]; rfl) rfl) (.cons rfl (rc_eq (by rw [h105]; rfl) rfl) (.cons rfl (rc_same rfl (.inl rfl)) (.nil))))))))))))) (.nil) (fun i h => by cases h)⟩
              | exact ⟨(k + 1, th &&& k, go &&& (P - 1 - k), li &&& lieT R k, true, r || goodK (wantsS ws N) k N, b || !goodK (wantsS ws N) k N), ⟨by simp; omega, by have := allI_ok hx hok (by omega); rw [← hP] at this; exact this⟩, by simp; omega, weak_to (.cons rfl (rc_same rfl (.inl rfl)) (.cons rfl (rc_same rfl (.inl rfl)) (.cons rfl (rc_same rfl (.inl rfl)) (.cons rfl (rc_same rfl (.inl rfl)) (.cons rfl (rc_same rfl (.inl rfl)) (.cons rfl (rc_same rfl (.inl rfl)) (.cons rfl (rc_same rfl (.inl rfl)) (.cons rfl (rc_same rfl (.inl rfl)) (.cons rfl (rc_same rfl (.inl rfl)) (.cons rfl (rc_eq (by rw [h99, hwl]; rfl) rfl) (.cons rfl (rc_eq (by rw [h105, hwl]; rfl) rfl) (.cons rfl (rc_same rfl (.inl rfl)) (.nil))))))))))))) (.nil) (fun i h => by cases h)⟩
        · skip
          refine rs_skip rfl ?_
          refine rs_skip rfl ?_
          refine rs_skip rfl ?_
          refine rs_pick rfl rfl rfl ?_
          refine rs_mv rfl rfl ?_
          refine rs_nil fun _ => ?_
          refine th_n ?_
          refine aw_reg ?_
          refine rs_mv rfl rfl ?_
          refine rs_mv rfl rfl ?_
          cases h105 : b
          · skip
            refine rs_mv rfl rfl ?_
            refine rs_mv rfl rfl ?_
            refine rs_calln [] rfl rfl (fc44 (wantsS ws N) k (by omega) (by omega)) (.cons (hv_same rfl) (.cons (hv_same rfl) (.nil))) rfl ?_
            refine rs_not rfl rfl ?_
            refine rs_pick rfl rfl rfl ?_
            refine rs_mv rfl rfl ?_
            refine rs_nil fun _ => ?_
            refine in_n ?_
            refine th_n ?_
            refine aw_reg ?_
            refine rs_mv rfl rfl ?_
            first | refine rs_add rfl rfl rfl (by omega) ?_ | refine rs_addw rfl rfl rfl rfl ?_
            refine rs_mv rfl rfl ?_
            refine rs_nil fun _ => ?_
            refine th_n ?_
            first
              | exact ⟨(k + 1, th, go, li, s, r, b), ⟨by simp; omega, allI_no hx hok⟩, by simp; omega, weak_to (.cons rfl (rc_same rfl (.inl rfl)) (.cons rfl (rc_same rfl (.inl rfl)) (.cons rfl (rc_same rfl (.inl rfl)) (.cons rfl (rc_same rfl (.inl rfl)) (.cons rfl (rc_same rfl (.inl rfl)) (.cons rfl (rc_same rfl (.inl rfl)) (.cons rfl (rc_same rfl (.inl rfl)) (.cons rfl (rc_same rfl (.inl rfl)) (.cons rfl (rc_same rfl (.inl rfl)) (.cons rfl (rc_same rfl (.inl rfl)) (.cons rfl (rc_same rfl (.inl rfl)) (.cons rfl (rc_same rfl (.inl rfl)) (.nil))))))))))))) (.nil) (fun i h => by cases h)⟩
              | exact ⟨(k + 1, th &&& k, go &&& (P - 1 - k), li &&& lieT R k, true, r || goodK (wantsS ws N) k N, b || !goodK (wantsS ws N) k N), ⟨by simp; omega, by have := allI_ok hx hok (by omega); rw [← hP] at this; exact this⟩, by simp; omega, weak_to (.cons rfl (rc_same rfl (.inl rfl)) (.cons rfl (rc_same rfl (.inl rfl)) (.cons rfl (rc_same rfl (.inl rfl)) (.cons rfl (rc_same rfl (.inl rfl)) (.cons rfl (rc_same rfl (.inl rfl)) (.cons rfl (rc_same rfl (.inl rfl)) (.cons rfl (rc_same rfl (.inl rfl)) (.cons rfl (rc_same rfl (.inl rfl)) (.cons rfl (rc_same rfl (.inl rfl)) (.cons rfl (rc_eq (by rw [h99]; rfl) rfl) (.cons rfl (rc_eq (by rw [h105]; rfl) rfl) (.cons rfl (rc_same rfl (.inl rfl)) (.nil))))))))))))) (.nil) (fun i h => by cases h)⟩
              | exact ⟨(k + 1, th &&& k, go &&& (P - 1 - k), li &&& lieT R k, true, r || goodK (wantsS ws N) k N, b || !goodK (wantsS ws N) k N), ⟨by simp; omega, by have := allI_ok hx hok (by omega); rw [← hP] at this; exact this⟩, by simp; omega, weak_to (.cons rfl (rc_same rfl (.inl rfl)) (.cons rfl (rc_same rfl (.inl rfl)) (.cons rfl (rc_same rfl (.inl rfl)) (.cons rfl (rc_same rfl (.inl rfl)) (.cons rfl (rc_same rfl (.inl rfl)) (.cons rfl (rc_same rfl (.inl rfl)) (.cons rfl (rc_same rfl (.inl rfl)) (.cons rfl (rc_same rfl (.inl rfl)) (.cons rfl (rc_same rfl (.inl rfl)) (.cons rfl (rc_eq (by rw [h99]; rfl) rfl) (.cons rfl (rc_eq (by rw [h105, hwl]; rfl) rfl) (.cons rfl (rc_same rfl (.inl rfl)) (.nil))))))))))))) (.nil) (fun i h => by cases h)⟩
              | exact ⟨(k + 1, th &&& k, go &&& (P - 1 - k), li &&& lieT R k, true, r || goodK (wantsS ws N) k N, b || !goodK (wantsS ws N) k N), ⟨by simp; omega, by have := allI_ok hx hok (by omega); rw [← hP] at this; exact this⟩, by simp; omega, weak_to (.cons rfl (rc_same rfl (.inl rfl)) (.cons rfl (rc_same rfl (.inl rfl)) (.cons rfl (rc_same rfl (.inl rfl)) (.cons rfl (rc_same rfl (.inl rfl)) (.cons rfl (rc_same rfl (.inl rfl)) (.cons rfl (rc_same rfl (.inl rfl)) (.cons rfl (rc_same rfl (.inl rfl)) (.cons rfl (rc_same rfl (.inl rfl)) (.cons rfl (rc_same rfl (.inl rfl)) (.cons rfl (rc_eq (by rw [h99, hwl]; rfl) rfl) (.cons rfl (rc_eq (by rw [h105]; rfl) rfl) (.cons rfl (rc_same rfl (.inl rfl)) (.nil))))))))))))) (.nil) (fun i h => by cases h)⟩
              | exact ⟨(k + 1, th &&& k, go &&& (P - 1 - k), li &&& lieT R k, true, r || goodK (wantsS ws N) k N, b || !goodK (wantsS ws N) k N), ⟨by simp; omega, by have := allI_ok hx hok (by omega); rw [← hP] at this; exact this⟩, by simp; omega, weak_to (.cons rfl (rc_same rfl (.inl rfl)) (.cons rfl (rc_same rfl (.inl rfl)) (.cons rfl (rc_same rfl (.inl rfl)) (.cons rfl (rc_same rfl (.inl rfl)) (.cons rfl (rc_same rfl (.inl rfl)) (.cons rfl (rc_same rfl (.inl rfl)) (.cons rfl (rc_same rfl (.inl rfl)) (.cons rfl (rc_same rfl (.inl rfl)) (.cons rfl (rc_same rfl (.inl rfl)) (.cons rfl (rc_eq (by rw [h99, hwl]; rfl) rfl) (.cons rfl (rc_eq (by rw [h105, hwl]; rfl) rfl) (.cons rfl (rc_same rfl (.inl rfl)) (.nil))))))))))))) (.nil) (fun i h => by cases h)⟩
          · skip
            refine rs_skip rfl ?_
            refine rs_skip rfl ?_
            refine rs_skip rfl ?_
            refine rs_skip rfl ?_
            refine rs_pick rfl rfl rfl ?_
            refine rs_mv rfl rfl ?_
            refine rs_nil fun _ => ?_
            refine in_n ?_
            refine th_n ?_
            refine aw_reg ?_
            refine rs_mv rfl rfl ?_
            first | refine rs_add rfl rfl rfl (by omega) ?_ | refine rs_addw rfl rfl rfl rfl ?_
            refine rs_mv rfl rfl ?_
            refine rs_nil fun _ => ?_
            refine th_n ?_
            first
              | exact ⟨(k + 1, th, go, li, s, r, b), ⟨by simp; omega, allI_no hx hok⟩, by simp; omega, weak_to (.cons rfl (rc_same rfl (.inl rfl)) (.cons rfl (rc_same rfl (.inl rfl)) (.cons rfl (rc_same rfl (.inl rfl)) (.cons rfl (rc_same rfl (.inl rfl)) (.cons rfl (rc_same rfl (.inl rfl)) (.cons rfl (rc_same rfl (.inl rfl)) (.cons rfl (rc_same rfl (.inl rfl)) (.cons rfl (rc_same rfl (.inl rfl)) (.cons rfl (rc_same rfl (.inl rfl)) (.cons rfl (rc_same rfl (.inl rfl)) (.cons rfl (rc_same rfl (.inl rfl)) (.cons rfl (rc_same rfl (.inl rfl)) (.nil))))))))))))) (.nil) (fun i h => by cases h)⟩
              | exact ⟨(k + 1, th &&& k, go &&& (P - 1 - k), li &&& lieT R k, true, r || goodK (wantsS ws N) k N, b || !goodK (wantsS ws N) k N), ⟨by simp; omega, by have := allI_ok hx hok (by omega); rw [← hP] at this; exact this⟩, by simp; omega, weak_to (.cons rfl (rc_same rfl (.inl rfl)) (.cons rfl (rc_same rfl (.inl rfl)) (.cons rfl (rc_same rfl (.inl rfl)) (.cons rfl (rc_same rfl (.inl rfl)) (.cons rfl (rc_same rfl (.inl rfl)) (.cons rfl (rc_same rfl (.inl rfl)) (.cons rfl (rc_same rfl (.inl rfl)) (.cons rfl (rc_same rfl (.inl rfl)) (.cons rfl (rc_same rfl (.inl rfl)) (.cons rfl (rc_eq (by rw [h99]; rfl) rfl) (.cons rfl (rc_eq (by rw [h105]; rfl) rfl) (.cons rfl (rc_same rfl (.inl rfl)) (.nil))))))))))))) (.nil) (fun i h => by cases h)⟩
              | exact ⟨(k + 1, th &&& k, go &&& (P - 1 - k), li &&& lieT R k, true, r || goodK (wantsS ws N) k N, b || !goodK (wantsS ws N) k N), ⟨by simp; omega, by have := allI_ok hx hok (by omega); rw [← hP] at this; exact this⟩, by simp; omega, weak_to (.cons rfl (rc_same rfl (.inl rfl)) (.cons rfl (rc_same rfl (.inl rfl)) (.cons rfl (rc_same rfl (.inl rfl)) (.cons rfl (rc_same rfl (.inl rfl)) (.cons rfl (rc_same rfl (.inl rfl)) (.cons rfl (rc_same rfl (.inl rfl)) (.cons rfl (rc_same rfl (.inl rfl)) (.cons rfl (rc_same rfl (.inl rfl)) (.cons rfl (rc_same rfl (.inl rfl)) (.cons rfl (rc_eq (by rw [h99]; rfl) rfl) (.cons rfl (rc_eq (by rw [h105, hwl]; rfl) rfl) (.cons rfl (rc_same rfl (.inl rfl)) (.nil))))))))))))) (.nil) (fun i h => by cases h)⟩
              | exact ⟨(k + 1, th &&& k, go &&& (P - 1 - k), li &&& lieT R k, true, r || goodK (wantsS ws N) k N, b || !goodK (wantsS ws N) k N), ⟨by simp; omega, by have := allI_ok hx hok (by omega); rw [← hP] at this; exact this⟩, by simp; omega, weak_to (.cons rfl (rc_same rfl (.inl rfl)) (.cons rfl (rc_same rfl (.inl rfl)) (.cons rfl (rc_same rfl (.inl rfl)) (.cons rfl (rc_same rfl (.inl rfl)) (.cons rfl (rc_same rfl (.inl rfl)) (.cons rfl (rc_same rfl (.inl rfl)) (.cons rfl (rc_same rfl (.inl rfl)) (.cons rfl (rc_same rfl (.inl rfl)) (.cons rfl (rc_same rfl (.inl rfl)) (.cons rfl (rc_eq (by rw [h99, hwl]; rfl) rfl) (.cons rfl (rc_eq (by rw [h105]; rfl) rfl) (.cons rfl (rc_same rfl (.inl rfl)) (.nil))))))))))))) (.nil) (fun i h => by cases h)⟩
              | exact ⟨(k + 1, th &&& k, go &&& (P - 1 - k), li &&& lieT R k, true, r || goodK (wantsS ws N) k N, b || !goodK (wantsS ws N) k N), ⟨by simp; omega, by have := allI_ok hx hok (by omega); rw [← hP] at this; exact this⟩, by simp; omega, weak_to (.cons rfl (rc_same rfl (.inl rfl)) (.cons rfl (rc_same rfl (.inl rfl)) (.cons rfl (rc_same rfl (.inl rfl)) (.cons rfl (rc_same rfl (.inl rfl)) (.cons rfl (rc_same rfl (.inl rfl)) (.cons rfl (rc_same rfl (.inl rfl)) (.cons rfl (rc_same rfl (.inl rfl)) (.cons rfl (rc_same rfl (.inl rfl)) (.cons rfl (rc_same rfl (.inl rfl)) (.cons rfl (rc_eq (by rw [h99, hwl]; rfl) rfl) (.cons rfl (rc_eq (by rw [h105, hwl]; rfl) rfl) (.cons rfl (rc_same rfl (.inl rfl)) (.nil))))))))))))) (.nil) (fun i h => by cases h)⟩
  · first | replace h48 := of_decide_eq_false h48 | skip
    refine aw_exit ?_
    refine th_e ?_
    refine th_e ?_
    refine in_hit ?_
    refine th_n ?_
    refine aw_seq ?_
    have hkP : k = P := by omega
    rw [hkP, hP] at hx
    obtain ⟨K, Ls, v, E, c36, c39, c42, hend⟩ := allI_calls hm ws hx
    refine aw_reg ?_
    refine rs_mv rfl rfl ?_
    refine rs_mv rfl rfl ?_
    refine rs_mv rfl rfl ?_
    refine rs_calln [] rfl rfl (c36) (.cons (hv_same rfl) (.cons (hv_same rfl) (.cons (hv_same rfl) (.nil)))) rfl ?_
    refine rs_mv rfl rfl ?_
    refine rs_ext rfl rfl rfl ?_
    refine rs_ext rfl rfl rfl ?_
    refine rs_mv rfl rfl ?_
    refine rs_mv rfl rfl ?_
    refine rs_nil fun _ => ?_
    refine th_n ?_
    refine aw_seq ?_
    refine aw_reg ?_
    refine rs_mv rfl rfl ?_
    refine rs_mv rfl rfl ?_
    refine rs_mv rfl rfl ?_
    refine rs_calln [] rfl rfl (c39) (.cons (hv_same rfl) (.cons (hv_same rfl) (.cons (hv_same rfl) (.nil)))) rfl ?_
    refine rs_mv rfl rfl ?_
    refine rs_ext rfl rfl rfl ?_
    refine rs_ext rfl rfl rfl ?_
    refine rs_mv rfl rfl ?_
    refine rs_mv rfl rfl ?_
    refine rs_nil fun _ => ?_
    refine th_n ?_
    refine aw_seq ?_
    refine aw_reg ?_
    refine rs_mv rfl rfl ?_
    refine rs_build rfl rfl ?_
    refine rs_mv rfl rfl ?_
    refine rs_mv rfl rfl ?_
    refine rs_calln [] rfl rfl (c42) (.cons (hv_same rfl) (.cons (hv_same rfl) (.cons (hv_same rfl) (.nil)))) rfl ?_
    refine rs_mv rfl rfl ?_
    refine rs_nil fun _ => ?_
    refine th_n ?_
    refine aw_seq ?_
    refine aw_seq ?_
    refine aw_reg ?_
    refine rs_mv rfl rfl ?_
    cases h130 : s
    · skip
      refine rs_not rfl rfl ?_
      refine rs_nil fun _ => ?_
      refine th_n ?_
      refine aw_cond rfl (fun _ => ?_) (fun h => by cases h)
      refine aw_seq ?_
      obtain ⟨_, hE, hv⟩ := hend.resolve_right (fun h => by rw [h130] at h; cases h.1)
      refine aw_reg ?_
      refine rs_mv rfl rfl ?_
      refine rs_mv rfl rfl ?_
      refine rs_mv rfl rfl ?_
      refine rs_cmp_t rfl rfl rfl rfl hE ?_
      refine rs_pick rfl rfl rfl ?_
      refine rs_mv rfl rfl ?_
      refine rs_mv rfl rfl ?_
      refine rs_cmp_t rfl rfl rfl rfl hE ?_
      refine rs_pick rfl rfl rfl ?_
      refine rs_mv rfl rfl ?_
      refine rs_mv rfl rfl ?_
      refine rs_cmp_t rfl rfl rfl rfl hv ?_
      refine rs_pick rfl rfl rfl ?_
      refine rs_mv rfl rfl ?_
      refine rs_nil fun _ => ?_
      refine th_n ?_
      refine aw_ret ?_
      refine th_r ?_
      exact ret_pure rfl rfl rfl (.inr rfl)
    · skip
      refine rs_not rfl rfl ?_
      refine rs_nil fun _ => ?_
      refine th_n ?_
      refine aw_cond rfl (fun h => by cases h) (fun _ => ?_)
      refine aw_skip ?_
      refine th_n ?_
      refine aw_seq ?_
      refine aw_seq ?_
      obtain ⟨_, hE, hKl, hKv, hLs, hv⟩ := hend.resolve_left (fun h => by rw [h130] at h; cases h.1)
      refine aw_reg ?_
      refine rs_mv rfl rfl ?_
      refine rs_cmp_f rfl rfl rfl rfl (fun h => h hE) ?_
      refine rs_mv rfl rfl ?_
      refine rs_mv rfl rfl ?_
      refine rs_cmp_f rfl rfl rfl rfl (fun h => h hE) ?_
      refine rs_pick rfl rfl rfl ?_
      refine rs_mv rfl rfl ?_
      refine rs_mv rfl rfl ?_
      first | refine rs_len_m rfl rfl ?_ | refine rs_len_s rfl rfl ?_ | refine rs_len_n rfl rfl ?_ | refine rs_len_r rfl rfl rfl ?_
      refine rs_mv rfl rfl ?_
      refine rs_cmp_f rfl rfl rfl rfl (by omega) ?_
      refine rs_pick rfl rfl rfl ?_
      refine rs_nil fun _ => ?_
      refine th_n ?_
      refine aw_cond rfl (fun h => by cases h) (fun _ => ?_)
      refine aw_skip ?_
      refine th_n ?_
      refine aw_seq ?_
      refine aw_seq ?_
      refine aw_reg ?_
      refine rs_mv rfl rfl ?_
      first | refine rs_len_m rfl rfl ?_ | refine rs_len_s rfl rfl ?_ | refine rs_len_n rfl rfl ?_ | refine rs_len_r rfl rfl rfl ?_
      refine rs_mv rfl rfl ?_
      refine rs_nil fun _ => ?_
      refine th_n ?_
      refine aw_block ?_
      refine aw_fam (α := Nat) (fun k => K.length - k) (fun k => [(5, .bool true), (10, iv (((th) : Nat) : Int)), (11, iv (((go) : Nat) : Int)), (12, iv (((li) : Nat) : Int)), (14, .bool r), (15, .bool b), (21, ints K), (23, ints Ls), (25, iv v), (157, ints K), (158, iv (K.length : Int)), (159, iv (((k) : Nat) : Int))]) (fun k => []) (fun k => k ≤ K.length) 0 (by omega)
        (weak_to (.cons rfl (rc_same rfl (.inl rfl)) (.cons rfl (rc_same rfl (.inl rfl)) (.cons rfl (rc_same rfl (.inl rfl)) (.cons rfl (rc_same rfl (.inl rfl)) (.cons rfl (rc_same rfl (.inl rfl)) (.cons rfl (rc_same rfl (.inl rfl)) (.cons rfl (rc_same rfl (.inl rfl)) (.cons rfl (rc_same rfl (.inl rfl)) (.cons rfl (rc_same rfl (.inl rfl)) (.cons rfl (rc_same rfl (.inl rfl)) (.cons rfl (rc_same rfl (.inl rfl)) (.cons rfl (rc_same rfl (.inl rfl)) (.nil))))))))))))) (.nil) (fun i h => by cases h)) ?_
      intro k hk
      refine aw_seq ?_
      refine aw_reg ?_
      refine rs_lss rfl rfl rfl ?_
      refine rs_nil fun _ => ?_
      refine th_n ?_
      refine aw_seq ?_
      refine aw_cond rfl (fun h160 => ?_) (fun h160 => ?_)
      · first | replace h160 := of_decide_eq_true h160 | skip
        refine aw_skip ?_
        refine th_n ?_
        refine aw_seq ?_
        refine aw_block ?_
        refine aw_seq ?_
        refine aw_reg ?_
        refine rs_mv rfl rfl ?_
        refine rs_mv rfl rfl ?_
        refine rs_nil fun _ => ?_
        refine th_n ?_
        refine aw_seq ?_
        refine aw_draw hmix ?_
        obtain ⟨x, hkx, _⟩ := at_some (L := K) (k := k) (by omega)
        have hxv := hKv k x hkx
        have hb1 := bitN_01 th k
        have hb2 := bitN_01 go k
        refine rs_mv rfl rfl ?_
        refine rs_mv rfl rfl ?_
        refine rs_ix_g rfl rfl rfl (by omega) hkx ?_
        refine rs_ld_r rfl rfl rfl ?_
        refine rs_mv rfl rfl ?_
        refine rs_mv rfl rfl ?_
        refine rs_shr rfl rfl rfl (by omega) rfl ?_
        refine rs_and rfl rfl rfl (bit_i64 th (by omega) k (by omega)) ?_
        refine rs_mv rfl rfl ?_
        refine rs_mv rfl rfl ?_
        refine rs_shr rfl rfl rfl (by omega) rfl ?_
        refine rs_and rfl rfl rfl (bit_i64 go (by omega) k (by omega)) ?_
        first | refine rs_sub rfl rfl rfl (by omega) ?_ | refine rs_subw rfl rfl rfl rfl ?_
        refine rs_cmp_f rfl rfl rfl rfl (by omega) ?_
        refine rs_nil ⟨by kernel_rfl, fun _ => ?_⟩
        refine th_n ?_
        refine aw_cond rfl (fun h => by cases h) (fun _ => ?_)
        refine aw_skip ?_
        refine in_n ?_
        refine th_n ?_
        refine aw_reg ?_
        first | refine rs_add rfl rfl rfl (by omega) ?_ | refine rs_addw rfl rfl rfl rfl ?_
        refine rs_mv rfl rfl ?_
        refine rs_nil fun _ => ?_
        refine th_n ?_
        exact ⟨k + 1, by omega, by omega, weak_to (.cons rfl (rc_same rfl (.inl rfl)) (.cons rfl (rc_same rfl (.inl rfl)) (.cons rfl (rc_same rfl (.inl rfl)) (.cons rfl (rc_same rfl (.inl rfl)) (.cons rfl (rc_same rfl (.inl rfl)) (.cons rfl (rc_same rfl (.inl rfl)) (.cons rfl (rc_same rfl (.inl rfl)) (.cons rfl (rc_same rfl (.inl rfl)) (.cons rfl (rc_same rfl (.inl rfl)) (.cons rfl (rc_same rfl (.inl rfl)) (.cons rfl (rc_same rfl (.inl rfl)) (.cons rfl (rc_same rfl (.inl rfl)) (.nil))))))))))))) (.nil) (fun i h => by cases h)⟩
      · first | replace h160 := of_decide_eq_false h160 | skip
        refine aw_exit ?_
        refine th_e ?_
        refine th_e ?_
        refine in_hit ?_
        refine th_n ?_
        refine aw_seq ?_
        refine aw_reg ?_
        refine rs_mv rfl rfl ?_
        refine rs_nil fun _ => ?_
        refine th_n ?_
        refine aw_seq ?_
        refine aw_seq ?_
        refine aw_reg ?_
        refine rs_mv rfl rfl ?_
        refine rs_nil fun _ => ?_
        refine th_n ?_
        refine aw_block ?_
        refine aw_fam (α := Nat) (fun q => 8 - q) (fun q => [(5, .bool true), (12, iv (((li) : Nat) : Int)), (14, .bool r), (15, .bool b), (23, ints Ls), (25, iv v), (27, .sl 1027 0 (outK li (q)).length), (28, iv (((q) : Nat) : Int))]) (fun q => [(1027, .cells 3 1 ((outK li (q)).map ci) true)]) (fun q => q ≤ 8) 0 (by omega)
          (weak_to (.cons rfl (rc_same rfl (.inl rfl)) (.cons rfl (rc_same rfl (.inl rfl)) (.cons rfl (rc_same rfl (.inl rfl)) (.cons rfl (rc_same rfl (.inl rfl)) (.cons rfl (rc_same rfl (.inl rfl)) (.cons rfl (rc_same rfl (.inl rfl)) (.cons rfl (rc_virt rfl rfl) (.cons rfl (rc_same rfl (.inl rfl)) (.nil))))))))) (.virt rfl (.nil)) (fun i h => by cases h)) ?_
        intro q hq
        have hol := outK_le li q
        refine aw_seq ?_
        refine aw_seq ?_
        refine aw_reg ?_
        refine rs_mv rfl rfl ?_
        refine rs_lss rfl rfl rfl ?_
        refine rs_nil fun _ => ?_
        refine th_n ?_
        refine aw_cond rfl (fun h178 => ?_) (fun h178 => ?_)
        · first | replace h178 := of_decide_eq_true h178 | skip
          refine aw_skip ?_
          refine th_n ?_
          refine aw_seq ?_
          refine aw_block ?_
          refine aw_seq ?_
          refine aw_reg ?_
          refine rs_mv rfl rfl ?_
          refine rs_mv rfl rfl ?_
          refine rs_shr rfl rfl rfl (by omega) rfl ?_
          refine rs_and rfl rfl rfl rfl ?_
          refine rs_eql rfl rfl rfl ?_
          rw [show decide (bits .and .i64 (((li : Nat) : Int).fdiv (2 ^ min (((q) : Nat) : Int).toNat IntKind.i64.bits)) 1 = 1) = hasS li (q) from has_bits li (by omega) (q) (by omega)]
          refine rs_nil fun _ => ?_
          refine th_n ?_
          refine aw_cond rfl (fun h185 => ?_) (fun h185 => ?_)
          · first | replace h185 := of_decide_eq_true h185 | skip
            refine aw_reg ?_
            refine rs_mv rfl rfl ?_
            refine rs_mv rfl rfl ?_
            refine rs_bslice rfl rfl rfl rfl rfl rfl ?_
            refine rs_app_m (y := (q : Int)) rfl rfl rfl rfl rfl rfl rfl rfl (by decide) rfl (by omega) (by omega) rfl ?_
            refine rs_mv rfl rfl ?_
            refine rs_nil fun _ => ?_
            refine in_n ?_
            refine th_n ?_
            refine aw_reg ?_
            refine rs_mv rfl rfl ?_
            first | refine rs_add rfl rfl rfl (by omega) ?_ | refine rs_addw rfl rfl rfl rfl ?_
            refine rs_mv rfl rfl ?_
            refine rs_nil fun _ => ?_
            refine th_n ?_
            refine ⟨q + 1, by omega, by omega, ?_⟩
            first
              | (have ho := outK_t li q h185; exact weak_to_ren (i := 189) (i' := 1027) (F1 := [(5, .bool true), (12, iv (((li) : Nat) : Int)), (14, .bool r), (15, .bool b), (23, ints Ls), (25, iv v), (27, .sl 189 0 (outK li (q + 1)).length), (28, iv (((q + 1) : Nat) : Int))]) (H1 := [(189, .cells 3 1 ((outK li (q + 1)).map ci) true)]) (.cons rfl (rc_same rfl (.inl rfl)) (.cons rfl (rc_same rfl (.inl rfl)) (.cons rfl (rc_same rfl (.inl rfl)) (.cons rfl (rc_same rfl (.inl rfl)) (.cons rfl (rc_same rfl (.inl rfl)) (.cons rfl (rc_same rfl (.inl rfl)) (.cons rfl (rc_eq (by rw [ho]; simp) rfl) (.cons rfl (rc_same rfl (.inl rfl)) (.nil))))))))) (.keep ((by (rw [ho]) <;> rfl)) rfl (.nil)) (fun i h => by cases h) rfl rfl (.cons rfl (.same _) (.cons rfl (.same _) (.cons rfl (.same _) (.cons rfl (.same _) (.cons rfl (.same _) (.cons rfl (.same _) (.cons rfl (.sl _ _) (.cons rfl (.same _) (.nil))))))))) (.cons rfl (rc_same rfl (.inl rfl)) (.cons rfl (rc_same rfl (.inl rfl)) (.cons rfl (rc_same rfl (.inl rfl)) (.cons rfl (rc_same rfl (.inl rfl)) (.cons rfl (rc_same rfl (.inl rfl)) (.cons rfl (rc_same rfl (.inl rfl)) (.cons rfl (rc_same rfl (.inl rfl)) (.cons rfl (rc_same rfl (.inl rfl)) (.nil))))))))) (.keep (rfl) rfl (.nil)) (fun i h => by cases h))
              | (have ho := outK_f li q h185; exact weak_to (.cons rfl (rc_same rfl (.inl rfl)) (.cons rfl (rc_same rfl (.inl rfl)) (.cons rfl (rc_same rfl (.inl rfl)) (.cons rfl (rc_same rfl (.inl rfl)) (.cons rfl (rc_same rfl (.inl rfl)) (.cons rfl (rc_same rfl (.inl rfl)) (.cons rfl (rc_eq (by rw [ho]) rfl) (.cons rfl (rc_same rfl (.inl rfl)) (.nil))))))))) (.keep ((by (rw [ho]) <;> rfl)) rfl (.nil)) (fun i h => by cases h))
          · first | replace h185 := of_decide_eq_false h185 | skip
            refine aw_skip ?_
            refine in_n ?_
            refine th_n ?_
            refine aw_reg ?_
            refine rs_mv rfl rfl ?_
            first | refine rs_add rfl rfl rfl (by omega) ?_ | refine rs_addw rfl rfl rfl rfl ?_
            refine rs_mv rfl rfl ?_
            refine rs_nil fun _ => ?_
            refine th_n ?_
            refine ⟨q + 1, by omega, by omega, ?_⟩
            first
              | (have ho := outK_t li q h185; exact weak_to_ren (i := 189) (i' := 1027) (F1 := [(5, .bool true), (12, iv (((li) : Nat) : Int)), (14, .bool r), (15, .bool b), (23, ints Ls), (25, iv v), (27, .sl 189 0 (outK li (q + 1)).length), (28, iv (((q + 1) : Nat) : Int))]) (H1 := [(189, .cells 3 1 ((outK li (q + 1)).map ci) true)]) (.cons rfl (rc_same rfl (.inl rfl)) (.cons rfl (rc_same rfl (.inl rfl)) (.cons rfl (rc_same rfl (.inl rfl)) (.cons rfl (rc_same rfl (.inl rfl)) (.cons rfl (rc_same rfl (.inl rfl)) (.cons rfl (rc_same rfl (.inl rfl)) (.cons rfl (rc_eq (by rw [ho]; simp) rfl) (.cons rfl (rc_same rfl (.inl rfl)) (.nil))))))))) (.keep ((by (rw [ho]) <;> rfl)) rfl (.nil)) (fun i h => by cases h) rfl rfl (.cons rfl (.same _) (.cons rfl (.same _) (.cons rfl (.same _) (.cons rfl (.same _) (.cons rfl (.same _) (.cons rfl (.same _) (.cons rfl (.sl _ _) (.cons rfl (.same _) (.nil))))))))) (.cons rfl (rc_same rfl (.inl rfl)) (.cons rfl (rc_same rfl (.inl rfl)) (.cons rfl (rc_same rfl (.inl rfl)) (.cons rfl (rc_same rfl (.inl rfl)) (.cons rfl (rc_same rfl (.inl rfl)) (.cons rfl (rc_same rfl (.inl rfl)) (.cons rfl (rc_same rfl (.inl rfl)) (.cons rfl (rc_same rfl (.inl rfl)) (.nil))))))))) (.keep (rfl) rfl (.nil)) (fun i h => by cases h))
              | (have ho := outK_f li q h185; exact weak_to (.cons rfl (rc_same rfl (.inl rfl)) (.cons rfl (rc_same rfl (.inl rfl)) (.cons rfl (rc_same rfl (.inl rfl)) (.cons rfl (rc_same rfl (.inl rfl)) (.cons rfl (rc_same rfl (.inl rfl)) (.cons rfl (rc_same rfl (.inl rfl)) (.cons rfl (rc_eq (by rw [ho]) rfl) (.cons rfl (rc_same rfl (.inl rfl)) (.nil))))))))) (.keep ((by (rw [ho]) <;> rfl)) rfl (.nil)) (fun i h => by cases h))
        · first | replace h178 := of_decide_eq_false h178 | skip
          refine aw_exit ?_
          refine th_e ?_
          refine th_e ?_
          refine in_hit ?_
          refine th_n ?_
          refine aw_seq ?_
          refine aw_seq ?_
          obtain rfl : q = 8 := by omega
          subst hLs
          refine aw_reg ?_
          refine rs_mv rfl rfl ?_
          refine rs_mv rfl rfl ?_
          refine rs_calln [1027] rfl rfl (fc38_t (outK li 8) (by have := outK_le li 8; omega)) (.cons (hv_same rfl) (.cons (hv_slm (by simp) rfl (by omega)) (.nil))) rfl ?_
          refine rs_not rfl rfl ?_
          refine rs_nil fun _ => ?_
          refine th_n ?_
          refine aw_cond rfl (fun h => by cases h) (fun _ => ?_)
          refine aw_skip ?_
          refine th_n ?_
          refine aw_seq ?_
          refine aw_seq ?_
          refine aw_reg ?_
          refine rs_mv rfl rfl ?_
          refine rs_mv rfl rfl ?_
          cases h195 : r
          · skip
            refine rs_skip rfl ?_
            refine rs_pick rfl rfl rfl ?_
            refine rs_nil fun _ => ?_
            refine th_n ?_
            refine aw_cond rfl (fun h => by cases h) (fun _ => ?_)
            refine aw_skip ?_
            refine th_n ?_
            refine aw_seq ?_
            refine aw_reg ?_
            refine rs_mv rfl rfl ?_
            refine rs_mv rfl rfl ?_
            refine rs_mv rfl rfl ?_
            refine rs_mv rfl rfl ?_
            refine rs_skip rfl ?_
            refine rs_skip rfl ?_
            refine rs_pick rfl rfl rfl ?_
            refine rs_mv rfl rfl ?_
            rw [rb_b hv h195]
            refine rs_mv rfl rfl ?_
            refine rs_mv rfl rfl ?_
            refine rs_mv rfl rfl ?_
            refine rs_cmp_t rfl rfl rfl rfl (rb_35 hv h195) ?_
            refine rs_pick rfl rfl rfl ?_
            refine rs_pick rfl rfl rfl ?_
            refine rs_pick rfl rfl rfl ?_
            refine rs_mv rfl rfl ?_
            refine rs_nil fun _ => ?_
            refine th_n ?_
            refine aw_ret ?_
            exact ret_pure rfl rfl rfl (.inr rfl)
          · skip
            refine rs_mv rfl rfl ?_
            cases h196 : b
            · skip
              refine rs_pick rfl rfl rfl ?_
              refine rs_nil fun _ => ?_
              refine th_n ?_
              refine aw_cond rfl (fun h => by cases h) (fun _ => ?_)
              refine aw_skip ?_
              refine th_n ?_
              refine aw_seq ?_
              refine aw_reg ?_
              refine rs_mv rfl rfl ?_
              refine rs_mv rfl rfl ?_
              refine rs_mv rfl rfl ?_
              refine rs_mv rfl rfl ?_
              refine rs_mv rfl rfl ?_
              refine rs_cmp_t rfl rfl rfl rfl (rb_0 hv h195 h196) ?_
              refine rs_pick rfl rfl rfl ?_
              refine rs_mv rfl rfl ?_
              refine rs_skip rfl ?_
              refine rs_skip rfl ?_
              refine rs_skip rfl ?_
              refine rs_skip rfl ?_
              refine rs_skip rfl ?_
              refine rs_pick rfl rfl rfl ?_
              refine rs_pick rfl rfl rfl ?_
              refine rs_mv rfl rfl ?_
              refine rs_nil fun _ => ?_
              refine th_n ?_
              refine aw_ret ?_
              exact ret_pure rfl rfl rfl (.inr rfl)
            · skip
              refine rs_pick rfl rfl rfl ?_
              refine rs_nil fun _ => ?_
              refine th_n ?_
              refine aw_cond rfl (fun _ => ?_) (fun h => by cases h)
              refine aw_seq ?_
              refine aw_reg ?_
              refine rs_mv rfl rfl ?_
              refine rs_mv rfl rfl ?_
              refine rs_mv rfl rfl ?_
              refine rs_cmp_t rfl rfl rfl rfl (rb_5 hv h195 h196) ?_
              refine rs_pick rfl rfl rfl ?_
              refine rs_mv rfl rfl ?_
              refine rs_nil fun _ => ?_
              refine th_n ?_
              refine aw_ret ?_
              refine th_r ?_
              exact ret_pure rfl rfl rfl (.inr rfl)

end Go.Proofs.Ytadjdnhnbkcakaa

/-! The arguments of the laws of inspect, as they are read. -/
namespace Go.Proofs.Ytadjdnhnbkcakaa
open Go.RowKit Go.WideShapes Go.ChangeShapes Go.ChangeAt
set_option maxRecDepth 100000

theorem own_knob : ownKnob Try.prog.godebug = none := by kernel_rfl
theorem laid_out : laidOutB Try.prog = true := by kernel_rfl

theorem rd_i {H : Type} (d : DataW H) (h : Gd (.int .i64) d) : ∃ n : Int, True ∧ avD (.int .i64) d = ci n := by
  obtain ⟨n, _, e⟩ := rd_int d h
  exact ⟨n, trivial, e⟩
theorem rd_u8 {H : Type} (d : DataW H) (h : Gd (.int .u8) d) : ∃ n : Int, (0 ≤ n ∧ n < 256) ∧ avD (.int .u8) d = cu8 n := by
  obtain ⟨n, hw, e⟩ := rd_int d h
  have := bounds_u8 hw
  exact ⟨n, by omega, e⟩
theorem rd_ints {H : Type} (d : DataW H) (h : Gd (.sl 1 (.int .i64)) d) : ∃ L : List Int, L.length ≤ 140737488351232 ∧ avD (.sl 1 (.int .i64)) d = [ints L] := by
  obtain ⟨L, ⟨h1, _⟩, e⟩ := rd_sl (fun _ => True) ci rd_i d h
  exact ⟨L, h1, e⟩
theorem rd_u8s {H : Type} (d : DataW H) (h : Gd (.sl 1 (.int .u8)) d) : ∃ ls : List Int, (ls.length ≤ 140737488351232 ∧ ∀ x ∈ ls, 0 ≤ x ∧ x < 256) ∧ avD (.sl 1 (.int .u8)) d = [.rs 1 (ls.map cu8)] :=
  rd_sl _ cu8 rd_u8 d h
abbrev shCase42 : Sh := .st [.sl 1 (.int .i64), .int .u8, .int .u8]
abbrev shSg : Sh := .st [.int .i64, .int .i64, .bool]
theorem rd_sg {H : Type} (d : DataW H) (h : Gd shSg d) : ∃ r : Sg, True ∧ avD shSg d = cS r := by
  obtain ⟨ps, g, e⟩ := rd_st d h
  obtain ⟨d0, r0, g0, g, e0⟩ := rd_cons ps g
  obtain ⟨d1, r1, g1, g, e1⟩ := rd_cons r0 g
  obtain ⟨d2, r2, g2, g, e2⟩ := rd_cons r1 g
  obtain ⟨n0, _, a0⟩ := rd_i d0 g0
  obtain ⟨n1, _, a1⟩ := rd_i d1 g1
  obtain ⟨n2, a2⟩ := rd_bool d2 g2
  exact ⟨⟨n0, n1, n2⟩, trivial, by rw [e, e0, e1, e2, rd_nil r2 g, a0, a1, a2]; rfl⟩
theorem rd_case42 {H : Type} (d : DataW H) (h : Gd shCase42 d) : ∃ (L : List Int) (c5 l4 : Int), (L.length ≤ 4611686018427387904 ∧ (0 ≤ c5 ∧ c5 < 256) ∧ (0 ≤ l4 ∧ l4 < 256)) ∧
    argA shCase42 d = .agg [ints L, .int .u8 c5, .int .u8 l4] := by
  obtain ⟨ps, g, e⟩ := rd_st d h
  obtain ⟨d0, r0, g0, g, e0⟩ := rd_cons ps g
  obtain ⟨d1, r1, g1, g, e1⟩ := rd_cons r0 g
  obtain ⟨d2, r2, g2, g, e2⟩ := rd_cons r1 g
  obtain ⟨n0, k0, a0⟩ := rd_ints d0 g0
  obtain ⟨n1, k1, a1⟩ := rd_u8 d1 g1
  obtain ⟨n2, k2, a2⟩ := rd_u8 d2 g2
  exact ⟨n0, n1, n2, ⟨Nat.le_trans k0 (by decide), k1, k2⟩, by simp only [argA]; rw [e, e0, e1, e2, rd_nil r2 g, a0, a1, a2]; rfl⟩
end Go.Proofs.Ytadjdnhnbkcakaa
namespace Go.Proofs.Ytadjdnhnbkcakaa
open Go.RowKit Go.WideShapes Go.ChangeShapes Go.ChangeAt
set_option maxRecDepth 100000

abbrev shs12 : List Sh := [shCase42, .sl 1 (.int .u8)]

theorem lifted12 (os : Os) (started : os.Started) (H : Type) (enc : TypeId × Value → H) :
    ReturnsInHanded {} Try.checked os 12 .any (Rows.inspectAllSpec.pre6 enc Try.prog Try.f12 Rows.inspectAllRow.domain false) (Rows.inspectAllSpec.post enc Try.prog Try.f12 false true false false) := by
  refine law_row (C := Try.checked) own_knob started (by kernel_rfl) Try.func12 laid_out rfl (tb := 4) rfl Try.underlying4 shs12 (by kernel_rfl) (fun ds h => ?_)
    (ChangeSpec.witness6 (enc := enc) (C := Try.checked) false ⟨#[], #[.agg #[.slice none 0 0, .int .u8 0, .int .u8 0], .slice none 0 0], []⟩ 8 (by kernel_rfl) (by kernel_rfl) (by kernel_rfl) (by kernel_rfl)) fun ds hg => ⟨false, ?_⟩
  · match ds, h with
    | [_, _], _ => rfl
  · simp only [shs12, GdFs] at hg
    obtain ⟨d0, _, rfl, g0, d1, _, rfl, g1, rfl⟩ := hg
    obtain ⟨L, c5, l4, ⟨hL, hc5, hl4⟩, e0⟩ := rd_case42 d0 g0
    obtain ⟨ws, ⟨hl_ws, hr_ws⟩, e1⟩ := rd_sl _ cu8 rd_u8 d1 g1
    have e : argAs shs12 [d0, d1] = [.agg [ints L, .int .u8 c5, .int .u8 l4], .rs 1 (ws.map cu8)] := by
      simp only [argAs, shs12]
      rw [e0]
      simp only [argA]
      rw [e1]
      rfl
    rw [e]
    exact fc12 L c5 l4 ws hr_ws hL hc5 hl4

theorem over12 : Rows.inspectAllRow.holds Try.pinned (OpenSpec.ofChange Rows.inspectAllSpec) :=
  OpenClaim.holds_of_wide 12 Try.f12 rfl rfl rfl rfl rfl rfl rfl ⟨rfl, rfl, rfl, rfl, rfl⟩ rfl rfl rfl rfl rfl (by kernel_rfl) Try.func12 (by kernel_rfl)
    (of_decide_eq_true (by kernel_rfl)) (by unfold Func.isWrapper; rw [if_neg (of_decide_eq_false (by kernel_rfl))]; exact ⟨rfl, rfl⟩)
    (fun os started H enc _ => lifted12 os started H enc)

theorem inspectAll_holds : Rows.InspectAllSaid := over12
#print axioms inspectAll_holds
end Go.Proofs.Ytadjdnhnbkcakaa
