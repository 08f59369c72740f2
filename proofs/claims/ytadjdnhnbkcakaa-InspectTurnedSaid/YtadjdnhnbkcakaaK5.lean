/-
  Proved: colletlaw42.InspectTurned returns true for every input, and its arguments read as before. No condition.
-/
import Derived.Test.YtadjdnhnbkcakaaK4
import Derived.Test.YtadjdnhnbkcakaaRows
set_option linter.unusedVariables false

/-! Walks: A30. -/
namespace Go.Proofs.Ytadjdnhnbkcakaa
open Go.RowKit


def mc38 : MC := (.seq (.reg [⟨(some 4), (.mv (.c (.bool false))), none, []⟩] false) (.seq (.reg [⟨(some 5), (.mv (.t 0)), none, []⟩, ⟨(some 6), (.mv (.t 1)), none, []⟩, ⟨(some 7), (.call 23 [(.t 5), (.t 6)]), none, [0, 1]⟩, ⟨(some 4), (.mv (.t 7)), none, [2, 2, 0, 1, 2]⟩] false) .ret))
theorem mcOk38 : (match Try.f38.body with | some c => compC Try.prog 8 c | none => none) = some mc38 := by kernel_rfl

theorem fc38 (xs ys : List Int) (hx : xs.length ≤ 4611686018427387904) : FC Try.prog 38 [ints xs, ints ys] [] (.bool (sameS xs ys)) [] false := by
  refine fc_run (nt := 8) Try.func38 rfl rfl mcOk38 (Nat.le_of_ble_eq_true rfl) ?_
  delta mc38
  refine aw_seq ?_
  refine aw_reg ?_
  refine rs_mv rfl rfl ?_
  refine rs_nil fun _ => ?_
  refine th_n ?_
  refine aw_seq ?_
  refine aw_reg ?_
  refine rs_mv rfl rfl ?_
  refine rs_mv rfl rfl ?_
  refine rs_calln [] rfl rfl (fc23 xs ys hx) (.cons (hv_same rfl) (.cons (hv_same rfl) (.nil))) rfl ?_
  refine rs_mv rfl rfl ?_
  refine rs_nil fun _ => ?_
  refine th_n ?_
  refine aw_ret ?_
  exact ret_pure rfl rfl rfl (.inr rfl)

theorem fc38_t (xs : List Int) (hx : xs.length ≤ 4611686018427387904) : FC Try.prog 38 [ints xs, ints xs] [] (.bool true) [] false := by
  have := fc38 xs xs hx
  rwa [show sameS xs xs = true from decide_eq_true rfl] at this

def mc57 : MC := (.seq (.reg [⟨(some 12), (.mv (.c (.bool false))), none, []⟩] false) (.seq (.reg [⟨(some 18), (.mv (.t 5)), none, []⟩, ⟨(some 19), (.mv (.t 1)), none, []⟩, ⟨(some 20), (.call 36 [(.t 18), (.c (.int .i64 1)), (.t 19)]), none, [0, 1]⟩, ⟨(some 17), (.mv (.t 20)), none, [2]⟩, ⟨(some 21), (.ext (.t 17) 0), none, [3]⟩, ⟨(some 22), (.ext (.t 17) 1), none, [3]⟩, ⟨(some 13), (.mv (.t 21)), none, [4, 2, 0, 1, 2, 3, 4]⟩, ⟨(some 14), (.mv (.t 22)), none, [5, 6, 0, 1, 2, 3, 4, 5, 6]⟩] false) (.seq (.reg [⟨(some 24), (.mv (.t 5)), none, []⟩, ⟨(some 25), (.mv (.t 1)), none, []⟩, ⟨(some 26), (.call 39 [(.t 24), (.c (.int .i64 1)), (.t 25)]), none, [0, 1]⟩, ⟨(some 23), (.mv (.t 26)), none, [2]⟩, ⟨(some 27), (.ext (.t 23) 0), none, [3]⟩, ⟨(some 28), (.ext (.t 23) 1), none, [3]⟩, ⟨(some 15), (.mv (.t 27)), none, [4, 2, 0, 1, 2, 3, 4]⟩, ⟨(some 16), (.mv (.t 28)), none, [5, 6, 0, 1, 2, 3, 4, 5, 6]⟩] false) (.seq (.reg [⟨(some 29), (.mv (.t 14)), none, []⟩, ⟨(some 30), (.bin .eql (.t 29) (.c (.int .i64 0))), none, [0]⟩, ⟨(some 31), (.mv (.t 30)), none, [1]⟩, ⟨(some 32), (.mv (.t 16)), (some (31, true)), [2]⟩, ⟨(some 33), (.bin .eql (.t 32) (.c (.int .i64 0))), (some (31, true)), [3, 2]⟩, ⟨(some 34), (.pick (.t 31) (.t 33) (.c (.bool false))), none, [2, 4]⟩, ⟨(some 35), (.mv (.t 34)), none, [5, 2]⟩, ⟨(some 36), (.mv (.t 13)), (some (35, true)), [6]⟩, ⟨(some 37), (.mv (.t 2)), (some (35, true)), [6]⟩, ⟨(some 38), (.bslice 3 1 [(.int .i64 0)] 1 [(0, (.t 37))]), (some (35, true)), [8, 6]⟩, ⟨(some 39), (.call 38 [(.t 36), (.t 38)]), (some (35, true)), [7, 9, 6, 6]⟩, ⟨(some 40), (.pick (.t 35) (.t 39) (.c (.bool false))), none, [6, 10]⟩, ⟨(some 41), (.mv (.t 40)), none, [11, 10]⟩, ⟨(some 42), (.mv (.t 15)), (some (41, true)), [12]⟩, ⟨(some 43), (.mv (.t 3)), (some (41, true)), [12]⟩, ⟨(some 44), (.call 38 [(.t 42), (.t 43)]), (some (41, true)), [13, 14, 12, 12]⟩, ⟨(some 45), (.pick (.t 41) (.t 44) (.c (.bool false))), none, [12, 15]⟩, ⟨(some 46), (.mv (.t 45)), none, [16, 15]⟩, ⟨(some 47), (.mv (.t 0)), (some (46, true)), [17]⟩, ⟨(some 48), (.bslice 3 1 [(.int .i64 0)] 1 [(0, (.t 47))]), (some (46, true)), [18, 17]⟩, ⟨(some 49), (.build [(.str (.mk (.mk []))), .nils, .nils] [(2, (1, (.t 48)))]), (some (46, true)), [19, 17]⟩, ⟨(some 50), (.mv (.t 5)), (some (46, true)), [17]⟩, ⟨(some 51), (.mv (.t 1)), (some (46, true)), [17]⟩, ⟨(some 52), (.call 42 [(.t 49), (.t 50), (.t 51)]), (some (46, true)), [20, 21, 22, 17, 17]⟩, ⟨(some 53), (.mv (.t 4)), (some (46, true)), [17]⟩, ⟨(some 54), (.bin .eql (.t 52) (.t 53)), (some (46, true)), [23, 24, 17]⟩, ⟨(some 55), (.pick (.t 46) (.t 54) (.c (.bool false))), none, [17, 25]⟩, ⟨(some 12), (.mv (.t 55)), none, [26, 23, 0, 1, 2, 3, 4, 5, 6, 7, 8, 9, 10, 11, 12, 13, 14, 15, 16, 17, 18, 19, 20, 21, 22, 23, 24, 25, 26]⟩] false) .ret))))
theorem mcOk57 : (match Try.f57.body with | some c => compC Try.prog 56 c | none => none) = some mc57 := by kernel_rfl

theorem fc57 (l : List Sg) (want lies cell verdict : Int) (liars : List Int) (hl : l.length ≤ 40) (hle : liars.length ≤ 8) (hE : cellsE l 1 lies = 0) (hC : cellsL l 1 lies = [cell]) (hS : sureL l 1 lies = liars) (hV : verdS [want] l lies = verdict) : FC Try.prog 57 [iv want, iv lies, iv cell, ints liars, iv verdict, .rs 3 (l.map cS)] [] (.bool true) [] false := by
  have c1 : FC Try.prog 36 [.rs 3 (l.map cS), iv 1, iv lies] [] (.tup [ints [cell], iv 0]) [] false := by have := fc36 l 1 lies (by omega); rwa [hC, hE] at this
  have c2 : FC Try.prog 39 [.rs 3 (l.map cS), iv 1, iv lies] [] (.tup [ints liars, iv 0]) [] false := by have := fc39 l 1 lies (by omega); rwa [hS, hE] at this
  have c3 : FC Try.prog 42 [partV [want], .rs 3 (l.map cS), iv lies] [] (iv verdict) [] false := by have := fc42 [want] l lies (by simp) (by omega); rwa [hV] at this
  refine fc_run (nt := 56) Try.func57 rfl rfl mcOk57 (Nat.le_of_ble_eq_true rfl) ?_
  delta mc57
  refine aw_seq ?_
  refine aw_reg ?_
  refine rs_mv rfl rfl ?_
  refine rs_nil fun _ => ?_
  refine th_n ?_
  refine aw_seq ?_
  refine aw_reg ?_
  refine rs_mv rfl rfl ?_
  refine rs_mv rfl rfl ?_
  refine rs_calln [] rfl rfl (c1) (.cons (hv_same rfl) (.cons (hv_same rfl) (.cons (hv_same rfl) (.nil)))) rfl ?_
  refine rs_mv rfl rfl ?_
  refine rs_ext rfl rfl rfl ?_
  refine rs_ext rfl rfl rfl ?_
  refine rs_mv rfl rfl ?_
  refine rs_mv rfl rfl ?_
  refine rs_nil fun _ => ?_
  refine th_n ?_
  refine aw_seq ?_
  refine aw_reg ?_
  refine rs_mv rfl rfl ?_
  refine rs_mv rfl rfl ?_
  refine rs_calln [] rfl rfl (c2) (.cons (hv_same rfl) (.cons (hv_same rfl) (.cons (hv_same rfl) (.nil)))) rfl ?_
  refine rs_mv rfl rfl ?_
  refine rs_ext rfl rfl rfl ?_
  refine rs_ext rfl rfl rfl ?_
  refine rs_mv rfl rfl ?_
  refine rs_mv rfl rfl ?_
  refine rs_nil fun _ => ?_
  refine th_n ?_
  refine aw_seq ?_
  refine aw_reg ?_
  refine rs_mv rfl rfl ?_
  refine rs_cmp_t rfl rfl rfl rfl rfl ?_
  refine rs_mv rfl rfl ?_
  refine rs_mv rfl rfl ?_
  refine rs_cmp_t rfl rfl rfl rfl rfl ?_
  refine rs_pick rfl rfl rfl ?_
  refine rs_mv rfl rfl ?_
  refine rs_mv rfl rfl ?_
  refine rs_mv rfl rfl ?_
  refine rs_bslice rfl rfl rfl rfl rfl rfl ?_
  refine rs_calln [38] rfl rfl (fc38_t [cell] (by simp)) (.cons (hv_same rfl) (.cons (hv_sl (by simp) rfl (Nat.le_of_ble_eq_true rfl) rfl) (.nil))) rfl ?_
  refine rs_pick rfl rfl rfl ?_
  refine rs_mv rfl rfl ?_
  refine rs_mv rfl rfl ?_
  refine rs_mv rfl rfl ?_
  refine rs_calln [] rfl rfl (fc38_t liars (by omega)) (.cons (hv_same rfl) (.cons (hv_same rfl) (.nil))) rfl ?_
  refine rs_pick rfl rfl rfl ?_
  refine rs_mv rfl rfl ?_
  refine rs_mv rfl rfl ?_
  refine rs_bslice rfl rfl rfl rfl rfl rfl ?_
  refine rs_build rfl rfl ?_
  refine rs_mv rfl rfl ?_
  refine rs_mv rfl rfl ?_
  refine rs_calln [48] rfl rfl (c3) (.cons (hv_agg (.cons (hv_same rfl) (.cons (hv_same rfl) (.cons (hv_sl (by simp) rfl (Nat.le_of_ble_eq_true rfl) rfl) .nil)))) (.cons (hv_same rfl) (.cons (hv_same rfl) (.nil)))) rfl ?_
  refine rs_mv rfl rfl ?_
  refine rs_cmp_t rfl rfl rfl rfl rfl ?_
  refine rs_pick rfl rfl rfl ?_
  refine rs_mv rfl rfl ?_
  refine rs_nil fun _ => ?_
  refine th_n ?_
  refine aw_ret ?_
  exact ret_pure rfl rfl rfl (.inr rfl)

theorem ni54 : FC Try.prog 36 [.rs 3 (([(⟨0, 0, true⟩ : Sg), (⟨1, 0, false⟩ : Sg)]).map cS), iv 1, iv 0] [] (.tup [ints [], iv 21]) [] false := by
  have h := fc36 [(⟨0, 0, true⟩ : Sg), (⟨1, 0, false⟩ : Sg)] 1 0 (by decide)
  rwa [show cellsL [(⟨0, 0, true⟩ : Sg), (⟨1, 0, false⟩ : Sg)] 1 0 = [] by decide +kernel, show cellsE [(⟨0, 0, true⟩ : Sg), (⟨1, 0, false⟩ : Sg)] 1 0 = 21 by decide +kernel] at h
theorem ni61 : FC Try.prog 39 [.rs 3 (([(⟨0, 0, true⟩ : Sg), (⟨1, 0, false⟩ : Sg)]).map cS), iv 1, iv 0] [] (.tup [ints [], iv 21]) [] false := by
  have h := fc39 [(⟨0, 0, true⟩ : Sg), (⟨1, 0, false⟩ : Sg)] 1 0 (by decide)
  rwa [show sureL [(⟨0, 0, true⟩ : Sg), (⟨1, 0, false⟩ : Sg)] 1 0 = [] by decide +kernel, show cellsE [(⟨0, 0, true⟩ : Sg), (⟨1, 0, false⟩ : Sg)] 1 0 = 21 by decide +kernel] at h
theorem ni71 : FC Try.prog 36 [.rs 3 (([(⟨0, 0, true⟩ : Sg), (⟨0, 1, false⟩ : Sg), (⟨1, 1, true⟩ : Sg), (⟨1, 0, false⟩ : Sg)]).map cS), iv 2, iv 1] [] (.tup [ints [0, 0], iv 0]) [] false := by
  have h := fc36 [(⟨0, 0, true⟩ : Sg), (⟨0, 1, false⟩ : Sg), (⟨1, 1, true⟩ : Sg), (⟨1, 0, false⟩ : Sg)] 2 1 (by decide)
  rwa [show cellsL [(⟨0, 0, true⟩ : Sg), (⟨0, 1, false⟩ : Sg), (⟨1, 1, true⟩ : Sg), (⟨1, 0, false⟩ : Sg)] 2 1 = [0, 0] by decide +kernel, show cellsE [(⟨0, 0, true⟩ : Sg), (⟨0, 1, false⟩ : Sg), (⟨1, 1, true⟩ : Sg), (⟨1, 0, false⟩ : Sg)] 2 1 = 0 by decide +kernel] at h
theorem nv88 : FC Try.prog 42 [partV [3], .rs 3 (([(⟨0, 0, true⟩ : Sg), (⟨1, 0, false⟩ : Sg)]).map cS), iv 0] [] (iv 21) [] false := by
  have h := fc42 [3] [(⟨0, 0, true⟩ : Sg), (⟨1, 0, false⟩ : Sg)] 0 (by decide) (by decide)
  rwa [show verdS [3] [(⟨0, 0, true⟩ : Sg), (⟨1, 0, false⟩ : Sg)] 0 = 21 by decide +kernel] at h
theorem nv103 : FC Try.prog 42 [partV [1, 1], .rs 3 (([(⟨0, 0, true⟩ : Sg), (⟨0, 1, false⟩ : Sg), (⟨1, 1, true⟩ : Sg), (⟨1, 0, false⟩ : Sg)]).map cS), iv 1] [] (iv 35) [] false := by
  have h := fc42 [1, 1] [(⟨0, 0, true⟩ : Sg), (⟨0, 1, false⟩ : Sg), (⟨1, 1, true⟩ : Sg), (⟨1, 0, false⟩ : Sg)] 1 (by decide) (by decide)
  rwa [show verdS [1, 1] [(⟨0, 0, true⟩ : Sg), (⟨0, 1, false⟩ : Sg), (⟨1, 1, true⟩ : Sg), (⟨1, 0, false⟩ : Sg)] 1 = 35 by decide +kernel] at h
theorem nv115 : FC Try.prog 42 [partV [4], .rs 3 ((([] : List Sg)).map cS), iv 0] [] (iv 1) [] false := by
  have h := fc42 [4] ([] : List Sg) 0 (by decide) (by decide)
  rwa [show verdS [4] ([] : List Sg) 0 = 1 by decide +kernel] at h
theorem nc109 : FC Try.prog 34 [.rs 3 (([(⟨0, 1, false⟩ : Sg)]).map cS), iv 1, iv 0] [] (iv 3) [] false := by
  have h := fc34 [(⟨0, 1, false⟩ : Sg)] 1 0 (by decide)
  rwa [show checkI [(⟨0, 1, false⟩ : Sg)] 1 0 = 3 by decide +kernel] at h

def mc31 : MC := (.seq (.reg [⟨(some 0), (.mv (.c (.bool false))), none, []⟩] false) (.seq (.reg [⟨(some 12), (.build [(.int .i64 0), (.int .i64 0), (.bool false)] [(2, (1, (.c (.bool true))))]), none, []⟩, ⟨(some 13), (.build [(.int .i64 0), (.int .i64 0), (.bool false)] [(0, (1, (.c (.int .i64 1))))]), none, []⟩, ⟨(some 14), (.build [(.int .i64 0), (.int .i64 0), (.bool false)] [(0, (1, (.c (.int .i64 2)))), (2, (1, (.c (.bool true))))]), none, []⟩, ⟨(some 1), (.alloc 80 3 [(.int .i64 0), (.int .i64 0), (.bool false)]), none, []⟩, ⟨(some 2), (.alloc 80 3 [(.int .i64 0), (.int .i64 0), (.bool false)]), none, []⟩, ⟨(some 3), (.alloc 80 3 [(.int .i64 0), (.int .i64 0), (.bool false)]), none, []⟩, ⟨none, (.st 3 (.t 1) (.t 12)), none, [3, 0, 0, 3, 4, 5]⟩, ⟨none, (.st 3 (.t 2) (.t 13)), none, [4, 1, 6, 0, 1, 3, 4, 5, 6]⟩, ⟨none, (.st 3 (.t 3) (.t 14)), none, [5, 2, 7, 0, 1, 2, 3, 4, 5, 6, 7]⟩] false) (.seq (.seq (.reg [⟨(some 15), (.ld true 3 (.t 1)), none, []⟩, ⟨(some 16), (.bslice 80 3 [(.int .i64 0), (.int .i64 0), (.bool false)] 1 [(0, (.t 15))]), none, [0]⟩, ⟨(some 17), (.call 57 [(.c (.int .i64 1)), (.c (.int .i64 0)), (.c (.int .i64 1)), (.c .nils), (.c (.int .i64 0)), (.t 16)]), none, [1]⟩, ⟨(some 18), (.un .not (.t 17)), none, [2]⟩, ⟨(some 19), (.mv (.t 18)), none, [3, 2]⟩, ⟨(some 20), (.ld true 3 (.t 1)), (some (19, false)), [4]⟩, ⟨(some 21), (.bslice 80 3 [(.int .i64 0), (.int .i64 0), (.bool false)] 1 [(0, (.t 20))]), (some (19, false)), [5, 4]⟩, ⟨(some 22), (.call 57 [(.c (.int .i64 1)), (.c (.int .i64 1)), (.c (.int .i64 0)), (.c .nils), (.c (.int .i64 5)), (.t 21)]), (some (19, false)), [6, 4, 4]⟩, ⟨(some 23), (.un .not (.t 22)), (some (19, false)), [7, 4]⟩, ⟨(some 24), (.pick (.t 19) (.c (.bool true)) (.t 23)), none, [4, 8]⟩, ⟨(some 25), (.mv (.t 24)), none, [9, 7]⟩, ⟨(some 26), (.ld true 3 (.t 1)), (some (25, false)), [10]⟩, ⟨(some 27), (.ld true 3 (.t 2)), (some (25, false)), [10]⟩, ⟨(some 28), (.bslice 80 3 [(.int .i64 0), (.int .i64 0), (.bool false)] 2 [(0, (.t 26)), (1, (.t 27))]), (some (25, false)), [11, 12, 10]⟩, ⟨(some 29), (.call 57 [(.c (.int .i64 1)), (.c (.int .i64 1)), (.c (.int .i64 0)), (.c .nils), (.c (.int .i64 5)), (.t 28)]), (some (25, false)), [13, 10, 10]⟩, ⟨(some 30), (.un .not (.t 29)), (some (25, false)), [14, 10]⟩, ⟨(some 31), (.pick (.t 25) (.c (.bool true)) (.t 30)), none, [10, 15]⟩, ⟨(some 32), (.mv (.t 31)), none, [16, 14]⟩, ⟨(some 33), (.bslice 3 1 [(.int .i64 0)] 1 [(0, (.c (.int .i64 1)))]), (some (32, false)), [17]⟩, ⟨(some 34), (.ld true 3 (.t 1)), (some (32, false)), [17]⟩, ⟨(some 35), (.ld true 3 (.t 2)), (some (32, false)), [17]⟩, ⟨(some 36), (.ld true 3 (.t 3)), (some (32, false)), [17]⟩, ⟨(some 37), (.bslice 80 3 [(.int .i64 0), (.int .i64 0), (.bool false)] 3 [(0, (.t 34)), (1, (.t 35)), (2, (.t 36))]), (some (32, false)), [19, 20, 21, 17]⟩, ⟨(some 38), (.call 57 [(.c (.int .i64 1)), (.c (.int .i64 1)), (.c (.int .i64 1)), (.t 33), (.c (.int .i64 0)), (.t 37)]), (some (32, false)), [18, 22, 17, 17]⟩, ⟨(some 39), (.un .not (.t 38)), (some (32, false)), [23, 17]⟩, ⟨(some 40), (.pick (.t 32) (.c (.bool true)) (.t 39)), none, [17, 24]⟩, ⟨(some 41), (.mv (.t 40)), none, [25, 23]⟩, ⟨(some 42), (.bslice 3 1 [(.int .i64 0)] 1 [(0, (.c (.int .i64 1)))]), (some (41, false)), [26]⟩, ⟨(some 43), (.ld true 3 (.t 1)), (some (41, false)), [26]⟩, ⟨(some 44), (.ld true 3 (.t 2)), (some (41, false)), [26]⟩, ⟨(some 45), (.ld true 3 (.t 3)), (some (41, false)), [26]⟩, ⟨(some 46), (.bslice 80 3 [(.int .i64 0), (.int .i64 0), (.bool false)] 3 [(0, (.t 43)), (1, (.t 44)), (2, (.t 45))]), (some (41, false)), [28, 29, 30, 26]⟩, ⟨(some 47), (.call 57 [(.c (.int .i64 2)), (.c (.int .i64 1)), (.c (.int .i64 1)), (.t 42), (.c (.int .i64 35)), (.t 46)]), (some (41, false)), [27, 31, 26, 26]⟩, ⟨(some 48), (.un .not (.t 47)), (some (41, false)), [32, 26]⟩, ⟨(some 49), (.pick (.t 41) (.c (.bool true)) (.t 48)), none, [26, 33]⟩] false) (.cond (.t 49) (.seq (.reg [⟨(some 0), (.mv (.c (.bool false))), none, []⟩] false) .ret) .skip)) (.seq (.reg [⟨(some 51), (.ld true 3 (.t 1)), none, []⟩, ⟨(some 52), (.ld true 3 (.t 2)), none, []⟩, ⟨(some 53), (.bslice 80 3 [(.int .i64 0), (.int .i64 0), (.bool false)] 2 [(0, (.t 51)), (1, (.t 52))]), none, [0, 1]⟩, ⟨(some 54), (.call 36 [(.t 53), (.c (.int .i64 1)), (.c (.int .i64 0))]), none, [2]⟩, ⟨(some 50), (.mv (.t 54)), none, [3]⟩, ⟨(some 55), (.ext (.t 50) 0), none, [4]⟩, ⟨(some 56), (.ext (.t 50) 1), none, [4]⟩, ⟨(some 4), (.mv (.t 55)), none, [5, 3, 0, 1, 2, 3, 4, 5]⟩, ⟨(some 5), (.mv (.t 56)), none, [6, 7, 0, 1, 2, 3, 4, 5, 6, 7]⟩] false) (.seq (.reg [⟨(some 58), (.ld true 3 (.t 1)), none, []⟩, ⟨(some 59), (.ld true 3 (.t 2)), none, []⟩, ⟨(some 60), (.bslice 80 3 [(.int .i64 0), (.int .i64 0), (.bool false)] 2 [(0, (.t 58)), (1, (.t 59))]), none, [0, 1]⟩, ⟨(some 61), (.call 39 [(.t 60), (.c (.int .i64 1)), (.c (.int .i64 0))]), none, [2]⟩, ⟨(some 57), (.mv (.t 61)), none, [3]⟩, ⟨(some 62), (.ext (.t 57) 0), none, [4]⟩, ⟨(some 63), (.ext (.t 57) 1), none, [4]⟩, ⟨(some 6), (.mv (.t 62)), none, [5, 3, 0, 1, 2, 3, 4, 5]⟩, ⟨(some 7), (.mv (.t 63)), none, [6, 7, 0, 1, 2, 3, 4, 5, 6, 7]⟩] false) (.seq (.reg [⟨(some 64), (.ld true 3 (.t 1)), none, []⟩, ⟨(some 65), (.build [(.int .i64 0), (.int .i64 0), (.bool false)] [(1, (1, (.c (.int .i64 1))))]), none, []⟩, ⟨(some 66), (.build [(.int .i64 0), (.int .i64 0), (.bool false)] [(0, (1, (.c (.int .i64 1)))), (1, (1, (.c (.int .i64 1)))), (2, (1, (.c (.bool true))))]), none, []⟩, ⟨(some 67), (.ld true 3 (.t 2)), none, []⟩, ⟨(some 68), (.bslice 80 3 [(.int .i64 0), (.int .i64 0), (.bool false)] 4 [(0, (.t 64)), (1, (.t 65)), (2, (.t 66)), (3, (.t 67))]), none, [0, 1, 2, 3]⟩, ⟨(some 8), (.mv (.t 68)), none, [4, 0, 1, 2, 3, 4]⟩] false) (.seq (.reg [⟨(some 70), (.mv (.t 8)), none, []⟩, ⟨(some 71), (.call 36 [(.t 70), (.c (.int .i64 2)), (.c (.int .i64 1))]), none, [0]⟩, ⟨(some 69), (.mv (.t 71)), none, [1]⟩, ⟨(some 72), (.ext (.t 69) 0), none, [2]⟩, ⟨(some 73), (.ext (.t 69) 1), none, [2]⟩, ⟨(some 9), (.mv (.t 72)), none, [3, 1, 0, 1, 2, 3]⟩, ⟨(some 10), (.mv (.t 73)), none, [4, 5, 0, 1, 2, 3, 4, 5]⟩] false) (.seq (.reg [⟨(some 74), (.bslice 3 1 [(.int .i64 0)] 2 [(0, (.c (.int .i64 1))), (1, (.c (.int .i64 1)))]), none, []⟩, ⟨(some 75), (.build [(.str (.mk (.mk []))), .nils, .nils] [(2, (1, (.t 74)))]), none, [0]⟩, ⟨(some 11), (.alloc 74 3 [(.str (.mk (.mk []))), .nils, .nils]), none, []⟩, ⟨none, (.st 3 (.t 11) (.t 75)), none, [2, 1, 0, 1, 2]⟩] false) (.seq (.reg [⟨(some 76), (.mv (.t 5)), none, []⟩, ⟨(some 77), (.bin .eql (.t 76) (.c (.int .i64 21))), none, [0]⟩, ⟨(some 78), (.mv (.t 77)), none, [1]⟩, ⟨(some 79), (.mv (.t 7)), (some (78, true)), [2]⟩, ⟨(some 80), (.bin .eql (.t 79) (.c (.int .i64 21))), (some (78, true)), [3, 2]⟩, ⟨(some 81), (.pick (.t 78) (.t 80) (.c (.bool false))), none, [2, 4]⟩, ⟨(some 82), (.mv (.t 81)), none, [5, 2]⟩, ⟨(some 83), (.bslice 3 1 [(.int .i64 0)] 1 [(0, (.c (.int .i64 3)))]), (some (82, true)), [6]⟩, ⟨(some 84), (.build [(.str (.mk (.mk []))), .nils, .nils] [(2, (1, (.t 83)))]), (some (82, true)), [7, 6]⟩, ⟨(some 85), (.ld true 3 (.t 1)), (some (82, true)), [6]⟩, ⟨(some 86), (.ld true 3 (.t 2)), (some (82, true)), [6]⟩, ⟨(some 87), (.bslice 80 3 [(.int .i64 0), (.int .i64 0), (.bool false)] 2 [(0, (.t 85)), (1, (.t 86))]), (some (82, true)), [9, 10, 6]⟩, ⟨(some 88), (.call 42 [(.t 84), (.t 87), (.c (.int .i64 0))]), (some (82, true)), [8, 11, 6, 6]⟩, ⟨(some 89), (.bin .eql (.t 88) (.c (.int .i64 21))), (some (82, true)), [12, 6]⟩, ⟨(some 90), (.pick (.t 82) (.t 89) (.c (.bool false))), none, [6, 13]⟩, ⟨(some 91), (.mv (.t 90)), none, [14, 12]⟩, ⟨(some 92), (.mv (.t 10)), (some (91, true)), [15]⟩, ⟨(some 93), (.bin .eql (.t 92) (.c (.int .i64 0))), (some (91, true)), [16, 15]⟩, ⟨(some 94), (.pick (.t 91) (.t 93) (.c (.bool false))), none, [15, 17]⟩, ⟨(some 95), (.mv (.t 94)), none, [18, 15]⟩, ⟨(some 96), (.mv (.t 9)), (some (95, true)), [19]⟩, ⟨(some 97), (.bslice 3 1 [(.int .i64 0)] 2 [(0, (.c (.int .i64 0))), (1, (.c (.int .i64 0)))]), (some (95, true)), [19]⟩, ⟨(some 98), (.call 38 [(.t 96), (.t 97)]), (some (95, true)), [20, 21, 19, 19]⟩, ⟨(some 99), (.pick (.t 95) (.t 98) (.c (.bool false))), none, [19, 22]⟩, ⟨(some 100), (.mv (.t 99)), none, [23, 22]⟩, ⟨(some 101), (.ld true 3 (.t 11)), (some (100, true)), [24]⟩, ⟨(some 102), (.mv (.t 8)), (some (100, true)), [24]⟩, ⟨(some 103), (.call 42 [(.t 101), (.t 102), (.c (.int .i64 1))]), (some (100, true)), [25, 26, 24, 24]⟩, ⟨(some 104), (.bin .eql (.t 103) (.c (.int .i64 35))), (some (100, true)), [27, 24]⟩, ⟨(some 105), (.pick (.t 100) (.t 104) (.c (.bool false))), none, [24, 28]⟩, ⟨(some 106), (.mv (.t 105)), none, [29, 27]⟩, ⟨(some 107), (.build [(.int .i64 0), (.int .i64 0), (.bool false)] [(1, (1, (.c (.int .i64 1))))]), (some (106, true)), [30]⟩, ⟨(some 108), (.bslice 80 3 [(.int .i64 0), (.int .i64 0), (.bool false)] 1 [(0, (.t 107))]), (some (106, true)), [31, 30]⟩, ⟨(some 109), (.call 34 [(.t 108), (.c (.int .i64 1)), (.c (.int .i64 0))]), (some (106, true)), [32, 30, 30]⟩, ⟨(some 110), (.bin .eql (.t 109) (.c (.int .i64 3))), (some (106, true)), [33, 30]⟩, ⟨(some 111), (.pick (.t 106) (.t 110) (.c (.bool false))), none, [30, 34]⟩, ⟨(some 112), (.mv (.t 111)), none, [35, 33]⟩, ⟨(some 113), (.bslice 3 1 [(.int .i64 0)] 1 [(0, (.c (.int .i64 4)))]), (some (112, true)), [36]⟩, ⟨(some 114), (.build [(.str (.mk (.mk []))), .nils, .nils] [(2, (1, (.t 113)))]), (some (112, true)), [37, 36]⟩, ⟨(some 115), (.call 42 [(.t 114), (.c .nils), (.c (.int .i64 0))]), (some (112, true)), [38, 36, 36]⟩, ⟨(some 116), (.bin .eql (.t 115) (.c (.int .i64 1))), (some (112, true)), [39, 36]⟩, ⟨(some 117), (.pick (.t 112) (.t 116) (.c (.bool false))), none, [36, 40]⟩, ⟨(some 0), (.mv (.t 117)), none, [41, 39, 0, 1, 2, 3, 4, 5, 6, 7, 8, 9, 10, 11, 12, 13, 14, 15, 16, 17, 18, 19, 20, 21, 22, 23, 24, 25, 26, 27, 28, 29, 30, 31, 32, 33, 34, 35, 36, 37, 38, 39, 40, 41]⟩] false) .ret)))))))))
theorem mcOk31 : (match Try.f31.body with | some c => compC Try.prog 118 c | none => none) = some mc31 := by kernel_rfl

theorem fc31  : FC Try.prog 31 [] [] (.bool true) [] false := by
  refine fc_run (nt := 118) Try.func31 rfl rfl mcOk31 (Nat.le_of_ble_eq_true rfl) ?_
  delta mc31
  refine aw_seq ?_
  refine aw_reg ?_
  refine rs_mv rfl rfl ?_
  refine rs_nil fun _ => ?_
  refine th_n ?_
  refine aw_seq ?_
  refine aw_reg ?_
  refine rs_build rfl rfl ?_
  refine rs_build rfl rfl ?_
  refine rs_build rfl rfl ?_
  refine rs_alloc rfl rfl rfl ?_
  refine rs_alloc rfl rfl rfl ?_
  refine rs_alloc rfl rfl rfl ?_
  refine rs_st (els' := [cS (⟨0, 0, true⟩ : Sg)]) rfl rfl rfl rfl rfl rfl rfl (Nat.le_of_ble_eq_true rfl) rfl rfl ?_
  refine rs_st (els' := [cS (⟨1, 0, false⟩ : Sg)]) rfl rfl rfl rfl rfl rfl rfl (Nat.le_of_ble_eq_true rfl) rfl rfl ?_
  refine rs_st (els' := [cS (⟨2, 0, true⟩ : Sg)]) rfl rfl rfl rfl rfl rfl rfl (Nat.le_of_ble_eq_true rfl) rfl rfl ?_
  refine rs_nil fun _ => ?_
  refine th_n ?_
  refine aw_seq ?_
  refine aw_seq ?_
  refine aw_reg ?_
  first | refine rs_ld_pa rfl rfl rfl rfl (Nat.le_of_ble_eq_true rfl) rfl ?_ | refine rs_ld_ra rfl rfl (Nat.le_of_ble_eq_true rfl) rfl ?_ | refine rs_ld_ma rfl rfl rfl (by omega) (Nat.le_of_ble_eq_true rfl) rfl ?_
  refine rs_bslice rfl rfl rfl rfl rfl rfl ?_
  refine rs_calln [16] rfl rfl (fc57 [(⟨0, 0, true⟩ : Sg)] 1 0 1 0 [] (by decide) (by decide) (by decide +kernel) (by decide +kernel) (by decide +kernel) (by decide +kernel)) (.cons (hv_same rfl) (.cons (hv_same rfl) (.cons (hv_same rfl) (.cons (hv_nils) (.cons (hv_same rfl) (.cons (hv_sl (by simp) rfl (Nat.le_of_ble_eq_true rfl) rfl) (.nil))))))) rfl ?_
  refine rs_not rfl rfl ?_
  refine rs_mv rfl rfl ?_
  first | refine rs_ld_pa rfl rfl rfl rfl (Nat.le_of_ble_eq_true rfl) rfl ?_ | refine rs_ld_ra rfl rfl (Nat.le_of_ble_eq_true rfl) rfl ?_ | refine rs_ld_ma rfl rfl rfl (by omega) (Nat.le_of_ble_eq_true rfl) rfl ?_
  refine rs_bslice rfl rfl rfl rfl rfl rfl ?_
  refine rs_calln [21] rfl rfl (fc57 [(⟨0, 0, true⟩ : Sg)] 1 1 0 5 [] (by decide) (by decide) (by decide +kernel) (by decide +kernel) (by decide +kernel) (by decide +kernel)) (.cons (hv_same rfl) (.cons (hv_same rfl) (.cons (hv_same rfl) (.cons (hv_nils) (.cons (hv_same rfl) (.cons (hv_sl (by simp) rfl (Nat.le_of_ble_eq_true rfl) rfl) (.nil))))))) rfl ?_
  refine rs_not rfl rfl ?_
  refine rs_pick rfl rfl rfl ?_
  refine rs_mv rfl rfl ?_
  first | refine rs_ld_pa rfl rfl rfl rfl (Nat.le_of_ble_eq_true rfl) rfl ?_ | refine rs_ld_ra rfl rfl (Nat.le_of_ble_eq_true rfl) rfl ?_ | refine rs_ld_ma rfl rfl rfl (by omega) (Nat.le_of_ble_eq_true rfl) rfl ?_
  first | refine rs_ld_pa rfl rfl rfl rfl (Nat.le_of_ble_eq_true rfl) rfl ?_ | refine rs_ld_ra rfl rfl (Nat.le_of_ble_eq_true rfl) rfl ?_ | refine rs_ld_ma rfl rfl rfl (by omega) (Nat.le_of_ble_eq_true rfl) rfl ?_
  refine rs_bslice rfl rfl rfl rfl rfl rfl ?_
  refine rs_calln [28] rfl rfl (fc57 [(⟨0, 0, true⟩ : Sg), (⟨1, 0, false⟩ : Sg)] 1 1 0 5 [] (by decide) (by decide) (by decide +kernel) (by decide +kernel) (by decide +kernel) (by decide +kernel)) (.cons (hv_same rfl) (.cons (hv_same rfl) (.cons (hv_same rfl) (.cons (hv_nils) (.cons (hv_same rfl) (.cons (hv_sl (by simp) rfl (Nat.le_of_ble_eq_true rfl) rfl) (.nil))))))) rfl ?_
  refine rs_not rfl rfl ?_
  refine rs_pick rfl rfl rfl ?_
  refine rs_mv rfl rfl ?_
  refine rs_bslice rfl rfl rfl rfl rfl rfl ?_
  first | refine rs_ld_pa rfl rfl rfl rfl (Nat.le_of_ble_eq_true rfl) rfl ?_ | refine rs_ld_ra rfl rfl (Nat.le_of_ble_eq_true rfl) rfl ?_ | refine rs_ld_ma rfl rfl rfl (by omega) (Nat.le_of_ble_eq_true rfl) rfl ?_
  first | refine rs_ld_pa rfl rfl rfl rfl (Nat.le_of_ble_eq_true rfl) rfl ?_ | refine rs_ld_ra rfl rfl (Nat.le_of_ble_eq_true rfl) rfl ?_ | refine rs_ld_ma rfl rfl rfl (by omega) (Nat.le_of_ble_eq_true rfl) rfl ?_
  first | refine rs_ld_pa rfl rfl rfl rfl (Nat.le_of_ble_eq_true rfl) rfl ?_ | refine rs_ld_ra rfl rfl (Nat.le_of_ble_eq_true rfl) rfl ?_ | refine rs_ld_ma rfl rfl rfl (by omega) (Nat.le_of_ble_eq_true rfl) rfl ?_
  refine rs_bslice rfl rfl rfl rfl rfl rfl ?_
  refine rs_calln [33, 37] rfl rfl (fc57 [(⟨0, 0, true⟩ : Sg), (⟨1, 0, false⟩ : Sg), (⟨2, 0, true⟩ : Sg)] 1 1 1 0 [1] (by decide) (by decide) (by decide +kernel) (by decide +kernel) (by decide +kernel) (by decide +kernel)) (.cons (hv_same rfl) (.cons (hv_same rfl) (.cons (hv_same rfl) (.cons (hv_sl (by simp) rfl (Nat.le_of_ble_eq_true rfl) rfl) (.cons (hv_same rfl) (.cons (hv_sl (by simp) rfl (Nat.le_of_ble_eq_true rfl) rfl) (.nil))))))) rfl ?_
  refine rs_not rfl rfl ?_
  refine rs_pick rfl rfl rfl ?_
  refine rs_mv rfl rfl ?_
  refine rs_bslice rfl rfl rfl rfl rfl rfl ?_
  first | refine rs_ld_pa rfl rfl rfl rfl (Nat.le_of_ble_eq_true rfl) rfl ?_ | refine rs_ld_ra rfl rfl (Nat.le_of_ble_eq_true rfl) rfl ?_ | refine rs_ld_ma rfl rfl rfl (by omega) (Nat.le_of_ble_eq_true rfl) rfl ?_
  first | refine rs_ld_pa rfl rfl rfl rfl (Nat.le_of_ble_eq_true rfl) rfl ?_ | refine rs_ld_ra rfl rfl (Nat.le_of_ble_eq_true rfl) rfl ?_ | refine rs_ld_ma rfl rfl rfl (by omega) (Nat.le_of_ble_eq_true rfl) rfl ?_
  first | refine rs_ld_pa rfl rfl rfl rfl (Nat.le_of_ble_eq_true rfl) rfl ?_ | refine rs_ld_ra rfl rfl (Nat.le_of_ble_eq_true rfl) rfl ?_ | refine rs_ld_ma rfl rfl rfl (by omega) (Nat.le_of_ble_eq_true rfl) rfl ?_
  refine rs_bslice rfl rfl rfl rfl rfl rfl ?_
  refine rs_calln [42, 46] rfl rfl (fc57 [(⟨0, 0, true⟩ : Sg), (⟨1, 0, false⟩ : Sg), (⟨2, 0, true⟩ : Sg)] 2 1 1 35 [1] (by decide) (by decide) (by decide +kernel) (by decide +kernel) (by decide +kernel) (by decide +kernel)) (.cons (hv_same rfl) (.cons (hv_same rfl) (.cons (hv_same rfl) (.cons (hv_sl (by simp) rfl (Nat.le_of_ble_eq_true rfl) rfl) (.cons (hv_same rfl) (.cons (hv_sl (by simp) rfl (Nat.le_of_ble_eq_true rfl) rfl) (.nil))))))) rfl ?_
  refine rs_not rfl rfl ?_
  refine rs_pick rfl rfl rfl ?_
  refine rs_nil fun _ => ?_
  refine th_n ?_
  refine aw_cond rfl (fun h => by cases h) (fun _ => ?_)
  refine aw_skip ?_
  refine th_n ?_
  refine aw_seq ?_
  refine aw_reg ?_
  first | refine rs_ld_pa rfl rfl rfl rfl (Nat.le_of_ble_eq_true rfl) rfl ?_ | refine rs_ld_ra rfl rfl (Nat.le_of_ble_eq_true rfl) rfl ?_ | refine rs_ld_ma rfl rfl rfl (by omega) (Nat.le_of_ble_eq_true rfl) rfl ?_
  first | refine rs_ld_pa rfl rfl rfl rfl (Nat.le_of_ble_eq_true rfl) rfl ?_ | refine rs_ld_ra rfl rfl (Nat.le_of_ble_eq_true rfl) rfl ?_ | refine rs_ld_ma rfl rfl rfl (by omega) (Nat.le_of_ble_eq_true rfl) rfl ?_
  refine rs_bslice rfl rfl rfl rfl rfl rfl ?_
  refine rs_calln [53] rfl rfl (ni54) (.cons (hv_sl (by simp) rfl (Nat.le_of_ble_eq_true rfl) rfl) (.cons (hv_same rfl) (.cons (hv_same rfl) (.nil)))) rfl ?_
  refine rs_mv rfl rfl ?_
  refine rs_ext rfl rfl rfl ?_
  refine rs_ext rfl rfl rfl ?_
  refine rs_mv rfl rfl ?_
  refine rs_mv rfl rfl ?_
  refine rs_nil fun _ => ?_
  refine th_n ?_
  refine aw_seq ?_
  refine aw_reg ?_
  first | refine rs_ld_pa rfl rfl rfl rfl (Nat.le_of_ble_eq_true rfl) rfl ?_ | refine rs_ld_ra rfl rfl (Nat.le_of_ble_eq_true rfl) rfl ?_ | refine rs_ld_ma rfl rfl rfl (by omega) (Nat.le_of_ble_eq_true rfl) rfl ?_
  first | refine rs_ld_pa rfl rfl rfl rfl (Nat.le_of_ble_eq_true rfl) rfl ?_ | refine rs_ld_ra rfl rfl (Nat.le_of_ble_eq_true rfl) rfl ?_ | refine rs_ld_ma rfl rfl rfl (by omega) (Nat.le_of_ble_eq_true rfl) rfl ?_
  refine rs_bslice rfl rfl rfl rfl rfl rfl ?_
  refine rs_calln [60] rfl rfl (ni61) (.cons (hv_sl (by simp) rfl (Nat.le_of_ble_eq_true rfl) rfl) (.cons (hv_same rfl) (.cons (hv_same rfl) (.nil)))) rfl ?_
  refine rs_mv rfl rfl ?_
  refine rs_ext rfl rfl rfl ?_
  refine rs_ext rfl rfl rfl ?_
  refine rs_mv rfl rfl ?_
  refine rs_mv rfl rfl ?_
  refine rs_nil fun _ => ?_
  refine th_n ?_
  refine aw_seq ?_
  refine aw_reg ?_
  first | refine rs_ld_pa rfl rfl rfl rfl (Nat.le_of_ble_eq_true rfl) rfl ?_ | refine rs_ld_ra rfl rfl (Nat.le_of_ble_eq_true rfl) rfl ?_ | refine rs_ld_ma rfl rfl rfl (by omega) (Nat.le_of_ble_eq_true rfl) rfl ?_
  refine rs_build rfl rfl ?_
  refine rs_build rfl rfl ?_
  first | refine rs_ld_pa rfl rfl rfl rfl (Nat.le_of_ble_eq_true rfl) rfl ?_ | refine rs_ld_ra rfl rfl (Nat.le_of_ble_eq_true rfl) rfl ?_ | refine rs_ld_ma rfl rfl rfl (by omega) (Nat.le_of_ble_eq_true rfl) rfl ?_
  refine rs_bslice rfl rfl rfl rfl rfl rfl ?_
  refine rs_mv rfl rfl ?_
  refine rs_nil fun _ => ?_
  refine th_n ?_
  refine aw_seq ?_
  refine aw_reg ?_
  refine rs_mv rfl rfl ?_
  refine rs_calln [68] rfl rfl (ni71) (.cons (hv_sl (by simp) rfl (Nat.le_of_ble_eq_true rfl) rfl) (.cons (hv_same rfl) (.cons (hv_same rfl) (.nil)))) rfl ?_
  refine rs_mv rfl rfl ?_
  refine rs_ext rfl rfl rfl ?_
  refine rs_ext rfl rfl rfl ?_
  refine rs_mv rfl rfl ?_
  refine rs_mv rfl rfl ?_
  refine rs_nil fun _ => ?_
  refine th_n ?_
  refine aw_seq ?_
  refine aw_reg ?_
  refine rs_bslice rfl rfl rfl rfl rfl rfl ?_
  refine rs_build rfl rfl ?_
  refine rs_alloc rfl rfl rfl ?_
  refine rs_st rfl rfl rfl rfl rfl rfl rfl (Nat.le_of_ble_eq_true rfl) rfl rfl ?_
  refine rs_nil fun _ => ?_
  refine th_n ?_
  refine aw_seq ?_
  refine aw_reg ?_
  refine rs_mv rfl rfl ?_
  refine rs_cmp_t rfl rfl rfl rfl rfl ?_
  refine rs_mv rfl rfl ?_
  refine rs_mv rfl rfl ?_
  refine rs_cmp_t rfl rfl rfl rfl rfl ?_
  refine rs_pick rfl rfl rfl ?_
  refine rs_mv rfl rfl ?_
  refine rs_bslice rfl rfl rfl rfl rfl rfl ?_
  refine rs_build rfl rfl ?_
  first | refine rs_ld_pa rfl rfl rfl rfl (Nat.le_of_ble_eq_true rfl) rfl ?_ | refine rs_ld_ra rfl rfl (Nat.le_of_ble_eq_true rfl) rfl ?_ | refine rs_ld_ma rfl rfl rfl (by omega) (Nat.le_of_ble_eq_true rfl) rfl ?_
  first | refine rs_ld_pa rfl rfl rfl rfl (Nat.le_of_ble_eq_true rfl) rfl ?_ | refine rs_ld_ra rfl rfl (Nat.le_of_ble_eq_true rfl) rfl ?_ | refine rs_ld_ma rfl rfl rfl (by omega) (Nat.le_of_ble_eq_true rfl) rfl ?_
  refine rs_bslice rfl rfl rfl rfl rfl rfl ?_
  refine rs_calln [83, 87] rfl rfl (nv88) (.cons (hv_agg (.cons (hv_same rfl) (.cons (hv_same rfl) (.cons (hv_sl (by simp) rfl (Nat.le_of_ble_eq_true rfl) rfl) .nil)))) (.cons (hv_sl (by simp) rfl (Nat.le_of_ble_eq_true rfl) rfl) (.cons (hv_same rfl) (.nil)))) rfl ?_
  refine rs_cmp_t rfl rfl rfl rfl rfl ?_
  refine rs_pick rfl rfl rfl ?_
  refine rs_mv rfl rfl ?_
  refine rs_mv rfl rfl ?_
  refine rs_cmp_t rfl rfl rfl rfl rfl ?_
  refine rs_pick rfl rfl rfl ?_
  refine rs_mv rfl rfl ?_
  refine rs_mv rfl rfl ?_
  refine rs_bslice rfl rfl rfl rfl rfl rfl ?_
  refine rs_calln [97] rfl rfl (fc38_t [0, 0] (by decide)) (.cons (hv_same rfl) (.cons (hv_sl (by simp) rfl (Nat.le_of_ble_eq_true rfl) rfl) (.nil))) rfl ?_
  refine rs_pick rfl rfl rfl ?_
  refine rs_mv rfl rfl ?_
  first | refine rs_ld_pa rfl rfl rfl rfl (Nat.le_of_ble_eq_true rfl) rfl ?_ | refine rs_ld_ra rfl rfl (Nat.le_of_ble_eq_true rfl) rfl ?_ | refine rs_ld_ma rfl rfl rfl (by omega) (Nat.le_of_ble_eq_true rfl) rfl ?_
  refine rs_mv rfl rfl ?_
  refine rs_calln [74, 68] rfl rfl (nv103) (.cons (hv_agg (.cons (hv_same rfl) (.cons (hv_same rfl) (.cons (hv_sl (by simp) rfl (Nat.le_of_ble_eq_true rfl) rfl) .nil)))) (.cons (hv_sl (by simp) rfl (Nat.le_of_ble_eq_true rfl) rfl) (.cons (hv_same rfl) (.nil)))) rfl ?_
  refine rs_cmp_t rfl rfl rfl rfl rfl ?_
  refine rs_pick rfl rfl rfl ?_
  refine rs_mv rfl rfl ?_
  refine rs_build rfl rfl ?_
  refine rs_bslice rfl rfl rfl rfl rfl rfl ?_
  refine rs_calln [108] rfl rfl (nc109) (.cons (hv_sl (by simp) rfl (Nat.le_of_ble_eq_true rfl) rfl) (.cons (hv_same rfl) (.cons (hv_same rfl) (.nil)))) rfl ?_
  refine rs_cmp_t rfl rfl rfl rfl rfl ?_
  refine rs_pick rfl rfl rfl ?_
  refine rs_mv rfl rfl ?_
  refine rs_bslice rfl rfl rfl rfl rfl rfl ?_
  refine rs_build rfl rfl ?_
  refine rs_calln [113] rfl rfl (nv115) (.cons (hv_agg (.cons (hv_same rfl) (.cons (hv_same rfl) (.cons (hv_sl (by simp) rfl (Nat.le_of_ble_eq_true rfl) rfl) .nil)))) (.cons (hv_nils) (.cons (hv_same rfl) (.nil)))) rfl ?_
  refine rs_cmp_t rfl rfl rfl rfl rfl ?_
  refine rs_pick rfl rfl rfl ?_
  refine rs_mv rfl rfl ?_
  refine rs_nil fun _ => ?_
  refine th_n ?_
  refine aw_ret ?_
  exact ret_pure rfl rfl rfl (.inr rfl)

end Go.Proofs.Ytadjdnhnbkcakaa

/-! What Cells, Liars and Verdict say, told by truths that agree. No program in sight. -/
namespace Go.Proofs.Ytadjdnhnbkcakaa
open Go.RowKit

/-- A truth that agrees, with a small set of gauges that may lie. -/
structure AgI (l : List Sg) (lies : Int) (s : Nat) (T : Nat → Bool) : Prop where
  lt : s < 256
  small : (sizeS s 8 : Int) ≤ lies
  says : ∀ r ∈ l, hasS s r.gauge.toNat = true ∨ r.there = T r.cell.toNat

section
variable {l : List Sg} {lies : Int}
theorem exI_iff {s : Nat} : exI l lies s = true ↔ (sizeS s 8 : Int) ≤ lies ∧ thM l s &&& goM l s = 0 := by
  unfold exI
  simp only [Bool.and_eq_true, decide_eq_true_eq]
theorem agI_th {s : Nat} (hs : s < 256) (h : exI l lies s = true) : AgI l lies s fun c => (thM l s).testBit c := by
  obtain ⟨h1, h2⟩ := exI_iff.1 h
  refine ⟨hs, h1, fun r hr => ?_⟩
  cases hg : hasS s r.gauge.toNat
  · right
    cases ht : r.there
    · have hgo : (goM l s).testBit r.cell.toNat = true := goM_bit.2 ⟨r, hr, hg, ht, rfl⟩
      cases e : (thM l s).testBit r.cell.toNat
      · rfl
      · exact absurd ⟨e, hgo⟩ ((and_zero.1 h2) _)
    · exact (thM_bit.2 ⟨r, hr, hg, ht, rfl⟩).symm
  · exact .inl rfl
theorem agI_go {s : Nat} (hs : s < 256) (h : exI l lies s = true) : AgI l lies s fun c => !(goM l s).testBit c := by
  obtain ⟨h1, h2⟩ := exI_iff.1 h
  refine ⟨hs, h1, fun r hr => ?_⟩
  cases hg : hasS s r.gauge.toNat
  · right
    cases ht : r.there
    · rw [goM_bit.2 ⟨r, hr, hg, ht, rfl⟩]; rfl
    · have hth : (thM l s).testBit r.cell.toNat = true := thM_bit.2 ⟨r, hr, hg, ht, rfl⟩
      cases e : (goM l s).testBit r.cell.toNat
      · rfl
      · exact absurd ⟨hth, e⟩ ((and_zero.1 h2) _)
  · exact .inl rfl
theorem agI_thM {s : Nat} {T : Nat → Bool} (h : AgI l lies s T) {c : Nat} (hb : (thM l s).testBit c = true) : T c = true := by
  obtain ⟨r, hr, h1, h2, h3⟩ := thM_bit.1 hb
  rcases h.says r hr with e | e
  · rw [h1] at e; cases e
  · rw [← h3, ← e]; exact h2
theorem agI_goM {s : Nat} {T : Nat → Bool} (h : AgI l lies s T) {c : Nat} (hb : (goM l s).testBit c = true) : T c = false := by
  obtain ⟨r, hr, h1, h2, h3⟩ := goM_bit.1 hb
  rcases h.says r hr with e | e
  · rw [h1] at e; cases e
  · rw [← h3, ← e]; exact h2
theorem agI_ex {s : Nat} {T : Nat → Bool} (h : AgI l lies s T) : exI l lies s = true := by
  refine exI_iff.2 ⟨h.small, and_zero.2 fun i ⟨a, b⟩ => ?_⟩
  have := agI_thM h a
  rw [agI_goM h b] at this; cases this
theorem ts_ne : tsK l lies 256 ≠ [] ↔ ∃ s T, AgI l lies s T := by
  constructor
  · intro h
    obtain ⟨t, ht⟩ := List.exists_mem_of_ne_nil _ h
    obtain ⟨s, hs, hx, rfl⟩ := mem_tsK.1 ht
    exact ⟨s, _, agI_th hs hx⟩
  · rintro ⟨s, T, h⟩ e
    have : mkT l s ∈ tsK l lies 256 := mem_tsK.2 ⟨s, h.lt, agI_ex h, rfl⟩
    rw [e] at this
    simp at this
theorem whole_th (h : tsK l lies 256 ≠ []) (c : Nat) : (wholeT (tsK l lies 256)).1.testBit c = true ↔ ∀ s T, AgI l lies s T → T c = true := by
  rw [whole_bit (fun t => t.1) (fun _ _ => rfl) h]
  constructor
  · intro a s T hT
    exact agI_thM hT (a _ (mem_tsK.2 ⟨s, hT.lt, agI_ex hT, rfl⟩))
  · intro a t ht
    obtain ⟨s, hs, hx, rfl⟩ := mem_tsK.1 ht
    exact a s _ (agI_th hs hx)
theorem whole_go (h : tsK l lies 256 ≠ []) (c : Nat) : (wholeT (tsK l lies 256)).2.1.testBit c = true ↔ ∀ s T, AgI l lies s T → T c = false := by
  rw [whole_bit (fun t => t.2.1) (fun _ _ => rfl) h]
  constructor
  · intro a s T hT
    exact agI_goM hT (a _ (mem_tsK.2 ⟨s, hT.lt, agI_ex hT, rfl⟩))
  · intro a t ht
    obtain ⟨s, hs, hx, rfl⟩ := mem_tsK.1 ht
    have := a s _ (agI_go hs hx)
    show (goM l s).testBit c = true
    simpa using this
theorem whole_li (h : tsK l lies 256 ≠ []) (p : Nat) : hasS (wholeT (tsK l lies 256)).2.2 p = true ↔ ∀ s T, AgI l lies s T → hasS s p = true := by
  have hw : hasS (wholeT (tsK l lies 256)).2.2 p = true ↔ ∀ t ∈ tsK l lies 256, t.2.2.testBit p = true := whole_bit (fun t => t.2.2) (fun _ _ => rfl) h p
  rw [hw]
  constructor
  · intro a s T hT
    exact a _ (mem_tsK.2 ⟨s, hT.lt, agI_ex hT, rfl⟩)
  · intro a t ht
    obtain ⟨s, hs, hx, rfl⟩ := mem_tsK.1 ht
    exact a s _ (agI_th hs hx)

/-- The gauges that lie in a truth. -/
def lieI (l : List Sg) (T : Nat → Bool) (m : Nat) : Nat := l.foldl (fun m r => if r.there = T r.cell.toNat then m else m ||| 2 ^ r.gauge.toNat) m
def Gok (l : List Sg) : Prop := ∀ r ∈ l, 0 ≤ r.gauge ∧ r.gauge < 8
theorem lieI_has {T : Nat → Bool} {q : Nat} : ∀ (l : List Sg) (m : Nat), hasS (lieI l T m) q = true ↔ hasS m q = true ∨ ∃ r ∈ l, r.gauge.toNat = q ∧ r.there ≠ T r.cell.toNat
  | [], m => by simp [lieI]
  | r :: l, m => by
    show hasS (lieI l T (if r.there = T r.cell.toNat then m else m ||| 2 ^ r.gauge.toNat)) q = true ↔ _
    rw [lieI_has l]
    by_cases hb : r.there = T r.cell.toNat
    · rw [if_pos hb]
      simp only [List.mem_cons]
      constructor
      · rintro (h | ⟨r', h1, h2⟩)
        · exact .inl h
        · exact .inr ⟨r', .inr h1, h2⟩
      · rintro (h | ⟨r', rfl | h1, h2, h3⟩)
        · exact .inl h
        · exact absurd hb h3
        · exact .inr ⟨r', h1, h2, h3⟩
    · rw [if_neg hb, hasS_or]
      simp only [Bool.or_eq_true, decide_eq_true_eq, List.mem_cons]
      constructor
      · rintro ((h | h) | ⟨r', h1, h2⟩)
        · exact .inl h
        · exact .inr ⟨r, .inl rfl, h, hb⟩
        · exact .inr ⟨r', .inr h1, h2⟩
      · rintro (h | ⟨r', rfl | h1, h2, h3⟩)
        · exact .inl (.inl h)
        · exact .inl (.inr h2)
        · exact .inr ⟨r', h1, h2, h3⟩
theorem lieI_lt {T : Nat → Bool} : ∀ (l : List Sg) (m : Nat), Gok l → m < 256 → lieI l T m < 256
  | [], m, _, hm => hm
  | r :: l, m, hl, hm => by
    show lieI l T (if r.there = T r.cell.toNat then m else m ||| 2 ^ r.gauge.toNat) < 256
    have h0 := hl r (by simp)
    refine lieI_lt l _ (fun r h => hl r (by simp [h])) ?_
    split
    · exact hm
    · exact or_pow_lt m hm _ (by omega)
theorem agI_iff {T : Nat → Bool} (hg : Gok l) : (∃ s, AgI l lies s T) ↔ (sizeS (lieI l T 0) 8 : Int) ≤ lies := by
  constructor
  · rintro ⟨s, hs⟩
    have hsub : ∀ p, p < 8 → hasS (lieI l T 0) p = true → hasS s p = true := fun p _ hp => by
      rcases (lieI_has l 0).1 hp with h0 | ⟨r, hr, e, hb⟩
      · rw [hasS_0] at h0; cases h0
      · rcases hs.says r hr with h1 | h1
        · rw [← e]; exact h1
        · exact absurd h1 hb
    have := size_mono hsub 8 (Nat.le_refl _)
    have := hs.small
    omega
  · intro h
    refine ⟨_, lieI_lt l 0 hg (by decide), h, fun r hr => ?_⟩
    by_cases hb : r.there = T r.cell.toNat
    · exact .inr hb
    · exact .inl ((lieI_has l 0).2 (.inr ⟨r, hr, rfl, hb⟩))
theorem agI_lie {T : Nat → Bool} {s : Nat} (hg : Gok l) (h : AgI l lies s T) : AgI l lies (lieI l T 0) T := by
  refine ⟨lieI_lt l 0 hg (by decide), (agI_iff hg).1 ⟨s, h⟩, fun r hr => ?_⟩
  by_cases hb : r.there = T r.cell.toNat
  · exact .inr hb
  · exact .inl ((lieI_has l 0).2 (.inr ⟨r, hr, rfl, hb⟩))

/-- What Cells and Liars say where some truth agrees. -/
structure SemI (l : List Sg) (cells lies : Int) (K : List Int) (all : Nat) : Prop where
  len : K.length = cells.toNat
  val : ∀ (c : Nat) (x : Int), K[c]? = some x → (x = 1 ∧ ∀ s T, AgI l lies s T → T c = true) ∨ (x = -1 ∧ ∀ s T, AgI l lies s T → T c = false) ∨ (x = 0 ∧ (∃ s T, AgI l lies s T ∧ T c = true) ∧ ∃ s T, AgI l lies s T ∧ T c = false)
  liars : ∀ p, p < 8 → (hasS all p = true ↔ ∀ s T, AgI l lies s T → hasS s p = true)
theorem cells_sem {cells : Int} (hok : SgOk l cells lies) :
    ((∃ s T, AgI l lies s T) ∧ cellsE l cells lies = 0 ∧ ∃ all, sureL l cells lies = outK all 8 ∧ SemI l cells lies (cellsL l cells lies) all) ∨
    ((¬ ∃ s T, AgI l lies s T) ∧ cellsE l cells lies = 21 ∧ cellsL l cells lies = [] ∧ sureL l cells lies = []) := by
  have h0 := checkI_ok.2 hok
  by_cases hx : ∃ s T, AgI l lies s T
  · left
    have hts := ts_ne.2 hx
    obtain ⟨e1, e2, e3⟩ := cells_3 h0 hts
    refine ⟨hx, e1, _, e3, ?_⟩
    rw [e2]
    refine ⟨length_cellW _ _, fun c x hc => ?_, fun p _ => whole_li hts p⟩
    have hlt := lt_of_at hc
    rw [length_cellW] at hlt
    rw [cellW_at hlt] at hc
    injection hc with hc
    subst hc
    have h1 := whole_th hts c
    have h2 := whole_go hts c
    have hd := (and_zero.1 (whole_disj hts)) c
    unfold cellF bitN
    cases e1 : (wholeT (tsK l lies 256)).1.testBit c <;> cases e2 : (wholeT (tsK l lies 256)).2.1.testBit c
    · right; right
      refine ⟨by simp, ?_, ?_⟩
      · rw [e2] at h2
        have h3 : ¬ ∀ s T, AgI l lies s T → T c = false := fun h => by simpa using h2.2 h
        simp only [Classical.not_forall] at h3
        obtain ⟨s, T, a, b⟩ := h3
        exact ⟨s, T, a, by simpa using b⟩
      · rw [e1] at h1
        have h3 : ¬ ∀ s T, AgI l lies s T → T c = true := fun h => by simpa using h1.2 h
        simp only [Classical.not_forall] at h3
        obtain ⟨s, T, a, b⟩ := h3
        exact ⟨s, T, a, by simpa using b⟩
    · right; left
      exact ⟨by simp, h2.1 e2⟩
    · left
      exact ⟨by simp, h1.1 e1⟩
    · exact absurd ⟨e1, e2⟩ hd
  · right
    have hts : tsK l lies 256 = [] := by
      by_cases e : tsK l lies 256 = []
      · exact e
      · exact absurd (ts_ne.1 e) hx
    obtain ⟨e1, e2, e3⟩ := cells_2 h0 hts
    exact ⟨hx, e1, e2, e3⟩
end

/-! ### Verdict -/
/-- A truth is good for wants. -/
def GoodT (want : List Int) (T : Nat → Bool) : Prop := ∀ c, c < want.length → (want.getD c 0 = 1 → T c = true) ∧ (want.getD c 0 = 2 → T c = false)
section
variable {l : List Sg} {lies : Int} {want : List Int}
theorem goodK_iff (t : Nat) : goodK want t want.length = true ↔ GoodT want fun c => hasS t c := by
  unfold goodK GoodT
  rw [List.all_eq_true]
  constructor
  · intro h c hc
    have := h c (List.mem_range.2 hc)
    unfold goodF at this
    simp only [Bool.and_eq_true, Bool.not_eq_true', Bool.and_eq_false_iff, decide_eq_false_iff_not, Bool.not_eq_false'] at this
    exact ⟨fun e => this.1.resolve_left (fun q => q e), fun e => this.2.resolve_left (fun q => q e)⟩
  · intro h c hc
    obtain ⟨a, b⟩ := h c (List.mem_range.1 hc)
    unfold goodF
    simp only [Bool.and_eq_true, Bool.not_eq_true', Bool.and_eq_false_iff, decide_eq_false_iff_not, Bool.not_eq_false']
    refine ⟨?_, ?_⟩
    · by_cases e : want.getD c 0 = 1
      · exact .inr (a e)
      · exact .inl e
    · by_cases e : want.getD c 0 = 2
      · exact .inr (b e)
      · exact .inl e
theorem sure_good (hts : tsK l lies 256 ≠ []) (h : sureK want (wholeT (tsK l lies 256)) want.length = true) {s : Nat} {T : Nat → Bool} (hT : AgI l lies s T) : GoodT want T := fun c hc => by
  unfold sureK at h
  have h1 := (List.all_eq_true.1 h) c (List.mem_range.2 hc)
  unfold sureF at h1
  rw [decide_eq_true_eq] at h1
  have hd := whole_disj hts
  rw [(cellF_1 hd c).1, (cellF_1 hd c).2, whole_th hts, whole_go hts] at h1
  refine ⟨fun e => ?_, fun e => ?_⟩
  · rcases h1 with q | q | q
    · omega
    · exact q.1 s T hT
    · omega
  · rcases h1 with q | q | q
    · omega
    · omega
    · exact q.1 s T hT
theorem good_sure (hbw : badW want = false) (hts : tsK l lies 256 ≠ []) (h : ∀ s T, AgI l lies s T → GoodT want T) : sureK want (wholeT (tsK l lies 256)) want.length = true := by
  unfold sureK
  rw [List.all_eq_true]
  intro c hc
  have hc := List.mem_range.1 hc
  unfold sureF
  rw [decide_eq_true_eq]
  have hd := whole_disj hts
  rw [(cellF_1 hd c).1, (cellF_1 hd c).2, whole_th hts, whole_go hts]
  rcases want_cases hbw hc with e | e | e
  · exact .inr (.inl ⟨fun s T hT => (h s T hT c hc).1 e, e⟩)
  · exact .inr (.inr ⟨fun s T hT => (h s T hT c hc).2 e, e⟩)
  · exact .inl e
theorem good_fit (hbw : badW want = false) {s : Nat} {T : Nat → Bool} (hT : AgI l lies s T) (hg : GoodT want T) : fitK want (mkT l s).1 (mkT l s).2.1 want.length = true := by
  unfold fitK
  rw [List.all_eq_true]
  intro c hc
  have hc := List.mem_range.1 hc
  unfold fitF
  rw [decide_eq_true_eq]
  have hd : thM l s &&& goM l s = 0 := (exI_iff.1 (agI_ex hT)).2
  rcases want_cases hbw hc with e | e | e
  · refine .inr (.inl ⟨fun q => ?_, e⟩)
    have h1 := agI_goM hT ((leftF_1 hd c).2.1 q)
    rw [(hg c hc).1 e] at h1; cases h1
  · refine .inr (.inr ⟨fun q => ?_, e⟩)
    have h1 := agI_thM hT ((leftF_1 hd c).1.1 q)
    rw [(hg c hc).2 e] at h1; cases h1
  · exact .inl e
theorem fit_good {t : T3} (ht : t ∈ tsK l lies 256) (hf : fitK want t.1 t.2.1 want.length = true) (hcl : ∀ r ∈ l, r.cell.toNat < want.length) : ∃ s T, AgI l lies s T ∧ GoodT want T := by
  obtain ⟨s, hs, hx, rfl⟩ := mem_tsK.1 ht
  obtain ⟨h1, hd⟩ := exI_iff.1 hx
  unfold fitK at hf
  have hf := List.all_eq_true.1 hf
  refine ⟨s, fun c => if want.getD c 0 = 1 then true else if want.getD c 0 = 2 then false else (thM l s).testBit c, ⟨hs, h1, fun r hr => ?_⟩, fun c hc => ⟨fun e => if_pos e, fun e => ?_⟩⟩
  · have hag := (agI_th hs hx).says r hr
    rcases hag with e | e
    · exact .inl e
    · cases hg : hasS s r.gauge.toNat
      · right
        have hfc := hf r.cell.toNat (List.mem_range.2 (hcl r hr))
        unfold fitF at hfc
        rw [decide_eq_true_eq] at hfc
        show r.there = if want.getD r.cell.toNat 0 = 1 then true else if want.getD r.cell.toNat 0 = 2 then false else (thM l s).testBit r.cell.toNat
        by_cases w1 : want.getD r.cell.toNat 0 = 1
        · rw [if_pos w1]
          cases hth : r.there
          · have hgo : (goM l s).testBit r.cell.toNat = true := goM_bit.2 ⟨r, hr, hg, hth, rfl⟩
            have hl := (leftF_1 hd r.cell.toNat).2.2 hgo
            rcases hfc with q | q | q
            · omega
            · exact absurd hl q.1
            · omega
          · rfl
        · rw [if_neg w1]
          by_cases w2 : want.getD r.cell.toNat 0 = 2
          · rw [if_pos w2]
            cases hth : r.there
            · rfl
            · have hth' : (thM l s).testBit r.cell.toNat = true := thM_bit.2 ⟨r, hr, hg, hth, rfl⟩
              have hl := (leftF_1 hd r.cell.toNat).1.2 hth'
              rcases hfc with q | q | q
              · omega
              · omega
              · exact absurd hl q.1
          · rw [if_neg w2]; exact e
      · exact .inl rfl
  · show (if want.getD c 0 = 1 then true else if want.getD c 0 = 2 then false else (thM l s).testBit c) = false
    rw [if_neg (by omega), if_pos e]
/-- What Verdict says, told by truths. -/
theorem verd_sem (hbw : badW want = false) (hok : SgOk l want.length lies) :
    ((∃ s T, AgI l lies s T) → (((∀ s T, AgI l lies s T → GoodT want T) ∧ verdS want l lies = 0) ∨ ((∃ s T, AgI l lies s T ∧ GoodT want T) ∧ (∃ s T, AgI l lies s T ∧ ¬ GoodT want T) ∧ verdS want l lies = 5) ∨ ((∀ s T, AgI l lies s T → ¬ GoodT want T) ∧ verdS want l lies = 35))) ∧
    ((¬ ∃ s T, AgI l lies s T) → verdS want l lies = 21) := by
  have h0 := checkI_ok.2 hok
  have hcl : ∀ r ∈ l, r.cell.toNat < want.length := fun r hr => by have := hok.sg r hr; omega
  constructor
  · intro hx
    have hts := ts_ne.2 hx
    have hE := (cells_3 h0 hts).1
    cases hs : sureK want (wholeT (tsK l lies 256)) want.length
    · right
      have hbad : ∃ s T, AgI l lies s T ∧ ¬ GoodT want T := by
        have : ¬ ∀ s T, AgI l lies s T → GoodT want T := fun h => by rw [good_sure hbw hts h] at hs; cases hs
        simp only [Classical.not_forall] at this
        obtain ⟨s, T, a, b⟩ := this
        exact ⟨s, T, a, b⟩
      by_cases hg : ∃ s T, AgI l lies s T ∧ GoodT want T
      · obtain ⟨s, T, a, b⟩ := hg
        exact .inl ⟨⟨s, T, a, b⟩, hbad, verd_5 hbw hE hs (mem_tsK.2 ⟨s, a.lt, agI_ex a, rfl⟩) (good_fit hbw a b)⟩
      · right
        refine ⟨fun s T a b => hg ⟨s, T, a, b⟩, verd_6 hbw hE hs fun t ht => ?_⟩
        cases hf : fitK want t.1 t.2.1 want.length
        · rfl
        · exact absurd (fit_good ht hf hcl) hg
    · exact .inl ⟨fun s T hT => sure_good hts hs hT, verd_4 hbw hE hs⟩
  · intro hx
    have hts : tsK l lies 256 = [] := by
      by_cases e : tsK l lies 256 = []
      · exact e
      · exact absurd (ts_ne.1 e) hx
    exact verd_3 hbw h0 hts
end
end Go.Proofs.Ytadjdnhnbkcakaa

/-! Sights turned and told twice. No program in sight. -/
namespace Go.Proofs.Ytadjdnhnbkcakaa
open Go.RowKit

abbrev sgz : Sg := ⟨0, 0, false⟩
def backI (R : List Sg) (k : Nat) : List Sg := (List.range k).flatMap fun i => [R.getD (R.length - 1 - i) sgz, R.getD i sgz]
theorem backI_succ {R : List Sg} {k : Nat} {x y : Sg} (hx : R[R.length - 1 - k]? = some x) (hy : R[k]? = some y) : backI R (k + 1) = backI R k ++ [x, y] := by
  have h1 : R.getD (R.length - 1 - k) sgz = x := by simp [List.getD_eq_getElem?_getD, hx]
  have h2 : R.getD k sgz = y := by simp [List.getD_eq_getElem?_getD, hy]
  simp only [backI, List.range_succ, List.flatMap_append, List.flatMap_cons, List.flatMap_nil, List.append_nil, h1, h2]
theorem backI_len (R : List Sg) : ∀ k, (backI R k).length = 2 * k
  | 0 => rfl
  | k + 1 => by
    have e : backI R (k + 1) = backI R k ++ [R.getD (R.length - 1 - k) sgz, R.getD k sgz] := by simp [backI, List.range_succ]
    rw [e, List.length_append, backI_len R k]
    simp; omega
theorem backI_mem (R : List Sg) (r : Sg) : r ∈ backI R R.length ↔ r ∈ R := by
  have hg : ∀ i, i < R.length → R.getD i sgz ∈ R := fun i h => by
    rw [List.getD_eq_getElem?_getD, List.getElem?_eq_getElem h]; exact List.getElem_mem h
  unfold backI
  rw [List.mem_flatMap]
  constructor
  · rintro ⟨i, hi, h⟩
    have hi := List.mem_range.1 hi
    simp only [List.mem_cons, List.not_mem_nil, or_false] at h
    rcases h with rfl | rfl
    · exact hg _ (by omega)
    · exact hg _ hi
  · intro h
    obtain ⟨i, hi⟩ := List.getElem?_of_mem h
    have hlt := lt_of_at hi
    exact ⟨i, List.mem_range.2 hlt, by simp [List.getD_eq_getElem?_getD, hi]⟩
def turnG (r : Sg) : Sg := ⟨r.gauge, r.cell, !r.there⟩
def turnI (R : List Sg) (k : Nat) : List Sg := (R.take k).map turnG
theorem turnI_succ {R : List Sg} {k : Nat} {r : Sg} (h : R[k]? = some r) : turnI R (k + 1) = turnI R k ++ [⟨r.gauge, r.cell, !r.there⟩] := by
  unfold turnI
  rw [List.take_add_one, h, Option.toList_some, List.map_append]
  rfl
theorem turnI_len {R : List Sg} {k : Nat} (h : k ≤ R.length) : (turnI R k).length = k := by unfold turnI; simp; omega
theorem turnI_all (R : List Sg) : turnI R R.length = R.map turnG := by unfold turnI; rw [List.take_length]

section
variable {l l' : List Sg} {m m' : Int} {N : Nat}
theorem agI_mem (h : ∀ r, r ∈ l' → r ∈ l) {s : Nat} {T : Nat → Bool} (a : AgI l m s T) : AgI l' m s T := ⟨a.lt, a.small, fun r hr => a.says r (h r hr)⟩
theorem agI_more (h : m ≤ m') {s : Nat} {T : Nat → Bool} (a : AgI l m s T) : AgI l m' s T := ⟨a.lt, Int.le_trans a.small h, a.says⟩
theorem agI_turn {s : Nat} {T : Nat → Bool} (a : AgI l m s T) : AgI (l.map turnG) m s fun c => !T c := by
  refine ⟨a.lt, a.small, fun r hr => ?_⟩
  obtain ⟨r0, hr0, rfl⟩ := List.mem_map.1 hr
  rcases a.says r0 hr0 with h | h
  · exact .inl h
  · exact .inr (congrArg Bool.not h)
theorem agI_turn' {s : Nat} {T : Nat → Bool} (a : AgI (l.map turnG) m s T) : AgI l m s fun c => !T c := by
  refine ⟨a.lt, a.small, fun r hr => ?_⟩
  rcases a.says _ (List.mem_map_of_mem hr) with h | h
  · exact .inl h
  · refine .inr ?_
    have h : (!r.there) = T r.cell.toNat := h
    show r.there = !T r.cell.toNat
    rw [← h, Bool.not_not]
/-- Two lists of sights that the same truths, or the turned ones, agree with. -/
theorem sem_rel (sg : Bool) (hok : SgOk l N m) (hok' : SgOk l' N m) (h1 : ∀ s T, AgI l m s T → AgI l' m s fun c => (T c != sg)) (h2 : ∀ s T, AgI l' m s T → AgI l m s fun c => (T c != sg)) :
    cellsE l' N m = cellsE l N m ∧ sureL l' N m = sureL l N m ∧ (cellsL l' N m).length = (cellsL l N m).length ∧ ∀ (c : Nat) (x x' : Int), (cellsL l N m)[c]? = some x → (cellsL l' N m)[c]? = some x' → x' = if sg = true then -x else x := by
  rcases cells_sem hok with ⟨hx, a1, all, a2, a3⟩ | ⟨hx, a1, a2, a3⟩
  · rcases cells_sem hok' with ⟨hx', b1, all', b2, b3⟩ | ⟨hx', b1, b2, b3⟩
    · refine ⟨by rw [a1, b1], ?_, by rw [a3.len, b3.len], fun c x x' hc hc' => ?_⟩
      · rw [a2, b2]
        refine outK_congr fun p hp => ?_
        rw [Bool.eq_iff_iff, a3.liars p hp, b3.liars p hp]
        exact ⟨fun q s T hT => q s _ (h1 s T hT), fun q s T hT => q s _ (h2 s T hT)⟩
      · obtain ⟨s0, T0, hT0⟩ := hx
        have hT0' := h1 s0 T0 hT0
        have v := a3.val c x hc
        have v' := b3.val c x' hc'
        rcases v with ⟨rfl, q⟩ | ⟨rfl, q⟩ | ⟨rfl, ⟨s1, T1, q1, q1'⟩, ⟨s2, T2, q2, q2'⟩⟩
        · have u1 := q s0 T0 hT0
          rcases v' with ⟨rfl, u⟩ | ⟨rfl, u⟩ | ⟨rfl, ⟨s3, T3, u3, u3'⟩, ⟨s4, T4, u4, u4'⟩⟩
          · have := u _ _ hT0'
            rw [u1] at this
            cases sg
            · rfl
            · cases this
          · have := u _ _ hT0'
            rw [u1] at this
            cases sg
            · cases this
            · rfl
          · have w3 := q _ _ (h2 _ _ u3)
            have w4 := q _ _ (h2 _ _ u4)
            rw [u3'] at w3
            rw [u4'] at w4
            cases sg
            · cases w4
            · cases w3
        · have u1 := q s0 T0 hT0
          rcases v' with ⟨rfl, u⟩ | ⟨rfl, u⟩ | ⟨rfl, ⟨s3, T3, u3, u3'⟩, ⟨s4, T4, u4, u4'⟩⟩
          · have := u _ _ hT0'
            rw [u1] at this
            cases sg
            · cases this
            · rfl
          · have := u _ _ hT0'
            rw [u1] at this
            cases sg
            · rfl
            · cases this
          · have w3 := q _ _ (h2 _ _ u3)
            have w4 := q _ _ (h2 _ _ u4)
            rw [u3'] at w3
            rw [u4'] at w4
            cases sg
            · cases w3
            · cases w4
        · have w1 := h1 _ _ q1
          have w2 := h1 _ _ q2
          rcases v' with ⟨rfl, u⟩ | ⟨rfl, u⟩ | ⟨rfl, _⟩
          · have e1 := u _ _ w1
            have e2 := u _ _ w2
            rw [q1'] at e1
            rw [q2'] at e2
            cases sg
            · cases e2
            · cases e1
          · have e1 := u _ _ w1
            have e2 := u _ _ w2
            rw [q1'] at e1
            rw [q2'] at e2
            cases sg
            · cases e1
            · cases e2
          · cases sg <;> rfl
    · obtain ⟨s, T, hT⟩ := hx
      exact absurd ⟨s, _, h1 s T hT⟩ hx'
  · rcases cells_sem hok' with ⟨⟨s, T, hT⟩, _⟩ | ⟨hx', b1, b2, b3⟩
    · exact absurd ⟨s, _, h2 s T hT⟩ hx
    · refine ⟨by rw [a1, b1], by rw [a3, b3], by rw [a2, b2], fun c x x' hc => ?_⟩
      rw [a2] at hc
      simp at hc
/-- More lies. -/
theorem sem_more (hok : SgOk l N m) (hok' : SgOk l N m') (h : m ≤ m') (hE : cellsE l N m = 0) :
    cellsE l N m' = 0 ∧ (cellsL l N m').length = N ∧ (cellsL l N m).length = N ∧ ∀ (c : Nat) (x x' : Int), (cellsL l N m)[c]? = some x → (cellsL l N m')[c]? = some x' → x' ≠ 0 → x' = x := by
  rcases cells_sem hok with ⟨hx, a1, all, a2, a3⟩ | ⟨hx, a1, a2, a3⟩
  · obtain ⟨s0, T0, hT0⟩ := hx
    rcases cells_sem hok' with ⟨hx', b1, all', b2, b3⟩ | ⟨hx', b1, b2, b3⟩
    · refine ⟨b1, by rw [b3.len]; simp, by rw [a3.len]; simp, fun c x x' hc hc' hne => ?_⟩
      rcases b3.val c x' hc' with ⟨rfl, q⟩ | ⟨rfl, q⟩ | ⟨rfl, _⟩
      · rcases a3.val c x hc with ⟨rfl, _⟩ | ⟨rfl, u⟩ | ⟨rfl, _, ⟨s2, T2, q2, q2'⟩⟩
        · rfl
        · have := q _ _ (agI_more h hT0)
          rw [u _ _ hT0] at this; cases this
        · have := q _ _ (agI_more h q2)
          rw [q2'] at this; cases this
      · rcases a3.val c x hc with ⟨rfl, u⟩ | ⟨rfl, _⟩ | ⟨rfl, ⟨s2, T2, q2, q2'⟩, _⟩
        · have := q _ _ (agI_more h hT0)
          rw [u _ _ hT0] at this; cases this
        · rfl
        · have := q _ _ (agI_more h q2)
          rw [q2'] at this; cases this
      · exact absurd rfl hne
    · exact absurd ⟨s0, T0, agI_more h hT0⟩ hx'
  · rw [a1] at hE; cases hE
theorem cells_range (hok : SgOk l N m) : (cellsE l N m = 0 ∨ cellsE l N m = 21 ∧ cellsL l N m = []) ∧ (cellsL l N m).length ≤ N ∧ (sureL l N m).length ≤ 8 ∧ ∀ (c : Nat) (x : Int), (cellsL l N m)[c]? = some x → -1 ≤ x ∧ x ≤ 1 := by
  rcases cells_sem hok with ⟨hx, a1, all, a2, a3⟩ | ⟨hx, a1, a2, a3⟩
  · refine ⟨.inl a1, by rw [a3.len]; simp, by rw [a2]; exact outK_le _ _, fun c x hc => ?_⟩
    rcases a3.val c x hc with ⟨rfl, _⟩ | ⟨rfl, _⟩ | ⟨rfl, _⟩ <;> omega
  · refine ⟨.inr ⟨a1, a2⟩, by rw [a2]; simp, by rw [a3]; simp, fun c x hc => ?_⟩
    rw [a2] at hc
    simp at hc
end
theorem ext_at {a b : List Int} (h : b.length = a.length) (hv : ∀ (c : Nat) (x x' : Int), a[c]? = some x → b[c]? = some x' → x' = x) : b = a := by
  apply List.ext_getElem h
  intro i h1 h2
  exact hv i _ _ (List.getElem?_eq_getElem h2) (List.getElem?_eq_getElem h1)
end Go.Proofs.Ytadjdnhnbkcakaa

/-! Walks: A34. -/
namespace Go.Proofs.Ytadjdnhnbkcakaa
open Go.RowKit

theorem turn_calls {N : Nat} {m : Int} {R : List Sg} (hm : MadeI (N : Int) m R) :
    ∃ (A D X M : List Int) (E Em : Int), FC Try.prog 36 [.rs 3 (R.map cS), iv (N : Int), iv m] [] (.tup [ints A, iv E]) [] false ∧ FC Try.prog 36 [.rs 3 ((backI R R.length).map cS), iv (N : Int), iv m] [] (.tup [ints A, iv E]) [] false ∧ FC Try.prog 36 [.rs 3 ((turnI R R.length).map cS), iv (N : Int), iv m] [] (.tup [ints D, iv E]) [] false ∧
      FC Try.prog 39 [.rs 3 (R.map cS), iv (N : Int), iv m] [] (.tup [ints X, iv E]) [] false ∧ FC Try.prog 39 [.rs 3 ((turnI R R.length).map cS), iv (N : Int), iv m] [] (.tup [ints X, iv E]) [] false ∧ FC Try.prog 36 [.rs 3 (R.map cS), iv (N : Int), iv (min (m + 1) 3)] [] (.tup [ints M, iv Em]) [] false ∧
      A.length ≤ 5 ∧ X.length ≤ 8 ∧ D.length = A.length ∧ (E ≠ 0 → E = 21 ∧ (A.length : Int) = 0) ∧ (E = 0 → Em = 0 ∧ M.length = N ∧ A.length = N) ∧ (∀ (c : Nat) (x d : Int), A[c]? = some x → D[c]? = some d → d = -x ∧ -1 ≤ x ∧ x ≤ 1) ∧ (E = 0 → ∀ (c : Nat) (x y : Int), A[c]? = some x → M[c]? = some y → y ≠ 0 → y = x) := by
  have hn1 := hm.n1
  have hn5 := hm.n5
  have hlR := hm.lR
  have hm0 := hm.m0
  have hm3 := hm.m3
  have ok : SgOk R (N : Int) m := ⟨by omega, by omega, by omega, hm0, hm3, fun r hr => by have := hm.sg r hr; omega⟩
  have okb : SgOk (backI R R.length) (N : Int) m := ⟨by rw [backI_len]; omega, by omega, by omega, hm0, hm3, fun r hr => by have := hm.sg r ((backI_mem R r).1 hr); omega⟩
  have okt : SgOk (R.map turnG) (N : Int) m := ⟨by simp; omega, by omega, by omega, hm0, hm3, fun r hr => by
    obtain ⟨r0, h0, rfl⟩ := List.mem_map.1 hr
    have := hm.sg r0 h0
    show 0 ≤ r0.gauge ∧ r0.gauge < 8 ∧ 0 ≤ r0.cell ∧ r0.cell < (N : Int)
    omega⟩
  have okm : SgOk R (N : Int) (min (m + 1) 3) := ⟨by omega, by omega, by omega, by omega, by omega, fun r hr => by have := hm.sg r hr; omega⟩
  have e1 : ∀ T : Nat → Bool, (fun c => (T c != false)) = T := fun T => funext fun c => by cases T c <;> rfl
  have e2 : ∀ T : Nat → Bool, (fun c => (T c != true)) = fun c => !T c := fun T => funext fun c => by cases T c <;> rfl
  obtain ⟨b1, b2, b3, b4⟩ := sem_rel false ok okb (fun s T h => by rw [e1]; exact agI_mem (fun r hr => (backI_mem R r).1 hr) h) (fun s T h => by rw [e1]; exact agI_mem (fun r hr => (backI_mem R r).2 hr) h)
  obtain ⟨t1, t2, t3, t4⟩ := sem_rel true ok okt (fun s T h => by rw [e2]; exact agI_turn h) (fun s T h => by rw [e2]; exact agI_turn' h)
  have b5 : cellsL (backI R R.length) N m = cellsL R N m := ext_at b3 b4
  obtain ⟨r1, r2, r3, r4⟩ := cells_range ok
  have f1 := fc36 R (N : Int) m (by omega)
  have f2 := fc36 (backI R R.length) (N : Int) m (by rw [backI_len]; omega)
  have f3 := fc36 (R.map turnG) (N : Int) m (by simp; omega)
  have f4 := fc39 R (N : Int) m (by omega)
  have f5 := fc39 (R.map turnG) (N : Int) m (by simp; omega)
  have f6 := fc36 R (N : Int) (min (m + 1) 3) (by omega)
  rw [b1, b5] at f2
  rw [t1] at f3
  rw [t1, t2] at f5
  rw [← turnI_all] at f3 f5
  refine ⟨_, _, _, _, _, _, f1, f2, f3, f4, f5, f6, by omega, r3, by rw [turnI_all]; exact t3, fun h => ?_, fun h => ?_, fun c x d hc hd => ?_, fun h c x y hx hy hne => ?_⟩
  · rcases r1 with r1 | ⟨r1, r1'⟩
    · exact absurd r1 h
    · exact ⟨r1, by rw [r1']; rfl⟩
  · obtain ⟨q1, q2, q3, _⟩ := sem_more ok okm (by omega) h
    exact ⟨q1, q2, q3⟩
  · rw [turnI_all] at hd
    exact ⟨t4 c x d hc hd, r4 c x hc⟩
  · exact (sem_more ok okm (by omega) h).2.2.2 c x y hx hy hne

def mc13 : MC := (.seq (.reg [⟨(some 1), (.box 60 3 (.t 0)), none, []⟩, ⟨(some 2), (.mv (.c (.bool false))), none, []⟩] false) (.seq (.reg [⟨(some 23), (.call 31 []), none, []⟩, ⟨(some 3), (.mv (.t 23)), none, [0, 0, 0]⟩] false) (.seq (.reg [⟨(some 25), (.ld true 3 (.t 1)), none, []⟩, ⟨(some 26), (.call 32 [(.t 25)]), none, [0]⟩, ⟨(some 24), (.mv (.t 26)), none, [1]⟩, ⟨(some 27), (.ext (.t 24) 0), none, [2]⟩, ⟨(some 28), (.ext (.t 24) 1), none, [2]⟩, ⟨(some 29), (.ext (.t 24) 2), none, [2]⟩, ⟨(some 4), (.mv (.t 27)), none, [3, 1, 0, 1, 2, 3]⟩, ⟨(some 5), (.mv (.t 28)), none, [4, 6, 0, 1, 2, 3, 4, 6]⟩, ⟨(some 6), (.mv (.t 29)), none, [5, 7, 0, 1, 2, 3, 4, 5, 6, 7]⟩] false) (.seq (.reg [⟨(some 7), (.mv (.c .nils)), none, []⟩, ⟨(some 8), (.mv (.c .nils)), none, [0]⟩] false) (.seq (.seq (.reg [⟨(some 30), (.mv (.t 4)), none, []⟩, ⟨(some 31), (.len (.t 30)), none, [0]⟩, ⟨(some 32), (.mv (.c (.int .i64 0))), none, []⟩] false) (.block 0 (.loop (.seq (.reg [⟨(some 33), (.bin .lss (.t 32) (.t 31)), none, []⟩] false) (.seq (.cond (.t 33) .skip (.exit 0)) (.seq (.block 1 (.seq (.reg [⟨(some 34), (.mv (.t 32)), none, []⟩, ⟨(some 9), (.mv (.t 34)), none, [0, 0]⟩] false) (.seq (.reg [⟨(some 35), (.mv (.t 7)), none, []⟩, ⟨(some 36), (.mv (.t 4)), none, []⟩, ⟨(some 37), (.mv (.t 4)), none, []⟩, ⟨(some 38), (.len (.t 37)), none, [2]⟩, ⟨(some 39), (.bin .sub (.t 38) (.c (.int .i64 1))), none, [3]⟩, ⟨(some 40), (.mv (.t 9)), none, []⟩, ⟨(some 41), (.bin .sub (.t 39) (.t 40)), none, [4, 5]⟩, ⟨(some 42), (.ixsl 3 (.t 36) (.t 41)), none, [1, 6]⟩, ⟨(some 43), (.ld true 3 (.t 42)), none, [7]⟩, ⟨(some 44), (.mv (.t 4)), none, []⟩, ⟨(some 45), (.mv (.t 9)), none, []⟩, ⟨(some 46), (.ixsl 3 (.t 44) (.t 45)), none, [9, 10]⟩, ⟨(some 47), (.ld true 3 (.t 46)), none, [11]⟩, ⟨(some 48), (.bslice 80 3 [(.int .i64 0), (.int .i64 0), (.bool false)] 2 [(0, (.t 43)), (1, (.t 47))]), none, [8, 12]⟩, ⟨(some 49), (.app 80 3 24 [(.int .i64 0), (.int .i64 0), (.bool false)] (.t 35) (.t 48)), none, [0, 13]⟩, ⟨(some 7), (.mv (.t 49)), none, [14, 14, 0, 1, 2, 3, 4, 5, 6, 7, 8, 9, 10, 11, 12, 13, 14]⟩] true) (.reg [⟨(some 50), (.mv (.t 8)), none, []⟩, ⟨(some 51), (.mv (.t 4)), none, []⟩, ⟨(some 52), (.mv (.t 9)), none, []⟩, ⟨(some 53), (.ixsl 3 (.t 51) (.t 52)), none, [1, 2]⟩, ⟨(some 54), (.fa 0 (.t 53)), none, [3]⟩, ⟨(some 55), (.ld false 1 (.t 54)), none, [4]⟩, ⟨(some 56), (.mv (.t 4)), none, []⟩, ⟨(some 57), (.mv (.t 9)), none, []⟩, ⟨(some 58), (.ixsl 3 (.t 56) (.t 57)), none, [6, 7]⟩, ⟨(some 59), (.fa 1 (.t 58)), none, [8]⟩, ⟨(some 60), (.ld false 1 (.t 59)), none, [9]⟩, ⟨(some 61), (.mv (.t 4)), none, []⟩, ⟨(some 62), (.mv (.t 9)), none, []⟩, ⟨(some 63), (.ixsl 3 (.t 61) (.t 62)), none, [11, 12]⟩, ⟨(some 64), (.fa 2 (.t 63)), none, [13]⟩, ⟨(some 65), (.ld false 1 (.t 64)), none, [14]⟩, ⟨(some 66), (.un .not (.t 65)), none, [15]⟩, ⟨(some 67), (.build [(.int .i64 0), (.int .i64 0), (.bool false)] [(0, (1, (.t 55))), (1, (1, (.t 60))), (2, (1, (.t 66)))]), none, [5, 10, 16]⟩, ⟨(some 68), (.bslice 80 3 [(.int .i64 0), (.int .i64 0), (.bool false)] 1 [(0, (.t 67))]), none, [17]⟩, ⟨(some 69), (.app 80 3 24 [(.int .i64 0), (.int .i64 0), (.bool false)] (.t 50) (.t 68)), none, [0, 18]⟩, ⟨(some 8), (.mv (.t 69)), none, [19, 19, 0, 1, 2, 3, 4, 5, 6, 7, 8, 9, 10, 11, 12, 13, 14, 15, 16, 17, 18, 19]⟩] true)))) (.reg [⟨(some 70), (.bin .add (.t 32) (.c (.int .i64 1))), none, []⟩, ⟨(some 32), (.mv (.t 70)), none, [0]⟩] false))))))) (.seq (.reg [⟨(some 72), (.mv (.t 4)), none, []⟩, ⟨(some 73), (.mv (.t 5)), none, []⟩, ⟨(some 74), (.mv (.t 6)), none, []⟩, ⟨(some 75), (.call 36 [(.t 72), (.t 73), (.t 74)]), none, [0, 1, 2]⟩, ⟨(some 71), (.mv (.t 75)), none, [3]⟩, ⟨(some 76), (.ext (.t 71) 0), none, [4]⟩, ⟨(some 77), (.ext (.t 71) 1), none, [4]⟩, ⟨(some 10), (.mv (.t 76)), none, [5, 3, 0, 1, 2, 3, 4, 5]⟩, ⟨(some 11), (.mv (.t 77)), none, [6, 7, 0, 1, 2, 3, 4, 5, 6, 7]⟩] false) (.seq (.reg [⟨(some 79), (.mv (.t 7)), none, []⟩, ⟨(some 80), (.mv (.t 5)), none, []⟩, ⟨(some 81), (.mv (.t 6)), none, []⟩, ⟨(some 82), (.call 36 [(.t 79), (.t 80), (.t 81)]), none, [0, 1, 2]⟩, ⟨(some 78), (.mv (.t 82)), none, [3]⟩, ⟨(some 83), (.ext (.t 78) 0), none, [4]⟩, ⟨(some 84), (.ext (.t 78) 1), none, [4]⟩, ⟨(some 12), (.mv (.t 83)), none, [5, 3, 0, 1, 2, 3, 4, 5]⟩, ⟨(some 13), (.mv (.t 84)), none, [6, 7, 0, 1, 2, 3, 4, 5, 6, 7]⟩] false) (.seq (.reg [⟨(some 86), (.mv (.t 8)), none, []⟩, ⟨(some 87), (.mv (.t 5)), none, []⟩, ⟨(some 88), (.mv (.t 6)), none, []⟩, ⟨(some 89), (.call 36 [(.t 86), (.t 87), (.t 88)]), none, [0, 1, 2]⟩, ⟨(some 85), (.mv (.t 89)), none, [3]⟩, ⟨(some 90), (.ext (.t 85) 0), none, [4]⟩, ⟨(some 91), (.ext (.t 85) 1), none, [4]⟩, ⟨(some 14), (.mv (.t 90)), none, [5, 3, 0, 1, 2, 3, 4, 5]⟩, ⟨(some 15), (.mv (.t 91)), none, [6, 7, 0, 1, 2, 3, 4, 5, 6, 7]⟩] false) (.seq (.reg [⟨(some 93), (.mv (.t 4)), none, []⟩, ⟨(some 94), (.mv (.t 5)), none, []⟩, ⟨(some 95), (.mv (.t 6)), none, []⟩, ⟨(some 96), (.call 39 [(.t 93), (.t 94), (.t 95)]), none, [0, 1, 2]⟩, ⟨(some 92), (.mv (.t 96)), none, [3]⟩, ⟨(some 97), (.ext (.t 92) 0), none, [4]⟩, ⟨(some 98), (.ext (.t 92) 1), none, [4]⟩, ⟨(some 16), (.mv (.t 97)), none, [5, 3, 0, 1, 2, 3, 4, 5]⟩, ⟨(some 17), (.mv (.t 98)), none, [6, 7, 0, 1, 2, 3, 4, 5, 6, 7]⟩] false) (.seq (.reg [⟨(some 100), (.mv (.t 8)), none, []⟩, ⟨(some 101), (.mv (.t 5)), none, []⟩, ⟨(some 102), (.mv (.t 6)), none, []⟩, ⟨(some 103), (.call 39 [(.t 100), (.t 101), (.t 102)]), none, [0, 1, 2]⟩, ⟨(some 99), (.mv (.t 103)), none, [3]⟩, ⟨(some 104), (.ext (.t 99) 0), none, [4]⟩, ⟨(some 105), (.ext (.t 99) 1), none, [4]⟩, ⟨(some 18), (.mv (.t 104)), none, [5, 3, 0, 1, 2, 3, 4, 5]⟩, ⟨(some 19), (.mv (.t 105)), none, [6, 7, 0, 1, 2, 3, 4, 5, 6, 7]⟩] false) (.seq (.seq (.reg [⟨(some 106), (.mv (.t 11)), none, []⟩, ⟨(some 107), (.mv (.t 13)), none, []⟩, ⟨(some 108), (.bin .neq (.t 106) (.t 107)), none, [0, 1]⟩, ⟨(some 109), (.mv (.t 108)), none, [2]⟩, ⟨(some 110), (.mv (.t 11)), (some (109, false)), [3]⟩, ⟨(some 111), (.mv (.t 15)), (some (109, false)), [3]⟩, ⟨(some 112), (.bin .neq (.t 110) (.t 111)), (some (109, false)), [4, 5, 3]⟩, ⟨(some 113), (.pick (.t 109) (.c (.bool true)) (.t 112)), none, [3, 6]⟩, ⟨(some 114), (.mv (.t 113)), none, [7, 3]⟩, ⟨(some 115), (.mv (.t 17)), (some (114, false)), [8]⟩, ⟨(some 116), (.mv (.t 19)), (some (114, false)), [8]⟩, ⟨(some 117), (.bin .neq (.t 115) (.t 116)), (some (114, false)), [9, 10, 8]⟩, ⟨(some 118), (.pick (.t 114) (.c (.bool true)) (.t 117)), none, [8, 11]⟩, ⟨(some 119), (.mv (.t 118)), none, [12, 8]⟩, ⟨(some 120), (.mv (.t 10)), (some (119, false)), [13]⟩, ⟨(some 121), (.mv (.t 12)), (some (119, false)), [13]⟩, ⟨(some 122), (.call 38 [(.t 120), (.t 121)]), (some (119, false)), [14, 15, 13, 13]⟩, ⟨(some 123), (.un .not (.t 122)), (some (119, false)), [16, 13]⟩, ⟨(some 124), (.pick (.t 119) (.c (.bool true)) (.t 123)), none, [13, 17]⟩, ⟨(some 125), (.mv (.t 124)), none, [18, 16]⟩, ⟨(some 126), (.mv (.t 16)), (some (125, false)), [19]⟩, ⟨(some 127), (.mv (.t 18)), (some (125, false)), [19]⟩, ⟨(some 128), (.call 38 [(.t 126), (.t 127)]), (some (125, false)), [20, 21, 19, 19]⟩, ⟨(some 129), (.un .not (.t 128)), (some (125, false)), [22, 19]⟩, ⟨(some 130), (.pick (.t 125) (.c (.bool true)) (.t 129)), none, [19, 23]⟩, ⟨(some 131), (.mv (.t 130)), none, [24, 22]⟩, ⟨(some 132), (.mv (.t 14)), (some (131, false)), [25]⟩, ⟨(some 133), (.len (.t 132)), (some (131, false)), [26, 25]⟩, ⟨(some 134), (.mv (.t 10)), (some (131, false)), [25]⟩, ⟨(some 135), (.len (.t 134)), (some (131, false)), [28, 25]⟩, ⟨(some 136), (.bin .neq (.t 133) (.t 135)), (some (131, false)), [27, 29, 25]⟩, ⟨(some 137), (.pick (.t 131) (.c (.bool true)) (.t 136)), none, [25, 30]⟩] false) (.cond (.t 137) (.seq (.reg [⟨(some 2), (.mv (.c (.bool false))), none, []⟩] false) .ret) .skip)) (.seq (.seq (.reg [⟨(some 138), (.mv (.t 11)), none, []⟩, ⟨(some 139), (.bin .neq (.t 138) (.c (.int .i64 0))), none, [0]⟩] false) (.cond (.t 139) (.seq (.reg [⟨(some 140), (.mv (.t 3)), none, []⟩, ⟨(some 141), (.mv (.t 140)), none, [0]⟩, ⟨(some 142), (.mv (.t 11)), (some (141, true)), [1]⟩, ⟨(some 143), (.bin .eql (.t 142) (.c (.int .i64 21))), (some (141, true)), [2, 1]⟩, ⟨(some 144), (.pick (.t 141) (.t 143) (.c (.bool false))), none, [1, 3]⟩, ⟨(some 145), (.mv (.t 144)), none, [4, 1]⟩, ⟨(some 146), (.mv (.t 10)), (some (145, true)), [5]⟩, ⟨(some 147), (.len (.t 146)), (some (145, true)), [6, 5]⟩, ⟨(some 148), (.bin .eql (.t 147) (.c (.int .i64 0))), (some (145, true)), [7, 5]⟩, ⟨(some 149), (.pick (.t 145) (.t 148) (.c (.bool false))), none, [5, 8]⟩, ⟨(some 2), (.mv (.t 149)), none, [9, 5, 0, 1, 2, 3, 4, 5, 6, 7, 8, 9]⟩] false) .ret) .skip)) (.seq (.reg [⟨(some 151), (.mv (.t 4)), none, []⟩, ⟨(some 152), (.mv (.t 5)), none, []⟩, ⟨(some 153), (.mv (.t 6)), none, []⟩, ⟨(some 154), (.bin .add (.t 153) (.c (.int .i64 1))), none, [2]⟩, ⟨(some 155), (.mn (.t 154) (.c (.int .i64 3))), none, [3]⟩, ⟨(some 156), (.call 36 [(.t 151), (.t 152), (.t 155)]), none, [0, 1, 4]⟩, ⟨(some 150), (.mv (.t 156)), none, [5]⟩, ⟨(some 157), (.ext (.t 150) 0), none, [6]⟩, ⟨(some 158), (.ext (.t 150) 1), none, [6]⟩, ⟨(some 20), (.mv (.t 157)), none, [7, 5, 0, 1, 2, 3, 4, 5, 6, 7]⟩, ⟨(some 21), (.mv (.t 158)), none, [8, 9, 0, 1, 2, 3, 4, 5, 6, 7, 8, 9]⟩] false) (.seq (.seq (.reg [⟨(some 159), (.mv (.t 21)), none, []⟩, ⟨(some 160), (.bin .neq (.t 159) (.c (.int .i64 0))), none, [0]⟩, ⟨(some 161), (.mv (.t 160)), none, [1]⟩, ⟨(some 162), (.mv (.t 20)), (some (161, false)), [2]⟩, ⟨(some 163), (.len (.t 162)), (some (161, false)), [3, 2]⟩, ⟨(some 164), (.mv (.t 5)), (some (161, false)), [2]⟩, ⟨(some 165), (.bin .neq (.t 163) (.t 164)), (some (161, false)), [4, 5, 2]⟩, ⟨(some 166), (.pick (.t 161) (.c (.bool true)) (.t 165)), none, [2, 6]⟩, ⟨(some 167), (.mv (.t 166)), none, [7, 2]⟩, ⟨(some 168), (.mv (.t 10)), (some (167, false)), [8]⟩, ⟨(some 169), (.len (.t 168)), (some (167, false)), [9, 8]⟩, ⟨(some 170), (.mv (.t 5)), (some (167, false)), [8]⟩, ⟨(some 171), (.bin .neq (.t 169) (.t 170)), (some (167, false)), [10, 11, 8]⟩, ⟨(some 172), (.pick (.t 167) (.c (.bool true)) (.t 171)), none, [8, 12]⟩] false) (.cond (.t 172) (.seq (.reg [⟨(some 2), (.mv (.c (.bool false))), none, []⟩] false) .ret) .skip)) (.seq (.seq (.reg [⟨(some 173), (.mv (.t 10)), none, []⟩, ⟨(some 174), (.len (.t 173)), none, [0]⟩, ⟨(some 175), (.mv (.c (.int .i64 0))), none, []⟩] false) (.block 2 (.loop (.seq (.reg [⟨(some 176), (.bin .lss (.t 175) (.t 174)), none, []⟩] false) (.seq (.cond (.t 176) .skip (.exit 2)) (.seq (.block 3 (.seq (.reg [⟨(some 177), (.mv (.t 175)), none, []⟩, ⟨(some 22), (.mv (.t 177)), none, [0, 0]⟩] false) (.seq (.reg [⟨(some 178), (.mv (.t 14)), none, []⟩, ⟨(some 179), (.mv (.t 22)), none, []⟩, ⟨(some 180), (.ixsl 1 (.t 178) (.t 179)), none, [0, 1]⟩, ⟨(some 181), (.ld false 1 (.t 180)), none, [2]⟩, ⟨(some 182), (.mv (.t 10)), none, []⟩, ⟨(some 183), (.mv (.t 22)), none, []⟩, ⟨(some 184), (.ixsl 1 (.t 182) (.t 183)), none, [4, 5]⟩, ⟨(some 185), (.ld false 1 (.t 184)), none, [6]⟩, ⟨(some 186), (.un .neg (.t 185)), none, [7]⟩, ⟨(some 187), (.bin .neq (.t 181) (.t 186)), none, [3, 8]⟩, ⟨(some 188), (.mv (.t 187)), none, [9]⟩, ⟨(some 189), (.mv (.t 20)), (some (188, false)), [10]⟩, ⟨(some 190), (.mv (.t 22)), (some (188, false)), [10]⟩, ⟨(some 191), (.ixsl 1 (.t 189) (.t 190)), (some (188, false)), [11, 12, 10]⟩, ⟨(some 192), (.ld false 1 (.t 191)), (some (188, false)), [13, 10]⟩, ⟨(some 193), (.bin .neq (.t 192) (.c (.int .i64 0))), (some (188, false)), [14, 10]⟩, ⟨(some 194), (.mv (.t 193)), (some (188, false)), [15, 10, 10]⟩, ⟨(some 195), (.mv (.t 20)), (some (194, true)), [16]⟩, ⟨(some 196), (.mv (.t 22)), (some (194, true)), [16]⟩, ⟨(some 197), (.ixsl 1 (.t 195) (.t 196)), (some (194, true)), [17, 18, 16]⟩, ⟨(some 198), (.ld false 1 (.t 197)), (some (194, true)), [19, 16]⟩, ⟨(some 199), (.mv (.t 10)), (some (194, true)), [16]⟩, ⟨(some 200), (.mv (.t 22)), (some (194, true)), [16]⟩, ⟨(some 201), (.ixsl 1 (.t 199) (.t 200)), (some (194, true)), [21, 22, 16]⟩, ⟨(some 202), (.ld false 1 (.t 201)), (some (194, true)), [23, 16]⟩, ⟨(some 203), (.bin .neq (.t 198) (.t 202)), (some (194, true)), [20, 24, 16]⟩, ⟨(some 204), (.pick (.t 194) (.t 203) (.c (.bool false))), (some (188, false)), [16, 25, 10]⟩, ⟨(some 205), (.pick (.t 188) (.c (.bool true)) (.t 204)), none, [10, 26]⟩] true) (.cond (.t 205) (.seq (.reg [⟨(some 2), (.mv (.c (.bool false))), none, []⟩] false) .ret) .skip)))) (.reg [⟨(some 206), (.bin .add (.t 175) (.c (.int .i64 1))), none, []⟩, ⟨(some 175), (.mv (.t 206)), none, [0]⟩] false))))))) (.seq (.reg [⟨(some 207), (.mv (.t 3)), none, []⟩, ⟨(some 2), (.mv (.t 207)), none, [0, 0]⟩] false) .ret))))))))))))))))
theorem mcOk13 : (match Try.f13.body with | some c => compC Try.prog 208 c | none => none) = some mc13 := by kernel_rfl

theorem fc13 (L : List Int) (c5 l4 : Int) (hL : L.length ≤ 4611686018427387904) (hc : 0 ≤ c5 ∧ c5 < 256) (hl4 : 0 ≤ l4 ∧ l4 < 256) : FC Try.prog 13 [.agg [ints L, .int .u8 c5, .int .u8 l4]] [] (.bool true) [] false := by
  obtain ⟨n, m, R, hm, hmade⟩ := made_i L c5 l4 hL hc hl4
  have hn1 := hm.n1
  have hn5 := hm.n5
  have hm0 := hm.m0
  have hm3 := hm.m3
  have hlR := hm.lR
  obtain ⟨N, rfl⟩ : ∃ N : Nat, n = (N : Int) := ⟨n.toNat, by omega⟩
  refine fc_run (nt := 208) Try.func13 rfl rfl mcOk13 (Nat.le_of_ble_eq_true rfl) ?_
  delta mc13
  refine aw_seq ?_
  refine aw_reg ?_
  refine rs_box rfl rfl rfl rfl rfl rfl ?_
  refine rs_mv rfl rfl ?_
  refine rs_nil fun _ => ?_
  refine th_n ?_
  refine aw_seq ?_
  refine aw_reg ?_
  refine rs_calln [] rfl rfl fc31 .nil rfl ?_
  refine rs_mv rfl rfl ?_
  refine rs_nil fun _ => ?_
  refine th_n ?_
  refine aw_seq ?_
  refine aw_reg ?_
  first | refine rs_ld_pa rfl rfl rfl rfl (Nat.le_of_ble_eq_true rfl) rfl ?_ | refine rs_ld_ra rfl rfl (Nat.le_of_ble_eq_true rfl) rfl ?_ | refine rs_ld_ma rfl rfl rfl (by omega) (Nat.le_of_ble_eq_true rfl) rfl ?_
  refine rs_callo [] rfl rfl hmade (.cons (hv_same rfl) .nil) .nil rfl rfl rfl ?_
  refine rs_mv rfl rfl ?_
  refine rs_ext rfl rfl rfl ?_
  refine rs_ext rfl rfl rfl ?_
  refine rs_ext rfl rfl rfl ?_
  refine rs_mv rfl rfl ?_
  refine rs_mv rfl rfl ?_
  refine rs_mv rfl rfl ?_
  refine rs_nil fun _ => ?_
  refine th_n ?_
  refine aw_seq ?_
  refine aw_weak (F0 := [(3, .bool true), (4, .rs 3 (R.map cS)), (5, iv (N : Int)), (6, iv m)]) (H0 := []) (weak_to (.cons rfl (rc_same rfl (.inl rfl)) (.cons rfl (rc_frz rfl rfl rfl (fun _ => rfl)) (.cons rfl (rc_same rfl (.inl rfl)) (.cons rfl (rc_same rfl (.inl rfl)) (.nil))))) (.nil) (fun i h => by cases h)) ?_
  refine aw_reg ?_
  refine rs_mv rfl rfl ?_
  refine rs_mv rfl rfl ?_
  refine rs_nil fun _ => ?_
  refine th_n ?_
  refine aw_seq ?_
  refine aw_seq ?_
  refine aw_reg ?_
  refine rs_mv rfl rfl ?_
  first | refine rs_len_m rfl rfl ?_ | refine rs_len_s rfl rfl ?_ | refine rs_len_n rfl rfl ?_ | refine rs_len_r rfl rfl rfl ?_
  refine rs_mv rfl rfl ?_
  refine rs_nil fun _ => ?_
  refine th_n ?_
  refine aw_block ?_
  refine aw_fam (α := Nat) (fun k => R.length - k) (fun k => [(3, .bool true), (4, .rs 3 (R.map cS)), (5, iv (N : Int)), (6, iv m), (7, .sl 1007 0 (backI R (k)).length), (8, .sl 1008 0 (turnI R (k)).length), (30, .rs 3 (R.map cS)), (31, iv (R.length : Int)), (32, iv (((k) : Nat) : Int))]) (fun k => [(1007, .cells 80 3 ((backI R (k)).map cS) true), (1008, .cells 80 3 ((turnI R (k)).map cS) true)]) (fun k => k ≤ R.length) 0 (by omega)
    (weak_to (.cons rfl (rc_same rfl (.inl rfl)) (.cons rfl (rc_same rfl (.inl rfl)) (.cons rfl (rc_same rfl (.inl rfl)) (.cons rfl (rc_same rfl (.inl rfl)) (.cons rfl (rc_virt rfl rfl) (.cons rfl (rc_virt rfl rfl) (.cons rfl (rc_same rfl (.inl rfl)) (.cons rfl (rc_same rfl (.inl rfl)) (.cons rfl (rc_same rfl (.inl rfl)) (.nil)))))))))) (.virt rfl (.virt rfl (.nil))) (fun i h => by cases h)) ?_
  intro k hk
  refine aw_seq ?_
  refine aw_reg ?_
  refine rs_lss rfl rfl rfl ?_
  refine rs_nil fun _ => ?_
  refine th_n ?_
  refine aw_seq ?_
  refine aw_cond rfl (fun h33 => ?_) (fun h33 => ?_)
  · first | replace h33 := of_decide_eq_true h33 | skip
    refine aw_skip ?_
    refine th_n ?_
    refine aw_seq ?_
    refine aw_block ?_
    refine aw_seq ?_
    refine aw_reg ?_
    refine rs_mv rfl rfl ?_
    refine rs_mv rfl rfl ?_
    refine rs_nil fun _ => ?_
    refine th_n ?_
    refine aw_seq ?_
    refine aw_draw hmix ?_
    obtain ⟨x, hxk, _⟩ := at_some (L := R) (k := R.length - 1 - k) (by omega)
    obtain ⟨y, hyk, _⟩ := at_some (L := R) (k := k) (by omega)
    have hbl := backI_len R k
    have htl := turnI_len (R := R) (k := k) (by omega)
    refine rs_mv rfl rfl ?_
    refine rs_mv rfl rfl ?_
    refine rs_mv rfl rfl ?_
    first | refine rs_len_m rfl rfl ?_ | refine rs_len_s rfl rfl ?_ | refine rs_len_n rfl rfl ?_ | refine rs_len_r rfl rfl rfl ?_
    first | refine rs_sub rfl rfl rfl (by omega) ?_ | refine rs_subw rfl rfl rfl rfl ?_
    refine rs_mv rfl rfl ?_
    first | refine rs_sub rfl rfl rfl (by omega) ?_ | refine rs_subw rfl rfl rfl rfl ?_
    refine rs_ix_g rfl rfl rfl (by omega) (by rw [show ((R.length : Int) - 1 - (k : Int)).toNat = R.length - 1 - k by omega]; exact hxk) ?_
    first | refine rs_ld_pa rfl rfl rfl rfl (Nat.le_of_ble_eq_true rfl) rfl ?_ | refine rs_ld_ra rfl rfl (Nat.le_of_ble_eq_true rfl) rfl ?_ | refine rs_ld_ma rfl rfl rfl (by omega) (Nat.le_of_ble_eq_true rfl) rfl ?_
    refine rs_mv rfl rfl ?_
    refine rs_mv rfl rfl ?_
    refine rs_ix_g rfl rfl rfl (by omega) hyk ?_
    first | refine rs_ld_pa rfl rfl rfl rfl (Nat.le_of_ble_eq_true rfl) rfl ?_ | refine rs_ld_ra rfl rfl (Nat.le_of_ble_eq_true rfl) rfl ?_ | refine rs_ld_ma rfl rfl rfl (by omega) (Nat.le_of_ble_eq_true rfl) rfl ?_
    refine rs_bslice rfl rfl rfl rfl rfl rfl ?_
    refine rs_app_mm (xs := backI R k) (ys := [x, y]) (m := 2) (f := cS) (rd := [48]) rfl rfl rfl rfl rfl rfl rfl (by simp) (fun _ => rfl) rfl rfl (by omega) (by omega) (fun _ => rfl) ?_
    refine rs_mv rfl rfl ?_
    refine rs_nil ⟨by kernel_rfl, fun _ => ?_⟩
    refine th_n ?_
    refine aw_draw hmix ?_
    refine rs_mv rfl rfl ?_
    refine rs_mv rfl rfl ?_
    refine rs_mv rfl rfl ?_
    refine rs_ix_g rfl rfl rfl (by omega) hyk ?_
    first | refine rs_fa_p rfl rfl ?_ | refine rs_fa_r rfl rfl rfl ?_
    first | refine rs_ld_r rfl rfl rfl ?_ | refine rs_ld_p rfl rfl rfl rfl rfl ?_ | refine rs_ld_m rfl rfl rfl (by omega) rfl ?_
    refine rs_mv rfl rfl ?_
    refine rs_mv rfl rfl ?_
    refine rs_ix_g rfl rfl rfl (by omega) hyk ?_
    first | refine rs_fa_p rfl rfl ?_ | refine rs_fa_r rfl rfl rfl ?_
    first | refine rs_ld_r rfl rfl rfl ?_ | refine rs_ld_p rfl rfl rfl rfl rfl ?_ | refine rs_ld_m rfl rfl rfl (by omega) rfl ?_
    refine rs_mv rfl rfl ?_
    refine rs_mv rfl rfl ?_
    refine rs_ix_g rfl rfl rfl (by omega) hyk ?_
    first | refine rs_fa_p rfl rfl ?_ | refine rs_fa_r rfl rfl rfl ?_
    first | refine rs_ld_r rfl rfl rfl ?_ | refine rs_ld_p rfl rfl rfl rfl rfl ?_ | refine rs_ld_m rfl rfl rfl (by omega) rfl ?_
    refine rs_not rfl rfl ?_
    refine rs_build rfl rfl ?_
    refine rs_bslice rfl rfl rfl rfl rfl rfl ?_
    refine rs_app_mm (xs := turnI R k) (ys := [⟨y.gauge, y.cell, !y.there⟩]) (m := 1) (f := cS) (rd := [68]) rfl rfl rfl rfl rfl rfl rfl (by simp) (fun _ => rfl) rfl rfl (by omega) (by omega) (fun _ => rfl) ?_
    refine rs_mv rfl rfl ?_
    refine rs_nil ⟨by kernel_rfl, fun _ => ?_⟩
    refine in_n ?_
    refine th_n ?_
    refine aw_reg ?_
    first | refine rs_add rfl rfl rfl (by omega) ?_ | refine rs_addw rfl rfl rfl rfl ?_
    refine rs_mv rfl rfl ?_
    refine rs_nil fun _ => ?_
    refine th_n ?_
    have hbs := backI_succ hxk hyk
    have hts := turnI_succ hyk
    exact ⟨k + 1, by omega, by omega, Weak.trans (F1 := [(3, .bool true), (4, .rs 3 (R.map cS)), (5, iv (N : Int)), (6, iv m), (7, .sl 1007 0 (backI R (k + 1)).length), (8, .sl 69 0 (turnI R (k + 1)).length), (30, .rs 3 (R.map cS)), (31, iv (R.length : Int)), (32, iv (((k + 1) : Nat) : Int))]) (H1 := [(1007, .cells 80 3 ((backI R (k + 1)).map cS) true), (69, .cells 80 3 ((turnI R (k + 1)).map cS) true)]) (weak_to_ren (i := 49) (i' := 1007) (F1 := [(3, .bool true), (4, .rs 3 (R.map cS)), (5, iv (N : Int)), (6, iv m), (7, .sl 49 0 (backI R (k + 1)).length), (8, .sl 69 0 (turnI R (k + 1)).length), (30, .rs 3 (R.map cS)), (31, iv (R.length : Int)), (32, iv (((k + 1) : Nat) : Int))]) (H1 := [(49, .cells 80 3 ((backI R (k + 1)).map cS) true), (69, .cells 80 3 ((turnI R (k + 1)).map cS) true)]) (.cons rfl (rc_same rfl (.inl rfl)) (.cons rfl (rc_same rfl (.inl rfl)) (.cons rfl (rc_same rfl (.inl rfl)) (.cons rfl (rc_same rfl (.inl rfl)) (.cons rfl (rc_eq (by rw [hbs]; simp) rfl) (.cons rfl (rc_eq (by rw [hts]; simp) rfl) (.cons rfl (rc_same rfl (.inl rfl)) (.cons rfl (rc_same rfl (.inl rfl)) (.cons rfl (rc_same rfl (.inl rfl)) (.nil)))))))))) (.keep ((by (rw [hbs]) <;> rfl)) rfl (.keep ((by (rw [hts]) <;> rfl)) rfl (.nil))) (fun i h => by cases h) rfl rfl (.cons rfl (.same _) (.cons rfl (.same _) (.cons rfl (.same _) (.cons rfl (.same _) (.cons rfl (.sl _ _) (.cons rfl (.same _) (.cons rfl (.same _) (.cons rfl (.same _) (.cons rfl (.same _) (.nil)))))))))) (.cons rfl (rc_same rfl (.inl rfl)) (.cons rfl (rc_same rfl (.inl rfl)) (.cons rfl (rc_same rfl (.inl rfl)) (.cons rfl (rc_same rfl (.inl rfl)) (.cons rfl (rc_same rfl (.inl rfl)) (.cons rfl (rc_same rfl (.inl rfl)) (.cons rfl (rc_same rfl (.inl rfl)) (.cons rfl (rc_same rfl (.inl rfl)) (.cons rfl (rc_same rfl (.inl rfl)) (.nil)))))))))) (.keep (rfl) rfl (.keep (rfl) rfl (.nil))) (fun i h => by cases h)) (weak_to_ren (i := 69) (i' := 1008) (F1 := [(3, .bool true), (4, .rs 3 (R.map cS)), (5, iv (N : Int)), (6, iv m), (7, .sl 1007 0 (backI R (k + 1)).length), (8, .sl 69 0 (turnI R (k + 1)).length), (30, .rs 3 (R.map cS)), (31, iv (R.length : Int)), (32, iv (((k + 1) : Nat) : Int))]) (H1 := [(1007, .cells 80 3 ((backI R (k + 1)).map cS) true), (69, .cells 80 3 ((turnI R (k + 1)).map cS) true)]) (.cons rfl (rc_same rfl (.inl rfl)) (.cons rfl (rc_same rfl (.inl rfl)) (.cons rfl (rc_same rfl (.inl rfl)) (.cons rfl (rc_same rfl (.inl rfl)) (.cons rfl (rc_same rfl (.inl rfl)) (.cons rfl (rc_same rfl (.inl rfl)) (.cons rfl (rc_same rfl (.inl rfl)) (.cons rfl (rc_same rfl (.inl rfl)) (.cons rfl (rc_same rfl (.inl rfl)) (.nil)))))))))) (.keep (rfl) rfl (.keep (rfl) rfl (.nil))) (fun i h => by cases h) rfl rfl (.cons rfl (.same _) (.cons rfl (.same _) (.cons rfl (.same _) (.cons rfl (.same _) (.cons rfl (.same _) (.cons rfl (.sl _ _) (.cons rfl (.same _) (.cons rfl (.same _) (.cons rfl (.same _) (.nil)))))))))) (.cons rfl (rc_same rfl (.inl rfl)) (.cons rfl (rc_same rfl (.inl rfl)) (.cons rfl (rc_same rfl (.inl rfl)) (.cons rfl (rc_same rfl (.inl rfl)) (.cons rfl (rc_same rfl (.inl rfl)) (.cons rfl (rc_same rfl (.inl rfl)) (.cons rfl (rc_same rfl (.inl rfl)) (.cons rfl (rc_same rfl (.inl rfl)) (.cons rfl (rc_same rfl (.inl rfl)) (.nil)))))))))) (.keep (rfl) rfl (.keep (rfl) rfl (.nil))) (fun i h => by cases h))⟩
  · first | replace h33 := of_decide_eq_false h33 | skip
    refine aw_exit ?_
    refine th_e ?_
    refine th_e ?_
    refine in_hit ?_
    refine th_n ?_
    refine aw_seq ?_
    obtain rfl : k = R.length := by omega
    have hbl := backI_len R R.length
    have htl := turnI_len (Nat.le_refl R.length)
    obtain ⟨A, D, X, M, E, Em, c75, c82, c89, c96, c103, c156, hA5, hX8, hDA, hE21, hE0, hAD, hAM⟩ := turn_calls hm
    refine aw_weak (F0 := [(3, .bool true), (4, .rs 3 (R.map cS)), (5, iv (N : Int)), (6, iv m), (7, .rs 3 ((backI R R.length).map cS)), (8, .rs 3 ((turnI R R.length).map cS))]) (H0 := []) (weak_to (.cons rfl (rc_same rfl (.inl rfl)) (.cons rfl (rc_same rfl (.inl rfl)) (.cons rfl (rc_same rfl (.inl rfl)) (.cons rfl (rc_same rfl (.inl rfl)) (.cons rfl (rc_frz rfl rfl rfl (fun _ => rfl)) (.cons rfl (rc_frz rfl rfl rfl (fun _ => rfl)) (.nil))))))) (.nil) (fun i h => by cases h)) ?_
    refine aw_reg ?_
    refine rs_mv rfl rfl ?_
    refine rs_mv rfl rfl ?_
    refine rs_mv rfl rfl ?_
    refine rs_calln [] rfl rfl (c75) (.cons (hv_same rfl) (.cons (hv_same rfl) (.cons (hv_same rfl) (.nil)))) rfl ?_
    refine rs_mv rfl rfl ?_
    refine rs_ext rfl rfl rfl ?_
    refine rs_ext rfl rfl rfl ?_
    refine rs_mv rfl rfl ?_
    refine rs_mv rfl rfl ?_
    refine rs_nil fun _ => ?_
    refine th_n ?_
    refine aw_seq ?_
    refine aw_reg ?_
    refine rs_mv rfl rfl ?_
    refine rs_mv rfl rfl ?_
    refine rs_mv rfl rfl ?_
    refine rs_calln [] rfl rfl (c82) (.cons (hv_same rfl) (.cons (hv_same rfl) (.cons (hv_same rfl) (.nil)))) rfl ?_
    refine rs_mv rfl rfl ?_
    refine rs_ext rfl rfl rfl ?_
    refine rs_ext rfl rfl rfl ?_
    refine rs_mv rfl rfl ?_
    refine rs_mv rfl rfl ?_
    refine rs_nil fun _ => ?_
    refine th_n ?_
    refine aw_seq ?_
    refine aw_reg ?_
    refine rs_mv rfl rfl ?_
    refine rs_mv rfl rfl ?_
    refine rs_mv rfl rfl ?_
    refine rs_calln [] rfl rfl (c89) (.cons (hv_same rfl) (.cons (hv_same rfl) (.cons (hv_same rfl) (.nil)))) rfl ?_
    refine rs_mv rfl rfl ?_
    refine rs_ext rfl rfl rfl ?_
    refine rs_ext rfl rfl rfl ?_
    refine rs_mv rfl rfl ?_
    refine rs_mv rfl rfl ?_
    refine rs_nil fun _ => ?_
    refine th_n ?_
    refine aw_seq ?_
    refine aw_reg ?_
    refine rs_mv rfl rfl ?_
    refine rs_mv rfl rfl ?_
    refine rs_mv rfl rfl ?_
    refine rs_calln [] rfl rfl (c96) (.cons (hv_same rfl) (.cons (hv_same rfl) (.cons (hv_same rfl) (.nil)))) rfl ?_
    refine rs_mv rfl rfl ?_
    refine rs_ext rfl rfl rfl ?_
    refine rs_ext rfl rfl rfl ?_
    refine rs_mv rfl rfl ?_
    refine rs_mv rfl rfl ?_
    refine rs_nil fun _ => ?_
    refine th_n ?_
    refine aw_seq ?_
    refine aw_reg ?_
    refine rs_mv rfl rfl ?_
    refine rs_mv rfl rfl ?_
    refine rs_mv rfl rfl ?_
    refine rs_calln [] rfl rfl (c103) (.cons (hv_same rfl) (.cons (hv_same rfl) (.cons (hv_same rfl) (.nil)))) rfl ?_
    refine rs_mv rfl rfl ?_
    refine rs_ext rfl rfl rfl ?_
    refine rs_ext rfl rfl rfl ?_
    refine rs_mv rfl rfl ?_
    refine rs_mv rfl rfl ?_
    refine rs_nil fun _ => ?_
    refine th_n ?_
    refine aw_seq ?_
    refine aw_seq ?_
    refine aw_reg ?_
    refine rs_mv rfl rfl ?_
    refine rs_mv rfl rfl ?_
    refine rs_cmp_f rfl rfl rfl rfl (fun h => h rfl) ?_
    refine rs_mv rfl rfl ?_
    refine rs_mv rfl rfl ?_
    refine rs_mv rfl rfl ?_
    refine rs_cmp_f rfl rfl rfl rfl (fun h => h rfl) ?_
    refine rs_pick rfl rfl rfl ?_
    refine rs_mv rfl rfl ?_
    refine rs_mv rfl rfl ?_
    refine rs_mv rfl rfl ?_
    refine rs_cmp_f rfl rfl rfl rfl (fun h => h rfl) ?_
    refine rs_pick rfl rfl rfl ?_
    refine rs_mv rfl rfl ?_
    refine rs_mv rfl rfl ?_
    refine rs_mv rfl rfl ?_
    refine rs_calln [] rfl rfl (fc38_t A (by omega)) (.cons (hv_same rfl) (.cons (hv_same rfl) (.nil))) rfl ?_
    refine rs_not rfl rfl ?_
    refine rs_pick rfl rfl rfl ?_
    refine rs_mv rfl rfl ?_
    refine rs_mv rfl rfl ?_
    refine rs_mv rfl rfl ?_
    refine rs_calln [] rfl rfl (fc38_t X (by omega)) (.cons (hv_same rfl) (.cons (hv_same rfl) (.nil))) rfl ?_
    refine rs_not rfl rfl ?_
    refine rs_pick rfl rfl rfl ?_
    refine rs_mv rfl rfl ?_
    refine rs_mv rfl rfl ?_
    first | refine rs_len_m rfl rfl ?_ | refine rs_len_s rfl rfl ?_ | refine rs_len_n rfl rfl ?_ | refine rs_len_r rfl rfl rfl ?_
    refine rs_mv rfl rfl ?_
    first | refine rs_len_m rfl rfl ?_ | refine rs_len_s rfl rfl ?_ | refine rs_len_n rfl rfl ?_ | refine rs_len_r rfl rfl rfl ?_
    refine rs_cmp_f rfl rfl rfl rfl (by omega) ?_
    refine rs_pick rfl rfl rfl ?_
    refine rs_nil fun _ => ?_
    refine th_n ?_
    refine aw_cond rfl (fun h => by cases h) (fun _ => ?_)
    refine aw_skip ?_
    refine th_n ?_
    refine aw_seq ?_
    refine aw_seq ?_
    refine aw_reg ?_
    refine rs_mv rfl rfl ?_
    refine rs_neq rfl rfl rfl ?_
    refine rs_nil fun _ => ?_
    refine th_n ?_
    refine aw_cond rfl (fun h139 => ?_) (fun h139 => ?_)
    · first | replace h139 := of_decide_eq_true h139 | skip
      refine aw_seq ?_
      refine aw_reg ?_
      refine rs_mv rfl rfl ?_
      refine rs_mv rfl rfl ?_
      refine rs_mv rfl rfl ?_
      refine rs_cmp_t rfl rfl rfl rfl (hE21 h139).1 ?_
      refine rs_pick rfl rfl rfl ?_
      refine rs_mv rfl rfl ?_
      refine rs_mv rfl rfl ?_
      first | refine rs_len_m rfl rfl ?_ | refine rs_len_s rfl rfl ?_ | refine rs_len_n rfl rfl ?_ | refine rs_len_r rfl rfl rfl ?_
      refine rs_cmp_t rfl rfl rfl rfl (hE21 h139).2 ?_
      refine rs_pick rfl rfl rfl ?_
      refine rs_mv rfl rfl ?_
      refine rs_nil fun _ => ?_
      refine th_n ?_
      refine aw_ret ?_
      refine th_r ?_
      exact ret_pure rfl rfl rfl (.inr rfl)
    · first | replace h139 := of_decide_eq_false h139 | skip
      refine aw_skip ?_
      refine th_n ?_
      refine aw_seq ?_
      have hE : E = 0 := by simpa using h139
      obtain ⟨hEm, hMN, hAN⟩ := hE0 hE
      refine aw_reg ?_
      refine rs_mv rfl rfl ?_
      refine rs_mv rfl rfl ?_
      refine rs_mv rfl rfl ?_
      first | refine rs_add rfl rfl rfl (by omega) ?_ | refine rs_addw rfl rfl rfl rfl ?_
      refine rs_mn rfl rfl rfl rfl ?_
      refine rs_calln [] rfl rfl (c156) (.cons (hv_same rfl) (.cons (hv_same rfl) (.cons (hv_same rfl) (.nil)))) rfl ?_
      refine rs_mv rfl rfl ?_
      refine rs_ext rfl rfl rfl ?_
      refine rs_ext rfl rfl rfl ?_
      refine rs_mv rfl rfl ?_
      refine rs_mv rfl rfl ?_
      refine rs_nil fun _ => ?_
      refine th_n ?_
      refine aw_seq ?_
      refine aw_seq ?_
      refine aw_reg ?_
      refine rs_mv rfl rfl ?_
      refine rs_cmp_f rfl rfl rfl rfl (fun h => h hEm) ?_
      refine rs_mv rfl rfl ?_
      refine rs_mv rfl rfl ?_
      first | refine rs_len_m rfl rfl ?_ | refine rs_len_s rfl rfl ?_ | refine rs_len_n rfl rfl ?_ | refine rs_len_r rfl rfl rfl ?_
      refine rs_mv rfl rfl ?_
      refine rs_cmp_f rfl rfl rfl rfl (by omega) ?_
      refine rs_pick rfl rfl rfl ?_
      refine rs_mv rfl rfl ?_
      refine rs_mv rfl rfl ?_
      first | refine rs_len_m rfl rfl ?_ | refine rs_len_s rfl rfl ?_ | refine rs_len_n rfl rfl ?_ | refine rs_len_r rfl rfl rfl ?_
      refine rs_mv rfl rfl ?_
      refine rs_cmp_f rfl rfl rfl rfl (by omega) ?_
      refine rs_pick rfl rfl rfl ?_
      refine rs_nil fun _ => ?_
      refine th_n ?_
      refine aw_cond rfl (fun h => by cases h) (fun _ => ?_)
      refine aw_skip ?_
      refine th_n ?_
      refine aw_seq ?_
      refine aw_seq ?_
      refine aw_reg ?_
      refine rs_mv rfl rfl ?_
      first | refine rs_len_m rfl rfl ?_ | refine rs_len_s rfl rfl ?_ | refine rs_len_n rfl rfl ?_ | refine rs_len_r rfl rfl rfl ?_
      refine rs_mv rfl rfl ?_
      refine rs_nil fun _ => ?_
      refine th_n ?_
      refine aw_block ?_
      refine aw_fam (α := Nat) (fun k => A.length - k) (fun k => [(3, .bool true), (10, ints A), (14, ints D), (20, ints M), (173, ints A), (174, iv (A.length : Int)), (175, iv (((k) : Nat) : Int))]) (fun k => []) (fun k => k ≤ A.length) 0 (by omega)
        (weak_to (.cons rfl (rc_same rfl (.inl rfl)) (.cons rfl (rc_same rfl (.inl rfl)) (.cons rfl (rc_same rfl (.inl rfl)) (.cons rfl (rc_same rfl (.inl rfl)) (.cons rfl (rc_same rfl (.inl rfl)) (.cons rfl (rc_same rfl (.inl rfl)) (.cons rfl (rc_same rfl (.inl rfl)) (.nil)))))))) (.nil) (fun i h => by cases h)) ?_
      intro k hk
      refine aw_seq ?_
      refine aw_reg ?_
      refine rs_lss rfl rfl rfl ?_
      refine rs_nil fun _ => ?_
      refine th_n ?_
      refine aw_seq ?_
      refine aw_cond rfl (fun h176 => ?_) (fun h176 => ?_)
      · first | replace h176 := of_decide_eq_true h176 | skip
        refine aw_skip ?_
        refine th_n ?_
        refine aw_seq ?_
        refine aw_block ?_
        refine aw_seq ?_
        refine aw_reg ?_
        refine rs_mv rfl rfl ?_
        refine rs_mv rfl rfl ?_
        refine rs_nil fun _ => ?_
        refine th_n ?_
        refine aw_seq ?_
        refine aw_draw hmix ?_
        obtain ⟨x, hx, _⟩ := at_some (L := A) (k := k) (by omega)
        obtain ⟨d, hd, _⟩ := at_some (L := D) (k := k) (by omega)
        obtain ⟨y, hy, _⟩ := at_some (L := M) (k := k) (by omega)
        obtain ⟨hdx, hx1, hx2⟩ := hAD k x d hx hd
        refine rs_mv rfl rfl ?_
        refine rs_mv rfl rfl ?_
        refine rs_ix_g rfl rfl rfl (by omega) hd ?_
        refine rs_ld_r rfl rfl rfl ?_
        refine rs_mv rfl rfl ?_
        refine rs_mv rfl rfl ?_
        refine rs_ix_g rfl rfl rfl (by omega) hx ?_
        refine rs_ld_r rfl rfl rfl ?_
        refine rs_neg rfl rfl (by omega) ?_
        refine rs_cmp_f rfl rfl rfl rfl (by omega) ?_
        refine rs_mv rfl rfl ?_
        refine rs_mv rfl rfl ?_
        refine rs_mv rfl rfl ?_
        refine rs_ix_g rfl rfl rfl (by omega) hy ?_
        refine rs_ld_r rfl rfl rfl ?_
        refine rs_cmp rfl rfl rfl rfl (fun h193 => ?_) (fun h193 => ?_)
        · skip
          refine rs_mv rfl rfl ?_
          refine rs_mv rfl rfl ?_
          refine rs_mv rfl rfl ?_
          refine rs_ix_g rfl rfl rfl (by omega) hy ?_
          refine rs_ld_r rfl rfl rfl ?_
          refine rs_mv rfl rfl ?_
          refine rs_mv rfl rfl ?_
          refine rs_ix_g rfl rfl rfl (by omega) hx ?_
          refine rs_ld_r rfl rfl rfl ?_
          refine rs_cmp_f rfl rfl rfl rfl (fun h => h (hAM hE k x y hx hy h193)) ?_
          refine rs_pick rfl rfl rfl ?_
          refine rs_pick rfl rfl rfl ?_
          refine rs_nil ⟨by kernel_rfl, fun _ => ?_⟩
          refine th_n ?_
          refine aw_cond rfl (fun h => by cases h) (fun _ => ?_)
          refine aw_skip ?_
          refine in_n ?_
          refine th_n ?_
          refine aw_reg ?_
          first | refine rs_add rfl rfl rfl (by omega) ?_ | refine rs_addw rfl rfl rfl rfl ?_
          refine rs_mv rfl rfl ?_
          refine rs_nil fun _ => ?_
          refine th_n ?_
          exact ⟨k + 1, by omega, by omega, weak_to (.cons rfl (rc_same rfl (.inl rfl)) (.cons rfl (rc_same rfl (.inl rfl)) (.cons rfl (rc_same rfl (.inl rfl)) (.cons rfl (rc_same rfl (.inl rfl)) (.cons rfl (rc_same rfl (.inl rfl)) (.cons rfl (rc_same rfl (.inl rfl)) (.cons rfl (rc_same rfl (.inl rfl)) (.nil)))))))) (.nil) (fun i h => by cases h)⟩
        · skip
          refine rs_mv rfl rfl ?_
          refine rs_skip rfl ?_
          refine rs_skip rfl ?_
          refine rs_skip rfl ?_
          refine rs_skip rfl ?_
          refine rs_skip rfl ?_
          refine rs_skip rfl ?_
          refine rs_skip rfl ?_
          refine rs_skip rfl ?_
          refine rs_skip rfl ?_
          refine rs_pick rfl rfl rfl ?_
          refine rs_pick rfl rfl rfl ?_
          refine rs_nil ⟨by kernel_rfl, fun _ => ?_⟩
          refine th_n ?_
          refine aw_cond rfl (fun h => by cases h) (fun _ => ?_)
          refine aw_skip ?_
          refine in_n ?_
          refine th_n ?_
          refine aw_reg ?_
          first | refine rs_add rfl rfl rfl (by omega) ?_ | refine rs_addw rfl rfl rfl rfl ?_
          refine rs_mv rfl rfl ?_
          refine rs_nil fun _ => ?_
          refine th_n ?_
          exact ⟨k + 1, by omega, by omega, weak_to (.cons rfl (rc_same rfl (.inl rfl)) (.cons rfl (rc_same rfl (.inl rfl)) (.cons rfl (rc_same rfl (.inl rfl)) (.cons rfl (rc_same rfl (.inl rfl)) (.cons rfl (rc_same rfl (.inl rfl)) (.cons rfl (rc_same rfl (.inl rfl)) (.cons rfl (rc_same rfl (.inl rfl)) (.nil)))))))) (.nil) (fun i h => by cases h)⟩
      · first | replace h176 := of_decide_eq_false h176 | skip
        refine aw_exit ?_
        refine th_e ?_
        refine th_e ?_
        refine in_hit ?_
        refine th_n ?_
        refine aw_seq ?_
        refine aw_reg ?_
        refine rs_mv rfl rfl ?_
        refine rs_mv rfl rfl ?_
        refine rs_nil fun _ => ?_
        refine th_n ?_
        refine aw_ret ?_
        exact ret_pure rfl rfl rfl (.inr rfl)

end Go.Proofs.Ytadjdnhnbkcakaa

/-! The arguments of the laws of inspect, as they are read. -/
namespace Go.Proofs.Ytadjdnhnbkcakaa
open Go.RowKit Go.WideShapes Go.ChangeShapes Go.ChangeAt
set_option maxRecDepth 100000

theorem own_knob : ownKnob Try.prog.godebug = none := by kernel_rfl
theorem laid_out : laidOutB Try.prog = true := by kernel_rfl

theorem rd_i {H : Type} (d : DataW H) (h : Gd (.int .i64) d) : ∃ n : Int, True ∧ avD (.int .i64) d = ci n := by
  obtain ⟨n, _, e⟩ := rd_int d h
  exact ⟨n, trivial, e⟩
theorem rd_u8 {H : Type} (d : DataW H) (h : Gd (.int .u8) d) : ∃ n : Int, (0 ≤ n ∧ n < 256) ∧ avD (.int .u8) d = cu8 n := by
  obtain ⟨n, hw, e⟩ := rd_int d h
  have := bounds_u8 hw
  exact ⟨n, by omega, e⟩
theorem rd_ints {H : Type} (d : DataW H) (h : Gd (.sl 1 (.int .i64)) d) : ∃ L : List Int, L.length ≤ 140737488351232 ∧ avD (.sl 1 (.int .i64)) d = [ints L] := by
  obtain ⟨L, ⟨h1, _⟩, e⟩ := rd_sl (fun _ => True) ci rd_i d h
  exact ⟨L, h1, e⟩
theorem rd_u8s {H : Type} (d : DataW H) (h : Gd (.sl 1 (.int .u8)) d) : ∃ ls : List Int, (ls.length ≤ 140737488351232 ∧ ∀ x ∈ ls, 0 ≤ x ∧ x < 256) ∧ avD (.sl 1 (.int .u8)) d = [.rs 1 (ls.map cu8)] :=
  rd_sl _ cu8 rd_u8 d h
abbrev shCase42 : Sh := .st [.sl 1 (.int .i64), .int .u8, .int .u8]
abbrev shSg : Sh := .st [.int .i64, .int .i64, .bool]
theorem rd_sg {H : Type} (d : DataW H) (h : Gd shSg d) : ∃ r : Sg, True ∧ avD shSg d = cS r := by
  obtain ⟨ps, g, e⟩ := rd_st d h
  obtain ⟨d0, r0, g0, g, e0⟩ := rd_cons ps g
  obtain ⟨d1, r1, g1, g, e1⟩ := rd_cons r0 g
  obtain ⟨d2, r2, g2, g, e2⟩ := rd_cons r1 g
  obtain ⟨n0, _, a0⟩ := rd_i d0 g0
  obtain ⟨n1, _, a1⟩ := rd_i d1 g1
  obtain ⟨n2, a2⟩ := rd_bool d2 g2
  exact ⟨⟨n0, n1, n2⟩, trivial, by rw [e, e0, e1, e2, rd_nil r2 g, a0, a1, a2]; rfl⟩
theorem rd_case42 {H : Type} (d : DataW H) (h : Gd shCase42 d) : ∃ (L : List Int) (c5 l4 : Int), (L.length ≤ 4611686018427387904 ∧ (0 ≤ c5 ∧ c5 < 256) ∧ (0 ≤ l4 ∧ l4 < 256)) ∧
    argA shCase42 d = .agg [ints L, .int .u8 c5, .int .u8 l4] := by
  obtain ⟨ps, g, e⟩ := rd_st d h
  obtain ⟨d0, r0, g0, g, e0⟩ := rd_cons ps g
  obtain ⟨d1, r1, g1, g, e1⟩ := rd_cons r0 g
  obtain ⟨d2, r2, g2, g, e2⟩ := rd_cons r1 g
  obtain ⟨n0, k0, a0⟩ := rd_ints d0 g0
  obtain ⟨n1, k1, a1⟩ := rd_u8 d1 g1
  obtain ⟨n2, k2, a2⟩ := rd_u8 d2 g2
  exact ⟨n0, n1, n2, ⟨Nat.le_trans k0 (by decide), k1, k2⟩, by simp only [argA]; rw [e, e0, e1, e2, rd_nil r2 g, a0, a1, a2]; rfl⟩
end Go.Proofs.Ytadjdnhnbkcakaa
namespace Go.Proofs.Ytadjdnhnbkcakaa
open Go.RowKit Go.WideShapes Go.ChangeShapes Go.ChangeAt
set_option maxRecDepth 100000

abbrev shs13 : List Sh := [shCase42]

theorem lifted13 (os : Os) (started : os.Started) (H : Type) (enc : TypeId × Value → H) :
    ReturnsInHanded {} Try.checked os 13 .any (Rows.inspectTurnedSpec.pre6 enc Try.prog Try.f13 Rows.inspectTurnedRow.domain false) (Rows.inspectTurnedSpec.post enc Try.prog Try.f13 false true false false) := by
  refine law_row (C := Try.checked) own_knob started (by kernel_rfl) Try.func13 laid_out rfl (tb := 4) rfl Try.underlying4 shs13 (by kernel_rfl) (fun ds h => ?_)
    (ChangeSpec.witness6 (enc := enc) (C := Try.checked) false ⟨#[], #[.agg #[.slice none 0 0, .int .u8 0, .int .u8 0]], []⟩ 8 (by kernel_rfl) (by kernel_rfl) (by kernel_rfl) (by kernel_rfl)) fun ds hg => ⟨false, ?_⟩
  · match ds, h with
    | [_], _ => rfl
  · simp only [shs13, GdFs] at hg
    obtain ⟨d0, _, rfl, g0, rfl⟩ := hg
    obtain ⟨L, c5, l4, ⟨hL, hc5, hl4⟩, e0⟩ := rd_case42 d0 g0
    have e : argAs shs13 [d0] = [.agg [ints L, .int .u8 c5, .int .u8 l4]] := by
      simp only [argAs, shs13]
      rw [e0]
    rw [e]
    exact fc13 L c5 l4 hL hc5 hl4

theorem over13 : Rows.inspectTurnedRow.holds Try.pinned (OpenSpec.ofChange Rows.inspectTurnedSpec) :=
  OpenClaim.holds_of_wide 13 Try.f13 rfl rfl rfl rfl rfl rfl rfl ⟨rfl, rfl, rfl, rfl, rfl⟩ rfl rfl rfl rfl rfl (by kernel_rfl) Try.func13 (by kernel_rfl)
    (of_decide_eq_true (by kernel_rfl)) (by unfold Func.isWrapper; rw [if_neg (of_decide_eq_false (by kernel_rfl))]; exact ⟨rfl, rfl⟩)
    (fun os started H enc _ => lifted13 os started H enc)

theorem inspectTurned_holds : Rows.InspectTurnedSaid := over13
#print axioms inspectTurned_holds
end Go.Proofs.Ytadjdnhnbkcakaa
