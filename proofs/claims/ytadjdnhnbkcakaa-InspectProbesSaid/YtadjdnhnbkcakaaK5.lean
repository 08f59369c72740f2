/-
  Proved: colletlaw42.InspectProbes returns true for every input, and its arguments read as before. No condition.
-/
import Derived.Test.YtadjdnhnbkcakaaK4
import Derived.Test.YtadjdnhnbkcakaaRows
set_option linter.unusedVariables false

/-! Walks: A30. -/
namespace Go.Proofs.Ytadjdnhnbkcakaa
open Go.RowKit


def mc38 : MC := (.seq (.reg [⟨(some 4), (.mv (.c (.bool false))), none, []⟩] false) (.seq (.reg [⟨(some 5), (.mv (.t 0)), none, []⟩, ⟨(some 6), (.mv (.t 1)), none, []⟩, ⟨(some 7), (.call 23 [(.t 5), (.t 6)]), none, [0, 1]⟩, ⟨(some 4), (.mv (.t 7)), none, [2, 2, 0, 1, 2]⟩] false) .ret))
theorem mcOk38 : (match Try.f38.body with | some c => compC Try.prog 8 c | none => none) = some mc38 := by kernel_rfl

theorem fc38 (xs ys : List Int) (hx : xs.length ≤ 4611686018427387904) : FC Try.prog 38 [ints xs, ints ys] [] (.bool (sameS xs ys)) [] false := by
  refine fc_run (nt := 8) Try.func38 rfl rfl mcOk38 (Nat.le_of_ble_eq_true rfl) ?_
  delta mc38
  refine aw_seq ?_
  refine aw_reg ?_
  refine rs_mv rfl rfl ?_
  refine rs_nil fun _ => ?_
  refine th_n ?_
  refine aw_seq ?_
  refine aw_reg ?_
  refine rs_mv rfl rfl ?_
  refine rs_mv rfl rfl ?_
  refine rs_calln [] rfl rfl (fc23 xs ys hx) (.cons (hv_same rfl) (.cons (hv_same rfl) (.nil))) rfl ?_
  refine rs_mv rfl rfl ?_
  refine rs_nil fun _ => ?_
  refine th_n ?_
  refine aw_ret ?_
  exact ret_pure rfl rfl rfl (.inr rfl)

theorem fc38_t (xs : List Int) (hx : xs.length ≤ 4611686018427387904) : FC Try.prog 38 [ints xs, ints xs] [] (.bool true) [] false := by
  have := fc38 xs xs hx
  rwa [show sameS xs xs = true from decide_eq_true rfl] at this

def mc57 : MC := (.seq (.reg [⟨(some 12), (.mv (.c (.bool false))), none, []⟩] false) (.seq (.reg [⟨(some 18), (.mv (.t 5)), none, []⟩, ⟨(some 19), (.mv (.t 1)), none, []⟩, ⟨(some 20), (.call 36 [(.t 18), (.c (.int .i64 1)), (.t 19)]), none, [0, 1]⟩, ⟨(some 17), (.mv (.t 20)), none, [2]⟩, ⟨(some 21), (.ext (.t 17) 0), none, [3]⟩, ⟨(some 22), (.ext (.t 17) 1), none, [3]⟩, ⟨(some 13), (.mv (.t 21)), none, [4, 2, 0, 1, 2, 3, 4]⟩, ⟨(some 14), (.mv (.t 22)), none, [5, 6, 0, 1, 2, 3, 4, 5, 6]⟩] false) (.seq (.reg [⟨(some 24), (.mv (.t 5)), none, []⟩, ⟨(some 25), (.mv (.t 1)), none, []⟩, ⟨(some 26), (.call 39 [(.t 24), (.c (.int .i64 1)), (.t 25)]), none, [0, 1]⟩, ⟨(some 23), (.mv (.t 26)), none, [2]⟩, ⟨(some 27), (.ext (.t 23) 0), none, [3]⟩, ⟨(some 28), (.ext (.t 23) 1), none, [3]⟩, ⟨(some 15), (.mv (.t 27)), none, [4, 2, 0, 1, 2, 3, 4]⟩, ⟨(some 16), (.mv (.t 28)), none, [5, 6, 0, 1, 2, 3, 4, 5, 6]⟩] false) (.seq (.reg [⟨(some 29), (.mv (.t 14)), none, []⟩, ⟨(some 30), (.bin .eql (.t 29) (.c (.int .i64 0))), none, [0]⟩, ⟨(some 31), (.mv (.t 30)), none, [1]⟩, ⟨(some 32), (.mv (.t 16)), (some (31, true)), [2]⟩, ⟨(some 33), (.bin .eql (.t 32) (.c (.int .i64 0))), (some (31, true)), [3, 2]⟩, ⟨(some 34), (.pick (.t 31) (.t 33) (.c (.bool false))), none, [2, 4]⟩, ⟨(some 35), (.mv (.t 34)), none, [5, 2]⟩, ⟨(some 36), (.mv (.t 13)), (some (35, true)), [6]⟩, ⟨(some 37), (.mv (.t 2)), (some (35, true)), [6]⟩, ⟨(some 38), (.bslice 3 1 [(.int .i64 0)] 1 [(0, (.t 37))]), (some (35, true)), [8, 6]⟩, ⟨(some 39), (.call 38 [(.t 36), (.t 38)]), (some (35, true)), [7, 9, 6, 6]⟩, ⟨(some 40), (.pick (.t 35) (.t 39) (.c (.bool false))), none, [6, 10]⟩, ⟨(some 41), (.mv (.t 40)), none, [11, 10]⟩, ⟨(some 42), (.mv (.t 15)), (some (41, true)), [12]⟩, ⟨(some 43), (.mv (.t 3)), (some (41, true)), [12]⟩, ⟨(some 44), (.call 38 [(.t 42), (.t 43)]), (some (41, true)), [13, 14, 12, 12]⟩, ⟨(some 45), (.pick (.t 41) (.t 44) (.c (.bool false))), none, [12, 15]⟩, ⟨(some 46), (.mv (.t 45)), none, [16, 15]⟩, ⟨(some 47), (.mv (.t 0)), (some (46, true)), [17]⟩, ⟨(some 48), (.bslice 3 1 [(.int .i64 0)] 1 [(0, (.t 47))]), (some (46, true)), [18, 17]⟩, ⟨(some 49), (.build [(.str (.mk (.mk []))), .nils, .nils] [(2, (1, (.t 48)))]), (some (46, true)), [19, 17]⟩, ⟨(some 50), (.mv (.t 5)), (some (46, true)), [17]⟩, ⟨(some 51), (.mv (.t 1)), (some (46, true)), [17]⟩, ⟨(some 52), (.call 42 [(.t 49), (.t 50), (.t 51)]), (some (46, true)), [20, 21, 22, 17, 17]⟩, ⟨(some 53), (.mv (.t 4)), (some (46, true)), [17]⟩, ⟨(some 54), (.bin .eql (.t 52) (.t 53)), (some (46, true)), [23, 24, 17]⟩, ⟨(some 55), (.pick (.t 46) (.t 54) (.c (.bool false))), none, [17, 25]⟩, ⟨(some 12), (.mv (.t 55)), none, [26, 23, 0, 1, 2, 3, 4, 5, 6, 7, 8, 9, 10, 11, 12, 13, 14, 15, 16, 17, 18, 19, 20, 21, 22, 23, 24, 25, 26]⟩] false) .ret))))
theorem mcOk57 : (match Try.f57.body with | some c => compC Try.prog 56 c | none => none) = some mc57 := by kernel_rfl

theorem fc57 (l : List Sg) (want lies cell verdict : Int) (liars : List Int) (hl : l.length ≤ 40) (hle : liars.length ≤ 8) (hE : cellsE l 1 lies = 0) (hC : cellsL l 1 lies = [cell]) (hS : sureL l 1 lies = liars) (hV : verdS [want] l lies = verdict) : FC Try.prog 57 [iv want, iv lies, iv cell, ints liars, iv verdict, .rs 3 (l.map cS)] [] (.bool true) [] false := by
  have c1 : FC Try.prog 36 [.rs 3 (l.map cS), iv 1, iv lies] [] (.tup [ints [cell], iv 0]) [] false := by have := fc36 l 1 lies (by omega); rwa [hC, hE] at this
  have c2 : FC Try.prog 39 [.rs 3 (l.map cS), iv 1, iv lies] [] (.tup [ints liars, iv 0]) [] false := by have := fc39 l 1 lies (by omega); rwa [hS, hE] at this
  have c3 : FC Try.prog 42 [partV [want], .rs 3 (l.map cS), iv lies] [] (iv verdict) [] false := by have := fc42 [want] l lies (by simp) (by omega); rwa [hV] at this
  refine fc_run (nt := 56) Try.func57 rfl rfl mcOk57 (Nat.le_of_ble_eq_true rfl) ?_
  delta mc57
  refine aw_seq ?_
  refine aw_reg ?_
  refine rs_mv rfl rfl ?_
  refine rs_nil fun _ => ?_
  refine th_n ?_
  refine aw_seq ?_
  refine aw_reg ?_
  refine rs_mv rfl rfl ?_
  refine rs_mv rfl rfl ?_
  refine rs_calln [] rfl rfl (c1) (.cons (hv_same rfl) (.cons (hv_same rfl) (.cons (hv_same rfl) (.nil)))) rfl ?_
  refine rs_mv rfl rfl ?_
  refine rs_ext rfl rfl rfl ?_
  refine rs_ext rfl rfl rfl ?_
  refine rs_mv rfl rfl ?_
  refine rs_mv rfl rfl ?_
  refine rs_nil fun _ => ?_
  refine th_n ?_
  refine aw_seq ?_
  refine aw_reg ?_
  refine rs_mv rfl rfl ?_
  refine rs_mv rfl rfl ?_
  refine rs_calln [] rfl rfl (c2) (.cons (hv_same rfl) (.cons (hv_same rfl) (.cons (hv_same rfl) (.nil)))) rfl ?_
  refine rs_mv rfl rfl ?_
  refine rs_ext rfl rfl rfl ?_
  refine rs_ext rfl rfl rfl ?_
  refine rs_mv rfl rfl ?_
  refine rs_mv rfl rfl ?_
  refine rs_nil fun _ => ?_
  refine th_n ?_
  refine aw_seq ?_
  refine aw_reg ?_
  refine rs_mv rfl rfl ?_
  refine rs_cmp_t rfl rfl rfl rfl rfl ?_
  refine rs_mv rfl rfl ?_
  refine rs_mv rfl rfl ?_
  refine rs_cmp_t rfl rfl rfl rfl rfl ?_
  refine rs_pick rfl rfl rfl ?_
  refine rs_mv rfl rfl ?_
  refine rs_mv rfl rfl ?_
  refine rs_mv rfl rfl ?_
  refine rs_bslice rfl rfl rfl rfl rfl rfl ?_
  refine rs_calln [38] rfl rfl (fc38_t [cell] (by simp)) (.cons (hv_same rfl) (.cons (hv_sl (by simp) rfl (Nat.le_of_ble_eq_true rfl) rfl) (.nil))) rfl ?_
  refine rs_pick rfl rfl rfl ?_
  refine rs_mv rfl rfl ?_
  refine rs_mv rfl rfl ?_
  refine rs_mv rfl rfl ?_
  refine rs_calln [] rfl rfl (fc38_t liars (by omega)) (.cons (hv_same rfl) (.cons (hv_same rfl) (.nil))) rfl ?_
  refine rs_pick rfl rfl rfl ?_
  refine rs_mv rfl rfl ?_
  refine rs_mv rfl rfl ?_
  refine rs_bslice rfl rfl rfl rfl rfl rfl ?_
  refine rs_build rfl rfl ?_
  refine rs_mv rfl rfl ?_
  refine rs_mv rfl rfl ?_
  refine rs_calln [48] rfl rfl (c3) (.cons (hv_agg (.cons (hv_same rfl) (.cons (hv_same rfl) (.cons (hv_sl (by simp) rfl (Nat.le_of_ble_eq_true rfl) rfl) .nil)))) (.cons (hv_same rfl) (.cons (hv_same rfl) (.nil)))) rfl ?_
  refine rs_mv rfl rfl ?_
  refine rs_cmp_t rfl rfl rfl rfl rfl ?_
  refine rs_pick rfl rfl rfl ?_
  refine rs_mv rfl rfl ?_
  refine rs_nil fun _ => ?_
  refine th_n ?_
  refine aw_ret ?_
  exact ret_pure rfl rfl rfl (.inr rfl)

theorem ni54 : FC Try.prog 36 [.rs 3 (([(⟨0, 0, true⟩ : Sg), (⟨1, 0, false⟩ : Sg)]).map cS), iv 1, iv 0] [] (.tup [ints [], iv 21]) [] false := by
  have h := fc36 [(⟨0, 0, true⟩ : Sg), (⟨1, 0, false⟩ : Sg)] 1 0 (by decide)
  rwa [show cellsL [(⟨0, 0, true⟩ : Sg), (⟨1, 0, false⟩ : Sg)] 1 0 = [] by decide +kernel, show cellsE [(⟨0, 0, true⟩ : Sg), (⟨1, 0, false⟩ : Sg)] 1 0 = 21 by decide +kernel] at h
theorem ni61 : FC Try.prog 39 [.rs 3 (([(⟨0, 0, true⟩ : Sg), (⟨1, 0, false⟩ : Sg)]).map cS), iv 1, iv 0] [] (.tup [ints [], iv 21]) [] false := by
  have h := fc39 [(⟨0, 0, true⟩ : Sg), (⟨1, 0, false⟩ : Sg)] 1 0 (by decide)
  rwa [show sureL [(⟨0, 0, true⟩ : Sg), (⟨1, 0, false⟩ : Sg)] 1 0 = [] by decide +kernel, show cellsE [(⟨0, 0, true⟩ : Sg), (⟨1, 0, false⟩ : Sg)] 1 0 = 21 by decide +kernel] at h
theorem ni71 : FC Try.prog 36 [.rs 3 (([(⟨0, 0, true⟩ : Sg), (⟨0, 1, false⟩ : Sg), (⟨1, 1, true⟩ : Sg), (⟨1, 0, false⟩ : Sg)]).map cS), iv 2, iv 1] [] (.tup [ints [0, 0], iv 0]) [] false := by
  have h := fc36 [(⟨0, 0, true⟩ : Sg), (⟨0, 1, false⟩ : Sg), (⟨1, 1, true⟩ : Sg), (⟨1, 0, false⟩ : Sg)] 2 1 (by decide)
  rwa [show cellsL [(⟨0, 0, true⟩ : Sg), (⟨0, 1, false⟩ : Sg), (⟨1, 1, true⟩ : Sg), (⟨1, 0, false⟩ : Sg)] 2 1 = [0, 0] by decide +kernel, show cellsE [(⟨0, 0, true⟩ : Sg), (⟨0, 1, false⟩ : Sg), (⟨1, 1, true⟩ : Sg), (⟨1, 0, false⟩ : Sg)] 2 1 = 0 by decide +kernel] at h
theorem nv88 : FC Try.prog 42 [partV [3], .rs 3 (([(⟨0, 0, true⟩ : Sg), (⟨1, 0, false⟩ : Sg)]).map cS), iv 0] [] (iv 21) [] false := by
  have h := fc42 [3] [(⟨0, 0, true⟩ : Sg), (⟨1, 0, false⟩ : Sg)] 0 (by decide) (by decide)
  rwa [show verdS [3] [(⟨0, 0, true⟩ : Sg), (⟨1, 0, false⟩ : Sg)] 0 = 21 by decide +kernel] at h
theorem nv103 : FC Try.prog 42 [partV [1, 1], .rs 3 (([(⟨0, 0, true⟩ : Sg), (⟨0, 1, false⟩ : Sg), (⟨1, 1, true⟩ : Sg), (⟨1, 0, false⟩ : Sg)]).map cS), iv 1] [] (iv 35) [] false := by
  have h := fc42 [1, 1] [(⟨0, 0, true⟩ : Sg), (⟨0, 1, false⟩ : Sg), (⟨1, 1, true⟩ : Sg), (⟨1, 0, false⟩ : Sg)] 1 (by decide) (by decide)
  rwa [show verdS [1, 1] [(⟨0, 0, true⟩ : Sg), (⟨0, 1, false⟩ : Sg), (⟨1, 1, true⟩ : Sg), (⟨1, 0, false⟩ : Sg)] 1 = 35 by decide +kernel] at h
theorem nv115 : FC Try.prog 42 [partV [4], .rs 3 ((([] : List Sg)).map cS), iv 0] [] (iv 1) [] false := by
  have h := fc42 [4] ([] : List Sg) 0 (by decide) (by decide)
  rwa [show verdS [4] ([] : List Sg) 0 = 1 by decide +kernel] at h
theorem nc109 : FC Try.prog 34 [.rs 3 (([(⟨0, 1, false⟩ : Sg)]).map cS), iv 1, iv 0] [] (iv 3) [] false := by
  have h := fc34 [(⟨0, 1, false⟩ : Sg)] 1 0 (by decide)
  rwa [show checkI [(⟨0, 1, false⟩ : Sg)] 1 0 = 3 by decide +kernel] at h

def mc31 : MC := (.seq (.reg [⟨(some 0), (.mv (.c (.bool false))), none, []⟩] false) (.seq (.reg [⟨(some 12), (.build [(.int .i64 0), (.int .i64 0), (.bool false)] [(2, (1, (.c (.bool true))))]), none, []⟩, ⟨(some 13), (.build [(.int .i64 0), (.int .i64 0), (.bool false)] [(0, (1, (.c (.int .i64 1))))]), none, []⟩, ⟨(some 14), (.build [(.int .i64 0), (.int .i64 0), (.bool false)] [(0, (1, (.c (.int .i64 2)))), (2, (1, (.c (.bool true))))]), none, []⟩, ⟨(some 1), (.alloc 80 3 [(.int .i64 0), (.int .i64 0), (.bool false)]), none, []⟩, ⟨(some 2), (.alloc 80 3 [(.int .i64 0), (.int .i64 0), (.bool false)]), none, []⟩, ⟨(some 3), (.alloc 80 3 [(.int .i64 0), (.int .i64 0), (.bool false)]), none, []⟩, ⟨none, (.st 3 (.t 1) (.t 12)), none, [3, 0, 0, 3, 4, 5]⟩, ⟨none, (.st 3 (.t 2) (.t 13)), none, [4, 1, 6, 0, 1, 3, 4, 5, 6]⟩, ⟨none, (.st 3 (.t 3) (.t 14)), none, [5, 2, 7, 0, 1, 2, 3, 4, 5, 6, 7]⟩] false) (.seq (.seq (.reg [⟨(some 15), (.ld true 3 (.t 1)), none, []⟩, ⟨(some 16), (.bslice 80 3 [(.int .i64 0), (.int .i64 0), (.bool false)] 1 [(0, (.t 15))]), none, [0]⟩, ⟨(some 17), (.call 57 [(.c (.int .i64 1)), (.c (.int .i64 0)), (.c (.int .i64 1)), (.c .nils), (.c (.int .i64 0)), (.t 16)]), none, [1]⟩, ⟨(some 18), (.un .not (.t 17)), none, [2]⟩, ⟨(some 19), (.mv (.t 18)), none, [3, 2]⟩, ⟨(some 20), (.ld true 3 (.t 1)), (some (19, false)), [4]⟩, ⟨(some 21), (.bslice 80 3 [(.int .i64 0), (.int .i64 0), (.bool false)] 1 [(0, (.t 20))]), (some (19, false)), [5, 4]⟩, ⟨(some 22), (.call 57 [(.c (.int .i64 1)), (.c (.int .i64 1)), (.c (.int .i64 0)), (.c .nils), (.c (.int .i64 5)), (.t 21)]), (some (19, false)), [6, 4, 4]⟩, ⟨(some 23), (.un .not (.t 22)), (some (19, false)), [7, 4]⟩, ⟨(some 24), (.pick (.t 19) (.c (.bool true)) (.t 23)), none, [4, 8]⟩, ⟨(some 25), (.mv (.t 24)), none, [9, 7]⟩, ⟨(some 26), (.ld true 3 (.t 1)), (some (25, false)), [10]⟩, ⟨(some 27), (.ld true 3 (.t 2)), (some (25, false)), [10]⟩, ⟨(some 28), (.bslice 80 3 [(.int .i64 0), (.int .i64 0), (.bool false)] 2 [(0, (.t 26)), (1, (.t 27))]), (some (25, false)), [11, 12, 10]⟩, ⟨(some 29), (.call 57 [(.c (.int .i64 1)), (.c (.int .i64 1)), (.c (.int .i64 0)), (.c .nils), (.c (.int .i64 5)), (.t 28)]), (some (25, false)), [13, 10, 10]⟩, ⟨(some 30), (.un .not (.t 29)), (some (25, false)), [14, 10]⟩, ⟨(some 31), (.pick (.t 25) (.c (.bool true)) (.t 30)), none, [10, 15]⟩, ⟨(some 32), (.mv (.t 31)), none, [16, 14]⟩, ⟨(some 33), (.bslice 3 1 [(.int .i64 0)] 1 [(0, (.c (.int .i64 1)))]), (some (32, false)), [17]⟩, ⟨(some 34), (.ld true 3 (.t 1)), (some (32, false)), [17]⟩, ⟨(some 35), (.ld true 3 (.t 2)), (some (32, false)), [17]⟩, ⟨(some 36), (.ld true 3 (.t 3)), (some (32, false)), [17]⟩, ⟨(some 37), (.bslice 80 3 [(.int .i64 0), (.int .i64 0), (.bool false)] 3 [(0, (.t 34)), (1, (.t 35)), (2, (.t 36))]), (some (32, false)), [19, 20, 21, 17]⟩, ⟨(some 38), (.call 57 [(.c (.int .i64 1)), (.c (.int .i64 1)), (.c (.int .i64 1)), (.t 33), (.c (.int .i64 0)), (.t 37)]), (some (32, false)), [18, 22, 17, 17]⟩, ⟨(some 39), (.un .not (.t 38)), (some (32, false)), [23, 17]⟩, ⟨(some 40), (.pick (.t 32) (.c (.bool true)) (.t 39)), none, [17, 24]⟩, ⟨(some 41), (.mv (.t 40)), none, [25, 23]⟩, ⟨(some 42), (.bslice 3 1 [(.int .i64 0)] 1 [(0, (.c (.int .i64 1)))]), (some (41, false)), [26]⟩, ⟨(some 43), (.ld true 3 (.t 1)), (some (41, false)), [26]⟩, ⟨(some 44), (.ld true 3 (.t 2)), (some (41, false)), [26]⟩, ⟨(some 45), (.ld true 3 (.t 3)), (some (41, false)), [26]⟩, ⟨(some 46), (.bslice 80 3 [(.int .i64 0), (.int .i64 0), (.bool false)] 3 [(0, (.t 43)), (1, (.t 44)), (2, (.t 45))]), (some (41, false)), [28, 29, 30, 26]⟩, ⟨(some 47), (.call 57 [(.c (.int .i64 2)), (.c (.int .i64 1)), (.c (.int .i64 1)), (.t 42), (.c (.int .i64 35)), (.t 46)]), (some (41, false)), [27, 31, 26, 26]⟩, ⟨(some 48), (.un .not (.t 47)), (some (41, false)), [32, 26]⟩, ⟨(some 49), (.pick (.t 41) (.c (.bool true)) (.t 48)), none, [26, 33]⟩] false) (.cond (.t 49) (.seq (.reg [⟨(some 0), (.mv (.c (.bool false))), none, []⟩] false) .ret) .skip)) (.seq (.reg [⟨(some 51), (.ld true 3 (.t 1)), none, []⟩, ⟨(some 52), (.ld true 3 (.t 2)), none, []⟩, ⟨(some 53), (.bslice 80 3 [(.int .i64 0), (.int .i64 0), (.bool false)] 2 [(0, (.t 51)), (1, (.t 52))]), none, [0, 1]⟩, ⟨(some 54), (.call 36 [(.t 53), (.c (.int .i64 1)), (.c (.int .i64 0))]), none, [2]⟩, ⟨(some 50), (.mv (.t 54)), none, [3]⟩, ⟨(some 55), (.ext (.t 50) 0), none, [4]⟩, ⟨(some 56), (.ext (.t 50) 1), none, [4]⟩, ⟨(some 4), (.mv (.t 55)), none, [5, 3, 0, 1, 2, 3, 4, 5]⟩, ⟨(some 5), (.mv (.t 56)), none, [6, 7, 0, 1, 2, 3, 4, 5, 6, 7]⟩] false) (.seq (.reg [⟨(some 58), (.ld true 3 (.t 1)), none, []⟩, ⟨(some 59), (.ld true 3 (.t 2)), none, []⟩, ⟨(some 60), (.bslice 80 3 [(.int .i64 0), (.int .i64 0), (.bool false)] 2 [(0, (.t 58)), (1, (.t 59))]), none, [0, 1]⟩, ⟨(some 61), (.call 39 [(.t 60), (.c (.int .i64 1)), (.c (.int .i64 0))]), none, [2]⟩, ⟨(some 57), (.mv (.t 61)), none, [3]⟩, ⟨(some 62), (.ext (.t 57) 0), none, [4]⟩, ⟨(some 63), (.ext (.t 57) 1), none, [4]⟩, ⟨(some 6), (.mv (.t 62)), none, [5, 3, 0, 1, 2, 3, 4, 5]⟩, ⟨(some 7), (.mv (.t 63)), none, [6, 7, 0, 1, 2, 3, 4, 5, 6, 7]⟩] false) (.seq (.reg [⟨(some 64), (.ld true 3 (.t 1)), none, []⟩, ⟨(some 65), (.build [(.int .i64 0), (.int .i64 0), (.bool false)] [(1, (1, (.c (.int .i64 1))))]), none, []⟩, ⟨(some 66), (.build [(.int .i64 0), (.int .i64 0), (.bool false)] [(0, (1, (.c (.int .i64 1)))), (1, (1, (.c (.int .i64 1)))), (2, (1, (.c (.bool true))))]), none, []⟩, ⟨(some 67), (.ld true 3 (.t 2)), none, []⟩, ⟨(some 68), (.bslice 80 3 [(.int .i64 0), (.int .i64 0), (.bool false)] 4 [(0, (.t 64)), (1, (.t 65)), (2, (.t 66)), (3, (.t 67))]), none, [0, 1, 2, 3]⟩, ⟨(some 8), (.mv (.t 68)), none, [4, 0, 1, 2, 3, 4]⟩] false) (.seq (.reg [⟨(some 70), (.mv (.t 8)), none, []⟩, ⟨(some 71), (.call 36 [(.t 70), (.c (.int .i64 2)), (.c (.int .i64 1))]), none, [0]⟩, ⟨(some 69), (.mv (.t 71)), none, [1]⟩, ⟨(some 72), (.ext (.t 69) 0), none, [2]⟩, ⟨(some 73), (.ext (.t 69) 1), none, [2]⟩, ⟨(some 9), (.mv (.t 72)), none, [3, 1, 0, 1, 2, 3]⟩, ⟨(some 10), (.mv (.t 73)), none, [4, 5, 0, 1, 2, 3, 4, 5]⟩] false) (.seq (.reg [⟨(some 74), (.bslice 3 1 [(.int .i64 0)] 2 [(0, (.c (.int .i64 1))), (1, (.c (.int .i64 1)))]), none, []⟩, ⟨(some 75), (.build [(.str (.mk (.mk []))), .nils, .nils] [(2, (1, (.t 74)))]), none, [0]⟩, ⟨(some 11), (.alloc 74 3 [(.str (.mk (.mk []))), .nils, .nils]), none, []⟩, ⟨none, (.st 3 (.t 11) (.t 75)), none, [2, 1, 0, 1, 2]⟩] false) (.seq (.reg [⟨(some 76), (.mv (.t 5)), none, []⟩, ⟨(some 77), (.bin .eql (.t 76) (.c (.int .i64 21))), none, [0]⟩, ⟨(some 78), (.mv (.t 77)), none, [1]⟩, ⟨(some 79), (.mv (.t 7)), (some (78, true)), [2]⟩, ⟨(some 80), (.bin .eql (.t 79) (.c (.int .i64 21))), (some (78, true)), [3, 2]⟩, ⟨(some 81), (.pick (.t 78) (.t 80) (.c (.bool false))), none, [2, 4]⟩, ⟨(some 82), (.mv (.t 81)), none, [5, 2]⟩, ⟨(some 83), (.bslice 3 1 [(.int .i64 0)] 1 [(0, (.c (.int .i64 3)))]), (some (82, true)), [6]⟩, ⟨(some 84), (.build [(.str (.mk (.mk []))), .nils, .nils] [(2, (1, (.t 83)))]), (some (82, true)), [7, 6]⟩, ⟨(some 85), (.ld true 3 (.t 1)), (some (82, true)), [6]⟩, ⟨(some 86), (.ld true 3 (.t 2)), (some (82, true)), [6]⟩, ⟨(some 87), (.bslice 80 3 [(.int .i64 0), (.int .i64 0), (.bool false)] 2 [(0, (.t 85)), (1, (.t 86))]), (some (82, true)), [9, 10, 6]⟩, ⟨(some 88), (.call 42 [(.t 84), (.t 87), (.c (.int .i64 0))]), (some (82, true)), [8, 11, 6, 6]⟩, ⟨(some 89), (.bin .eql (.t 88) (.c (.int .i64 21))), (some (82, true)), [12, 6]⟩, ⟨(some 90), (.pick (.t 82) (.t 89) (.c (.bool false))), none, [6, 13]⟩, ⟨(some 91), (.mv (.t 90)), none, [14, 12]⟩, ⟨(some 92), (.mv (.t 10)), (some (91, true)), [15]⟩, ⟨(some 93), (.bin .eql (.t 92) (.c (.int .i64 0))), (some (91, true)), [16, 15]⟩, ⟨(some 94), (.pick (.t 91) (.t 93) (.c (.bool false))), none, [15, 17]⟩, ⟨(some 95), (.mv (.t 94)), none, [18, 15]⟩, ⟨(some 96), (.mv (.t 9)), (some (95, true)), [19]⟩, ⟨(some 97), (.bslice 3 1 [(.int .i64 0)] 2 [(0, (.c (.int .i64 0))), (1, (.c (.int .i64 0)))]), (some (95, true)), [19]⟩, ⟨(some 98), (.call 38 [(.t 96), (.t 97)]), (some (95, true)), [20, 21, 19, 19]⟩, ⟨(some 99), (.pick (.t 95) (.t 98) (.c (.bool false))), none, [19, 22]⟩, ⟨(some 100), (.mv (.t 99)), none, [23, 22]⟩, ⟨(some 101), (.ld true 3 (.t 11)), (some (100, true)), [24]⟩, ⟨(some 102), (.mv (.t 8)), (some (100, true)), [24]⟩, ⟨(some 103), (.call 42 [(.t 101), (.t 102), (.c (.int .i64 1))]), (some (100, true)), [25, 26, 24, 24]⟩, ⟨(some 104), (.bin .eql (.t 103) (.c (.int .i64 35))), (some (100, true)), [27, 24]⟩, ⟨(some 105), (.pick (.t 100) (.t 104) (.c (.bool false))), none, [24, 28]⟩, ⟨(some 106), (.mv (.t 105)), none, [29, 27]⟩, ⟨(some 107), (.build [(.int .i64 0), (.int .i64 0), (.bool false)] [(1, (1, (.c (.int .i64 1))))]), (some (106, true)), [30]⟩, ⟨(some 108), (.bslice 80 3 [(.int .i64 0), (.int .i64 0), (.bool false)] 1 [(0, (.t 107))]), (some (106, true)), [31, 30]⟩, ⟨(some 109), (.call 34 [(.t 108), (.c (.int .i64 1)), (.c (.int .i64 0))]), (some (106, true)), [32, 30, 30]⟩, ⟨(some 110), (.bin .eql (.t 109) (.c (.int .i64 3))), (some (106, true)), [33, 30]⟩, ⟨(some 111), (.pick (.t 106) (.t 110) (.c (.bool false))), none, [30, 34]⟩, ⟨(some 112), (.mv (.t 111)), none, [35, 33]⟩, ⟨(some 113), (.bslice 3 1 [(.int .i64 0)] 1 [(0, (.c (.int .i64 4)))]), (some (112, true)), [36]⟩, ⟨(some 114), (.build [(.str (.mk (.mk []))), .nils, .nils] [(2, (1, (.t 113)))]), (some (112, true)), [37, 36]⟩, ⟨(some 115), (.call 42 [(.t 114), (.c .nils), (.c (.int .i64 0))]), (some (112, true)), [38, 36, 36]⟩, ⟨(some 116), (.bin .eql (.t 115) (.c (.int .i64 1))), (some (112, true)), [39, 36]⟩, ⟨(some 117), (.pick (.t 112) (.t 116) (.c (.bool false))), none, [36, 40]⟩, ⟨(some 0), (.mv (.t 117)), none, [41, 39, 0, 1, 2, 3, 4, 5, 6, 7, 8, 9, 10, 11, 12, 13, 14, 15, 16, 17, 18, 19, 20, 21, 22, 23, 24, 25, 26, 27, 28, 29, 30, 31, 32, 33, 34, 35, 36, 37, 38, 39, 40, 41]⟩] false) .ret)))))))))
theorem mcOk31 : (match Try.f31.body with | some c => compC Try.prog 118 c | none => none) = some mc31 := by kernel_rfl

theorem fc31  : FC Try.prog 31 [] [] (.bool true) [] false := by
  refine fc_run (nt := 118) Try.func31 rfl rfl mcOk31 (Nat.le_of_ble_eq_true rfl) ?_
  delta mc31
  refine aw_seq ?_
  refine aw_reg ?_
  refine rs_mv rfl rfl ?_
  refine rs_nil fun _ => ?_
  refine th_n ?_
  refine aw_seq ?_
  refine aw_reg ?_
  refine rs_build rfl rfl ?_
  refine rs_build rfl rfl ?_
  refine rs_build rfl rfl ?_
  refine rs_alloc rfl rfl rfl ?_
  refine rs_alloc rfl rfl rfl ?_
  refine rs_alloc rfl rfl rfl ?_
  refine rs_st (els' := [cS (⟨0, 0, true⟩ : Sg)]) rfl rfl rfl rfl rfl rfl rfl (Nat.le_of_ble_eq_true rfl) rfl rfl ?_
  refine rs_st (els' := [cS (⟨1, 0, false⟩ : Sg)]) rfl rfl rfl rfl rfl rfl rfl (Nat.le_of_ble_eq_true rfl) rfl rfl ?_
  refine rs_st (els' := [cS (⟨2, 0, true⟩ : Sg)]) rfl rfl rfl rfl rfl rfl rfl (Nat.le_of_ble_eq_true rfl) rfl rfl ?_
  refine rs_nil fun _ => ?_
  refine th_n ?_
  refine aw_seq ?_
  refine aw_seq ?_
  refine aw_reg ?_
  first | refine rs_ld_pa rfl rfl rfl rfl (Nat.le_of_ble_eq_true rfl) rfl ?_ | refine rs_ld_ra rfl rfl (Nat.le_of_ble_eq_true rfl) rfl ?_ | refine rs_ld_ma rfl rfl rfl (by omega) (Nat.le_of_ble_eq_true rfl) rfl ?_
  refine rs_bslice rfl rfl rfl rfl rfl rfl ?_
  refine rs_calln [16] rfl rfl (fc57 [(⟨0, 0, true⟩ : Sg)] 1 0 1 0 [] (by decide) (by decide) (by decide +kernel) (by decide +kernel) (by decide +kernel) (by decide +kernel)) (.cons (hv_same rfl) (.cons (hv_same rfl) (.cons (hv_same rfl) (.cons (hv_nils) (.cons (hv_same rfl) (.cons (hv_sl (by simp) rfl (Nat.le_of_ble_eq_true rfl) rfl) (.nil))))))) rfl ?_
  refine rs_not rfl rfl ?_
  refine rs_mv rfl rfl ?_
  first | refine rs_ld_pa rfl rfl rfl rfl (Nat.le_of_ble_eq_true rfl) rfl ?_ | refine rs_ld_ra rfl rfl (Nat.le_of_ble_eq_true rfl) rfl ?_ | refine rs_ld_ma rfl rfl rfl (by omega) (Nat.le_of_ble_eq_true rfl) rfl ?_
  refine rs_bslice rfl rfl rfl rfl rfl rfl ?_
  refine rs_calln [21] rfl rfl (fc57 [(⟨0, 0, true⟩ : Sg)] 1 1 0 5 [] (by decide) (by decide) (by decide +kernel) (by decide +kernel) (by decide +kernel) (by decide +kernel)) (.cons (hv_same rfl) (.cons (hv_same rfl) (.cons (hv_same rfl) (.cons (hv_nils) (.cons (hv_same rfl) (.cons (hv_sl (by simp) rfl (Nat.le_of_ble_eq_true rfl) rfl) (.nil))))))) rfl ?_
  refine rs_not rfl rfl ?_
  refine rs_pick rfl rfl rfl ?_
  refine rs_mv rfl rfl ?_
  first | refine rs_ld_pa rfl rfl rfl rfl (Nat.le_of_ble_eq_true rfl) rfl ?_ | refine rs_ld_ra rfl rfl (Nat.le_of_ble_eq_true rfl) rfl ?_ | refine rs_ld_ma rfl rfl rfl (by omega) (Nat.le_of_ble_eq_true rfl) rfl ?_
  first | refine rs_ld_pa rfl rfl rfl rfl (Nat.le_of_ble_eq_true rfl) rfl ?_ | refine rs_ld_ra rfl rfl (Nat.le_of_ble_eq_true rfl) rfl ?_ | refine rs_ld_ma rfl rfl rfl (by omega) (Nat.le_of_ble_eq_true rfl) rfl ?_
  refine rs_bslice rfl rfl rfl rfl rfl rfl ?_
  refine rs_calln [28] rfl rfl (fc57 [(⟨0, 0, true⟩ : Sg), (⟨1, 0, false⟩ : Sg)] 1 1 0 5 [] (by decide) (by decide) (by decide +kernel) (by decide +kernel) (by decide +kernel) (by decide +kernel)) (.cons (hv_same rfl) (.cons (hv_same rfl) (.cons (hv_same rfl) (.cons (hv_nils) (.cons (hv_same rfl) (.cons (hv_sl (by simp) rfl (Nat.le_of_ble_eq_true rfl) rfl) (.nil))))))) rfl ?_
  refine rs_not rfl rfl ?_
  refine rs_pick rfl rfl rfl ?_
  refine rs_mv rfl rfl ?_
  refine rs_bslice rfl rfl rfl rfl rfl rfl ?_
  first | refine rs_ld_pa rfl rfl rfl rfl (Nat.le_of_ble_eq_true rfl) rfl ?_ | refine rs_ld_ra rfl rfl (Nat.le_of_ble_eq_true rfl) rfl ?_ | refine rs_ld_ma rfl rfl rfl (by omega) (Nat.le_of_ble_eq_true rfl) rfl ?_
  first | refine rs_ld_pa rfl rfl rfl rfl (Nat.le_of_ble_eq_true rfl) rfl ?_ | refine rs_ld_ra rfl rfl (Nat.le_of_ble_eq_true rfl) rfl ?_ | refine rs_ld_ma rfl rfl rfl (by omega) (Nat.le_of_ble_eq_true rfl) rfl ?_
  first | refine rs_ld_pa rfl rfl rfl rfl (Nat.le_of_ble_eq_true rfl) rfl ?_ | refine rs_ld_ra rfl rfl (Nat.le_of_ble_eq_true rfl) rfl ?_ | refine rs_ld_ma rfl rfl rfl (by omega) (Nat.le_of_ble_eq_true rfl) rfl ?_
  refine rs_bslice rfl rfl rfl rfl rfl rfl ?_
  refine rs_calln [33, 37] rfl rfl (fc57 [(⟨0, 0, true⟩ : Sg), (⟨1, 0, false⟩ : Sg), (⟨2, 0, true⟩ : Sg)] 1 1 1 0 [1] (by decide) (by decide) (by decide +kernel) (by decide +kernel) (by decide +kernel) (by decide +kernel)) (.cons (hv_same rfl) (.cons (hv_same rfl) (.cons (hv_same rfl) (.cons (hv_sl (by simp) rfl (Nat.le_of_ble_eq_true rfl) rfl) (.cons (hv_same rfl) (.cons (hv_sl (by simp) rfl (Nat.le_of_ble_eq_true rfl) rfl) (.nil))))))) rfl ?_
  refine rs_not rfl rfl ?_
  refine rs_pick rfl rfl rfl ?_
  refine rs_mv rfl rfl ?_
  refine rs_bslice rfl rfl rfl rfl rfl rfl ?_
  first | refine rs_ld_pa rfl rfl rfl rfl (Nat.le_of_ble_eq_true rfl) rfl ?_ | refine rs_ld_ra rfl rfl (Nat.le_of_ble_eq_true rfl) rfl ?_ | refine rs_ld_ma rfl rfl rfl (by omega) (Nat.le_of_ble_eq_true rfl) rfl ?_
  first | refine rs_ld_pa rfl rfl rfl rfl (Nat.le_of_ble_eq_true rfl) rfl ?_ | refine rs_ld_ra rfl rfl (Nat.le_of_ble_eq_true rfl) rfl ?_ | refine rs_ld_ma rfl rfl rfl (by omega) (Nat.le_of_ble_eq_true rfl) rfl ?_
  first | refine rs_ld_pa rfl rfl rfl rfl (Nat.le_of_ble_eq_true rfl) rfl ?_ | refine rs_ld_ra rfl rfl (Nat.le_of_ble_eq_true rfl) rfl ?_ | refine rs_ld_ma rfl rfl rfl (by omega) (Nat.le_of_ble_eq_true rfl) rfl ?_
  refine rs_bslice rfl rfl rfl rfl rfl rfl ?_
  refine rs_calln [42, 46] rfl rfl (fc57 [(⟨0, 0, true⟩ : Sg), (⟨1, 0, false⟩ : Sg), (⟨2, 0, true⟩ : Sg)] 2 1 1 35 [1] (by decide) (by decide) (by decide +kernel) (by decide +kernel) (by decide +kernel) (by decide +kernel)) (.cons (hv_same rfl) (.cons (hv_same rfl) (.cons (hv_same rfl) (.cons (hv_sl (by simp) rfl (Nat.le_of_ble_eq_true rfl) rfl) (.cons (hv_same rfl) (.cons (hv_sl (by simp) rfl (Nat.le_of_ble_eq_true rfl) rfl) (.nil))))))) rfl ?_
  refine rs_not rfl rfl ?_
  refine rs_pick rfl rfl rfl ?_
  refine rs_nil fun _ => ?_
  refine th_n ?_
  refine aw_cond rfl (fun h => by cases h) (fun _ => ?_)
  refine aw_skip ?_
  refine th_n ?_
  refine aw_seq ?_
  refine aw_reg ?_
  first | refine rs_ld_pa rfl rfl rfl rfl (Nat.le_of_ble_eq_true rfl) rfl ?_ | refine rs_ld_ra rfl rfl (Nat.le_of_ble_eq_true rfl) rfl ?_ | refine rs_ld_ma rfl rfl rfl (by omega) (Nat.le_of_ble_eq_true rfl) rfl ?_
  first | refine rs_ld_pa rfl rfl rfl rfl (Nat.le_of_ble_eq_true rfl) rfl ?_ | refine rs_ld_ra rfl rfl (Nat.le_of_ble_eq_true rfl) rfl ?_ | refine rs_ld_ma rfl rfl rfl (by omega) (Nat.le_of_ble_eq_true rfl) rfl ?_
  refine rs_bslice rfl rfl rfl rfl rfl rfl ?_
  refine rs_calln [53] rfl rfl (ni54) (.cons (hv_sl (by simp) rfl (Nat.le_of_ble_eq_true rfl) rfl) (.cons (hv_same rfl) (.cons (hv_same rfl) (.nil)))) rfl ?_
  refine rs_mv rfl rfl ?_
  refine rs_ext rfl rfl rfl ?_
  refine rs_ext rfl rfl rfl ?_
  refine rs_mv rfl rfl ?_
  refine rs_mv rfl rfl ?_
  refine rs_nil fun _ => ?_
  refine th_n ?_
  refine aw_seq ?_
  refine aw_reg ?_
  first | refine rs_ld_pa rfl rfl rfl rfl (Nat.le_of_ble_eq_true rfl) rfl ?_ | refine rs_ld_ra rfl rfl (Nat.le_of_ble_eq_true rfl) rfl ?_ | refine rs_ld_ma rfl rfl rfl (by omega) (Nat.le_of_ble_eq_true rfl) rfl ?_
  first | refine rs_ld_pa rfl rfl rfl rfl (Nat.le_of_ble_eq_true rfl) rfl ?_ | refine rs_ld_ra rfl rfl (Nat.le_of_ble_eq_true rfl) rfl ?_ | refine rs_ld_ma rfl rfl rfl (by omega) (Nat.le_of_ble_eq_true rfl) rfl ?_
  refine rs_bslice rfl rfl rfl rfl rfl rfl ?_
  refine rs_calln [60] rfl rfl (ni61) (.cons (hv_sl (by simp) rfl (Nat.le_of_ble_eq_true rfl) rfl) (.cons (hv_same rfl) (.cons (hv_same rfl) (.nil)))) rfl ?_
  refine rs_mv rfl rfl ?_
  refine rs_ext rfl rfl rfl ?_
  refine rs_ext rfl rfl rfl ?_
  refine rs_mv rfl rfl ?_
  refine rs_mv rfl rfl ?_
  refine rs_nil fun _ => ?_
  refine th_n ?_
  refine aw_seq ?_
  refine aw_reg ?_
  first | refine rs_ld_pa rfl rfl rfl rfl (Nat.le_of_ble_eq_true rfl) rfl ?_ | refine rs_ld_ra rfl rfl (Nat.le_of_ble_eq_true rfl) rfl ?_ | refine rs_ld_ma rfl rfl rfl (by omega) (Nat.le_of_ble_eq_true rfl) rfl ?_
  refine rs_build rfl rfl ?_
  refine rs_build rfl rfl ?_
  first | refine rs_ld_pa rfl rfl rfl rfl (Nat.le_of_ble_eq_true rfl) rfl ?_ | refine rs_ld_ra rfl rfl (Nat.le_of_ble_eq_true rfl) rfl ?_ | refine rs_ld_ma rfl rfl rfl (by omega) (Nat.le_of_ble_eq_true rfl) rfl ?_
  refine rs_bslice rfl rfl rfl rfl rfl rfl ?_
  refine rs_mv rfl rfl ?_
  refine rs_nil fun _ => ?_
  refine th_n ?_
  refine aw_seq ?_
  refine aw_reg ?_
  refine rs_mv rfl rfl ?_
  refine rs_calln [68] rfl rfl (ni71) (.cons (hv_sl (by simp) rfl (Nat.le_of_ble_eq_true rfl) rfl) (.cons (hv_same rfl) (.cons (hv_same rfl) (.nil)))) rfl ?_
  refine rs_mv rfl rfl ?_
  refine rs_ext rfl rfl rfl ?_
  refine rs_ext rfl rfl rfl ?_
  refine rs_mv rfl rfl ?_
  refine rs_mv rfl rfl ?_
  refine rs_nil fun _ => ?_
  refine th_n ?_
  refine aw_seq ?_
  refine aw_reg ?_
  refine rs_bslice rfl rfl rfl rfl rfl rfl ?_
  refine rs_build rfl rfl ?_
  refine rs_alloc rfl rfl rfl ?_
  refine rs_st rfl rfl rfl rfl rfl rfl rfl (Nat.le_of_ble_eq_true rfl) rfl rfl ?_
  refine rs_nil fun _ => ?_
  refine th_n ?_
  refine aw_seq ?_
  refine aw_reg ?_
  refine rs_mv rfl rfl ?_
  refine rs_cmp_t rfl rfl rfl rfl rfl ?_
  refine rs_mv rfl rfl ?_
  refine rs_mv rfl rfl ?_
  refine rs_cmp_t rfl rfl rfl rfl rfl ?_
  refine rs_pick rfl rfl rfl ?_
  refine rs_mv rfl rfl ?_
  refine rs_bslice rfl rfl rfl rfl rfl rfl ?_
  refine rs_build rfl rfl ?_
  first | refine rs_ld_pa rfl rfl rfl rfl (Nat.le_of_ble_eq_true rfl) rfl ?_ | refine rs_ld_ra rfl rfl (Nat.le_of_ble_eq_true rfl) rfl ?_ | refine rs_ld_ma rfl rfl rfl (by omega) (Nat.le_of_ble_eq_true rfl) rfl ?_
  first | refine rs_ld_pa rfl rfl rfl rfl (Nat.le_of_ble_eq_true rfl) rfl ?_ | refine rs_ld_ra rfl rfl (Nat.le_of_ble_eq_true rfl) rfl ?_ | refine rs_ld_ma rfl rfl rfl (by omega) (Nat.le_of_ble_eq_true rfl) rfl ?_
  refine rs_bslice rfl rfl rfl rfl rfl rfl ?_
  refine rs_calln [83, 87] rfl rfl (nv88) (.cons (hv_agg (.cons (hv_same rfl) (.cons (hv_same rfl) (.cons (hv_sl (by simp) rfl (Nat.le_of_ble_eq_true rfl) rfl) .nil)))) (.cons (hv_sl (by simp) rfl (Nat.le_of_ble_eq_true rfl) rfl) (.cons (hv_same rfl) (.nil)))) rfl ?_
  refine rs_cmp_t rfl rfl rfl rfl rfl ?_
  refine rs_pick rfl rfl rfl ?_
  refine rs_mv rfl rfl ?_
  refine rs_mv rfl rfl ?_
  refine rs_cmp_t rfl rfl rfl rfl rfl ?_
  refine rs_pick rfl rfl rfl ?_
  refine rs_mv rfl rfl ?_
  refine rs_mv rfl rfl ?_
  refine rs_bslice rfl rfl rfl rfl rfl rfl ?_
  refine rs_calln [97] rfl rfl (fc38_t [0, 0] (by decide)) (.cons (hv_same rfl) (.cons (hv_sl (by simp) rfl (Nat.le_of_ble_eq_true rfl) rfl) (.nil))) rfl ?_
  refine rs_pick rfl rfl rfl ?_
  refine rs_mv rfl rfl ?_
  first | refine rs_ld_pa rfl rfl rfl rfl (Nat.le_of_ble_eq_true rfl) rfl ?_ | refine rs_ld_ra rfl rfl (Nat.le_of_ble_eq_true rfl) rfl ?_ | refine rs_ld_ma rfl rfl rfl (by omega) (Nat.le_of_ble_eq_true rfl) rfl ?_
  refine rs_mv rfl rfl ?_
  refine rs_calln [74, 68] rfl rfl (nv103) (.cons (hv_agg (.cons (hv_same rfl) (.cons (hv_same rfl) (.cons (hv_sl (by simp) rfl (Nat.le_of_ble_eq_true rfl) rfl) .nil)))) (.cons (hv_sl (by simp) rfl (Nat.le_of_ble_eq_true rfl) rfl) (.cons (hv_same rfl) (.nil)))) rfl ?_
  refine rs_cmp_t rfl rfl rfl rfl rfl ?_
  refine rs_pick rfl rfl rfl ?_
  refine rs_mv rfl rfl ?_
  refine rs_build rfl rfl ?_
  refine rs_bslice rfl rfl rfl rfl rfl rfl ?_
  refine rs_calln [108] rfl rfl (nc109) (.cons (hv_sl (by simp) rfl (Nat.le_of_ble_eq_true rfl) rfl) (.cons (hv_same rfl) (.cons (hv_same rfl) (.nil)))) rfl ?_
  refine rs_cmp_t rfl rfl rfl rfl rfl ?_
  refine rs_pick rfl rfl rfl ?_
  refine rs_mv rfl rfl ?_
  refine rs_bslice rfl rfl rfl rfl rfl rfl ?_
  refine rs_build rfl rfl ?_
  refine rs_calln [113] rfl rfl (nv115) (.cons (hv_agg (.cons (hv_same rfl) (.cons (hv_same rfl) (.cons (hv_sl (by simp) rfl (Nat.le_of_ble_eq_true rfl) rfl) .nil)))) (.cons (hv_nils) (.cons (hv_same rfl) (.nil)))) rfl ?_
  refine rs_cmp_t rfl rfl rfl rfl rfl ?_
  refine rs_pick rfl rfl rfl ?_
  refine rs_mv rfl rfl ?_
  refine rs_nil fun _ => ?_
  refine th_n ?_
  refine aw_ret ?_
  exact ret_pure rfl rfl rfl (.inr rfl)

end Go.Proofs.Ytadjdnhnbkcakaa

/-! What Cells, Liars and Verdict say, told by truths that agree. No program in sight. -/
namespace Go.Proofs.Ytadjdnhnbkcakaa
open Go.RowKit

/-- A truth that agrees, with a small set of gauges that may lie. -/
structure AgI (l : List Sg) (lies : Int) (s : Nat) (T : Nat → Bool) : Prop where
  lt : s < 256
  small : (sizeS s 8 : Int) ≤ lies
  says : ∀ r ∈ l, hasS s r.gauge.toNat = true ∨ r.there = T r.cell.toNat

section
variable {l : List Sg} {lies : Int}
theorem exI_iff {s : Nat} : exI l lies s = true ↔ (sizeS s 8 : Int) ≤ lies ∧ thM l s &&& goM l s = 0 := by
  unfold exI
  simp only [Bool.and_eq_true, decide_eq_true_eq]
theorem agI_th {s : Nat} (hs : s < 256) (h : exI l lies s = true) : AgI l lies s fun c => (thM l s).testBit c := by
  obtain ⟨h1, h2⟩ := exI_iff.1 h
  refine ⟨hs, h1, fun r hr => ?_⟩
  cases hg : hasS s r.gauge.toNat
  · right
    cases ht : r.there
    · have hgo : (goM l s).testBit r.cell.toNat = true := goM_bit.2 ⟨r, hr, hg, ht, rfl⟩
      cases e : (thM l s).testBit r.cell.toNat
      · rfl
      · exact absurd ⟨e, hgo⟩ ((and_zero.1 h2) _)
    · exact (thM_bit.2 ⟨r, hr, hg, ht, rfl⟩).symm
  · exact .inl rfl
theorem agI_go {s : Nat} (hs : s < 256) (h : exI l lies s = true) : AgI l lies s fun c => !(goM l s).testBit c := by
  obtain ⟨h1, h2⟩ := exI_iff.1 h
  refine ⟨hs, h1, fun r hr => ?_⟩
  cases hg : hasS s r.gauge.toNat
  · right
    cases ht : r.there
    · rw [goM_bit.2 ⟨r, hr, hg, ht, rfl⟩]; rfl
    · have hth : (thM l s).testBit r.cell.toNat = true := thM_bit.2 ⟨r, hr, hg, ht, rfl⟩
      cases e : (goM l s).testBit r.cell.toNat
      · rfl
      · exact absurd ⟨hth, e⟩ ((and_zero.1 h2) _)
  · exact .inl rfl
theorem agI_thM {s : Nat} {T : Nat → Bool} (h : AgI l lies s T) {c : Nat} (hb : (thM l s).testBit c = true) : T c = true := by
  obtain ⟨r, hr, h1, h2, h3⟩ := thM_bit.1 hb
  rcases h.says r hr with e | e
  · rw [h1] at e; cases e
  · rw [← h3, ← e]; exact h2
theorem agI_goM {s : Nat} {T : Nat → Bool} (h : AgI l lies s T) {c : Nat} (hb : (goM l s).testBit c = true) : T c = false := by
  obtain ⟨r, hr, h1, h2, h3⟩ := goM_bit.1 hb
  rcases h.says r hr with e | e
  · rw [h1] at e; cases e
  · rw [← h3, ← e]; exact h2
theorem agI_ex {s : Nat} {T : Nat → Bool} (h : AgI l lies s T) : exI l lies s = true := by
  refine exI_iff.2 ⟨h.small, and_zero.2 fun i ⟨a, b⟩ => ?_⟩
  have := agI_thM h a
  rw [agI_goM h b] at this; cases this
theorem ts_ne : tsK l lies 256 ≠ [] ↔ ∃ s T, AgI l lies s T := by
  constructor
  · intro h
    obtain ⟨t, ht⟩ := List.exists_mem_of_ne_nil _ h
    obtain ⟨s, hs, hx, rfl⟩ := mem_tsK.1 ht
    exact ⟨s, _, agI_th hs hx⟩
  · rintro ⟨s, T, h⟩ e
    have : mkT l s ∈ tsK l lies 256 := mem_tsK.2 ⟨s, h.lt, agI_ex h, rfl⟩
    rw [e] at this
    simp at this
theorem whole_th (h : tsK l lies 256 ≠ []) (c : Nat) : (wholeT (tsK l lies 256)).1.testBit c = true ↔ ∀ s T, AgI l lies s T → T c = true := by
  rw [whole_bit (fun t => t.1) (fun _ _ => rfl) h]
  constructor
  · intro a s T hT
    exact agI_thM hT (a _ (mem_tsK.2 ⟨s, hT.lt, agI_ex hT, rfl⟩))
  · intro a t ht
    obtain ⟨s, hs, hx, rfl⟩ := mem_tsK.1 ht
    exact a s _ (agI_th hs hx)
theorem whole_go (h : tsK l lies 256 ≠ []) (c : Nat) : (wholeT (tsK l lies 256)).2.1.testBit c = true ↔ ∀ s T, AgI l lies s T → T c = false := by
  rw [whole_bit (fun t => t.2.1) (fun _ _ => rfl) h]
  constructor
  · intro a s T hT
    exact agI_goM hT (a _ (mem_tsK.2 ⟨s, hT.lt, agI_ex hT, rfl⟩))
  · intro a t ht
    obtain ⟨s, hs, hx, rfl⟩ := mem_tsK.1 ht
    have := a s _ (agI_go hs hx)
    show (goM l s).testBit c = true
    simpa using this
theorem whole_li (h : tsK l lies 256 ≠ []) (p : Nat) : hasS (wholeT (tsK l lies 256)).2.2 p = true ↔ ∀ s T, AgI l lies s T → hasS s p = true := by
  have hw : hasS (wholeT (tsK l lies 256)).2.2 p = true ↔ ∀ t ∈ tsK l lies 256, t.2.2.testBit p = true := whole_bit (fun t => t.2.2) (fun _ _ => rfl) h p
  rw [hw]
  constructor
  · intro a s T hT
    exact a _ (mem_tsK.2 ⟨s, hT.lt, agI_ex hT, rfl⟩)
  · intro a t ht
    obtain ⟨s, hs, hx, rfl⟩ := mem_tsK.1 ht
    exact a s _ (agI_th hs hx)

/-- The gauges that lie in a truth. -/
def lieI (l : List Sg) (T : Nat → Bool) (m : Nat) : Nat := l.foldl (fun m r => if r.there = T r.cell.toNat then m else m ||| 2 ^ r.gauge.toNat) m
def Gok (l : List Sg) : Prop := ∀ r ∈ l, 0 ≤ r.gauge ∧ r.gauge < 8
theorem lieI_has {T : Nat → Bool} {q : Nat} : ∀ (l : List Sg) (m : Nat), hasS (lieI l T m) q = true ↔ hasS m q = true ∨ ∃ r ∈ l, r.gauge.toNat = q ∧ r.there ≠ T r.cell.toNat
  | [], m => by simp [lieI]
  | r :: l, m => by
    show hasS (lieI l T (if r.there = T r.cell.toNat then m else m ||| 2 ^ r.gauge.toNat)) q = true ↔ _
    rw [lieI_has l]
    by_cases hb : r.there = T r.cell.toNat
    · rw [if_pos hb]
      simp only [List.mem_cons]
      constructor
      · rintro (h | ⟨r', h1, h2⟩)
        · exact .inl h
        · exact .inr ⟨r', .inr h1, h2⟩
      · rintro (h | ⟨r', rfl | h1, h2, h3⟩)
        · exact .inl h
        · exact absurd hb h3
        · exact .inr ⟨r', h1, h2, h3⟩
    · rw [if_neg hb, hasS_or]
      simp only [Bool.or_eq_true, decide_eq_true_eq, List.mem_cons]
      constructor
      · rintro ((h | h) | ⟨r', h1, h2⟩)
        · exact .inl h
        · exact .inr ⟨r, .inl rfl, h, hb⟩
        · exact .inr ⟨r', .inr h1, h2⟩
      · rintro (h | ⟨r', rfl | h1, h2, h3⟩)
        · exact .inl (.inl h)
        · exact .inl (.inr h2)
        · exact .inr ⟨r', h1, h2, h3⟩
theorem lieI_lt {T : Nat → Bool} : ∀ (l : List Sg) (m : Nat), Gok l → m < 256 → lieI l T m < 256
  | [], m, _, hm => hm
  | r :: l, m, hl, hm => by
    show lieI l T (if r.there = T r.cell.toNat then m else m ||| 2 ^ r.gauge.toNat) < 256
    have h0 := hl r (by simp)
    refine lieI_lt l _ (fun r h => hl r (by simp [h])) ?_
    split
    · exact hm
    · exact or_pow_lt m hm _ (by omega)
theorem agI_iff {T : Nat → Bool} (hg : Gok l) : (∃ s, AgI l lies s T) ↔ (sizeS (lieI l T 0) 8 : Int) ≤ lies := by
  constructor
  · rintro ⟨s, hs⟩
    have hsub : ∀ p, p < 8 → hasS (lieI l T 0) p = true → hasS s p = true := fun p _ hp => by
      rcases (lieI_has l 0).1 hp with h0 | ⟨r, hr, e, hb⟩
      · rw [hasS_0] at h0; cases h0
      · rcases hs.says r hr with h1 | h1
        · rw [← e]; exact h1
        · exact absurd h1 hb
    have := size_mono hsub 8 (Nat.le_refl _)
    have := hs.small
    omega
  · intro h
    refine ⟨_, lieI_lt l 0 hg (by decide), h, fun r hr => ?_⟩
    by_cases hb : r.there = T r.cell.toNat
    · exact .inr hb
    · exact .inl ((lieI_has l 0).2 (.inr ⟨r, hr, rfl, hb⟩))
theorem agI_lie {T : Nat → Bool} {s : Nat} (hg : Gok l) (h : AgI l lies s T) : AgI l lies (lieI l T 0) T := by
  refine ⟨lieI_lt l 0 hg (by decide), (agI_iff hg).1 ⟨s, h⟩, fun r hr => ?_⟩
  by_cases hb : r.there = T r.cell.toNat
  · exact .inr hb
  · exact .inl ((lieI_has l 0).2 (.inr ⟨r, hr, rfl, hb⟩))

/-- What Cells and Liars say where some truth agrees. -/
structure SemI (l : List Sg) (cells lies : Int) (K : List Int) (all : Nat) : Prop where
  len : K.length = cells.toNat
  val : ∀ (c : Nat) (x : Int), K[c]? = some x → (x = 1 ∧ ∀ s T, AgI l lies s T → T c = true) ∨ (x = -1 ∧ ∀ s T, AgI l lies s T → T c = false) ∨ (x = 0 ∧ (∃ s T, AgI l lies s T ∧ T c = true) ∧ ∃ s T, AgI l lies s T ∧ T c = false)
  liars : ∀ p, p < 8 → (hasS all p = true ↔ ∀ s T, AgI l lies s T → hasS s p = true)
theorem cells_sem {cells : Int} (hok : SgOk l cells lies) :
    ((∃ s T, AgI l lies s T) ∧ cellsE l cells lies = 0 ∧ ∃ all, sureL l cells lies = outK all 8 ∧ SemI l cells lies (cellsL l cells lies) all) ∨
    ((¬ ∃ s T, AgI l lies s T) ∧ cellsE l cells lies = 21 ∧ cellsL l cells lies = [] ∧ sureL l cells lies = []) := by
  have h0 := checkI_ok.2 hok
  by_cases hx : ∃ s T, AgI l lies s T
  · left
    have hts := ts_ne.2 hx
    obtain ⟨e1, e2, e3⟩ := cells_3 h0 hts
    refine ⟨hx, e1, _, e3, ?_⟩
    rw [e2]
    refine ⟨length_cellW _ _, fun c x hc => ?_, fun p _ => whole_li hts p⟩
    have hlt := lt_of_at hc
    rw [length_cellW] at hlt
    rw [cellW_at hlt] at hc
    injection hc with hc
    subst hc
    have h1 := whole_th hts c
    have h2 := whole_go hts c
    have hd := (and_zero.1 (whole_disj hts)) c
    unfold cellF bitN
    cases e1 : (wholeT (tsK l lies 256)).1.testBit c <;> cases e2 : (wholeT (tsK l lies 256)).2.1.testBit c
    · right; right
      refine ⟨by simp, ?_, ?_⟩
      · rw [e2] at h2
        have h3 : ¬ ∀ s T, AgI l lies s T → T c = false := fun h => by simpa using h2.2 h
        simp only [Classical.not_forall] at h3
        obtain ⟨s, T, a, b⟩ := h3
        exact ⟨s, T, a, by simpa using b⟩
      · rw [e1] at h1
        have h3 : ¬ ∀ s T, AgI l lies s T → T c = true := fun h => by simpa using h1.2 h
        simp only [Classical.not_forall] at h3
        obtain ⟨s, T, a, b⟩ := h3
        exact ⟨s, T, a, by simpa using b⟩
    · right; left
      exact ⟨by simp, h2.1 e2⟩
    · left
      exact ⟨by simp, h1.1 e1⟩
    · exact absurd ⟨e1, e2⟩ hd
  · right
    have hts : tsK l lies 256 = [] := by
      by_cases e : tsK l lies 256 = []
      · exact e
      · exact absurd (ts_ne.1 e) hx
    obtain ⟨e1, e2, e3⟩ := cells_2 h0 hts
    exact ⟨hx, e1, e2, e3⟩
end

/-! ### Verdict -/
/-- A truth is good for wants. -/
def GoodT (want : List Int) (T : Nat → Bool) : Prop := ∀ c, c < want.length → (want.getD c 0 = 1 → T c = true) ∧ (want.getD c 0 = 2 → T c = false)
section
variable {l : List Sg} {lies : Int} {want : List Int}
theorem goodK_iff (t : Nat) : goodK want t want.length = true ↔ GoodT want fun c => hasS t c := by
  unfold goodK GoodT
  rw [List.all_eq_true]
  constructor
  · intro h c hc
    have := h c (List.mem_range.2 hc)
    unfold goodF at this
    simp only [Bool.and_eq_true, Bool.not_eq_true', Bool.and_eq_false_iff, decide_eq_false_iff_not, Bool.not_eq_false'] at this
    exact ⟨fun e => this.1.resolve_left (fun q => q e), fun e => this.2.resolve_left (fun q => q e)⟩
  · intro h c hc
    obtain ⟨a, b⟩ := h c (List.mem_range.1 hc)
    unfold goodF
    simp only [Bool.and_eq_true, Bool.not_eq_true', Bool.and_eq_false_iff, decide_eq_false_iff_not, Bool.not_eq_false']
    refine ⟨?_, ?_⟩
    · by_cases e : want.getD c 0 = 1
      · exact .inr (a e)
      · exact .inl e
    · by_cases e : want.getD c 0 = 2
      · exact .inr (b e)
      · exact .inl e
theorem sure_good (hts : tsK l lies 256 ≠ []) (h : sureK want (wholeT (tsK l lies 256)) want.length = true) {s : Nat} {T : Nat → Bool} (hT : AgI l lies s T) : GoodT want T := fun c hc => by
  unfold sureK at h
  have h1 := (List.all_eq_true.1 h) c (List.mem_range.2 hc)
  unfold sureF at h1
  rw [decide_eq_true_eq] at h1
  have hd := whole_disj hts
  rw [(cellF_1 hd c).1, (cellF_1 hd c).2, whole_th hts, whole_go hts] at h1
  refine ⟨fun e => ?_, fun e => ?_⟩
  · rcases h1 with q | q | q
    · omega
    · exact q.1 s T hT
    · omega
  · rcases h1 with q | q | q
    · omega
    · omega
    · exact q.1 s T hT
theorem good_sure (hbw : badW want = false) (hts : tsK l lies 256 ≠ []) (h : ∀ s T, AgI l lies s T → GoodT want T) : sureK want (wholeT (tsK l lies 256)) want.length = true := by
  unfold sureK
  rw [List.all_eq_true]
  intro c hc
  have hc := List.mem_range.1 hc
  unfold sureF
  rw [decide_eq_true_eq]
  have hd := whole_disj hts
  rw [(cellF_1 hd c).1, (cellF_1 hd c).2, whole_th hts, whole_go hts]
  rcases want_cases hbw hc with e | e | e
  · exact .inr (.inl ⟨fun s T hT => (h s T hT c hc).1 e, e⟩)
  · exact .inr (.inr ⟨fun s T hT => (h s T hT c hc).2 e, e⟩)
  · exact .inl e
theorem good_fit (hbw : badW want = false) {s : Nat} {T : Nat → Bool} (hT : AgI l lies s T) (hg : GoodT want T) : fitK want (mkT l s).1 (mkT l s).2.1 want.length = true := by
  unfold fitK
  rw [List.all_eq_true]
  intro c hc
  have hc := List.mem_range.1 hc
  unfold fitF
  rw [decide_eq_true_eq]
  have hd : thM l s &&& goM l s = 0 := (exI_iff.1 (agI_ex hT)).2
  rcases want_cases hbw hc with e | e | e
  · refine .inr (.inl ⟨fun q => ?_, e⟩)
    have h1 := agI_goM hT ((leftF_1 hd c).2.1 q)
    rw [(hg c hc).1 e] at h1; cases h1
  · refine .inr (.inr ⟨fun q => ?_, e⟩)
    have h1 := agI_thM hT ((leftF_1 hd c).1.1 q)
    rw [(hg c hc).2 e] at h1; cases h1
  · exact .inl e
theorem fit_good {t : T3} (ht : t ∈ tsK l lies 256) (hf : fitK want t.1 t.2.1 want.length = true) (hcl : ∀ r ∈ l, r.cell.toNat < want.length) : ∃ s T, AgI l lies s T ∧ GoodT want T := by
  obtain ⟨s, hs, hx, rfl⟩ := mem_tsK.1 ht
  obtain ⟨h1, hd⟩ := exI_iff.1 hx
  unfold fitK at hf
  have hf := List.all_eq_true.1 hf
  refine ⟨s, fun c => if want.getD c 0 = 1 then true else if want.getD c 0 = 2 then false else (thM l s).testBit c, ⟨hs, h1, fun r hr => ?_⟩, fun c hc => ⟨fun e => if_pos e, fun e => ?_⟩⟩
  · have hag := (agI_th hs hx).says r hr
    rcases hag with e | e
    · exact .inl e
    · cases hg : hasS s r.gauge.toNat
      · right
        have hfc := hf r.cell.toNat (List.mem_range.2 (hcl r hr))
        unfold fitF at hfc
        rw [decide_eq_true_eq] at hfc
        show r.there = if want.getD r.cell.toNat 0 = 1 then true else if want.getD r.cell.toNat 0 = 2 then false else (thM l s).testBit r.cell.toNat
        by_cases w1 : want.getD r.cell.toNat 0 = 1
        · rw [if_pos w1]
          cases hth : r.there
          · have hgo : (goM l s).testBit r.cell.toNat = true := goM_bit.2 ⟨r, hr, hg, hth, rfl⟩
            have hl := (leftF_1 hd r.cell.toNat).2.2 hgo
            rcases hfc with q | q | q
            · omega
            · exact absurd hl q.1
            · omega
          · rfl
        · rw [if_neg w1]
          by_cases w2 : want.getD r.cell.toNat 0 = 2
          · rw [if_pos w2]
            cases hth : r.there
            · rfl
            · have hth' : (thM l s).testBit r.cell.toNat = true := thM_bit.2 ⟨r, hr, hg, hth, rfl⟩
              have hl := (leftF_1 hd r.cell.toNat).1.2 hth'
              rcases hfc with q | q | q
              · omega
              · omega
              · exact absurd hl q.1
          · rw [if_neg w2]; exact e
      · exact .inl rfl
  · show (if want.getD c 0 = 1 then true else if want.getD c 0 = 2 then false else (thM l s).testBit c) = false
    rw [if_neg (by omega), if_pos e]
/-- What Verdict says, told by truths. -/
theorem verd_sem (hbw : badW want = false) (hok : SgOk l want.length lies) :
    ((∃ s T, AgI l lies s T) → (((∀ s T, AgI l lies s T → GoodT want T) ∧ verdS want l lies = 0) ∨ ((∃ s T, AgI l lies s T ∧ GoodT want T) ∧ (∃ s T, AgI l lies s T ∧ ¬ GoodT want T) ∧ verdS want l lies = 5) ∨ ((∀ s T, AgI l lies s T → ¬ GoodT want T) ∧ verdS want l lies = 35))) ∧
    ((¬ ∃ s T, AgI l lies s T) → verdS want l lies = 21) := by
  have h0 := checkI_ok.2 hok
  have hcl : ∀ r ∈ l, r.cell.toNat < want.length := fun r hr => by have := hok.sg r hr; omega
  constructor
  · intro hx
    have hts := ts_ne.2 hx
    have hE := (cells_3 h0 hts).1
    cases hs : sureK want (wholeT (tsK l lies 256)) want.length
    · right
      have hbad : ∃ s T, AgI l lies s T ∧ ¬ GoodT want T := by
        have : ¬ ∀ s T, AgI l lies s T → GoodT want T := fun h => by rw [good_sure hbw hts h] at hs; cases hs
        simp only [Classical.not_forall] at this
        obtain ⟨s, T, a, b⟩ := this
        exact ⟨s, T, a, b⟩
      by_cases hg : ∃ s T, AgI l lies s T ∧ GoodT want T
      · obtain ⟨s, T, a, b⟩ := hg
        exact .inl ⟨⟨s, T, a, b⟩, hbad, verd_5 hbw hE hs (mem_tsK.2 ⟨s, a.lt, agI_ex a, rfl⟩) (good_fit hbw a b)⟩
      · right
        refine ⟨fun s T a b => hg ⟨s, T, a, b⟩, verd_6 hbw hE hs fun t ht => ?_⟩
        cases hf : fitK want t.1 t.2.1 want.length
        · rfl
        · exact absurd (fit_good ht hf hcl) hg
    · exact .inl ⟨fun s T hT => sure_good hts hs hT, verd_4 hbw hE hs⟩
  · intro hx
    have hts : tsK l lies 256 = [] := by
      by_cases e : tsK l lies 256 = []
      · exact e
      · exact absurd (ts_ne.1 e) hx
    exact verd_3 hbw h0 hts
end
end Go.Proofs.Ytadjdnhnbkcakaa

/-! Sights turned and told twice. No program in sight. -/
namespace Go.Proofs.Ytadjdnhnbkcakaa
open Go.RowKit

abbrev sgz : Sg := ⟨0, 0, false⟩
def backI (R : List Sg) (k : Nat) : List Sg := (List.range k).flatMap fun i => [R.getD (R.length - 1 - i) sgz, R.getD i sgz]
theorem backI_succ {R : List Sg} {k : Nat} {x y : Sg} (hx : R[R.length - 1 - k]? = some x) (hy : R[k]? = some y) : backI R (k + 1) = backI R k ++ [x, y] := by
  have h1 : R.getD (R.length - 1 - k) sgz = x := by simp [List.getD_eq_getElem?_getD, hx]
  have h2 : R.getD k sgz = y := by simp [List.getD_eq_getElem?_getD, hy]
  simp only [backI, List.range_succ, List.flatMap_append, List.flatMap_cons, List.flatMap_nil, List.append_nil, h1, h2]
theorem backI_len (R : List Sg) : ∀ k, (backI R k).length = 2 * k
  | 0 => rfl
  | k + 1 => by
    have e : backI R (k + 1) = backI R k ++ [R.getD (R.length - 1 - k) sgz, R.getD k sgz] := by simp [backI, List.range_succ]
    rw [e, List.length_append, backI_len R k]
    simp; omega
theorem backI_mem (R : List Sg) (r : Sg) : r ∈ backI R R.length ↔ r ∈ R := by
  have hg : ∀ i, i < R.length → R.getD i sgz ∈ R := fun i h => by
    rw [List.getD_eq_getElem?_getD, List.getElem?_eq_getElem h]; exact List.getElem_mem h
  unfold backI
  rw [List.mem_flatMap]
  constructor
  · rintro ⟨i, hi, h⟩
    have hi := List.mem_range.1 hi
    simp only [List.mem_cons, List.not_mem_nil, or_false] at h
    rcases h with rfl | rfl
    · exact hg _ (by omega)
    · exact hg _ hi
  · intro h
    obtain ⟨i, hi⟩ := List.getElem?_of_mem h
    have hlt := lt_of_at hi
    exact ⟨i, List.mem_range.2 hlt, by simp [List.getD_eq_getElem?_getD, hi]⟩
def turnG (r : Sg) : Sg := ⟨r.gauge, r.cell, !r.there⟩
def turnI (R : List Sg) (k : Nat) : List Sg := (R.take k).map turnG
theorem turnI_succ {R : List Sg} {k : Nat} {r : Sg} (h : R[k]? = some r) : turnI R (k + 1) = turnI R k ++ [⟨r.gauge, r.cell, !r.there⟩] := by
  unfold turnI
  rw [List.take_add_one, h, Option.toList_some, List.map_append]
  rfl
theorem turnI_len {R : List Sg} {k : Nat} (h : k ≤ R.length) : (turnI R k).length = k := by unfold turnI; simp; omega
theorem turnI_all (R : List Sg) : turnI R R.length = R.map turnG := by unfold turnI; rw [List.take_length]

section
variable {l l' : List Sg} {m m' : Int} {N : Nat}
theorem agI_mem (h : ∀ r, r ∈ l' → r ∈ l) {s : Nat} {T : Nat → Bool} (a : AgI l m s T) : AgI l' m s T := ⟨a.lt, a.small, fun r hr => a.says r (h r hr)⟩
theorem agI_more (h : m ≤ m') {s : Nat} {T : Nat → Bool} (a : AgI l m s T) : AgI l m' s T := ⟨a.lt, Int.le_trans a.small h, a.says⟩
theorem agI_turn {s : Nat} {T : Nat → Bool} (a : AgI l m s T) : AgI (l.map turnG) m s fun c => !T c := by
  refine ⟨a.lt, a.small, fun r hr => ?_⟩
  obtain ⟨r0, hr0, rfl⟩ := List.mem_map.1 hr
  rcases a.says r0 hr0 with h | h
  · exact .inl h
  · exact .inr (congrArg Bool.not h)
theorem agI_turn' {s : Nat} {T : Nat → Bool} (a : AgI (l.map turnG) m s T) : AgI l m s fun c => !T c := by
  refine ⟨a.lt, a.small, fun r hr => ?_⟩
  rcases a.says _ (List.mem_map_of_mem hr) with h | h
  · exact .inl h
  · refine .inr ?_
    have h : (!r.there) = T r.cell.toNat := h
    show r.there = !T r.cell.toNat
    rw [← h, Bool.not_not]
/-- Two lists of sights that the same truths, or the turned ones, agree with. -/
theorem sem_rel (sg : Bool) (hok : SgOk l N m) (hok' : SgOk l' N m) (h1 : ∀ s T, AgI l m s T → AgI l' m s fun c => (T c != sg)) (h2 : ∀ s T, AgI l' m s T → AgI l m s fun c => (T c != sg)) :
    cellsE l' N m = cellsE l N m ∧ sureL l' N m = sureL l N m ∧ (cellsL l' N m).length = (cellsL l N m).length ∧ ∀ (c : Nat) (x x' : Int), (cellsL l N m)[c]? = some x → (cellsL l' N m)[c]? = some x' → x' = if sg = true then -x else x := by
  rcases cells_sem hok with ⟨hx, a1, all, a2, a3⟩ | ⟨hx, a1, a2, a3⟩
  · rcases cells_sem hok' with ⟨hx', b1, all', b2, b3⟩ | ⟨hx', b1, b2, b3⟩
    · refine ⟨by rw [a1, b1], ?_, by rw [a3.len, b3.len], fun c x x' hc hc' => ?_⟩
      · rw [a2, b2]
        refine outK_congr fun p hp => ?_
        rw [Bool.eq_iff_iff, a3.liars p hp, b3.liars p hp]
        exact ⟨fun q s T hT => q s _ (h1 s T hT), fun q s T hT => q s _ (h2 s T hT)⟩
      · obtain ⟨s0, T0, hT0⟩ := hx
        have hT0' := h1 s0 T0 hT0
        have v := a3.val c x hc
        have v' := b3.val c x' hc'
        rcases v with ⟨rfl, q⟩ | ⟨rfl, q⟩ | ⟨rfl, ⟨s1, T1, q1, q1'⟩, ⟨s2, T2, q2, q2'⟩⟩
        · have u1 := q s0 T0 hT0
          rcases v' with ⟨rfl, u⟩ | ⟨rfl, u⟩ | ⟨rfl, ⟨s3, T3, u3, u3'⟩, ⟨s4, T4, u4, u4'⟩⟩
          · have := u _ _ hT0'
            rw [u1] at this
            cases sg
            · rfl
            · cases this
          · have := u _ _ hT0'
            rw [u1] at this
            cases sg
            · cases this
            · rfl
          · have w3 := q _ _ (h2 _ _ u3)
            have w4 := q _ _ (h2 _ _ u4)
            rw [u3'] at w3
            rw [u4'] at w4
            cases sg
            · cases w4
            · cases w3
        · have u1 := q s0 T0 hT0
          rcases v' with ⟨rfl, u⟩ | ⟨rfl, u⟩ | ⟨rfl, ⟨s3, T3, u3, u3'⟩, ⟨s4, T4, u4, u4'⟩⟩
          · have := u _ _ hT0'
            rw [u1] at this
            cases sg
            · cases this
            · rfl
          · have := u _ _ hT0'
            rw [u1] at this
            cases sg
            · rfl
            · cases this
          · have w3 := q _ _ (h2 _ _ u3)
            have w4 := q _ _ (h2 _ _ u4)
            rw [u3'] at w3
            rw [u4'] at w4
            cases sg
            · cases w3
            · cases w4
        · have w1 := h1 _ _ q1
          have w2 := h1 _ _ q2
          rcases v' with ⟨rfl, u⟩ | ⟨rfl, u⟩ | ⟨rfl, _⟩
          · have e1 := u _ _ w1
            have e2 := u _ _ w2
            rw [q1'] at e1
            rw [q2'] at e2
            cases sg
            · cases e2
            · cases e1
          · have e1 := u _ _ w1
            have e2 := u _ _ w2
            rw [q1'] at e1
            rw [q2'] at e2
            cases sg
            · cases e1
            · cases e2
          · cases sg <;> rfl
    · obtain ⟨s, T, hT⟩ := hx
      exact absurd ⟨s, _, h1 s T hT⟩ hx'
  · rcases cells_sem hok' with ⟨⟨s, T, hT⟩, _⟩ | ⟨hx', b1, b2, b3⟩
    · exact absurd ⟨s, _, h2 s T hT⟩ hx
    · refine ⟨by rw [a1, b1], by rw [a3, b3], by rw [a2, b2], fun c x x' hc => ?_⟩
      rw [a2] at hc
      simp at hc
/-- More lies. -/
theorem sem_more (hok : SgOk l N m) (hok' : SgOk l N m') (h : m ≤ m') (hE : cellsE l N m = 0) :
    cellsE l N m' = 0 ∧ (cellsL l N m').length = N ∧ (cellsL l N m).length = N ∧ ∀ (c : Nat) (x x' : Int), (cellsL l N m)[c]? = some x → (cellsL l N m')[c]? = some x' → x' ≠ 0 → x' = x := by
  rcases cells_sem hok with ⟨hx, a1, all, a2, a3⟩ | ⟨hx, a1, a2, a3⟩
  · obtain ⟨s0, T0, hT0⟩ := hx
    rcases cells_sem hok' with ⟨hx', b1, all', b2, b3⟩ | ⟨hx', b1, b2, b3⟩
    · refine ⟨b1, by rw [b3.len]; simp, by rw [a3.len]; simp, fun c x x' hc hc' hne => ?_⟩
      rcases b3.val c x' hc' with ⟨rfl, q⟩ | ⟨rfl, q⟩ | ⟨rfl, _⟩
      · rcases a3.val c x hc with ⟨rfl, _⟩ | ⟨rfl, u⟩ | ⟨rfl, _, ⟨s2, T2, q2, q2'⟩⟩
        · rfl
        · have := q _ _ (agI_more h hT0)
          rw [u _ _ hT0] at this; cases this
        · have := q _ _ (agI_more h q2)
          rw [q2'] at this; cases this
      · rcases a3.val c x hc with ⟨rfl, u⟩ | ⟨rfl, _⟩ | ⟨rfl, ⟨s2, T2, q2, q2'⟩, _⟩
        · have := q _ _ (agI_more h hT0)
          rw [u _ _ hT0] at this; cases this
        · rfl
        · have := q _ _ (agI_more h q2)
          rw [q2'] at this; cases this
      · exact absurd rfl hne
    · exact absurd ⟨s0, T0, agI_more h hT0⟩ hx'
  · rw [a1] at hE; cases hE
theorem cells_range (hok : SgOk l N m) : (cellsE l N m = 0 ∨ cellsE l N m = 21 ∧ cellsL l N m = []) ∧ (cellsL l N m).length ≤ N ∧ (sureL l N m).length ≤ 8 ∧ ∀ (c : Nat) (x : Int), (cellsL l N m)[c]? = some x → -1 ≤ x ∧ x ≤ 1 := by
  rcases cells_sem hok with ⟨hx, a1, all, a2, a3⟩ | ⟨hx, a1, a2, a3⟩
  · refine ⟨.inl a1, by rw [a3.len]; simp, by rw [a2]; exact outK_le _ _, fun c x hc => ?_⟩
    rcases a3.val c x hc with ⟨rfl, _⟩ | ⟨rfl, _⟩ | ⟨rfl, _⟩ <;> omega
  · refine ⟨.inr ⟨a1, a2⟩, by rw [a2]; simp, by rw [a3]; simp, fun c x hc => ?_⟩
    rw [a2] at hc
    simp at hc
end
theorem ext_at {a b : List Int} (h : b.length = a.length) (hv : ∀ (c : Nat) (x x' : Int), a[c]? = some x → b[c]? = some x' → x' = x) : b = a := by
  apply List.ext_getElem h
  intro i h1 h2
  exact hv i _ _ (List.getElem?_eq_getElem h2) (List.getElem?_eq_getElem h1)
end Go.Proofs.Ytadjdnhnbkcakaa

/-! Sights as readings of probes. No program in sight. -/
namespace Go.Proofs.Ytadjdnhnbkcakaa
open Go.RowKit

def b01 (b : Bool) : Int := if b = true then 1 else 0
theorem b01_r (b : Bool) : 0 ≤ b01 b ∧ b01 b ≤ 1 := by cases b <;> decide
theorem b01_d (b : Bool) : decide (b01 b = 1) = b := by cases b <;> rfl
def rdG (r : Sg) : Rd := ⟨r.gauge, r.cell, b01 r.there, b01 r.there⟩
def readI (l : List Sg) (k : Nat) : List Rd := (l.take k).map rdG
theorem readI_succ {l : List Sg} {k : Nat} {r : Sg} (h : l[k]? = some r) : readI l (k + 1) = readI l k ++ [⟨r.gauge, r.cell, b01 r.there, b01 r.there⟩] := by
  unfold readI
  rw [List.take_add_one, h, Option.toList_some, List.map_append]
  rfl
theorem readI_len {l : List Sg} {k : Nat} (h : k ≤ l.length) : (readI l k).length = k := by unfold readI; simp; omega
theorem readI_all (l : List Sg) : readI l l.length = l.map rdG := by unfold readI; rw [List.take_length]
def onesI (N k : Nat) : List Int := (List.range N).map fun i => if i < k then 1 else 0
theorem onesI_len (N k : Nat) : (onesI N k).length = N := by simp [onesI]
theorem onesI_0 (N : Nat) : (onesI N 0).map ci = List.replicate N [AV.int .i64 0] := by
  apply List.ext_getElem (by simp [onesI])
  intro i h1 h2
  simp [onesI]
theorem zeroI (N : Nat) : (List.replicate N (0 : Int)).map ci = List.replicate N [AV.int .i64 0] := by rw [List.map_replicate]
theorem onesI_set {N k : Nat} : (onesI N k).set k 1 = onesI N (k + 1) := by
  apply List.ext_getElem (by simp [onesI])
  intro i h1 h2
  rw [List.getElem_set]
  simp only [onesI, List.getElem_map, List.getElem_range]
  split
  · rw [if_pos (by omega)]
  · by_cases h : i < k
    · rw [if_pos h, if_pos (by omega)]
    · rw [if_neg h, if_neg (by omega)]
theorem onesI_all (N : Nat) : onesI N N = List.replicate N 1 := by
  apply List.ext_getElem (by simp [onesI])
  intro i h1 h2
  simp only [onesI, List.getElem_map, List.getElem_range, List.getElem_replicate]
  rw [if_pos (by rw [onesI_len] at h1; exact h1)]

section
variable {l : List Sg} {m : Int} {N : Nat}
theorem rep_getD {N i : Nat} (x : Int) (h : i < N) : (List.replicate N x).getD i 0 = x := by simp [List.getD_eq_getElem?_getD, h]
theorem ags_of {s : Nat} {T : Nat → Bool} (a : AgI l m s T) : AgS (l.map rdG) (List.replicate N 0) (List.replicate N 1) m s fun c => b01 (T c) := by
  refine ⟨a.lt, a.small, fun i hi => ?_, fun r hr => ?_⟩
  · have hi : i < N := by simpa using hi
    rw [rep_getD 0 hi, rep_getD 1 hi]
    exact b01_r _
  · obtain ⟨r0, h0, rfl⟩ := List.mem_map.1 hr
    rcases a.says r0 h0 with h | h
    · exact .inl h
    · refine .inr ?_
      show b01 r0.there ≤ b01 (T r0.cell.toNat) ∧ b01 (T r0.cell.toNat) ≤ b01 r0.there
      rw [h]
      omega
theorem agi_of {s : Nat} {lo hi : List Int} {v : Nat → Int} (a : AgS (l.map rdG) lo hi m s v) : AgI l m s fun c => decide (v c = 1) := by
  refine ⟨a.lt, a.small, fun r hr => ?_⟩
  rcases a.expl _ (List.mem_map_of_mem hr) with h | ⟨h1, h2⟩
  · exact .inl h
  · refine .inr ?_
    have h1 : b01 r.there ≤ v r.cell.toNat := h1
    have h2 : v r.cell.toNat ≤ b01 r.there := h2
    show r.there = decide (v r.cell.toNat = 1)
    rw [show v r.cell.toNat = b01 r.there by omega, b01_d]
theorem check_I (hok : SgOk l N m) (h6 : N ≤ 6) : checkS (l.map rdG) (List.replicate N 0) (List.replicate N 1) m = 0 := by
  have := hok.len
  have := hok.l0
  have := hok.l3
  refine check_6 (by simp; omega) (by simp) (by omega) (fun j hj h1 h2 => ?_) (fun j hj h1 => ?_)
  · unfold badL
    simp
  · have hjl : j < l.length := by simpa using hj
    rw [List.getElem_map]
    have hr := hok.sg l[j] (List.getElem_mem _)
    unfold badR
    have hb := b01_r l[j].there
    show ¬ (l[j].gauge < 0 ∨ l[j].gauge ≥ 8 ∨ l[j].cell < 0 ∨ l[j].cell ≥ ((List.replicate N (0 : Int)).length : Int) ∨ b01 l[j].there > b01 l[j].there)
    rw [List.length_replicate]
    omega
theorem probes_sem (hok : SgOk l N m) (h6 : N ≤ 6) :
    narrowE (l.map rdG) (List.replicate N 0) (List.replicate N 1) m = cellsE l N m ∧ liarsE (l.map rdG) (List.replicate N 0) (List.replicate N 1) m = cellsE l N m ∧ liarsL (l.map rdG) (List.replicate N 0) (List.replicate N 1) m = sureL l N m ∧
      (narrowA (l.map rdG) (List.replicate N 0) (List.replicate N 1) m).length = (cellsL l N m).length ∧ (narrowB (l.map rdG) (List.replicate N 0) (List.replicate N 1) m).length = (cellsL l N m).length ∧
      ∀ (c : Nat) (x a b : Int), (cellsL l N m)[c]? = some x → (narrowA (l.map rdG) (List.replicate N 0) (List.replicate N 1) m)[c]? = some a → (narrowB (l.map rdG) (List.replicate N 0) (List.replicate N 1) m)[c]? = some b → 0 ≤ a ∧ a ≤ 1 ∧ 0 ≤ b ∧ b ≤ 1 ∧ x = a + b - 1 := by
  rcases cells_sem hok with ⟨hx, a1, all, a2, a3⟩ | ⟨hx, a1, a2, a3⟩
  · rcases narrow_sem (check_I hok h6) with ⟨hx', b1, b2, all', b3, b4⟩ | ⟨hx', _⟩
    · refine ⟨by rw [a1, b1], by rw [a1, b2], ?_, by rw [b4.lenA, a3.len]; simp, by rw [b4.lenB, a3.len]; simp, fun c x a b hc ha hb => ?_⟩
      · rw [a2, b3]
        refine outK_congr fun p hp => ?_
        rw [Bool.eq_iff_iff, a3.liars p hp, b4.liars p hp]
        exact ⟨fun q s T hT => q s _ (ags_of hT), fun q s v hv => q s _ (agi_of hv)⟩
      · have hcN : c < N := by have := lt_of_at hc; rw [a3.len] at this; simpa using this
        have hcl : c < (List.replicate N (0 : Int)).length := by simpa using hcN
        have ea : (narrowA (l.map rdG) (List.replicate N 0) (List.replicate N 1) m).getD c 0 = a := by rw [List.getD_eq_getElem?_getD, ha]; rfl
        have eb : (narrowB (l.map rdG) (List.replicate N 0) (List.replicate N 1) m).getD c 0 = b := by rw [List.getD_eq_getElem?_getD, hb]; rfl
        obtain ⟨s1, v1, g1, h1⟩ := b4.least c hcl
        obtain ⟨s2, v2, g2, h2⟩ := b4.most c hcl
        rw [ea] at h1
        rw [eb] at h2
        have i1 := g1.inb c hcl
        have i2 := g2.inb c hcl
        rw [rep_getD 0 hcN, rep_getD 1 hcN] at i1 i2
        have hle := fun s v hv => b4.le s v hv c hcl
        rw [ea, eb] at hle
        refine ⟨by omega, by omega, by omega, by omega, ?_⟩
        rcases a3.val c x hc with ⟨rfl, q⟩ | ⟨rfl, q⟩ | ⟨rfl, ⟨s3, T3, u3, u3'⟩, ⟨s4, T4, u4, u4'⟩⟩
        · have w1 := of_decide_eq_true (q _ _ (agi_of g1))
          have w2 := of_decide_eq_true (q _ _ (agi_of g2))
          omega
        · have w1 := of_decide_eq_false (q _ _ (agi_of g1))
          have w2 := of_decide_eq_false (q _ _ (agi_of g2))
          omega
        · have w3 := hle _ _ (ags_of u3)
          have w4 := hle _ _ (ags_of u4)
          rw [u3'] at w3
          rw [u4'] at w4
          simp only [b01] at w3 w4
          simp at w3 w4
          omega
    · obtain ⟨s, T, hT⟩ := hx
      exact absurd ⟨s, _, ags_of hT⟩ hx'
  · rcases narrow_sem (check_I hok h6) with ⟨⟨s, v, hv⟩, _⟩ | ⟨hx', b1, b2, b3, b4, b5⟩
    · exact absurd ⟨s, _, agi_of hv⟩ hx
    · refine ⟨by rw [a1, b1], by rw [a1, b2], by rw [a3, b5], by rw [a2, b3], by rw [a2, b4], fun c x a b hc => ?_⟩
      rw [a2] at hc
      simp at hc
end
end Go.Proofs.Ytadjdnhnbkcakaa

/-! Walks: A35. -/
namespace Go.Proofs.Ytadjdnhnbkcakaa
open Go.RowKit

theorem fc23_s (xs : List Int) (hx : xs.length ≤ 4611686018427387904) : FC Try.prog 23 [ints xs, ints xs] [] (.bool true) [] false := by
  have := fc23 xs xs hx
  rwa [show sameS xs xs = true from decide_eq_true rfl] at this
theorem probe_calls {N : Nat} {m : Int} {R : List Sg} (hm : MadeI (N : Int) m R) :
    ∃ (K A B X : List Int) (E : Int), FC Try.prog 36 [.rs 3 (R.map cS), iv (N : Int), iv m] [] (.tup [ints K, iv E]) [] false ∧ FC Try.prog 39 [.rs 3 (R.map cS), iv (N : Int), iv m] [] (.tup [ints X, iv E]) [] false ∧
      FC Try.prog 21 [.rs 4 ((readI R R.length).map cR), ints (List.replicate N 0), ints (List.replicate N 1), iv m] [] (.tup [ints A, ints B, iv E]) [] false ∧ FC Try.prog 24 [.rs 4 ((readI R R.length).map cR), ints (List.replicate N 0), ints (List.replicate N 1), iv m] [] (.tup [ints X, iv E]) [] false ∧
      K.length ≤ 5 ∧ X.length ≤ 8 ∧ A.length = K.length ∧ B.length = K.length ∧ (E = 0 ∨ E = 21) ∧ ∀ (c : Nat) (x a b : Int), K[c]? = some x → A[c]? = some a → B[c]? = some b → 0 ≤ a ∧ a ≤ 1 ∧ 0 ≤ b ∧ b ≤ 1 ∧ x = a + b - 1 := by
  have hn1 := hm.n1
  have hn5 := hm.n5
  have hlR := hm.lR
  have ok : SgOk R (N : Int) m := ⟨by omega, by omega, by omega, hm.m0, hm.m3, fun r hr => by have := hm.sg r hr; omega⟩
  obtain ⟨r1, r2, r3, _⟩ := cells_range ok
  obtain ⟨p1, p2, p3, p4, p5, p6⟩ := probes_sem ok (by omega)
  have f1 := fc36 R (N : Int) m (by omega)
  have f2 := fc39 R (N : Int) m (by omega)
  have f3 := fz21 (R.map rdG) (List.replicate N 0) (List.replicate N 1) m
  have f4 := fz24 (R.map rdG) (List.replicate N 0) (List.replicate N 1) m
  rw [p1] at f3
  rw [p2, p3] at f4
  rw [← readI_all] at f3 f4
  refine ⟨_, _, _, _, _, f1, f2, f3, f4, by omega, r3, by rw [readI_all]; exact p4, by rw [readI_all]; exact p5, by rcases r1 with h | h; exact .inl h; exact .inr h.1, ?_⟩
  rw [readI_all]
  exact p6

def mc45 : MC := (.seq (.reg [⟨(some 2), (.mv (.c .nils)), none, []⟩] false) (.seq (.reg [⟨(some 3), (.mv (.c .nils)), none, []⟩] false) (.seq (.seq (.reg [⟨(some 4), (.mv (.c (.int .i64 0))), none, []⟩] false) (.block 0 (.loop (.seq (.seq (.reg [⟨(some 6), (.mv (.t 4)), none, []⟩, ⟨(some 7), (.mv (.t 0)), none, []⟩, ⟨(some 8), (.len (.t 7)), none, [1]⟩, ⟨(some 9), (.bin .lss (.t 6) (.t 8)), none, [0, 2]⟩] false) (.cond (.t 9) .skip (.exit 0))) (.seq (.block 1 (.seq (.reg [⟨(some 5), (.mv (.c (.int .i64 0))), none, []⟩] false) (.seq (.seq (.reg [⟨(some 12), (.mv (.t 0)), none, []⟩, ⟨(some 13), (.mv (.t 4)), none, []⟩, ⟨(some 14), (.ixsl 3 (.t 12) (.t 13)), none, [0, 1]⟩, ⟨(some 15), (.fa 2 (.t 14)), none, [2]⟩, ⟨(some 16), (.ld false 1 (.t 15)), none, [3]⟩] false) (.cond (.t 16) (.reg [⟨(some 5), (.mv (.c (.int .i64 1))), none, []⟩] false) .skip)) (.reg [⟨(some 17), (.mv (.t 3)), none, []⟩, ⟨(some 18), (.mv (.t 0)), none, []⟩, ⟨(some 19), (.mv (.t 4)), none, []⟩, ⟨(some 20), (.ixsl 3 (.t 18) (.t 19)), none, [1, 2]⟩, ⟨(some 21), (.fa 0 (.t 20)), none, [3]⟩, ⟨(some 22), (.ld false 1 (.t 21)), none, [4]⟩, ⟨(some 23), (.mv (.t 0)), none, []⟩, ⟨(some 24), (.mv (.t 4)), none, []⟩, ⟨(some 25), (.ixsl 3 (.t 23) (.t 24)), none, [6, 7]⟩, ⟨(some 26), (.fa 1 (.t 25)), none, [8]⟩, ⟨(some 27), (.ld false 1 (.t 26)), none, [9]⟩, ⟨(some 28), (.mv (.t 5)), none, []⟩, ⟨(some 29), (.mv (.t 5)), none, []⟩, ⟨(some 30), (.build [(.int .i64 0), (.int .i64 0), (.int .i64 0), (.int .i64 0)] [(0, (1, (.t 22))), (1, (1, (.t 27))), (2, (1, (.t 28))), (3, (1, (.t 29)))]), none, [5, 10, 11, 12]⟩, ⟨(some 31), (.bslice 50 4 [(.int .i64 0), (.int .i64 0), (.int .i64 0), (.int .i64 0)] 1 [(0, (.t 30))]), none, [13]⟩, ⟨(some 32), (.app 50 4 32 [(.int .i64 0), (.int .i64 0), (.int .i64 0), (.int .i64 0)] (.t 17) (.t 31)), none, [0, 14]⟩, ⟨(some 3), (.mv (.t 32)), none, [15, 15, 0, 1, 2, 3, 4, 5, 6, 7, 8, 9, 10, 11, 12, 13, 14, 15]⟩] true)))) (.reg [⟨(some 10), (.mv (.t 4)), none, []⟩, ⟨(some 11), (.bin .add (.t 10) (.c (.int .i64 1))), none, [0]⟩, ⟨(some 4), (.mv (.t 11)), none, [1, 0, 1]⟩] false)))))) (.seq (.reg [⟨(some 33), (.mv (.t 3)), none, []⟩, ⟨(some 2), (.mv (.t 33)), none, [0, 0]⟩] false) .ret))))
theorem mcOk45 : (match Try.f45.body with | some c => compC Try.prog 34 c | none => none) = some mc45 := by kernel_rfl

theorem fc45 (l : List Sg) (hl : l.length ≤ 1000000) : FC Try.prog 45 [.rs 3 (l.map cS)] [] (.rs 4 ((readI l l.length).map cR)) [] false := by
  refine fc_run (nt := 34) Try.func45 rfl rfl mcOk45 (Nat.le_of_ble_eq_true rfl) ?_
  delta mc45
  refine aw_seq ?_
  refine aw_reg ?_
  refine rs_mv rfl rfl ?_
  refine rs_nil fun _ => ?_
  refine th_n ?_
  refine aw_seq ?_
  refine aw_reg ?_
  refine rs_mv rfl rfl ?_
  refine rs_nil fun _ => ?_
  refine th_n ?_
  refine aw_seq ?_
  refine aw_seq ?_
  refine aw_reg ?_
  refine rs_mv rfl rfl ?_
  refine rs_nil fun _ => ?_
  refine th_n ?_
  refine aw_block ?_
  refine aw_fam (α := Nat) (fun k => l.length - k) (fun k => [(0, .rs 3 (l.map cS)), (3, .sl 1003 0 (readI l (k)).length), (4, iv (((k) : Nat) : Int))]) (fun k => [(1003, .cells 50 4 ((readI l (k)).map cR) true)]) (fun k => k ≤ l.length) 0 (by omega)
    (weak_to (.cons rfl (rc_same rfl (.inl rfl)) (.cons rfl (rc_virt rfl rfl) (.cons rfl (rc_same rfl (.inl rfl)) (.nil)))) (.virt rfl (.nil)) (fun i h => by cases h)) ?_
  intro k hk
  refine aw_seq ?_
  refine aw_seq ?_
  refine aw_reg ?_
  refine rs_mv rfl rfl ?_
  refine rs_mv rfl rfl ?_
  first | refine rs_len_m rfl rfl ?_ | refine rs_len_s rfl rfl ?_ | refine rs_len_n rfl rfl ?_ | refine rs_len_r rfl rfl rfl ?_
  refine rs_lss rfl rfl rfl ?_
  refine rs_nil fun _ => ?_
  refine th_n ?_
  refine aw_cond rfl (fun h9 => ?_) (fun h9 => ?_)
  · first | replace h9 := of_decide_eq_true h9 | skip
    refine aw_skip ?_
    refine th_n ?_
    refine aw_seq ?_
    refine aw_block ?_
    refine aw_seq ?_
    refine aw_reg ?_
    refine rs_mv rfl rfl ?_
    refine rs_nil fun _ => ?_
    refine th_n ?_
    refine aw_seq ?_
    refine aw_seq ?_
    refine aw_reg ?_
    obtain ⟨r, hr, _⟩ := at_some (L := l) (k := k) (by omega)
    have hrl := readI_len (l := l) (k := k) (by omega)
    refine rs_mv rfl rfl ?_
    refine rs_mv rfl rfl ?_
    refine rs_ix_g rfl rfl rfl (by omega) hr ?_
    first | refine rs_fa_p rfl rfl ?_ | refine rs_fa_r rfl rfl rfl ?_
    refine rs_ld_r (v := .bool r.there) rfl rfl rfl ?_
    refine rs_nil fun _ => ?_
    refine th_n ?_
    refine aw_cond rfl (fun h16 => ?_) (fun h16 => ?_)
    · first | replace h16 := of_decide_eq_true h16 | skip
      refine aw_reg ?_
      refine rs_mv rfl rfl ?_
      refine rs_nil fun _ => ?_
      refine th_n ?_
      refine aw_draw hmix ?_
      refine rs_mv rfl rfl ?_
      refine rs_mv rfl rfl ?_
      refine rs_mv rfl rfl ?_
      refine rs_ix_g rfl rfl rfl (by omega) hr ?_
      first | refine rs_fa_p rfl rfl ?_ | refine rs_fa_r rfl rfl rfl ?_
      first | refine rs_ld_r rfl rfl rfl ?_ | refine rs_ld_p rfl rfl rfl rfl rfl ?_ | refine rs_ld_m rfl rfl rfl (by omega) rfl ?_
      refine rs_mv rfl rfl ?_
      refine rs_mv rfl rfl ?_
      refine rs_ix_g rfl rfl rfl (by omega) hr ?_
      first | refine rs_fa_p rfl rfl ?_ | refine rs_fa_r rfl rfl rfl ?_
      first | refine rs_ld_r rfl rfl rfl ?_ | refine rs_ld_p rfl rfl rfl rfl rfl ?_ | refine rs_ld_m rfl rfl rfl (by omega) rfl ?_
      refine rs_mv rfl rfl ?_
      refine rs_mv rfl rfl ?_
      refine rs_build rfl rfl ?_
      refine rs_bslice rfl rfl rfl rfl rfl rfl ?_
      refine rs_app_mm (xs := readI l k) (ys := [⟨r.gauge, r.cell, 1, 1⟩]) (m := 1) (f := cR) (rd := [31]) rfl rfl rfl rfl rfl rfl rfl (by simp) (fun _ => rfl) rfl rfl (by omega) (by omega) (fun _ => rfl) ?_
      refine rs_mv rfl rfl ?_
      refine rs_nil ⟨by kernel_rfl, fun _ => ?_⟩
      refine in_n ?_
      refine th_n ?_
      refine aw_reg ?_
      refine rs_mv rfl rfl ?_
      first | refine rs_add rfl rfl rfl (by omega) ?_ | refine rs_addw rfl rfl rfl rfl ?_
      refine rs_mv rfl rfl ?_
      refine rs_nil fun _ => ?_
      refine th_n ?_
      have hs := readI_succ hr
      rw [h16] at hs
      exact ⟨k + 1, by omega, by omega, weak_to_ren (i := 32) (i' := 1003) (F1 := [(0, .rs 3 (l.map cS)), (3, .sl 32 0 (readI l (k + 1)).length), (4, iv (((k + 1) : Nat) : Int))]) (H1 := [(32, .cells 50 4 ((readI l (k + 1)).map cR) true)]) (.cons rfl (rc_same rfl (.inl rfl)) (.cons rfl (rc_eq (by rw [hs]; simp) rfl) (.cons rfl (rc_same rfl (.inl rfl)) (.nil)))) (.keep ((by (rw [hs]) <;> rfl)) rfl (.nil)) (fun i h => by cases h) rfl rfl (.cons rfl (.same _) (.cons rfl (.sl _ _) (.cons rfl (.same _) (.nil)))) (.cons rfl (rc_same rfl (.inl rfl)) (.cons rfl (rc_same rfl (.inl rfl)) (.cons rfl (rc_same rfl (.inl rfl)) (.nil)))) (.keep (rfl) rfl (.nil)) (fun i h => by cases h)⟩
    · first | replace h16 := of_decide_eq_false h16 | skip
      refine aw_skip ?_
      refine th_n ?_
      refine aw_draw hmix ?_
      refine rs_mv rfl rfl ?_
      refine rs_mv rfl rfl ?_
      refine rs_mv rfl rfl ?_
      refine rs_ix_g rfl rfl rfl (by omega) hr ?_
      first | refine rs_fa_p rfl rfl ?_ | refine rs_fa_r rfl rfl rfl ?_
      first | refine rs_ld_r rfl rfl rfl ?_ | refine rs_ld_p rfl rfl rfl rfl rfl ?_ | refine rs_ld_m rfl rfl rfl (by omega) rfl ?_
      refine rs_mv rfl rfl ?_
      refine rs_mv rfl rfl ?_
      refine rs_ix_g rfl rfl rfl (by omega) hr ?_
      first | refine rs_fa_p rfl rfl ?_ | refine rs_fa_r rfl rfl rfl ?_
      first | refine rs_ld_r rfl rfl rfl ?_ | refine rs_ld_p rfl rfl rfl rfl rfl ?_ | refine rs_ld_m rfl rfl rfl (by omega) rfl ?_
      refine rs_mv rfl rfl ?_
      refine rs_mv rfl rfl ?_
      refine rs_build rfl rfl ?_
      refine rs_bslice rfl rfl rfl rfl rfl rfl ?_
      refine rs_app_mm (xs := readI l k) (ys := [⟨r.gauge, r.cell, 0, 0⟩]) (m := 1) (f := cR) (rd := [31]) rfl rfl rfl rfl rfl rfl rfl (by simp) (fun _ => rfl) rfl rfl (by omega) (by omega) (fun _ => rfl) ?_
      refine rs_mv rfl rfl ?_
      refine rs_nil ⟨by kernel_rfl, fun _ => ?_⟩
      refine in_n ?_
      refine th_n ?_
      refine aw_reg ?_
      refine rs_mv rfl rfl ?_
      first | refine rs_add rfl rfl rfl (by omega) ?_ | refine rs_addw rfl rfl rfl rfl ?_
      refine rs_mv rfl rfl ?_
      refine rs_nil fun _ => ?_
      refine th_n ?_
      have hs := readI_succ hr
      rw [h16] at hs
      exact ⟨k + 1, by omega, by omega, weak_to_ren (i := 32) (i' := 1003) (F1 := [(0, .rs 3 (l.map cS)), (3, .sl 32 0 (readI l (k + 1)).length), (4, iv (((k + 1) : Nat) : Int))]) (H1 := [(32, .cells 50 4 ((readI l (k + 1)).map cR) true)]) (.cons rfl (rc_same rfl (.inl rfl)) (.cons rfl (rc_eq (by rw [hs]; simp) rfl) (.cons rfl (rc_same rfl (.inl rfl)) (.nil)))) (.keep ((by (rw [hs]) <;> rfl)) rfl (.nil)) (fun i h => by cases h) rfl rfl (.cons rfl (.same _) (.cons rfl (.sl _ _) (.cons rfl (.same _) (.nil)))) (.cons rfl (rc_same rfl (.inl rfl)) (.cons rfl (rc_same rfl (.inl rfl)) (.cons rfl (rc_same rfl (.inl rfl)) (.nil)))) (.keep (rfl) rfl (.nil)) (fun i h => by cases h)⟩
  · first | replace h9 := of_decide_eq_false h9 | skip
    refine aw_exit ?_
    refine th_e ?_
    refine th_e ?_
    refine in_hit ?_
    refine th_n ?_
    refine aw_seq ?_
    refine aw_reg ?_
    refine rs_mv rfl rfl ?_
    refine rs_mv rfl rfl ?_
    refine rs_nil fun _ => ?_
    refine th_n ?_
    refine aw_ret ?_
    obtain rfl : l.length = k := by omega
    exact ret_new rfl (rc_frz rfl rfl rfl (fun _ => rfl)) .nil

def mc14 : MC := (.seq (.reg [⟨(some 1), (.box 60 3 (.t 0)), none, []⟩, ⟨(some 2), (.mv (.c (.bool false))), none, []⟩] false) (.seq (.reg [⟨(some 21), (.call 31 []), none, []⟩, ⟨(some 3), (.mv (.t 21)), none, [0, 0, 0]⟩] false) (.seq (.reg [⟨(some 23), (.ld true 3 (.t 1)), none, []⟩, ⟨(some 24), (.call 32 [(.t 23)]), none, [0]⟩, ⟨(some 22), (.mv (.t 24)), none, [1]⟩, ⟨(some 25), (.ext (.t 22) 0), none, [2]⟩, ⟨(some 26), (.ext (.t 22) 1), none, [2]⟩, ⟨(some 27), (.ext (.t 22) 2), none, [2]⟩, ⟨(some 4), (.mv (.t 25)), none, [3, 1, 0, 1, 2, 3]⟩, ⟨(some 5), (.mv (.t 26)), none, [4, 6, 0, 1, 2, 3, 4, 6]⟩, ⟨(some 6), (.mv (.t 27)), none, [5, 7, 0, 1, 2, 3, 4, 5, 6, 7]⟩] false) (.seq (.reg [⟨(some 28), (.mv (.t 5)), none, []⟩, ⟨(some 29), (.mksl 3 1 8 [(.int .i64 0)] (.t 28) (.t 28)), none, [0, 0]⟩, ⟨(some 30), (.mv (.t 5)), none, []⟩, ⟨(some 31), (.mksl 3 1 8 [(.int .i64 0)] (.t 30) (.t 30)), none, [2, 2]⟩, ⟨(some 7), (.mv (.t 29)), none, [1, 0, 1]⟩, ⟨(some 8), (.mv (.t 31)), none, [3, 4, 0, 1, 2, 3, 4]⟩] true) (.seq (.seq (.reg [⟨(some 32), (.mv (.t 8)), none, []⟩, ⟨(some 33), (.len (.t 32)), none, [0]⟩, ⟨(some 34), (.mv (.c (.int .i64 0))), none, []⟩] false) (.block 0 (.loop (.seq (.reg [⟨(some 35), (.bin .lss (.t 34) (.t 33)), none, []⟩] false) (.seq (.cond (.t 35) .skip (.exit 0)) (.seq (.block 1 (.seq (.reg [⟨(some 36), (.mv (.t 34)), none, []⟩, ⟨(some 9), (.mv (.t 36)), none, [0, 0]⟩] false) (.reg [⟨(some 37), (.mv (.t 8)), none, []⟩, ⟨(some 38), (.mv (.t 9)), none, []⟩, ⟨(some 39), (.ixsl 1 (.t 37) (.t 38)), none, [0, 1, 0, 1]⟩, ⟨none, (.st 1 (.t 39) (.c (.int .i64 1))), none, [2, 0, 1]⟩] false))) (.reg [⟨(some 40), (.bin .add (.t 34) (.c (.int .i64 1))), none, []⟩, ⟨(some 34), (.mv (.t 40)), none, [0]⟩] false))))))) (.seq (.reg [⟨(some 41), (.mv (.t 4)), none, []⟩, ⟨(some 42), (.call 45 [(.t 41)]), none, [0]⟩, ⟨(some 10), (.mv (.t 42)), none, [1, 1, 0, 1]⟩] false) (.seq (.reg [⟨(some 44), (.mv (.t 4)), none, []⟩, ⟨(some 45), (.mv (.t 5)), none, []⟩, ⟨(some 46), (.mv (.t 6)), none, []⟩, ⟨(some 47), (.call 36 [(.t 44), (.t 45), (.t 46)]), none, [0, 1, 2]⟩, ⟨(some 43), (.mv (.t 47)), none, [3]⟩, ⟨(some 48), (.ext (.t 43) 0), none, [4]⟩, ⟨(some 49), (.ext (.t 43) 1), none, [4]⟩, ⟨(some 11), (.mv (.t 48)), none, [5, 3, 0, 1, 2, 3, 4, 5]⟩, ⟨(some 12), (.mv (.t 49)), none, [6, 7, 0, 1, 2, 3, 4, 5, 6, 7]⟩] false) (.seq (.reg [⟨(some 51), (.mv (.t 10)), none, []⟩, ⟨(some 52), (.mv (.t 7)), none, []⟩, ⟨(some 53), (.mv (.t 8)), none, []⟩, ⟨(some 54), (.mv (.t 6)), none, []⟩, ⟨(some 55), (.call 21 [(.t 51), (.t 52), (.t 53), (.t 54)]), none, [0, 1, 2, 3]⟩, ⟨(some 50), (.mv (.t 55)), none, [4]⟩, ⟨(some 56), (.ext (.t 50) 0), none, [5]⟩, ⟨(some 57), (.ext (.t 50) 1), none, [5]⟩, ⟨(some 58), (.ext (.t 50) 2), none, [5]⟩, ⟨(some 13), (.mv (.t 56)), none, [6, 4, 0, 1, 2, 3, 4, 5, 6]⟩, ⟨(some 14), (.mv (.t 57)), none, [7, 9, 0, 1, 2, 3, 4, 5, 6, 7, 9]⟩, ⟨(some 15), (.mv (.t 58)), none, [8, 10, 0, 1, 2, 3, 4, 5, 6, 7, 8, 9, 10]⟩] false) (.seq (.reg [⟨(some 60), (.mv (.t 4)), none, []⟩, ⟨(some 61), (.mv (.t 5)), none, []⟩, ⟨(some 62), (.mv (.t 6)), none, []⟩, ⟨(some 63), (.call 39 [(.t 60), (.t 61), (.t 62)]), none, [0, 1, 2]⟩, ⟨(some 59), (.mv (.t 63)), none, [3]⟩, ⟨(some 64), (.ext (.t 59) 0), none, [4]⟩, ⟨(some 65), (.ext (.t 59) 1), none, [4]⟩, ⟨(some 16), (.mv (.t 64)), none, [5, 3, 0, 1, 2, 3, 4, 5]⟩, ⟨(some 17), (.mv (.t 65)), none, [6, 7, 0, 1, 2, 3, 4, 5, 6, 7]⟩] false) (.seq (.reg [⟨(some 67), (.mv (.t 10)), none, []⟩, ⟨(some 68), (.mv (.t 7)), none, []⟩, ⟨(some 69), (.mv (.t 8)), none, []⟩, ⟨(some 70), (.mv (.t 6)), none, []⟩, ⟨(some 71), (.call 24 [(.t 67), (.t 68), (.t 69), (.t 70)]), none, [0, 1, 2, 3]⟩, ⟨(some 66), (.mv (.t 71)), none, [4]⟩, ⟨(some 72), (.ext (.t 66) 0), none, [5]⟩, ⟨(some 73), (.ext (.t 66) 1), none, [5]⟩, ⟨(some 18), (.mv (.t 72)), none, [6, 4, 0, 1, 2, 3, 4, 5, 6]⟩, ⟨(some 19), (.mv (.t 73)), none, [7, 8, 0, 1, 2, 3, 4, 5, 6, 7, 8]⟩] false) (.seq (.seq (.reg [⟨(some 74), (.mv (.t 12)), none, []⟩, ⟨(some 75), (.mv (.t 15)), none, []⟩, ⟨(some 76), (.bin .neq (.t 74) (.t 75)), none, [0, 1]⟩, ⟨(some 77), (.mv (.t 76)), none, [2]⟩, ⟨(some 78), (.mv (.t 17)), (some (77, false)), [3]⟩, ⟨(some 79), (.mv (.t 19)), (some (77, false)), [3]⟩, ⟨(some 80), (.bin .neq (.t 78) (.t 79)), (some (77, false)), [4, 5, 3]⟩, ⟨(some 81), (.pick (.t 77) (.c (.bool true)) (.t 80)), none, [3, 6]⟩, ⟨(some 82), (.mv (.t 81)), none, [7, 3]⟩, ⟨(some 83), (.mv (.t 12)), (some (82, false)), [8]⟩, ⟨(some 84), (.mv (.t 17)), (some (82, false)), [8]⟩, ⟨(some 85), (.bin .neq (.t 83) (.t 84)), (some (82, false)), [9, 10, 8]⟩, ⟨(some 86), (.pick (.t 82) (.c (.bool true)) (.t 85)), none, [8, 11]⟩, ⟨(some 87), (.mv (.t 86)), none, [12, 8]⟩, ⟨(some 88), (.mv (.t 16)), (some (87, false)), [13]⟩, ⟨(some 89), (.mv (.t 18)), (some (87, false)), [13]⟩, ⟨(some 90), (.call 23 [(.t 88), (.t 89)]), (some (87, false)), [14, 15, 13, 13]⟩, ⟨(some 91), (.un .not (.t 90)), (some (87, false)), [16, 13]⟩, ⟨(some 92), (.pick (.t 87) (.c (.bool true)) (.t 91)), none, [13, 17]⟩, ⟨(some 93), (.mv (.t 92)), none, [18, 16]⟩, ⟨(some 94), (.mv (.t 11)), (some (93, false)), [19]⟩, ⟨(some 95), (.len (.t 94)), (some (93, false)), [20, 19]⟩, ⟨(some 96), (.mv (.t 13)), (some (93, false)), [19]⟩, ⟨(some 97), (.len (.t 96)), (some (93, false)), [22, 19]⟩, ⟨(some 98), (.bin .neq (.t 95) (.t 97)), (some (93, false)), [21, 23, 19]⟩, ⟨(some 99), (.pick (.t 93) (.c (.bool true)) (.t 98)), none, [19, 24]⟩, ⟨(some 100), (.mv (.t 99)), none, [25, 19]⟩, ⟨(some 101), (.mv (.t 11)), (some (100, false)), [26]⟩, ⟨(some 102), (.len (.t 101)), (some (100, false)), [27, 26]⟩, ⟨(some 103), (.mv (.t 14)), (some (100, false)), [26]⟩, ⟨(some 104), (.len (.t 103)), (some (100, false)), [29, 26]⟩, ⟨(some 105), (.bin .neq (.t 102) (.t 104)), (some (100, false)), [28, 30, 26]⟩, ⟨(some 106), (.pick (.t 100) (.c (.bool true)) (.t 105)), none, [26, 31]⟩] false) (.cond (.t 106) (.seq (.reg [⟨(some 2), (.mv (.c (.bool false))), none, []⟩] false) .ret) .skip)) (.seq (.seq (.reg [⟨(some 107), (.mv (.t 11)), none, []⟩, ⟨(some 108), (.len (.t 107)), none, [0]⟩, ⟨(some 109), (.mv (.c (.int .i64 0))), none, []⟩] false) (.block 2 (.loop (.seq (.reg [⟨(some 110), (.bin .lss (.t 109) (.t 108)), none, []⟩] false) (.seq (.cond (.t 110) .skip (.exit 2)) (.seq (.block 3 (.seq (.reg [⟨(some 111), (.mv (.t 109)), none, []⟩, ⟨(some 20), (.mv (.t 111)), none, [0, 0]⟩] false) (.seq (.reg [⟨(some 112), (.mv (.t 11)), none, []⟩, ⟨(some 113), (.mv (.t 20)), none, []⟩, ⟨(some 114), (.ixsl 1 (.t 112) (.t 113)), none, [0, 1]⟩, ⟨(some 115), (.ld false 1 (.t 114)), none, [2]⟩, ⟨(some 116), (.mv (.t 13)), none, []⟩, ⟨(some 117), (.mv (.t 20)), none, []⟩, ⟨(some 118), (.ixsl 1 (.t 116) (.t 117)), none, [4, 5]⟩, ⟨(some 119), (.ld false 1 (.t 118)), none, [6]⟩, ⟨(some 120), (.mv (.t 14)), none, []⟩, ⟨(some 121), (.mv (.t 20)), none, []⟩, ⟨(some 122), (.ixsl 1 (.t 120) (.t 121)), none, [8, 9]⟩, ⟨(some 123), (.ld false 1 (.t 122)), none, [10]⟩, ⟨(some 124), (.bin .add (.t 119) (.t 123)), none, [7, 11]⟩, ⟨(some 125), (.bin .sub (.t 124) (.c (.int .i64 1))), none, [12]⟩, ⟨(some 126), (.bin .neq (.t 115) (.t 125)), none, [3, 13]⟩] true) (.cond (.t 126) (.seq (.reg [⟨(some 2), (.mv (.c (.bool false))), none, []⟩] false) .ret) .skip)))) (.reg [⟨(some 127), (.bin .add (.t 109) (.c (.int .i64 1))), none, []⟩, ⟨(some 109), (.mv (.t 127)), none, [0]⟩] false))))))) (.seq (.reg [⟨(some 128), (.mv (.t 3)), none, []⟩, ⟨(some 129), (.mv (.t 128)), none, [0]⟩, ⟨(some 130), (.mv (.t 12)), (some (129, true)), [1]⟩, ⟨(some 131), (.bin .eql (.t 130) (.c (.int .i64 0))), (some (129, true)), [2, 1]⟩, ⟨(some 132), (.mv (.t 131)), (some (129, true)), [3, 1, 1]⟩, ⟨(some 133), (.mv (.t 12)), (some (132, false)), [4]⟩, ⟨(some 134), (.bin .eql (.t 133) (.c (.int .i64 21))), (some (132, false)), [5, 4]⟩, ⟨(some 135), (.pick (.t 132) (.c (.bool true)) (.t 134)), (some (129, true)), [4, 6, 1]⟩, ⟨(some 136), (.pick (.t 129) (.t 135) (.c (.bool false))), none, [1, 7]⟩, ⟨(some 2), (.mv (.t 136)), none, [8, 4, 0, 1, 2, 3, 4, 5, 6, 7, 8]⟩] false) .ret)))))))))))))
theorem mcOk14 : (match Try.f14.body with | some c => compC Try.prog 137 c | none => none) = some mc14 := by kernel_rfl

theorem fc14 (L : List Int) (c5 l4 : Int) (hL : L.length ≤ 4611686018427387904) (hc : 0 ≤ c5 ∧ c5 < 256) (hl4 : 0 ≤ l4 ∧ l4 < 256) : FC Try.prog 14 [.agg [ints L, .int .u8 c5, .int .u8 l4]] [] (.bool true) [] false := by
  obtain ⟨n, m, R, hm, hmade⟩ := made_i L c5 l4 hL hc hl4
  have hn1 := hm.n1
  have hn5 := hm.n5
  have hm0 := hm.m0
  have hm3 := hm.m3
  have hlR := hm.lR
  obtain ⟨N, rfl⟩ : ∃ N : Nat, n = (N : Int) := ⟨n.toNat, by omega⟩
  refine fc_run (nt := 137) Try.func14 rfl rfl mcOk14 (Nat.le_of_ble_eq_true rfl) ?_
  delta mc14
  refine aw_seq ?_
  refine aw_reg ?_
  refine rs_box rfl rfl rfl rfl rfl rfl ?_
  refine rs_mv rfl rfl ?_
  refine rs_nil fun _ => ?_
  refine th_n ?_
  refine aw_seq ?_
  refine aw_reg ?_
  refine rs_calln [] rfl rfl fc31 .nil rfl ?_
  refine rs_mv rfl rfl ?_
  refine rs_nil fun _ => ?_
  refine th_n ?_
  refine aw_seq ?_
  refine aw_reg ?_
  first | refine rs_ld_pa rfl rfl rfl rfl (Nat.le_of_ble_eq_true rfl) rfl ?_ | refine rs_ld_ra rfl rfl (Nat.le_of_ble_eq_true rfl) rfl ?_ | refine rs_ld_ma rfl rfl rfl (by omega) (Nat.le_of_ble_eq_true rfl) rfl ?_
  refine rs_callo [] rfl rfl hmade (.cons (hv_same rfl) .nil) .nil rfl rfl rfl ?_
  refine rs_mv rfl rfl ?_
  refine rs_ext rfl rfl rfl ?_
  refine rs_ext rfl rfl rfl ?_
  refine rs_ext rfl rfl rfl ?_
  refine rs_mv rfl rfl ?_
  refine rs_mv rfl rfl ?_
  refine rs_mv rfl rfl ?_
  refine rs_nil fun _ => ?_
  refine th_n ?_
  refine aw_seq ?_
  refine aw_weak (F0 := [(3, .bool true), (4, .rs 3 (R.map cS)), (5, iv (N : Int)), (6, iv m)]) (H0 := []) (weak_to (.cons rfl (rc_same rfl (.inl rfl)) (.cons rfl (rc_frz rfl rfl rfl (fun _ => rfl)) (.cons rfl (rc_same rfl (.inl rfl)) (.cons rfl (rc_same rfl (.inl rfl)) (.nil))))) (.nil) (fun i h => by cases h)) ?_
  refine aw_draw hmix ?_
  refine rs_mv rfl rfl ?_
  refine rs_mksl rfl rfl rfl rfl rfl (by omega) (by omega) (by omega) ?_
  refine rs_mv rfl rfl ?_
  refine rs_mksl rfl rfl rfl rfl rfl (by omega) (by omega) (by omega) ?_
  refine rs_mv rfl rfl ?_
  refine rs_mv rfl rfl ?_
  refine rs_nil ⟨by kernel_rfl, fun _ => ?_⟩
  refine th_n ?_
  refine aw_seq ?_
  refine aw_seq ?_
  refine aw_reg ?_
  refine rs_mv rfl rfl ?_
  first | refine rs_len_m rfl rfl ?_ | refine rs_len_s rfl rfl ?_ | refine rs_len_n rfl rfl ?_ | refine rs_len_r rfl rfl rfl ?_
  refine rs_mv rfl rfl ?_
  refine rs_nil fun _ => ?_
  refine th_n ?_
  refine aw_block ?_
  refine aw_fam (α := Nat) (fun k => N - k) (fun k => [(3, .bool true), (4, .rs 3 (R.map cS)), (5, iv (N : Int)), (6, iv m), (7, .sl 29 0 N), (8, .sl 31 0 N), (32, .sl 31 0 N), (33, iv (N : Int)), (34, iv (((k) : Nat) : Int))]) (fun k => [(29, .cells 3 1 ((List.replicate N (0 : Int)).map ci) true), (31, .cells 3 1 ((onesI N (k)).map ci) true)]) (fun k => k ≤ N) 0 (by omega)
    (weak_to (.cons rfl (rc_same rfl (.inl rfl)) (.cons rfl (rc_same rfl (.inl rfl)) (.cons rfl (rc_same rfl (.inl rfl)) (.cons rfl (rc_same rfl (.inl rfl)) (.cons rfl (rc_same rfl (.inl rfl)) (.cons rfl (rc_same rfl (.inl rfl)) (.cons rfl (rc_same rfl (.inl rfl)) (.cons rfl (rc_same rfl (.inl rfl)) (.cons rfl (rc_same rfl (.inl rfl)) (.nil)))))))))) (.keep ((by rw [zeroI]; rfl)) rfl (.keep ((by rw [onesI_0]; rfl)) rfl (.nil))) (fun i h => by cases h)) ?_
  intro k hk
  refine aw_seq ?_
  refine aw_reg ?_
  refine rs_lss rfl rfl rfl ?_
  refine rs_nil fun _ => ?_
  refine th_n ?_
  refine aw_seq ?_
  refine aw_cond rfl (fun h35 => ?_) (fun h35 => ?_)
  · first | replace h35 := of_decide_eq_true h35 | skip
    refine aw_skip ?_
    refine th_n ?_
    refine aw_seq ?_
    refine aw_block ?_
    refine aw_seq ?_
    refine aw_reg ?_
    refine rs_mv rfl rfl ?_
    refine rs_mv rfl rfl ?_
    refine rs_nil fun _ => ?_
    refine th_n ?_
    refine aw_reg ?_
    refine rs_mv rfl rfl ?_
    refine rs_mv rfl rfl ?_
    refine rs_ix_sm (t := k) rfl rfl rfl rfl (by omega) ?_
    refine rs_st_m (v := 1) (fl' := true) rfl rfl rfl rfl (by rw [onesI_len]; omega) rfl rfl (Nat.le_of_ble_eq_true rfl) rfl rfl ?_
    refine rs_nil fun _ => ?_
    refine in_n ?_
    refine th_n ?_
    refine aw_reg ?_
    first | refine rs_add rfl rfl rfl (by omega) ?_ | refine rs_addw rfl rfl rfl rfl ?_
    refine rs_mv rfl rfl ?_
    refine rs_nil fun _ => ?_
    refine th_n ?_
    have hs := onesI_set (N := N) (k := k)
    exact ⟨k + 1, by omega, by omega, weak_to (.cons rfl (rc_same rfl (.inl rfl)) (.cons rfl (rc_same rfl (.inl rfl)) (.cons rfl (rc_same rfl (.inl rfl)) (.cons rfl (rc_same rfl (.inl rfl)) (.cons rfl (rc_same rfl (.inl rfl)) (.cons rfl (rc_same rfl (.inl rfl)) (.cons rfl (rc_same rfl (.inl rfl)) (.cons rfl (rc_same rfl (.inl rfl)) (.cons rfl (rc_same rfl (.inl rfl)) (.nil)))))))))) (.keep (rfl) rfl (.keep ((by rw [← hs]; rfl)) rfl (.nil))) (fun i h => by cases h)⟩
  · first | replace h35 := of_decide_eq_false h35 | skip
    refine aw_exit ?_
    refine th_e ?_
    refine th_e ?_
    refine in_hit ?_
    refine th_n ?_
    refine aw_seq ?_
    obtain rfl : k = N := by omega
    obtain ⟨K, A, B, X, E, c47, c63, c55, c71, hK5, hX8, hAK, hBK, hE, hKv⟩ := probe_calls hm
    refine aw_weak (F0 := [(3, .bool true), (4, .rs 3 (R.map cS)), (5, iv (k : Int)), (6, iv m), (7, ints (List.replicate k 0)), (8, ints (List.replicate k 1))]) (H0 := []) (weak_to (.cons rfl (rc_same rfl (.inl rfl)) (.cons rfl (rc_same rfl (.inl rfl)) (.cons rfl (rc_same rfl (.inl rfl)) (.cons rfl (rc_same rfl (.inl rfl)) (.cons rfl (rc_frz rfl rfl (by simp) (fun _ => rfl)) (.cons rfl (rc_frz (xs := List.replicate k 1) (by rw [← onesI_all]; rfl) rfl (by simp) (fun _ => rfl)) (.nil))))))) (.nil) (fun i h => by cases h)) ?_
    refine aw_reg ?_
    refine rs_mv rfl rfl ?_
    refine rs_calln [] rfl rfl (fc45 R (by omega)) (.cons (hv_same rfl) (.nil)) rfl ?_
    refine rs_mv rfl rfl ?_
    refine rs_nil fun _ => ?_
    refine th_n ?_
    refine aw_seq ?_
    refine aw_reg ?_
    refine rs_mv rfl rfl ?_
    refine rs_mv rfl rfl ?_
    refine rs_mv rfl rfl ?_
    refine rs_calln [] rfl rfl (c47) (.cons (hv_same rfl) (.cons (hv_same rfl) (.cons (hv_same rfl) (.nil)))) rfl ?_
    refine rs_mv rfl rfl ?_
    refine rs_ext rfl rfl rfl ?_
    refine rs_ext rfl rfl rfl ?_
    refine rs_mv rfl rfl ?_
    refine rs_mv rfl rfl ?_
    refine rs_nil fun _ => ?_
    refine th_n ?_
    refine aw_seq ?_
    refine aw_reg ?_
    refine rs_mv rfl rfl ?_
    refine rs_mv rfl rfl ?_
    refine rs_mv rfl rfl ?_
    refine rs_mv rfl rfl ?_
    refine rs_calln [] rfl rfl (c55) (.cons (hv_same rfl) (.cons (hv_same rfl) (.cons (hv_same rfl) (.cons (hv_same rfl) (.nil))))) rfl ?_
    refine rs_mv rfl rfl ?_
    refine rs_ext rfl rfl rfl ?_
    refine rs_ext rfl rfl rfl ?_
    refine rs_ext rfl rfl rfl ?_
    refine rs_mv rfl rfl ?_
    refine rs_mv rfl rfl ?_
    refine rs_mv rfl rfl ?_
    refine rs_nil fun _ => ?_
    refine th_n ?_
    refine aw_seq ?_
    refine aw_reg ?_
    refine rs_mv rfl rfl ?_
    refine rs_mv rfl rfl ?_
    refine rs_mv rfl rfl ?_
    refine rs_calln [] rfl rfl (c63) (.cons (hv_same rfl) (.cons (hv_same rfl) (.cons (hv_same rfl) (.nil)))) rfl ?_
    refine rs_mv rfl rfl ?_
    refine rs_ext rfl rfl rfl ?_
    refine rs_ext rfl rfl rfl ?_
    refine rs_mv rfl rfl ?_
    refine rs_mv rfl rfl ?_
    refine rs_nil fun _ => ?_
    refine th_n ?_
    refine aw_seq ?_
    refine aw_reg ?_
    refine rs_mv rfl rfl ?_
    refine rs_mv rfl rfl ?_
    refine rs_mv rfl rfl ?_
    refine rs_mv rfl rfl ?_
    refine rs_calln [] rfl rfl (c71) (.cons (hv_same rfl) (.cons (hv_same rfl) (.cons (hv_same rfl) (.cons (hv_same rfl) (.nil))))) rfl ?_
    refine rs_mv rfl rfl ?_
    refine rs_ext rfl rfl rfl ?_
    refine rs_ext rfl rfl rfl ?_
    refine rs_mv rfl rfl ?_
    refine rs_mv rfl rfl ?_
    refine rs_nil fun _ => ?_
    refine th_n ?_
    refine aw_seq ?_
    refine aw_seq ?_
    refine aw_reg ?_
    refine rs_mv rfl rfl ?_
    refine rs_mv rfl rfl ?_
    refine rs_cmp_f rfl rfl rfl rfl (fun h => h rfl) ?_
    refine rs_mv rfl rfl ?_
    refine rs_mv rfl rfl ?_
    refine rs_mv rfl rfl ?_
    refine rs_cmp_f rfl rfl rfl rfl (fun h => h rfl) ?_
    refine rs_pick rfl rfl rfl ?_
    refine rs_mv rfl rfl ?_
    refine rs_mv rfl rfl ?_
    refine rs_mv rfl rfl ?_
    refine rs_cmp_f rfl rfl rfl rfl (fun h => h rfl) ?_
    refine rs_pick rfl rfl rfl ?_
    refine rs_mv rfl rfl ?_
    refine rs_mv rfl rfl ?_
    refine rs_mv rfl rfl ?_
    refine rs_calln [] rfl rfl (fc23_s X (by omega)) (.cons (hv_same rfl) (.cons (hv_same rfl) (.nil))) rfl ?_
    refine rs_not rfl rfl ?_
    refine rs_pick rfl rfl rfl ?_
    refine rs_mv rfl rfl ?_
    refine rs_mv rfl rfl ?_
    first | refine rs_len_m rfl rfl ?_ | refine rs_len_s rfl rfl ?_ | refine rs_len_n rfl rfl ?_ | refine rs_len_r rfl rfl rfl ?_
    refine rs_mv rfl rfl ?_
    first | refine rs_len_m rfl rfl ?_ | refine rs_len_s rfl rfl ?_ | refine rs_len_n rfl rfl ?_ | refine rs_len_r rfl rfl rfl ?_
    refine rs_cmp_f rfl rfl rfl rfl (by omega) ?_
    refine rs_pick rfl rfl rfl ?_
    refine rs_mv rfl rfl ?_
    refine rs_mv rfl rfl ?_
    first | refine rs_len_m rfl rfl ?_ | refine rs_len_s rfl rfl ?_ | refine rs_len_n rfl rfl ?_ | refine rs_len_r rfl rfl rfl ?_
    refine rs_mv rfl rfl ?_
    first | refine rs_len_m rfl rfl ?_ | refine rs_len_s rfl rfl ?_ | refine rs_len_n rfl rfl ?_ | refine rs_len_r rfl rfl rfl ?_
    refine rs_cmp_f rfl rfl rfl rfl (by omega) ?_
    refine rs_pick rfl rfl rfl ?_
    refine rs_nil fun _ => ?_
    refine th_n ?_
    refine aw_cond rfl (fun h => by cases h) (fun _ => ?_)
    refine aw_skip ?_
    refine th_n ?_
    refine aw_seq ?_
    refine aw_seq ?_
    refine aw_reg ?_
    refine rs_mv rfl rfl ?_
    first | refine rs_len_m rfl rfl ?_ | refine rs_len_s rfl rfl ?_ | refine rs_len_n rfl rfl ?_ | refine rs_len_r rfl rfl rfl ?_
    refine rs_mv rfl rfl ?_
    refine rs_nil fun _ => ?_
    refine th_n ?_
    refine aw_block ?_
    refine aw_fam (α := Nat) (fun k => K.length - k) (fun k => [(3, .bool true), (11, ints K), (12, iv E), (13, ints A), (14, ints B), (107, ints K), (108, iv (K.length : Int)), (109, iv (((k) : Nat) : Int))]) (fun k => []) (fun k => k ≤ K.length) 0 (by omega)
      (weak_to (.cons rfl (rc_same rfl (.inl rfl)) (.cons rfl (rc_same rfl (.inl rfl)) (.cons rfl (rc_same rfl (.inl rfl)) (.cons rfl (rc_same rfl (.inl rfl)) (.cons rfl (rc_same rfl (.inl rfl)) (.cons rfl (rc_same rfl (.inl rfl)) (.cons rfl (rc_same rfl (.inl rfl)) (.cons rfl (rc_same rfl (.inl rfl)) (.nil))))))))) (.nil) (fun i h => by cases h)) ?_
    intro k hk
    refine aw_seq ?_
    refine aw_reg ?_
    refine rs_lss rfl rfl rfl ?_
    refine rs_nil fun _ => ?_
    refine th_n ?_
    refine aw_seq ?_
    refine aw_cond rfl (fun h110 => ?_) (fun h110 => ?_)
    · first | replace h110 := of_decide_eq_true h110 | skip
      refine aw_skip ?_
      refine th_n ?_
      refine aw_seq ?_
      refine aw_block ?_
      refine aw_seq ?_
      refine aw_reg ?_
      refine rs_mv rfl rfl ?_
      refine rs_mv rfl rfl ?_
      refine rs_nil fun _ => ?_
      refine th_n ?_
      refine aw_seq ?_
      refine aw_draw hmix ?_
      obtain ⟨x, hx, _⟩ := at_some (L := K) (k := k) (by omega)
      obtain ⟨a, ha, _⟩ := at_some (L := A) (k := k) (by omega)
      obtain ⟨b, hb, _⟩ := at_some (L := B) (k := k) (by omega)
      obtain ⟨k1, k2, k3, k4, k5⟩ := hKv k x a b hx ha hb
      refine rs_mv rfl rfl ?_
      refine rs_mv rfl rfl ?_
      refine rs_ix_g rfl rfl rfl (by omega) hx ?_
      refine rs_ld_r rfl rfl rfl ?_
      refine rs_mv rfl rfl ?_
      refine rs_mv rfl rfl ?_
      refine rs_ix_g rfl rfl rfl (by omega) ha ?_
      refine rs_ld_r rfl rfl rfl ?_
      refine rs_mv rfl rfl ?_
      refine rs_mv rfl rfl ?_
      refine rs_ix_g rfl rfl rfl (by omega) hb ?_
      refine rs_ld_r rfl rfl rfl ?_
      first | refine rs_add rfl rfl rfl (by omega) ?_ | refine rs_addw rfl rfl rfl rfl ?_
      first | refine rs_sub rfl rfl rfl (by omega) ?_ | refine rs_subw rfl rfl rfl rfl ?_
      refine rs_cmp_f rfl rfl rfl rfl (by omega) ?_
      refine rs_nil ⟨by kernel_rfl, fun _ => ?_⟩
      refine th_n ?_
      refine aw_cond rfl (fun h => by cases h) (fun _ => ?_)
      refine aw_skip ?_
      refine in_n ?_
      refine th_n ?_
      refine aw_reg ?_
      first | refine rs_add rfl rfl rfl (by omega) ?_ | refine rs_addw rfl rfl rfl rfl ?_
      refine rs_mv rfl rfl ?_
      refine rs_nil fun _ => ?_
      refine th_n ?_
      exact ⟨k + 1, by omega, by omega, weak_to (.cons rfl (rc_same rfl (.inl rfl)) (.cons rfl (rc_same rfl (.inl rfl)) (.cons rfl (rc_same rfl (.inl rfl)) (.cons rfl (rc_same rfl (.inl rfl)) (.cons rfl (rc_same rfl (.inl rfl)) (.cons rfl (rc_same rfl (.inl rfl)) (.cons rfl (rc_same rfl (.inl rfl)) (.cons rfl (rc_same rfl (.inl rfl)) (.nil))))))))) (.nil) (fun i h => by cases h)⟩
    · first | replace h110 := of_decide_eq_false h110 | skip
      refine aw_exit ?_
      refine th_e ?_
      refine th_e ?_
      refine in_hit ?_
      refine th_n ?_
      refine aw_seq ?_
      refine aw_reg ?_
      refine rs_mv rfl rfl ?_
      refine rs_mv rfl rfl ?_
      refine rs_mv rfl rfl ?_
      refine rs_cmp rfl rfl rfl rfl (fun h131 => ?_) (fun h131 => ?_)
      · skip
        refine rs_mv rfl rfl ?_
        refine rs_skip rfl ?_
        refine rs_skip rfl ?_
        refine rs_pick rfl rfl rfl ?_
        refine rs_pick rfl rfl rfl ?_
        refine rs_mv rfl rfl ?_
        refine rs_nil fun _ => ?_
        refine th_n ?_
        refine aw_ret ?_
        exact ret_pure rfl rfl rfl (.inr rfl)
      · skip
        refine rs_mv rfl rfl ?_
        refine rs_mv rfl rfl ?_
        refine rs_cmp_t rfl rfl rfl rfl (hE.resolve_left h131) ?_
        refine rs_pick rfl rfl rfl ?_
        refine rs_pick rfl rfl rfl ?_
        refine rs_mv rfl rfl ?_
        refine rs_nil fun _ => ?_
        refine th_n ?_
        refine aw_ret ?_
        exact ret_pure rfl rfl rfl (.inr rfl)

end Go.Proofs.Ytadjdnhnbkcakaa

/-! The arguments of the laws of inspect, as they are read. -/
namespace Go.Proofs.Ytadjdnhnbkcakaa
open Go.RowKit Go.WideShapes Go.ChangeShapes Go.ChangeAt
set_option maxRecDepth 100000

theorem own_knob : ownKnob Try.prog.godebug = none := by kernel_rfl
theorem laid_out : laidOutB Try.prog = true := by kernel_rfl

theorem rd_i {H : Type} (d : DataW H) (h : Gd (.int .i64) d) : ∃ n : Int, True ∧ avD (.int .i64) d = ci n := by
  obtain ⟨n, _, e⟩ := rd_int d h
  exact ⟨n, trivial, e⟩
theorem rd_u8 {H : Type} (d : DataW H) (h : Gd (.int .u8) d) : ∃ n : Int, (0 ≤ n ∧ n < 256) ∧ avD (.int .u8) d = cu8 n := by
  obtain ⟨n, hw, e⟩ := rd_int d h
  have := bounds_u8 hw
  exact ⟨n, by omega, e⟩
theorem rd_ints {H : Type} (d : DataW H) (h : Gd (.sl 1 (.int .i64)) d) : ∃ L : List Int, L.length ≤ 140737488351232 ∧ avD (.sl 1 (.int .i64)) d = [ints L] := by
  obtain ⟨L, ⟨h1, _⟩, e⟩ := rd_sl (fun _ => True) ci rd_i d h
  exact ⟨L, h1, e⟩
theorem rd_u8s {H : Type} (d : DataW H) (h : Gd (.sl 1 (.int .u8)) d) : ∃ ls : List Int, (ls.length ≤ 140737488351232 ∧ ∀ x ∈ ls, 0 ≤ x ∧ x < 256) ∧ avD (.sl 1 (.int .u8)) d = [.rs 1 (ls.map cu8)] :=
  rd_sl _ cu8 rd_u8 d h
abbrev shCase42 : Sh := .st [.sl 1 (.int .i64), .int .u8, .int .u8]
abbrev shSg : Sh := .st [.int .i64, .int .i64, .bool]
theorem rd_sg {H : Type} (d : DataW H) (h : Gd shSg d) : ∃ r : Sg, True ∧ avD shSg d = cS r := by
  obtain ⟨ps, g, e⟩ := rd_st d h
  obtain ⟨d0, r0, g0, g, e0⟩ := rd_cons ps g
  obtain ⟨d1, r1, g1, g, e1⟩ := rd_cons r0 g
  obtain ⟨d2, r2, g2, g, e2⟩ := rd_cons r1 g
  obtain ⟨n0, _, a0⟩ := rd_i d0 g0
  obtain ⟨n1, _, a1⟩ := rd_i d1 g1
  obtain ⟨n2, a2⟩ := rd_bool d2 g2
  exact ⟨⟨n0, n1, n2⟩, trivial, by rw [e, e0, e1, e2, rd_nil r2 g, a0, a1, a2]; rfl⟩
theorem rd_case42 {H : Type} (d : DataW H) (h : Gd shCase42 d) : ∃ (L : List Int) (c5 l4 : Int), (L.length ≤ 4611686018427387904 ∧ (0 ≤ c5 ∧ c5 < 256) ∧ (0 ≤ l4 ∧ l4 < 256)) ∧
    argA shCase42 d = .agg [ints L, .int .u8 c5, .int .u8 l4] := by
  obtain ⟨ps, g, e⟩ := rd_st d h
  obtain ⟨d0, r0, g0, g, e0⟩ := rd_cons ps g
  obtain ⟨d1, r1, g1, g, e1⟩ := rd_cons r0 g
  obtain ⟨d2, r2, g2, g, e2⟩ := rd_cons r1 g
  obtain ⟨n0, k0, a0⟩ := rd_ints d0 g0
  obtain ⟨n1, k1, a1⟩ := rd_u8 d1 g1
  obtain ⟨n2, k2, a2⟩ := rd_u8 d2 g2
  exact ⟨n0, n1, n2, ⟨Nat.le_trans k0 (by decide), k1, k2⟩, by simp only [argA]; rw [e, e0, e1, e2, rd_nil r2 g, a0, a1, a2]; rfl⟩
end Go.Proofs.Ytadjdnhnbkcakaa
namespace Go.Proofs.Ytadjdnhnbkcakaa
open Go.RowKit Go.WideShapes Go.ChangeShapes Go.ChangeAt
set_option maxRecDepth 100000

abbrev shs14 : List Sh := [shCase42]

theorem lifted14 (os : Os) (started : os.Started) (H : Type) (enc : TypeId × Value → H) :
    ReturnsInHanded {} Try.checked os 14 .any (Rows.inspectProbesSpec.pre6 enc Try.prog Try.f14 Rows.inspectProbesRow.domain false) (Rows.inspectProbesSpec.post enc Try.prog Try.f14 false true false false) := by
  refine law_row (C := Try.checked) own_knob started (by kernel_rfl) Try.func14 laid_out rfl (tb := 4) rfl Try.underlying4 shs14 (by kernel_rfl) (fun ds h => ?_)
    (ChangeSpec.witness6 (enc := enc) (C := Try.checked) false ⟨#[], #[.agg #[.slice none 0 0, .int .u8 0, .int .u8 0]], []⟩ 8 (by kernel_rfl) (by kernel_rfl) (by kernel_rfl) (by kernel_rfl)) fun ds hg => ⟨false, ?_⟩
  · match ds, h with
    | [_], _ => rfl
  · simp only [shs14, GdFs] at hg
    obtain ⟨d0, _, rfl, g0, rfl⟩ := hg
    obtain ⟨L, c5, l4, ⟨hL, hc5, hl4⟩, e0⟩ := rd_case42 d0 g0
    have e : argAs shs14 [d0] = [.agg [ints L, .int .u8 c5, .int .u8 l4]] := by
      simp only [argAs, shs14]
      rw [e0]
    rw [e]
    exact fc14 L c5 l4 hL hc5 hl4

theorem over14 : Rows.inspectProbesRow.holds Try.pinned (OpenSpec.ofChange Rows.inspectProbesSpec) :=
  OpenClaim.holds_of_wide 14 Try.f14 rfl rfl rfl rfl rfl rfl rfl ⟨rfl, rfl, rfl, rfl, rfl⟩ rfl rfl rfl rfl rfl (by kernel_rfl) Try.func14 (by kernel_rfl)
    (of_decide_eq_true (by kernel_rfl)) (by unfold Func.isWrapper; rw [if_neg (of_decide_eq_false (by kernel_rfl))]; exact ⟨rfl, rfl⟩)
    (fun os started H enc _ => lifted14 os started H enc)

theorem inspectProbes_holds : Rows.InspectProbesSaid := over14
#print axioms inspectProbes_holds
end Go.Proofs.Ytadjdnhnbkcakaa
