/-
  Parts of the proof: A30 A26 A27 A29r.
-/
import Derived.Test.YtadjdnhnbkcakaaK4
set_option linter.unusedVariables false

/-! Walks: A30. -/
namespace Go.Proofs.Ytadjdnhnbkcakaa
open Go.RowKit


def mc38 : MC := (.seq (.reg [⟨(some 4), (.mv (.c (.bool false))), none, []⟩] false) (.seq (.reg [⟨(some 5), (.mv (.t 0)), none, []⟩, ⟨(some 6), (.mv (.t 1)), none, []⟩, ⟨(some 7), (.call 23 [(.t 5), (.t 6)]), none, [0, 1]⟩, ⟨(some 4), (.mv (.t 7)), none, [2, 2, 0, 1, 2]⟩] false) .ret))
theorem mcOk38 : (match Try.f38.body with | some c => compC Try.prog 8 c | none => none) = some mc38 := by kernel_rfl

theorem fc38 (xs ys : List Int) (hx : xs.length ≤ 4611686018427387904) : FC Try.prog 38 [ints xs, ints ys] [] (.bool (sameS xs ys)) [] false := by
  refine fc_run (nt := 8) Try.func38 rfl rfl mcOk38 (Nat.le_of_ble_eq_true rfl) ?_
  delta mc38
  refine aw_seq ?_
  refine aw_reg ?_
  refine rs_mv rfl rfl ?_
  refine rs_nil fun _ => ?_
  refine th_n ?_
  refine aw_seq ?_
  refine aw_reg ?_
  refine rs_mv rfl rfl ?_
  refine rs_mv rfl rfl ?_
  refine rs_calln [] rfl rfl (fc23 xs ys hx) (.cons (hv_same rfl) (.cons (hv_same rfl) (.nil))) rfl ?_
  refine rs_mv rfl rfl ?_
  refine rs_nil fun _ => ?_
  refine th_n ?_
  refine aw_ret ?_
  exact ret_pure rfl rfl rfl (.inr rfl)

theorem fc38_t (xs : List Int) (hx : xs.length ≤ 4611686018427387904) : FC Try.prog 38 [ints xs, ints xs] [] (.bool true) [] false := by
  have := fc38 xs xs hx
  rwa [show sameS xs xs = true from decide_eq_true rfl] at this

def mc57 : MC := (.seq (.reg [⟨(some 12), (.mv (.c (.bool false))), none, []⟩] false) (.seq (.reg [⟨(some 18), (.mv (.t 5)), none, []⟩, ⟨(some 19), (.mv (.t 1)), none, []⟩, ⟨(some 20), (.call 36 [(.t 18), (.c (.int .i64 1)), (.t 19)]), none, [0, 1]⟩, ⟨(some 17), (.mv (.t 20)), none, [2]⟩, ⟨(some 21), (.ext (.t 17) 0), none, [3]⟩, ⟨(some 22), (.ext (.t 17) 1), none, [3]⟩, ⟨(some 13), (.mv (.t 21)), none, [4, 2, 0, 1, 2, 3, 4]⟩, ⟨(some 14), (.mv (.t 22)), none, [5, 6, 0, 1, 2, 3, 4, 5, 6]⟩] false) (.seq (.reg [⟨(some 24), (.mv (.t 5)), none, []⟩, ⟨(some 25), (.mv (.t 1)), none, []⟩, ⟨(some 26), (.call 39 [(.t 24), (.c (.int .i64 1)), (.t 25)]), none, [0, 1]⟩, ⟨(some 23), (.mv (.t 26)), none, [2]⟩, ⟨(some 27), (.ext (.t 23) 0), none, [3]⟩, ⟨(some 28), (.ext (.t 23) 1), none, [3]⟩, ⟨(some 15), (.mv (.t 27)), none, [4, 2, 0, 1, 2, 3, 4]⟩, ⟨(some 16), (.mv (.t 28)), none, [5, 6, 0, 1, 2, 3, 4, 5, 6]⟩] false) (.seq (.reg [⟨(some 29), (.mv (.t 14)), none, []⟩, ⟨(some 30), (.bin .eql (.t 29) (.c (.int .i64 0))), none, [0]⟩, ⟨(some 31), (.mv (.t 30)), none, [1]⟩, ⟨(some 32), (.mv (.t 16)), (some (31, true)), [2]⟩, ⟨(some 33), (.bin .eql (.t 32) (.c (.int .i64 0))), (some (31, true)), [3, 2]⟩, ⟨(some 34), (.pick (.t 31) (.t 33) (.c (.bool false))), none, [2, 4]⟩, ⟨(some 35), (.mv (.t 34)), none, [5, 2]⟩, ⟨(some 36), (.mv (.t 13)), (some (35, true)), [6]⟩, ⟨(some 37), (.mv (.t 2)), (some (35, true)), [6]⟩, ⟨(some 38), (.bslice 3 1 [(.int .i64 0)] 1 [(0, (.t 37))]), (some (35, true)), [8, 6]⟩, ⟨(some 39), (.call 38 [(.t 36), (.t 38)]), (some (35, true)), [7, 9, 6, 6]⟩, ⟨(some 40), (.pick (.t 35) (.t 39) (.c (.bool false))), none, [6, 10]⟩, ⟨(some 41), (.mv (.t 40)), none, [11, 10]⟩, ⟨(some 42), (.mv (.t 15)), (some (41, true)), [12]⟩, ⟨(some 43), (.mv (.t 3)), (some (41, true)), [12]⟩, ⟨(some 44), (.call 38 [(.t 42), (.t 43)]), (some (41, true)), [13, 14, 12, 12]⟩, ⟨(some 45), (.pick (.t 41) (.t 44) (.c (.bool false))), none, [12, 15]⟩, ⟨(some 46), (.mv (.t 45)), none, [16, 15]⟩, ⟨(some 47), (.mv (.t 0)), (some (46, true)), [17]⟩, ⟨(some 48), (.bslice 3 1 [(.int .i64 0)] 1 [(0, (.t 47))]), (some (46, true)), [18, 17]⟩, ⟨(some 49), (.build [(.str (.mk (.mk []))), .nils, .nils] [(2, (1, (.t 48)))]), (some (46, true)), [19, 17]⟩, ⟨(some 50), (.mv (.t 5)), (some (46, true)), [17]⟩, ⟨(some 51), (.mv (.t 1)), (some (46, true)), [17]⟩, ⟨(some 52), (.call 42 [(.t 49), (.t 50), (.t 51)]), (some (46, true)), [20, 21, 22, 17, 17]⟩, ⟨(some 53), (.mv (.t 4)), (some (46, true)), [17]⟩, ⟨(some 54), (.bin .eql (.t 52) (.t 53)), (some (46, true)), [23, 24, 17]⟩, ⟨(some 55), (.pick (.t 46) (.t 54) (.c (.bool false))), none, [17, 25]⟩, ⟨(some 12), (.mv (.t 55)), none, [26, 23, 0, 1, 2, 3, 4, 5, 6, 7, 8, 9, 10, 11, 12, 13, 14, 15, 16, 17, 18, 19, 20, 21, 22, 23, 24, 25, 26]⟩] false) .ret))))
theorem mcOk57 : (match Try.f57.body with | some c => compC Try.prog 56 c | none => none) = some mc57 := by kernel_rfl

theorem fc57 (l : List Sg) (want lies cell verdict : Int) (liars : List Int) (hl : l.length ≤ 40) (hle : liars.length ≤ 8) (hE : cellsE l 1 lies = 0) (hC : cellsL l 1 lies = [cell]) (hS : sureL l 1 lies = liars) (hV : verdS [want] l lies = verdict) : FC Try.prog 57 [iv want, iv lies, iv cell, ints liars, iv verdict, .rs 3 (l.map cS)] [] (.bool true) [] false := by
  have c1 : FC Try.prog 36 [.rs 3 (l.map cS), iv 1, iv lies] [] (.tup [ints [cell], iv 0]) [] false := by have := fc36 l 1 lies (by omega); rwa [hC, hE] at this
  have c2 : FC Try.prog 39 [.rs 3 (l.map cS), iv 1, iv lies] [] (.tup [ints liars, iv 0]) [] false := by have := fc39 l 1 lies (by omega); rwa [hS, hE] at this
  have c3 : FC Try.prog 42 [partV [want], .rs 3 (l.map cS), iv lies] [] (iv verdict) [] false := by have := fc42 [want] l lies (by simp) (by omega); rwa [hV] at this
  refine fc_run (nt := 56) Try.func57 rfl rfl mcOk57 (Nat.le_of_ble_eq_true rfl) ?_
  delta mc57
  refine aw_seq ?_
  refine aw_reg ?_
  refine rs_mv rfl rfl ?_
  refine rs_nil fun _ => ?_
  refine th_n ?_
  refine aw_seq ?_
  refine aw_reg ?_
  refine rs_mv rfl rfl ?_
  refine rs_mv rfl rfl ?_
  refine rs_calln [] rfl rfl (c1) (.cons (hv_same rfl) (.cons (hv_same rfl) (.cons (hv_same rfl) (.nil)))) rfl ?_
  refine rs_mv rfl rfl ?_
  refine rs_ext rfl rfl rfl ?_
  refine rs_ext rfl rfl rfl ?_
  refine rs_mv rfl rfl ?_
  refine rs_mv rfl rfl ?_
  refine rs_nil fun _ => ?_
  refine th_n ?_
  refine aw_seq ?_
  refine aw_reg ?_
  refine rs_mv rfl rfl ?_
  refine rs_mv rfl rfl ?_
  refine rs_calln [] rfl rfl (c2) (.cons (hv_same rfl) (.cons (hv_same rfl) (.cons (hv_same rfl) (.nil)))) rfl ?_
  refine rs_mv rfl rfl ?_
  refine rs_ext rfl rfl rfl ?_
  refine rs_ext rfl rfl rfl ?_
  refine rs_mv rfl rfl ?_
  refine rs_mv rfl rfl ?_
  refine rs_nil fun _ => ?_
  refine th_n ?_
  refine aw_seq ?_
  refine aw_reg ?_
  refine rs_mv rfl rfl ?_
  refine rs_cmp_t rfl rfl rfl rfl rfl ?_
  refine rs_mv rfl rfl ?_
  refine rs_mv rfl rfl ?_
  refine rs_cmp_t rfl rfl rfl rfl rfl ?_
  refine rs_pick rfl rfl rfl ?_
  refine rs_mv rfl rfl ?_
  refine rs_mv rfl rfl ?_
  refine rs_mv rfl rfl ?_
  refine rs_bslice rfl rfl rfl rfl rfl rfl ?_
  refine rs_calln [38] rfl rfl (fc38_t [cell] (by simp)) (.cons (hv_same rfl) (.cons (hv_sl (by simp) rfl (Nat.le_of_ble_eq_true rfl) rfl) (.nil))) rfl ?_
  refine rs_pick rfl rfl rfl ?_
  refine rs_mv rfl rfl ?_
  refine rs_mv rfl rfl ?_
  refine rs_mv rfl rfl ?_
  refine rs_calln [] rfl rfl (fc38_t liars (by omega)) (.cons (hv_same rfl) (.cons (hv_same rfl) (.nil))) rfl ?_
  refine rs_pick rfl rfl rfl ?_
  refine rs_mv rfl rfl ?_
  refine rs_mv rfl rfl ?_
  refine rs_bslice rfl rfl rfl rfl rfl rfl ?_
  refine rs_build rfl rfl ?_
  refine rs_mv rfl rfl ?_
  refine rs_mv rfl rfl ?_
  refine rs_calln [48] rfl rfl (c3) (.cons (hv_agg (.cons (hv_same rfl) (.cons (hv_same rfl) (.cons (hv_sl (by simp) rfl (Nat.le_of_ble_eq_true rfl) rfl) .nil)))) (.cons (hv_same rfl) (.cons (hv_same rfl) (.nil)))) rfl ?_
  refine rs_mv rfl rfl ?_
  refine rs_cmp_t rfl rfl rfl rfl rfl ?_
  refine rs_pick rfl rfl rfl ?_
  refine rs_mv rfl rfl ?_
  refine rs_nil fun _ => ?_
  refine th_n ?_
  refine aw_ret ?_
  exact ret_pure rfl rfl rfl (.inr rfl)

theorem ni54 : FC Try.prog 36 [.rs 3 (([(⟨0, 0, true⟩ : Sg), (⟨1, 0, false⟩ : Sg)]).map cS), iv 1, iv 0] [] (.tup [ints [], iv 21]) [] false := by
  have h := fc36 [(⟨0, 0, true⟩ : Sg), (⟨1, 0, false⟩ : Sg)] 1 0 (by decide)
  rwa [show cellsL [(⟨0, 0, true⟩ : Sg), (⟨1, 0, false⟩ : Sg)] 1 0 = [] by decide +kernel, show cellsE [(⟨0, 0, true⟩ : Sg), (⟨1, 0, false⟩ : Sg)] 1 0 = 21 by decide +kernel] at h
theorem ni61 : FC Try.prog 39 [.rs 3 (([(⟨0, 0, true⟩ : Sg), (⟨1, 0, false⟩ : Sg)]).map cS), iv 1, iv 0] [] (.tup [ints [], iv 21]) [] false := by
  have h := fc39 [(⟨0, 0, true⟩ : Sg), (⟨1, 0, false⟩ : Sg)] 1 0 (by decide)
  rwa [show sureL [(⟨0, 0, true⟩ : Sg), (⟨1, 0, false⟩ : Sg)] 1 0 = [] by decide +kernel, show cellsE [(⟨0, 0, true⟩ : Sg), (⟨1, 0, false⟩ : Sg)] 1 0 = 21 by decide +kernel] at h
theorem ni71 : FC Try.prog 36 [.rs 3 (([(⟨0, 0, true⟩ : Sg), (⟨0, 1, false⟩ : Sg), (⟨1, 1, true⟩ : Sg), (⟨1, 0, false⟩ : Sg)]).map cS), iv 2, iv 1] [] (.tup [ints [0, 0], iv 0]) [] false := by
  have h := fc36 [(⟨0, 0, true⟩ : Sg), (⟨0, 1, false⟩ : Sg), (⟨1, 1, true⟩ : Sg), (⟨1, 0, false⟩ : Sg)] 2 1 (by decide)
  rwa [show cellsL [(⟨0, 0, true⟩ : Sg), (⟨0, 1, false⟩ : Sg), (⟨1, 1, true⟩ : Sg), (⟨1, 0, false⟩ : Sg)] 2 1 = [0, 0] by decide +kernel, show cellsE [(⟨0, 0, true⟩ : Sg), (⟨0, 1, false⟩ : Sg), (⟨1, 1, true⟩ : Sg), (⟨1, 0, false⟩ : Sg)] 2 1 = 0 by decide +kernel] at h
theorem nv88 : FC Try.prog 42 [partV [3], .rs 3 (([(⟨0, 0, true⟩ : Sg), (⟨1, 0, false⟩ : Sg)]).map cS), iv 0] [] (iv 21) [] false := by
  have h := fc42 [3] [(⟨0, 0, true⟩ : Sg), (⟨1, 0, false⟩ : Sg)] 0 (by decide) (by decide)
  rwa [show verdS [3] [(⟨0, 0, true⟩ : Sg), (⟨1, 0, false⟩ : Sg)] 0 = 21 by decide +kernel] at h
theorem nv103 : FC Try.prog 42 [partV [1, 1], .rs 3 (([(⟨0, 0, true⟩ : Sg), (⟨0, 1, false⟩ : Sg), (⟨1, 1, true⟩ : Sg), (⟨1, 0, false⟩ : Sg)]).map cS), iv 1] [] (iv 35) [] false := by
  have h := fc42 [1, 1] [(⟨0, 0, true⟩ : Sg), (⟨0, 1, false⟩ : Sg), (⟨1, 1, true⟩ : Sg), (⟨1, 0, false⟩ : Sg)] 1 (by decide) (by decide)
  rwa [show verdS [1, 1] [(⟨0, 0, true⟩ : Sg), (⟨0, 1, false⟩ : Sg), (⟨1, 1, true⟩ : Sg), (⟨1, 0, false⟩ : Sg)] 1 = 35 by decide +kernel] at h
theorem nv115 : FC Try.prog 42 [partV [4], .rs 3 ((([] : List Sg)).map cS), iv 0] [] (iv 1) [] false := by
  have h := fc42 [4] ([] : List Sg) 0 (by decide) (by decide)
  rwa [show verdS [4] ([] : List Sg) 0 = 1 by decide +kernel] at h
theorem nc109 : FC Try.prog 34 [.rs 3 (([(⟨0, 1, false⟩ : Sg)]).map cS), iv 1, iv 0] [] (iv 3) [] false := by
  have h := fc34 [(⟨0, 1, false⟩ : Sg)] 1 0 (by decide)
  rwa [show checkI [(⟨0, 1, false⟩ : Sg)] 1 0 = 3 by decide +kernel] at h

def mc31 : MC := (.seq (.reg [⟨(some 0), (.mv (.c (.bool false))), none, []⟩] false) (.seq (.reg [⟨(some 12), (.build [(.int .i64 0), (.int .i64 0), (.bool false)] [(2, (1, (.c (.bool true))))]), none, []⟩, ⟨(some 13), (.build [(.int .i64 0), (.int .i64 0), (.bool false)] [(0, (1, (.c (.int .i64 1))))]), none, []⟩, ⟨(some 14), (.build [(.int .i64 0), (.int .i64 0), (.bool false)] [(0, (1, (.c (.int .i64 2)))), (2, (1, (.c (.bool true))))]), none, []⟩, ⟨(some 1), (.alloc 80 3 [(.int .i64 0), (.int .i64 0), (.bool false)]), none, []⟩, ⟨(some 2), (.alloc 80 3 [(.int .i64 0), (.int .i64 0), (.bool false)]), none, []⟩, ⟨(some 3), (.alloc 80 3 [(.int .i64 0), (.int .i64 0), (.bool false)]), none, []⟩, ⟨none, (.st 3 (.t 1) (.t 12)), none, [3, 0, 0, 3, 4, 5]⟩, ⟨none, (.st 3 (.t 2) (.t 13)), none, [4, 1, 6, 0, 1, 3, 4, 5, 6]⟩, ⟨none, (.st 3 (.t 3) (.t 14)), none, [5, 2, 7, 0, 1, 2, 3, 4, 5, 6, 7]⟩] false) (.seq (.seq (.reg [⟨(some 15), (.ld true 3 (.t 1)), none, []⟩, ⟨(some 16), (.bslice 80 3 [(.int .i64 0), (.int .i64 0), (.bool false)] 1 [(0, (.t 15))]), none, [0]⟩, ⟨(some 17), (.call 57 [(.c (.int .i64 1)), (.c (.int .i64 0)), (.c (.int .i64 1)), (.c .nils), (.c (.int .i64 0)), (.t 16)]), none, [1]⟩, ⟨(some 18), (.un .not (.t 17)), none, [2]⟩, ⟨(some 19), (.mv (.t 18)), none, [3, 2]⟩, ⟨(some 20), (.ld true 3 (.t 1)), (some (19, false)), [4]⟩, ⟨(some 21), (.bslice 80 3 [(.int .i64 0), (.int .i64 0), (.bool false)] 1 [(0, (.t 20))]), (some (19, false)), [5, 4]⟩, ⟨(some 22), (.call 57 [(.c (.int .i64 1)), (.c (.int .i64 1)), (.c (.int .i64 0)), (.c .nils), (.c (.int .i64 5)), (.t 21)]), (some (19, false)), [6, 4, 4]⟩, ⟨(some 23), (.un .not (.t 22)), (some (19, false)), [7, 4]⟩, ⟨(some 24), (.pick (.t 19) (.c (.bool true)) (.t 23)), none, [4, 8]⟩, ⟨(some 25), (.mv (.t 24)), none, [9, 7]⟩, ⟨(some 26), (.ld true 3 (.t 1)), (some (25, false)), [10]⟩, ⟨(some 27), (.ld true 3 (.t 2)), (some (25, false)), [10]⟩, ⟨(some 28), (.bslice 80 3 [(.int .i64 0), (.int .i64 0), (.bool false)] 2 [(0, (.t 26)), (1, (.t 27))]), (some (25, false)), [11, 12, 10]⟩, ⟨(some 29), (.call 57 [(.c (.int .i64 1)), (.c (.int .i64 1)), (.c (.int .i64 0)), (.c .nils), (.c (.int .i64 5)), (.t 28)]), (some (25, false)), [13, 10, 10]⟩, ⟨(some 30), (.un .not (.t 29)), (some (25, false)), [14, 10]⟩, ⟨(some 31), (.pick (.t 25) (.c (.bool true)) (.t 30)), none, [10, 15]⟩, ⟨(some 32), (.mv (.t 31)), none, [16, 14]⟩, ⟨(some 33), (.bslice 3 1 [(.int .i64 0)] 1 [(0, (.c (.int .i64 1)))]), (some (32, false)), [17]⟩, ⟨(some 34), (.ld true 3 (.t 1)), (some (32, false)), [17]⟩, ⟨(some 35), (.ld true 3 (.t 2)), (some (32, false)), [17]⟩, ⟨(some 36), (.ld true 3 (.t 3)), (some (32, false)), [17]⟩, ⟨(some 37), (.bslice 80 3 [(.int .i64 0), (.int .i64 0), (.bool false)] 3 [(0, (.t 34)), (1, (.t 35)), (2, (.t 36))]), (some (32, false)), [19, 20, 21, 17]⟩, ⟨(some 38), (.call 57 [(.c (.int .i64 1)), (.c (.int .i64 1)), (.c (.int .i64 1)), (.t 33), (.c (.int .i64 0)), (.t 37)]), (some (32, false)), [18, 22, 17, 17]⟩, ⟨(some 39), (.un .not (.t 38)), (some (32, false)), [23, 17]⟩, ⟨(some 40), (.pick (.t 32) (.c (.bool true)) (.t 39)), none, [17, 24]⟩, ⟨(some 41), (.mv (.t 40)), none, [25, 23]⟩, ⟨(some 42), (.bslice 3 1 [(.int .i64 0)] 1 [(0, (.c (.int .i64 1)))]), (some (41, false)), [26]⟩, ⟨(some 43), (.ld true 3 (.t 1)), (some (41, false)), [26]⟩, ⟨(some 44), (.ld true 3 (.t 2)), (some (41, false)), [26]⟩, ⟨(some 45), (.ld true 3 (.t 3)), (some (41, false)), [26]⟩, ⟨(some 46), (.bslice 80 3 [(.int .i64 0), (.int .i64 0), (.bool false)] 3 [(0, (.t 43)), (1, (.t 44)), (2, (.t 45))]), (some (41, false)), [28, 29, 30, 26]⟩, ⟨(some 47), (.call 57 [(.c (.int .i64 2)), (.c (.int .i64 1)), (.c (.int .i64 1)), (.t 42), (.c (.int .i64 35)), (.t 46)]), (some (41, false)), [27, 31, 26, 26]⟩, ⟨(some 48), (.un .not (.t 47)), (some (41, false)), [32, 26]⟩, ⟨(some 49), (.pick (.t 41) (.c (.bool true)) (.t 48)), none, [26, 33]⟩] false) (.cond (.t 49) (.seq (.reg [⟨(some 0), (.mv (.c (.bool false))), none, []⟩] false) .ret) .skip)) (.seq (.reg [⟨(some 51), (.ld true 3 (.t 1)), none, []⟩, ⟨(some 52), (.ld true 3 (.t 2)), none, []⟩, ⟨(some 53), (.bslice 80 3 [(.int .i64 0), (.int .i64 0), (.bool false)] 2 [(0, (.t 51)), (1, (.t 52))]), none, [0, 1]⟩, ⟨(some 54), (.call 36 [(.t 53), (.c (.int .i64 1)), (.c (.int .i64 0))]), none, [2]⟩, ⟨(some 50), (.mv (.t 54)), none, [3]⟩, ⟨(some 55), (.ext (.t 50) 0), none, [4]⟩, ⟨(some 56), (.ext (.t 50) 1), none, [4]⟩, ⟨(some 4), (.mv (.t 55)), none, [5, 3, 0, 1, 2, 3, 4, 5]⟩, ⟨(some 5), (.mv (.t 56)), none, [6, 7, 0, 1, 2, 3, 4, 5, 6, 7]⟩] false) (.seq (.reg [⟨(some 58), (.ld true 3 (.t 1)), none, []⟩, ⟨(some 59), (.ld true 3 (.t 2)), none, []⟩, ⟨(some 60), (.bslice 80 3 [(.int .i64 0), (.int .i64 0), (.bool false)] 2 [(0, (.t 58)), (1, (.t 59))]), none, [0, 1]⟩, ⟨(some 61), (.call 39 [(.t 60), (.c (.int .i64 1)), (.c (.int .i64 0))]), none, [2]⟩, ⟨(some 57), (.mv (.t 61)), none, [3]⟩, ⟨(some 62), (.ext (.t 57) 0), none, [4]⟩, ⟨(some 63), (.ext (.t 57) 1), none, [4]⟩, ⟨(some 6), (.mv (.t 62)), none, [5, 3, 0, 1, 2, 3, 4, 5]⟩, ⟨(some 7), (.mv (.t 63)), none, [6, 7, 0, 1, 2, 3, 4, 5, 6, 7]⟩] false) (.seq (.reg [⟨(some 64), (.ld true 3 (.t 1)), none, []⟩, ⟨(some 65), (.build [(.int .i64 0), (.int .i64 0), (.bool false)] [(1, (1, (.c (.int .i64 1))))]), none, []⟩, ⟨(some 66), (.build [(.int .i64 0), (.int .i64 0), (.bool false)] [(0, (1, (.c (.int .i64 1)))), (1, (1, (.c (.int .i64 1)))), (2, (1, (.c (.bool true))))]), none, []⟩, ⟨(some 67), (.ld true 3 (.t 2)), none, []⟩, ⟨(some 68), (.bslice 80 3 [(.int .i64 0), (.int .i64 0), (.bool false)] 4 [(0, (.t 64)), (1, (.t 65)), (2, (.t 66)), (3, (.t 67))]), none, [0, 1, 2, 3]⟩, ⟨(some 8), (.mv (.t 68)), none, [4, 0, 1, 2, 3, 4]⟩] false) (.seq (.reg [⟨(some 70), (.mv (.t 8)), none, []⟩, ⟨(some 71), (.call 36 [(.t 70), (.c (.int .i64 2)), (.c (.int .i64 1))]), none, [0]⟩, ⟨(some 69), (.mv (.t 71)), none, [1]⟩, ⟨(some 72), (.ext (.t 69) 0), none, [2]⟩, ⟨(some 73), (.ext (.t 69) 1), none, [2]⟩, ⟨(some 9), (.mv (.t 72)), none, [3, 1, 0, 1, 2, 3]⟩, ⟨(some 10), (.mv (.t 73)), none, [4, 5, 0, 1, 2, 3, 4, 5]⟩] false) (.seq (.reg [⟨(some 74), (.bslice 3 1 [(.int .i64 0)] 2 [(0, (.c (.int .i64 1))), (1, (.c (.int .i64 1)))]), none, []⟩, ⟨(some 75), (.build [(.str (.mk (.mk []))), .nils, .nils] [(2, (1, (.t 74)))]), none, [0]⟩, ⟨(some 11), (.alloc 74 3 [(.str (.mk (.mk []))), .nils, .nils]), none, []⟩, ⟨none, (.st 3 (.t 11) (.t 75)), none, [2, 1, 0, 1, 2]⟩] false) (.seq (.reg [⟨(some 76), (.mv (.t 5)), none, []⟩, ⟨(some 77), (.bin .eql (.t 76) (.c (.int .i64 21))), none, [0]⟩, ⟨(some 78), (.mv (.t 77)), none, [1]⟩, ⟨(some 79), (.mv (.t 7)), (some (78, true)), [2]⟩, ⟨(some 80), (.bin .eql (.t 79) (.c (.int .i64 21))), (some (78, true)), [3, 2]⟩, ⟨(some 81), (.pick (.t 78) (.t 80) (.c (.bool false))), none, [2, 4]⟩, ⟨(some 82), (.mv (.t 81)), none, [5, 2]⟩, ⟨(some 83), (.bslice 3 1 [(.int .i64 0)] 1 [(0, (.c (.int .i64 3)))]), (some (82, true)), [6]⟩, ⟨(some 84), (.build [(.str (.mk (.mk []))), .nils, .nils] [(2, (1, (.t 83)))]), (some (82, true)), [7, 6]⟩, ⟨(some 85), (.ld true 3 (.t 1)), (some (82, true)), [6]⟩, ⟨(some 86), (.ld true 3 (.t 2)), (some (82, true)), [6]⟩, ⟨(some 87), (.bslice 80 3 [(.int .i64 0), (.int .i64 0), (.bool false)] 2 [(0, (.t 85)), (1, (.t 86))]), (some (82, true)), [9, 10, 6]⟩, ⟨(some 88), (.call 42 [(.t 84), (.t 87), (.c (.int .i64 0))]), (some (82, true)), [8, 11, 6, 6]⟩, ⟨(some 89), (.bin .eql (.t 88) (.c (.int .i64 21))), (some (82, true)), [12, 6]⟩, ⟨(some 90), (.pick (.t 82) (.t 89) (.c (.bool false))), none, [6, 13]⟩, ⟨(some 91), (.mv (.t 90)), none, [14, 12]⟩, ⟨(some 92), (.mv (.t 10)), (some (91, true)), [15]⟩, ⟨(some 93), (.bin .eql (.t 92) (.c (.int .i64 0))), (some (91, true)), [16, 15]⟩, ⟨(some 94), (.pick (.t 91) (.t 93) (.c (.bool false))), none, [15, 17]⟩, ⟨(some 95), (.mv (.t 94)), none, [18, 15]⟩, ⟨(some 96), (.mv (.t 9)), (some (95, true)), [19]⟩, ⟨(some 97), (.bslice 3 1 [(.int .i64 0)] 2 [(0, (.c (.int .i64 0))), (1, (.c (.int .i64 0)))]), (some (95, true)), [19]⟩, ⟨(some 98), (.call 38 [(.t 96), (.t 97)]), (some (95, true)), [20, 21, 19, 19]⟩, ⟨(some 99), (.pick (.t 95) (.t 98) (.c (.bool false))), none, [19, 22]⟩, ⟨(some 100), (.mv (.t 99)), none, [23, 22]⟩, ⟨(some 101), (.ld true 3 (.t 11)), (some (100, true)), [24]⟩, ⟨(some 102), (.mv (.t 8)), (some (100, true)), [24]⟩, ⟨(some 103), (.call 42 [(.t 101), (.t 102), (.c (.int .i64 1))]), (some (100, true)), [25, 26, 24, 24]⟩, ⟨(some 104), (.bin .eql (.t 103) (.c (.int .i64 35))), (some (100, true)), [27, 24]⟩, ⟨(some 105), (.pick (.t 100) (.t 104) (.c (.bool false))), none, [24, 28]⟩, ⟨(some 106), (.mv (.t 105)), none, [29, 27]⟩, ⟨(some 107), (.build [(.int .i64 0), (.int .i64 0), (.bool false)] [(1, (1, (.c (.int .i64 1))))]), (some (106, true)), [30]⟩, ⟨(some 108), (.bslice 80 3 [(.int .i64 0), (.int .i64 0), (.bool false)] 1 [(0, (.t 107))]), (some (106, true)), [31, 30]⟩, ⟨(some 109), (.call 34 [(.t 108), (.c (.int .i64 1)), (.c (.int .i64 0))]), (some (106, true)), [32, 30, 30]⟩, ⟨(some 110), (.bin .eql (.t 109) (.c (.int .i64 3))), (some (106, true)), [33, 30]⟩, ⟨(some 111), (.pick (.t 106) (.t 110) (.c (.bool false))), none, [30, 34]⟩, ⟨(some 112), (.mv (.t 111)), none, [35, 33]⟩, ⟨(some 113), (.bslice 3 1 [(.int .i64 0)] 1 [(0, (.c (.int .i64 4)))]), (some (112, true)), [36]⟩, ⟨(some 114), (.build [(.str (.mk (.mk []))), .nils, .nils] [(2, (1, (.t 113)))]), (some (112, true)), [37, 36]⟩, ⟨(some 115), (.call 42 [(.t 114), (.c .nils), (.c (.int .i64 0))]), (some (112, true)), [38, 36, 36]⟩, ⟨(some 116), (.bin .eql (.t 115) (.c (.int .i64 1))), (some (112, true)), [39, 36]⟩, ⟨(some 117), (.pick (.t 112) (.t 116) (.c (.bool false))), none, [36, 40]⟩, ⟨(some 0), (.mv (.t 117)), none, [41, 39, 0, 1, 2, 3, 4, 5, 6, 7, 8, 9, 10, 11, 12, 13, 14, 15, 16, 17, 18, 19, 20, 21, 22, 23, 24, 25, 26, 27, 28, 29, 30, 31, 32, 33, 34, 35, 36, 37, 38, 39, 40, 41]⟩] false) .ret)))))))))
theorem mcOk31 : (match Try.f31.body with | some c => compC Try.prog 118 c | none => none) = some mc31 := by kernel_rfl

theorem fc31  : FC Try.prog 31 [] [] (.bool true) [] false := by
  refine fc_run (nt := 118) Try.func31 rfl rfl mcOk31 (Nat.le_of_ble_eq_true rfl) ?_
  delta mc31
  refine aw_seq ?_
  refine aw_reg ?_
  refine rs_mv rfl rfl ?_
  refine rs_nil fun _ => ?_
  refine th_n ?_
  refine aw_seq ?_
  refine aw_reg ?_
  refine rs_build rfl rfl ?_
  refine rs_build rfl rfl ?_
  refine rs_build rfl rfl ?_
  refine rs_alloc rfl rfl rfl ?_
  refine rs_alloc rfl rfl rfl ?_
  refine rs_alloc rfl rfl rfl ?_
  refine rs_st (els' := [cS (⟨0, 0, true⟩ : Sg)]) rfl rfl rfl rfl rfl rfl rfl (Nat.le_of_ble_eq_true rfl) rfl rfl ?_
  refine rs_st (els' := [cS (⟨1, 0, false⟩ : Sg)]) rfl rfl rfl rfl rfl rfl rfl (Nat.le_of_ble_eq_true rfl) rfl rfl ?_
  refine rs_st (els' := [cS (⟨2, 0, true⟩ : Sg)]) rfl rfl rfl rfl rfl rfl rfl (Nat.le_of_ble_eq_true rfl) rfl rfl ?_
  refine rs_nil fun _ => ?_
  refine th_n ?_
  refine aw_seq ?_
  refine aw_seq ?_
  refine aw_reg ?_
  first | refine rs_ld_pa rfl rfl rfl rfl (Nat.le_of_ble_eq_true rfl) rfl ?_ | refine rs_ld_ra rfl rfl (Nat.le_of_ble_eq_true rfl) rfl ?_ | refine rs_ld_ma rfl rfl rfl (by omega) (Nat.le_of_ble_eq_true rfl) rfl ?_
  refine rs_bslice rfl rfl rfl rfl rfl rfl ?_
  refine rs_calln [16] rfl rfl (fc57 [(⟨0, 0, true⟩ : Sg)] 1 0 1 0 [] (by decide) (by decide) (by decide +kernel) (by decide +kernel) (by decide +kernel) (by decide +kernel)) (.cons (hv_same rfl) (.cons (hv_same rfl) (.cons (hv_same rfl) (.cons (hv_nils) (.cons (hv_same rfl) (.cons (hv_sl (by simp) rfl (Nat.le_of_ble_eq_true rfl) rfl) (.nil))))))) rfl ?_
  refine rs_not rfl rfl ?_
  refine rs_mv rfl rfl ?_
  first | refine rs_ld_pa rfl rfl rfl rfl (Nat.le_of_ble_eq_true rfl) rfl ?_ | refine rs_ld_ra rfl rfl (Nat.le_of_ble_eq_true rfl) rfl ?_ | refine rs_ld_ma rfl rfl rfl (by omega) (Nat.le_of_ble_eq_true rfl) rfl ?_
  refine rs_bslice rfl rfl rfl rfl rfl rfl ?_
  refine rs_calln [21] rfl rfl (fc57 [(⟨0, 0, true⟩ : Sg)] 1 1 0 5 [] (by decide) (by decide) (by decide +kernel) (by decide +kernel) (by decide +kernel) (by decide +kernel)) (.cons (hv_same rfl) (.cons (hv_same rfl) (.cons (hv_same rfl) (.cons (hv_nils) (.cons (hv_same rfl) (.cons (hv_sl (by simp) rfl (Nat.le_of_ble_eq_true rfl) rfl) (.nil))))))) rfl ?_
  refine rs_not rfl rfl ?_
  refine rs_pick rfl rfl rfl ?_
  refine rs_mv rfl rfl ?_
  first | refine rs_ld_pa rfl rfl rfl rfl (Nat.le_of_ble_eq_true rfl) rfl ?_ | refine rs_ld_ra rfl rfl (Nat.le_of_ble_eq_true rfl) rfl ?_ | refine rs_ld_ma rfl rfl rfl (by omega) (Nat.le_of_ble_eq_true rfl) rfl ?_
  first | refine rs_ld_pa rfl rfl rfl rfl (Nat.le_of_ble_eq_true rfl) rfl ?_ | refine rs_ld_ra rfl rfl (Nat.le_of_ble_eq_true rfl) rfl ?_ | refine rs_ld_ma rfl rfl rfl (by omega) (Nat.le_of_ble_eq_true rfl) rfl ?_
  refine rs_bslice rfl rfl rfl rfl rfl rfl ?_
  refine rs_calln [28] rfl rfl (fc57 [(⟨0, 0, true⟩ : Sg), (⟨1, 0, false⟩ : Sg)] 1 1 0 5 [] (by decide) (by decide) (by decide +kernel) (by decide +kernel) (by decide +kernel) (by decide +kernel)) (.cons (hv_same rfl) (.cons (hv_same rfl) (.cons (hv_same rfl) (.cons (hv_nils) (.cons (hv_same rfl) (.cons (hv_sl (by simp) rfl (Nat.le_of_ble_eq_true rfl) rfl) (.nil))))))) rfl ?_
  refine rs_not rfl rfl ?_
  refine rs_pick rfl rfl rfl ?_
  refine rs_mv rfl rfl ?_
  refine rs_bslice rfl rfl rfl rfl rfl rfl ?_
  first | refine rs_ld_pa rfl rfl rfl rfl (Nat.le_of_ble_eq_true rfl) rfl ?_ | refine rs_ld_ra rfl rfl (Nat.le_of_ble_eq_true rfl) rfl ?_ | refine rs_ld_ma rfl rfl rfl (by omega) (Nat.le_of_ble_eq_true rfl) rfl ?_
  first | refine rs_ld_pa rfl rfl rfl rfl (Nat.le_of_ble_eq_true rfl) rfl ?_ | refine rs_ld_ra rfl rfl (Nat.le_of_ble_eq_true rfl) rfl ?_ | refine rs_ld_ma rfl rfl rfl (by omega) (Nat.le_of_ble_eq_true rfl) rfl ?_
  first | refine rs_ld_pa rfl rfl rfl rfl (Nat.le_of_ble_eq_true rfl) rfl ?_ | refine rs_ld_ra rfl rfl (Nat.le_of_ble_eq_true rfl) rfl ?_ | refine rs_ld_ma rfl rfl rfl (by omega) (Nat.le_of_ble_eq_true rfl) rfl ?_
  refine rs_bslice rfl rfl rfl rfl rfl rfl ?_
  refine rs_calln [33, 37] rfl rfl (fc57 [(⟨0, 0, true⟩ : Sg), (⟨1, 0, false⟩ : Sg), (⟨2, 0, true⟩ : Sg)] 1 1 1 0 [1] (by decide) (by decide) (by decide +kernel) (by decide +kernel) (by decide +kernel) (by decide +kernel)) (.cons (hv_same rfl) (.cons (hv_same rfl) (.cons (hv_same rfl) (.cons (hv_sl (by simp) rfl (Nat.le_of_ble_eq_true rfl) rfl) (.cons (hv_same rfl) (.cons (hv_sl (by simp) rfl (Nat.le_of_ble_eq_true rfl) rfl) (.nil))))))) rfl ?_
  refine rs_not rfl rfl ?_
  refine rs_pick rfl rfl rfl ?_
  refine rs_mv rfl rfl ?_
  refine rs_bslice rfl rfl rfl rfl rfl rfl ?_
  first | refine rs_ld_pa rfl rfl rfl rfl (Nat.le_of_ble_eq_true rfl) rfl ?_ | refine rs_ld_ra rfl rfl (Nat.le_of_ble_eq_true rfl) rfl ?_ | refine rs_ld_ma rfl rfl rfl (by omega) (Nat.le_of_ble_eq_true rfl) rfl ?_
  first | refine rs_ld_pa rfl rfl rfl rfl (Nat.le_of_ble_eq_true rfl) rfl ?_ | refine rs_ld_ra rfl rfl (Nat.le_of_ble_eq_true rfl) rfl ?_ | refine rs_ld_ma rfl rfl rfl (by omega) (Nat.le_of_ble_eq_true rfl) rfl ?_
  first | refine rs_ld_pa rfl rfl rfl rfl (Nat.le_of_ble_eq_true rfl) rfl ?_ | refine rs_ld_ra rfl rfl (Nat.le_of_ble_eq_true rfl) rfl ?_ | refine rs_ld_ma rfl rfl rfl (by omega) (Nat.le_of_ble_eq_true rfl) rfl ?_
  refine rs_bslice rfl rfl rfl rfl rfl rfl ?_
  refine rs_calln [42, 46] rfl rfl (fc57 [(⟨0, 0, true⟩ : Sg), (⟨1, 0, false⟩ : Sg), (⟨2, 0, true⟩ : Sg)] 2 1 1 35 [1] (by decide) (by decide) (by decide +kernel) (by decide +kernel) (by decide +kernel) (by decide +kernel)) (.cons (hv_same rfl) (.cons (hv_same rfl) (.cons (hv_same rfl) (.cons (hv_sl (by simp) rfl (Nat.le_of_ble_eq_true rfl) rfl) (.cons (hv_same rfl) (.cons (hv_sl (by simp) rfl (Nat.le_of_ble_eq_true rfl) rfl) (.nil))))))) rfl ?_
  refine rs_not rfl rfl ?_
  refine rs_pick rfl rfl rfl ?_
  refine rs_nil fun _ => ?_
  refine th_n ?_
  refine aw_cond rfl (fun h => by cases h) (fun _ => ?_)
  refine aw_skip ?_
  refine th_n ?_
  refine aw_seq ?_
  refine aw_reg ?_
  first | refine rs_ld_pa rfl rfl rfl rfl (Nat.le_of_ble_eq_true rfl) rfl ?_ | refine rs_ld_ra rfl rfl (Nat.le_of_ble_eq_true rfl) rfl ?_ | refine rs_ld_ma rfl rfl rfl (by omega) (Nat.le_of_ble_eq_true rfl) rfl ?_
  first | refine rs_ld_pa rfl rfl rfl rfl (Nat.le_of_ble_eq_true rfl) rfl ?_ | refine rs_ld_ra rfl rfl (Nat.le_of_ble_eq_true rfl) rfl ?_ | refine rs_ld_ma rfl rfl rfl (by omega) (Nat.le_of_ble_eq_true rfl) rfl ?_
  refine rs_bslice rfl rfl rfl rfl rfl rfl ?_
  refine rs_calln [53] rfl rfl (ni54) (.cons (hv_sl (by simp) rfl (Nat.le_of_ble_eq_true rfl) rfl) (.cons (hv_same rfl) (.cons (hv_same rfl) (.nil)))) rfl ?_
  refine rs_mv rfl rfl ?_
  refine rs_ext rfl rfl rfl ?_
  refine rs_ext rfl rfl rfl ?_
  refine rs_mv rfl rfl ?_
  refine rs_mv rfl rfl ?_
  refine rs_nil fun _ => ?_
  refine th_n ?_
  refine aw_seq ?_
  refine aw_reg ?_
  first | refine rs_ld_pa rfl rfl rfl rfl (Nat.le_of_ble_eq_true rfl) rfl ?_ | refine rs_ld_ra rfl rfl (Nat.le_of_ble_eq_true rfl) rfl ?_ | refine rs_ld_ma rfl rfl rfl (by omega) (Nat.le_of_ble_eq_true rfl) rfl ?_
  first | refine rs_ld_pa rfl rfl rfl rfl (Nat.le_of_ble_eq_true rfl) rfl ?_ | refine rs_ld_ra rfl rfl (Nat.le_of_ble_eq_true rfl) rfl ?_ | refine rs_ld_ma rfl rfl rfl (by omega) (Nat.le_of_ble_eq_true rfl) rfl ?_
  refine rs_bslice rfl rfl rfl rfl rfl rfl ?_
  refine rs_calln [60] rfl rfl (ni61) (.cons (hv_sl (by simp) rfl (Nat.le_of_ble_eq_true rfl) rfl) (.cons (hv_same rfl) (.cons (hv_same rfl) (.nil)))) rfl ?_
  refine rs_mv rfl rfl ?_
  refine rs_ext rfl rfl rfl ?_
  refine rs_ext rfl rfl rfl ?_
  refine rs_mv rfl rfl ?_
  refine rs_mv rfl rfl ?_
  refine rs_nil fun _ => ?_
  refine th_n ?_
  refine aw_seq ?_
  refine aw_reg ?_
  first | refine rs_ld_pa rfl rfl rfl rfl (Nat.le_of_ble_eq_true rfl) rfl ?_ | refine rs_ld_ra rfl rfl (Nat.le_of_ble_eq_true rfl) rfl ?_ | refine rs_ld_ma rfl rfl rfl (by omega) (Nat.le_of_ble_eq_true rfl) rfl ?_
  refine rs_build rfl rfl ?_
  refine rs_build rfl rfl ?_
  first | refine rs_ld_pa rfl rfl rfl rfl (Nat.le_of_ble_eq_true rfl) rfl ?_ | refine rs_ld_ra rfl rfl (Nat.le_of_ble_eq_true rfl) rfl ?_ | refine rs_ld_ma rfl rfl rfl (by omega) (Nat.le_of_ble_eq_true rfl) rfl ?_
  refine rs_bslice rfl rfl rfl rfl rfl rfl ?_
  refine rs_mv rfl rfl ?_
  refine rs_nil fun _ => ?_
  refine th_n ?_
  refine aw_seq ?_
  refine aw_reg ?_
  refine rs_mv rfl rfl ?_
  refine rs_calln [68] rfl rfl (ni71) (.cons (hv_sl (by simp) rfl (Nat.le_of_ble_eq_true rfl) rfl) (.cons (hv_same rfl) (.cons (hv_same rfl) (.nil)))) rfl ?_
  refine rs_mv rfl rfl ?_
  refine rs_ext rfl rfl rfl ?_
  refine rs_ext rfl rfl rfl ?_
  refine rs_mv rfl rfl ?_
  refine rs_mv rfl rfl ?_
  refine rs_nil fun _ => ?_
  refine th_n ?_
  refine aw_seq ?_
  refine aw_reg ?_
  refine rs_bslice rfl rfl rfl rfl rfl rfl ?_
  refine rs_build rfl rfl ?_
  refine rs_alloc rfl rfl rfl ?_
  refine rs_st rfl rfl rfl rfl rfl rfl rfl (Nat.le_of_ble_eq_true rfl) rfl rfl ?_
  refine rs_nil fun _ => ?_
  refine th_n ?_
  refine aw_seq ?_
  refine aw_reg ?_
  refine rs_mv rfl rfl ?_
  refine rs_cmp_t rfl rfl rfl rfl rfl ?_
  refine rs_mv rfl rfl ?_
  refine rs_mv rfl rfl ?_
  refine rs_cmp_t rfl rfl rfl rfl rfl ?_
  refine rs_pick rfl rfl rfl ?_
  refine rs_mv rfl rfl ?_
  refine rs_bslice rfl rfl rfl rfl rfl rfl ?_
  refine rs_build rfl rfl ?_
  first | refine rs_ld_pa rfl rfl rfl rfl (Nat.le_of_ble_eq_true rfl) rfl ?_ | refine rs_ld_ra rfl rfl (Nat.le_of_ble_eq_true rfl) rfl ?_ | refine rs_ld_ma rfl rfl rfl (by omega) (Nat.le_of_ble_eq_true rfl) rfl ?_
  first | refine rs_ld_pa rfl rfl rfl rfl (Nat.le_of_ble_eq_true rfl) rfl ?_ | refine rs_ld_ra rfl rfl (Nat.le_of_ble_eq_true rfl) rfl ?_ | refine rs_ld_ma rfl rfl rfl (by omega) (Nat.le_of_ble_eq_true rfl) rfl ?_
  refine rs_bslice rfl rfl rfl rfl rfl rfl ?_
  refine rs_calln [83, 87] rfl rfl (nv88) (.cons (hv_agg (.cons (hv_same rfl) (.cons (hv_same rfl) (.cons (hv_sl (by simp) rfl (Nat.le_of_ble_eq_true rfl) rfl) .nil)))) (.cons (hv_sl (by simp) rfl (Nat.le_of_ble_eq_true rfl) rfl) (.cons (hv_same rfl) (.nil)))) rfl ?_
  refine rs_cmp_t rfl rfl rfl rfl rfl ?_
  refine rs_pick rfl rfl rfl ?_
  refine rs_mv rfl rfl ?_
  refine rs_mv rfl rfl ?_
  refine rs_cmp_t rfl rfl rfl rfl rfl ?_
  refine rs_pick rfl rfl rfl ?_
  refine rs_mv rfl rfl ?_
  refine rs_mv rfl rfl ?_
  refine rs_bslice rfl rfl rfl rfl rfl rfl ?_
  refine rs_calln [97] rfl rfl (fc38_t [0, 0] (by decide)) (.cons (hv_same rfl) (.cons (hv_sl (by simp) rfl (Nat.le_of_ble_eq_true rfl) rfl) (.nil))) rfl ?_
  refine rs_pick rfl rfl rfl ?_
  refine rs_mv rfl rfl ?_
  first | refine rs_ld_pa rfl rfl rfl rfl (Nat.le_of_ble_eq_true rfl) rfl ?_ | refine rs_ld_ra rfl rfl (Nat.le_of_ble_eq_true rfl) rfl ?_ | refine rs_ld_ma rfl rfl rfl (by omega) (Nat.le_of_ble_eq_true rfl) rfl ?_
  refine rs_mv rfl rfl ?_
  refine rs_calln [74, 68] rfl rfl (nv103) (.cons (hv_agg (.cons (hv_same rfl) (.cons (hv_same rfl) (.cons (hv_sl (by simp) rfl (Nat.le_of_ble_eq_true rfl) rfl) .nil)))) (.cons (hv_sl (by simp) rfl (Nat.le_of_ble_eq_true rfl) rfl) (.cons (hv_same rfl) (.nil)))) rfl ?_
  refine rs_cmp_t rfl rfl rfl rfl rfl ?_
  refine rs_pick rfl rfl rfl ?_
  refine rs_mv rfl rfl ?_
  refine rs_build rfl rfl ?_
  refine rs_bslice rfl rfl rfl rfl rfl rfl ?_
  refine rs_calln [108] rfl rfl (nc109) (.cons (hv_sl (by simp) rfl (Nat.le_of_ble_eq_true rfl) rfl) (.cons (hv_same rfl) (.cons (hv_same rfl) (.nil)))) rfl ?_
  refine rs_cmp_t rfl rfl rfl rfl rfl ?_
  refine rs_pick rfl rfl rfl ?_
  refine rs_mv rfl rfl ?_
  refine rs_bslice rfl rfl rfl rfl rfl rfl ?_
  refine rs_build rfl rfl ?_
  refine rs_calln [113] rfl rfl (nv115) (.cons (hv_agg (.cons (hv_same rfl) (.cons (hv_same rfl) (.cons (hv_sl (by simp) rfl (Nat.le_of_ble_eq_true rfl) rfl) .nil)))) (.cons (hv_nils) (.cons (hv_same rfl) (.nil)))) rfl ?_
  refine rs_cmp_t rfl rfl rfl rfl rfl ?_
  refine rs_pick rfl rfl rfl ?_
  refine rs_mv rfl rfl ?_
  refine rs_nil fun _ => ?_
  refine th_n ?_
  refine aw_ret ?_
  exact ret_pure rfl rfl rfl (.inr rfl)

end Go.Proofs.Ytadjdnhnbkcakaa

/-! Walks: A26. -/
namespace Go.Proofs.Ytadjdnhnbkcakaa
open Go.RowKit

theorem fc64' (s : Nat) (p : Int) (hs : s < 256) (h0 : 0 ≤ p) (h8 : p < 8) : FC Try.prog 64 [iv (s : Int), iv p] [] (.bool (hasS s p.toNat)) [] false := by
  have h := fc64 s p.toNat hs (by omega)
  rwa [show ((p.toNat : Nat) : Int) = p by omega] at h

def mc62 : MC := (.seq (.reg [⟨(some 6), (.mv (.c .nils)), none, []⟩, ⟨(some 7), (.mv (.c (.bool false))), none, [0]⟩] false) (.seq (.reg [⟨(some 11), (.mv (.t 1)), none, []⟩, ⟨(some 12), (.mksl 3 1 8 [(.int .i64 0)] (.t 11) (.t 11)), none, [0, 0]⟩, ⟨(some 8), (.mv (.t 12)), none, [1, 0, 1]⟩] false) (.seq (.seq (.reg [⟨(some 9), (.mv (.c (.int .i64 0))), none, []⟩] false) (.block 0 (.loop (.seq (.seq (.reg [⟨(some 13), (.mv (.t 9)), none, []⟩, ⟨(some 14), (.mv (.t 0)), none, []⟩, ⟨(some 15), (.len (.t 14)), none, [1]⟩, ⟨(some 16), (.bin .lss (.t 13) (.t 15)), none, [0, 2]⟩] false) (.cond (.t 16) .skip (.exit 0))) (.seq (.block 1 (.seq (.seq (.reg [⟨(some 19), (.mv (.t 2)), none, []⟩, ⟨(some 20), (.mv (.t 0)), none, []⟩, ⟨(some 21), (.mv (.t 9)), none, []⟩, ⟨(some 22), (.ixsl 3 (.t 20) (.t 21)), none, [1, 2]⟩, ⟨(some 23), (.fa 0 (.t 22)), none, [3]⟩, ⟨(some 24), (.ld false 1 (.t 23)), none, [4]⟩, ⟨(some 25), (.call 64 [(.t 19), (.t 24)]), none, [0, 5]⟩] false) (.cond (.t 25) (.exit 1) .skip)) (.seq (.reg [⟨(some 10), (.mv (.c (.int .i64 (-1)))), none, []⟩] false) (.seq (.seq (.reg [⟨(some 26), (.mv (.t 0)), none, []⟩, ⟨(some 27), (.mv (.t 9)), none, []⟩, ⟨(some 28), (.ixsl 3 (.t 26) (.t 27)), none, [0, 1]⟩, ⟨(some 29), (.fa 2 (.t 28)), none, [2]⟩, ⟨(some 30), (.ld false 1 (.t 29)), none, [3]⟩] false) (.cond (.t 30) (.reg [⟨(some 10), (.mv (.c (.int .i64 1))), none, []⟩] false) .skip)) (.seq (.seq (.reg [⟨(some 31), (.mv (.t 8)), none, []⟩, ⟨(some 32), (.mv (.t 0)), none, []⟩, ⟨(some 33), (.mv (.t 9)), none, []⟩, ⟨(some 34), (.ixsl 3 (.t 32) (.t 33)), none, [1, 2]⟩, ⟨(some 35), (.fa 1 (.t 34)), none, [3]⟩, ⟨(some 36), (.ld false 1 (.t 35)), none, [4]⟩, ⟨(some 37), (.ixsl 1 (.t 31) (.t 36)), none, [0, 5]⟩, ⟨(some 38), (.ld false 1 (.t 37)), none, [6]⟩, ⟨(some 39), (.mv (.t 10)), none, []⟩, ⟨(some 40), (.un .neg (.t 39)), none, [8]⟩, ⟨(some 41), (.bin .eql (.t 38) (.t 40)), none, [7, 9]⟩] false) (.cond (.t 41) (.seq (.reg [⟨(some 6), (.mv (.c .nils)), none, []⟩, ⟨(some 7), (.mv (.c (.bool false))), none, [0, 0]⟩] false) .ret) .skip)) (.reg [⟨(some 42), (.mv (.t 8)), none, []⟩, ⟨(some 43), (.mv (.t 0)), none, []⟩, ⟨(some 44), (.mv (.t 9)), none, []⟩, ⟨(some 45), (.ixsl 3 (.t 43) (.t 44)), none, [1, 2]⟩, ⟨(some 46), (.fa 1 (.t 45)), none, [3]⟩, ⟨(some 47), (.ld false 1 (.t 46)), none, [4]⟩, ⟨(some 48), (.mv (.t 10)), none, []⟩, ⟨(some 49), (.ixsl 1 (.t 42) (.t 47)), none, [0, 5, 0, 1, 2, 3, 4, 5, 6]⟩, ⟨none, (.st 1 (.t 49) (.t 48)), none, [7, 6, 0, 1, 2, 3, 4, 5, 6]⟩] false)))))) (.reg [⟨(some 17), (.mv (.t 9)), none, []⟩, ⟨(some 18), (.bin .add (.t 17) (.c (.int .i64 1))), none, [0]⟩, ⟨(some 9), (.mv (.t 18)), none, [1, 0, 1]⟩] false)))))) (.seq (.reg [⟨(some 50), (.mv (.t 8)), none, []⟩, ⟨(some 6), (.mv (.t 50)), none, [0, 0]⟩, ⟨(some 7), (.mv (.c (.bool true))), none, [1, 0, 1]⟩] false) .ret))))
theorem mcOk62 : (match Try.f62.body with | some c => compC Try.prog 51 c | none => none) = some mc62 := by kernel_rfl

theorem fc62 (l : List Sg) (cells : Int) (s : Nat) (hs : s < 256) (hl : l.length ≤ 1000000) (hc0 : 0 ≤ cells) (hc16 : cells ≤ 16) (hr0 : ∀ r ∈ l, 0 ≤ r.gauge ∧ r.gauge < 8 ∧ 0 ≤ r.cell ∧ r.cell < cells) : FC Try.prog 62 [.rs 3 (l.map cS), iv cells, iv (s : Int)] [] (.tup [.sl 12 0 (leftR l s cells.toNat).length, .bool (okL l s)]) [(12, .cells 3 1 ((leftR l s cells.toNat).map ci) true)] false := by
  refine fc_run (nt := 51) Try.func62 rfl rfl mcOk62 (Nat.le_of_ble_eq_true rfl) ?_
  delta mc62
  refine aw_seq ?_
  refine aw_reg ?_
  refine rs_mv rfl rfl ?_
  refine rs_mv rfl rfl ?_
  refine rs_nil fun _ => ?_
  refine th_n ?_
  refine aw_seq ?_
  refine aw_reg ?_
  refine rs_mv rfl rfl ?_
  refine rs_mksl rfl rfl rfl rfl rfl (by omega) (by omega) (by omega) ?_
  refine rs_mv rfl rfl ?_
  refine rs_nil fun _ => ?_
  refine th_n ?_
  refine aw_seq ?_
  refine aw_seq ?_
  refine aw_reg ?_
  refine rs_mv rfl rfl ?_
  refine rs_nil fun _ => ?_
  refine th_n ?_
  refine aw_block ?_
  refine aw_fam (α := Nat) (fun j => l.length - j) (fun j => [(0, .rs 3 (l.map cS)), (1, iv cells), (2, iv (s : Int)), (8, .sl 12 0 cells.toNat), (9, iv (((j) : Nat) : Int))]) (fun j => [(12, .cells 3 1 ((leftW (thK l s (j)) (goK l s (j)) cells.toNat).map ci) true)]) (fun j => j ≤ l.length ∧ thK l s j &&& goK l s j = 0) 0 (⟨by omega, by simp [thK]⟩)
    (weak_to (.cons rfl (rc_same rfl (.inl rfl)) (.cons rfl (rc_same rfl (.inl rfl)) (.cons rfl (rc_same rfl (.inl rfl)) (.cons rfl (rc_same rfl (.inl rfl)) (.cons rfl (rc_same rfl (.inl rfl)) (.nil)))))) (.keep ((by rw [show thK l s 0 = 0 from rfl, show goK l s 0 = 0 from rfl, leftW_0]; rfl)) rfl (.nil)) (fun i h => by cases h)) ?_
  rintro j ⟨hj, hno⟩
  refine aw_seq ?_
  refine aw_seq ?_
  refine aw_reg ?_
  refine rs_mv rfl rfl ?_
  refine rs_mv rfl rfl ?_
  first | refine rs_len_m rfl rfl ?_ | refine rs_len_s rfl rfl ?_ | refine rs_len_n rfl rfl ?_ | refine rs_len_r rfl rfl rfl ?_
  refine rs_lss rfl rfl rfl ?_
  refine rs_nil fun _ => ?_
  refine th_n ?_
  refine aw_cond rfl (fun h16 => ?_) (fun h16 => ?_)
  · first | replace h16 := of_decide_eq_true h16 | skip
    refine aw_skip ?_
    refine th_n ?_
    refine aw_seq ?_
    refine aw_block ?_
    refine aw_seq ?_
    refine aw_seq ?_
    refine aw_reg ?_
    obtain ⟨r, hr, hrm⟩ := at_some (L := l) (k := j) (by omega)
    have hrr := hr0 r hrm
    obtain ⟨c, hc⟩ : ∃ c : Nat, r.cell = (c : Int) := ⟨r.cell.toNat, by omega⟩
    have hcn : r.cell.toNat = c := by omega
    refine rs_mv rfl rfl ?_
    refine rs_mv rfl rfl ?_
    refine rs_mv rfl rfl ?_
    refine rs_ix_g rfl rfl rfl (by omega) hr ?_
    first | refine rs_fa_p rfl rfl ?_ | refine rs_fa_r rfl rfl rfl ?_
    refine rs_ld_r rfl rfl rfl ?_
    refine rs_calln [] rfl rfl (fc64' s r.gauge hs hrr.1 hrr.2.1) (.cons (hv_same rfl) (.cons (hv_same rfl) (.nil))) rfl ?_
    refine rs_nil fun _ => ?_
    refine th_n ?_
    refine aw_cond rfl (fun h25 => ?_) (fun h25 => ?_)
    · first | replace h25 := of_decide_eq_true h25 | skip
      refine aw_exit ?_
      refine th_e ?_
      refine in_hit ?_
      refine th_n ?_
      refine aw_reg ?_
      refine rs_mv rfl rfl ?_
      first | refine rs_add rfl rfl rfl (by omega) ?_ | refine rs_addw rfl rfl rfl rfl ?_
      refine rs_mv rfl rfl ?_
      refine rs_nil fun _ => ?_
      refine th_n ?_
      first
        | (have hq1 : thK l s (j + 1) = thK l s j := (by rw [thK_succ hr, thS, if_pos h25]); have hq2 : goK l s (j + 1) = goK l s j := (by rw [goK_succ hr, goS, if_pos h25]); exact ⟨j + 1, ⟨by omega, by rw [hq1, hq2]; exact hno⟩, by omega, weak_to (.cons rfl (rc_same rfl (.inl rfl)) (.cons rfl (rc_same rfl (.inl rfl)) (.cons rfl (rc_same rfl (.inl rfl)) (.cons rfl (rc_same rfl (.inl rfl)) (.cons rfl (rc_same rfl (.inl rfl)) (.nil)))))) (.keep ((by rw [hq1, hq2]; rfl)) rfl (.nil)) (fun i h => by cases h)⟩)
        | (have hq1 : thK l s (j + 1) = thK l s j ||| 2 ^ c := (by rw [← hcn, thK_succ hr, thS, if_neg (by rw [h25]; decide), if_pos h30]); have hq2 : goK l s (j + 1) = goK l s j := (by rw [goK_succ hr, goS, if_neg (by rw [h25]; decide), if_pos h30]); exact ⟨j + 1, ⟨by omega, by rw [hq1, hq2]; exact noclash_t hno (by omega)⟩, by omega, weak_to (.cons rfl (rc_same rfl (.inl rfl)) (.cons rfl (rc_same rfl (.inl rfl)) (.cons rfl (rc_same rfl (.inl rfl)) (.cons rfl (rc_same rfl (.inl rfl)) (.cons rfl (rc_same rfl (.inl rfl)) (.nil)))))) (.keep ((by rw [hq1, hq2, ← leftW_t]; rfl)) rfl (.nil)) (fun i h => by cases h)⟩)
        | (have hq1 : thK l s (j + 1) = thK l s j := (by rw [thK_succ hr, thS, if_neg (by rw [h25]; decide), if_neg (by rw [h30]; decide)]); have hq2 : goK l s (j + 1) = goK l s j ||| 2 ^ c := (by rw [← hcn, goK_succ hr, goS, if_neg (by rw [h25]; decide), if_neg (by rw [h30]; decide)]); exact ⟨j + 1, ⟨by omega, by rw [hq1, hq2]; exact noclash_f hno (by omega)⟩, by omega, weak_to (.cons rfl (rc_same rfl (.inl rfl)) (.cons rfl (rc_same rfl (.inl rfl)) (.cons rfl (rc_same rfl (.inl rfl)) (.cons rfl (rc_same rfl (.inl rfl)) (.cons rfl (rc_same rfl (.inl rfl)) (.nil)))))) (.keep ((by rw [hq1, hq2, ← leftW_f (t := thK l s j) (g := goK l s j) (n := cells.toNat) (leftF_t (g := goK l s j) (c := c) (by omega))]; rfl)) rfl (.nil)) (fun i h => by cases h)⟩)
    · first | replace h25 := of_decide_eq_false h25 | skip
      refine aw_skip ?_
      refine th_n ?_
      refine aw_seq ?_
      refine aw_reg ?_
      refine rs_mv rfl rfl ?_
      refine rs_nil fun _ => ?_
      refine th_n ?_
      refine aw_seq ?_
      refine aw_seq ?_
      refine aw_reg ?_
      refine rs_mv rfl rfl ?_
      refine rs_mv rfl rfl ?_
      refine rs_ix_g rfl rfl rfl (by omega) hr ?_
      first | refine rs_fa_p rfl rfl ?_ | refine rs_fa_r rfl rfl rfl ?_
      refine rs_ld_r rfl rfl rfl ?_
      refine rs_nil fun _ => ?_
      refine th_n ?_
      refine aw_cond rfl (fun h30 => ?_) (fun h30 => ?_)
      · first | replace h30 := of_decide_eq_true h30 | skip
        refine aw_reg ?_
        refine rs_mv rfl rfl ?_
        refine rs_nil fun _ => ?_
        refine th_n ?_
        refine aw_seq ?_
        refine aw_seq ?_
        refine aw_reg ?_
        refine rs_mv rfl rfl ?_
        refine rs_mv rfl rfl ?_
        refine rs_mv rfl rfl ?_
        refine rs_ix_g rfl rfl rfl (by omega) hr ?_
        first | refine rs_fa_p rfl rfl ?_ | refine rs_fa_r rfl rfl rfl ?_
        refine rs_ld_r (v := iv (c : Int)) rfl rfl (by rw [← hc]; rfl) ?_
        refine rs_ix_sm (t := c) rfl rfl rfl rfl (by omega) ?_
        refine rs_ld_g (y := leftF (thK l s j) (goK l s j) c) rfl rfl rfl (leftW_at (by omega)) rfl ?_
        refine rs_mv rfl rfl ?_
        refine rs_neg rfl rfl (by decide) ?_
        refine rs_eql rfl rfl rfl ?_
        refine rs_nil fun _ => ?_
        refine th_n ?_
        refine aw_cond rfl (fun h41 => ?_) (fun h41 => ?_)
        · first | replace h41 := of_decide_eq_true h41 | skip
          refine aw_seq ?_
          refine aw_reg ?_
          refine rs_mv rfl rfl ?_
          refine rs_mv rfl rfl ?_
          refine rs_nil fun _ => ?_
          refine th_n ?_
          first | (refine aw_weak (F0 := [(6, .nils), (7, .bool false)]) (H0 := []) (weak_to (.cons rfl (rc_same rfl (.inl rfl)) (.cons rfl (rc_same rfl (.inl rfl)) (.nil))) .nil (fun i h => by cases h)) ?_) | skip
          refine aw_ret ?_
          refine th_r ?_
          refine in_r ?_
          refine th_r ?_
          refine th_r ?_
          refine in_r ?_
          refine th_r ?_
          first
            | (have e : okL l s = false := decide_eq_false (by first | exact clash_t (j := j) hrm h25 h30 (by rw [hcn]; omega) | exact clash_f (j := j) hrm h25 h30 (by rw [hcn]; omega))
               rw [leftR, e, if_neg (by decide)]
               exact ret_new rfl (rc_tup (.cons (rc_virt rfl rfl) (.cons (rc_same rfl (.inr rfl)) .nil))) (.virt rfl .nil))
            | (obtain rfl : j = l.length := by omega
               rw [thK_all, goK_all] at *
               have e : okL l s = true := decide_eq_true hno
               rw [leftR, e, if_pos rfl, length_leftW]
               exact ret_new rfl (rc_same rfl (.inr rfl)) (.keep rfl rfl (noROE_map (fun _ => rfl) _) .nil))
        · first | replace h41 := of_decide_eq_false h41 | skip
          refine aw_skip ?_
          refine th_n ?_
          refine aw_reg ?_
          refine rs_mv rfl rfl ?_
          refine rs_mv rfl rfl ?_
          refine rs_mv rfl rfl ?_
          refine rs_ix_g rfl rfl rfl (by omega) hr ?_
          first | refine rs_fa_p rfl rfl ?_ | refine rs_fa_r rfl rfl rfl ?_
          refine rs_ld_r (v := iv (c : Int)) rfl rfl (by rw [← hc]; rfl) ?_
          refine rs_mv rfl rfl ?_
          refine rs_ix_sm (t := c) rfl rfl rfl rfl (by omega) ?_
          refine rs_st_m (v := 1) (fl' := true) rfl rfl rfl rfl (by rw [length_leftW]; omega) rfl rfl (Nat.le_of_ble_eq_true rfl) rfl rfl ?_
          refine rs_nil fun _ => ?_
          refine in_n ?_
          refine th_n ?_
          refine aw_reg ?_
          refine rs_mv rfl rfl ?_
          first | refine rs_add rfl rfl rfl (by omega) ?_ | refine rs_addw rfl rfl rfl rfl ?_
          refine rs_mv rfl rfl ?_
          refine rs_nil fun _ => ?_
          refine th_n ?_
          first
            | (have hq1 : thK l s (j + 1) = thK l s j := (by rw [thK_succ hr, thS, if_pos h25]); have hq2 : goK l s (j + 1) = goK l s j := (by rw [goK_succ hr, goS, if_pos h25]); exact ⟨j + 1, ⟨by omega, by rw [hq1, hq2]; exact hno⟩, by omega, weak_to (.cons rfl (rc_same rfl (.inl rfl)) (.cons rfl (rc_same rfl (.inl rfl)) (.cons rfl (rc_same rfl (.inl rfl)) (.cons rfl (rc_same rfl (.inl rfl)) (.cons rfl (rc_same rfl (.inl rfl)) (.nil)))))) (.keep ((by rw [hq1, hq2]; rfl)) rfl (.nil)) (fun i h => by cases h)⟩)
            | (have hq1 : thK l s (j + 1) = thK l s j ||| 2 ^ c := (by rw [← hcn, thK_succ hr, thS, if_neg (by rw [h25]; decide), if_pos h30]); have hq2 : goK l s (j + 1) = goK l s j := (by rw [goK_succ hr, goS, if_neg (by rw [h25]; decide), if_pos h30]); exact ⟨j + 1, ⟨by omega, by rw [hq1, hq2]; exact noclash_t hno (by omega)⟩, by omega, weak_to (.cons rfl (rc_same rfl (.inl rfl)) (.cons rfl (rc_same rfl (.inl rfl)) (.cons rfl (rc_same rfl (.inl rfl)) (.cons rfl (rc_same rfl (.inl rfl)) (.cons rfl (rc_same rfl (.inl rfl)) (.nil)))))) (.keep ((by rw [hq1, hq2, ← leftW_t]; rfl)) rfl (.nil)) (fun i h => by cases h)⟩)
            | (have hq1 : thK l s (j + 1) = thK l s j := (by rw [thK_succ hr, thS, if_neg (by rw [h25]; decide), if_neg (by rw [h30]; decide)]); have hq2 : goK l s (j + 1) = goK l s j ||| 2 ^ c := (by rw [← hcn, goK_succ hr, goS, if_neg (by rw [h25]; decide), if_neg (by rw [h30]; decide)]); exact ⟨j + 1, ⟨by omega, by rw [hq1, hq2]; exact noclash_f hno (by omega)⟩, by omega, weak_to (.cons rfl (rc_same rfl (.inl rfl)) (.cons rfl (rc_same rfl (.inl rfl)) (.cons rfl (rc_same rfl (.inl rfl)) (.cons rfl (rc_same rfl (.inl rfl)) (.cons rfl (rc_same rfl (.inl rfl)) (.nil)))))) (.keep ((by rw [hq1, hq2, ← leftW_f (t := thK l s j) (g := goK l s j) (n := cells.toNat) (leftF_t (g := goK l s j) (c := c) (by omega))]; rfl)) rfl (.nil)) (fun i h => by cases h)⟩)
      · first | replace h30 := of_decide_eq_false h30 | skip
        refine aw_skip ?_
        refine th_n ?_
        refine aw_seq ?_
        refine aw_seq ?_
        refine aw_reg ?_
        refine rs_mv rfl rfl ?_
        refine rs_mv rfl rfl ?_
        refine rs_mv rfl rfl ?_
        refine rs_ix_g rfl rfl rfl (by omega) hr ?_
        first | refine rs_fa_p rfl rfl ?_ | refine rs_fa_r rfl rfl rfl ?_
        refine rs_ld_r (v := iv (c : Int)) rfl rfl (by rw [← hc]; rfl) ?_
        refine rs_ix_sm (t := c) rfl rfl rfl rfl (by omega) ?_
        refine rs_ld_g (y := leftF (thK l s j) (goK l s j) c) rfl rfl rfl (leftW_at (by omega)) rfl ?_
        refine rs_mv rfl rfl ?_
        refine rs_neg rfl rfl (by decide) ?_
        refine rs_eql rfl rfl rfl ?_
        refine rs_nil fun _ => ?_
        refine th_n ?_
        refine aw_cond rfl (fun h41 => ?_) (fun h41 => ?_)
        · first | replace h41 := of_decide_eq_true h41 | skip
          refine aw_seq ?_
          refine aw_reg ?_
          refine rs_mv rfl rfl ?_
          refine rs_mv rfl rfl ?_
          refine rs_nil fun _ => ?_
          refine th_n ?_
          first | (refine aw_weak (F0 := [(6, .nils), (7, .bool false)]) (H0 := []) (weak_to (.cons rfl (rc_same rfl (.inl rfl)) (.cons rfl (rc_same rfl (.inl rfl)) (.nil))) .nil (fun i h => by cases h)) ?_) | skip
          refine aw_ret ?_
          refine th_r ?_
          refine in_r ?_
          refine th_r ?_
          refine th_r ?_
          refine in_r ?_
          refine th_r ?_
          first
            | (have e : okL l s = false := decide_eq_false (by first | exact clash_t (j := j) hrm h25 h30 (by rw [hcn]; omega) | exact clash_f (j := j) hrm h25 h30 (by rw [hcn]; omega))
               rw [leftR, e, if_neg (by decide)]
               exact ret_new rfl (rc_tup (.cons (rc_virt rfl rfl) (.cons (rc_same rfl (.inr rfl)) .nil))) (.virt rfl .nil))
            | (obtain rfl : j = l.length := by omega
               rw [thK_all, goK_all] at *
               have e : okL l s = true := decide_eq_true hno
               rw [leftR, e, if_pos rfl, length_leftW]
               exact ret_new rfl (rc_same rfl (.inr rfl)) (.keep rfl rfl (noROE_map (fun _ => rfl) _) .nil))
        · first | replace h41 := of_decide_eq_false h41 | skip
          refine aw_skip ?_
          refine th_n ?_
          refine aw_reg ?_
          refine rs_mv rfl rfl ?_
          refine rs_mv rfl rfl ?_
          refine rs_mv rfl rfl ?_
          refine rs_ix_g rfl rfl rfl (by omega) hr ?_
          first | refine rs_fa_p rfl rfl ?_ | refine rs_fa_r rfl rfl rfl ?_
          refine rs_ld_r (v := iv (c : Int)) rfl rfl (by rw [← hc]; rfl) ?_
          refine rs_mv rfl rfl ?_
          refine rs_ix_sm (t := c) rfl rfl rfl rfl (by omega) ?_
          refine rs_st_m (v := -1) (fl' := true) rfl rfl rfl rfl (by rw [length_leftW]; omega) rfl rfl (Nat.le_of_ble_eq_true rfl) rfl rfl ?_
          refine rs_nil fun _ => ?_
          refine in_n ?_
          refine th_n ?_
          refine aw_reg ?_
          refine rs_mv rfl rfl ?_
          first | refine rs_add rfl rfl rfl (by omega) ?_ | refine rs_addw rfl rfl rfl rfl ?_
          refine rs_mv rfl rfl ?_
          refine rs_nil fun _ => ?_
          refine th_n ?_
          first
            | (have hq1 : thK l s (j + 1) = thK l s j := (by rw [thK_succ hr, thS, if_pos h25]); have hq2 : goK l s (j + 1) = goK l s j := (by rw [goK_succ hr, goS, if_pos h25]); exact ⟨j + 1, ⟨by omega, by rw [hq1, hq2]; exact hno⟩, by omega, weak_to (.cons rfl (rc_same rfl (.inl rfl)) (.cons rfl (rc_same rfl (.inl rfl)) (.cons rfl (rc_same rfl (.inl rfl)) (.cons rfl (rc_same rfl (.inl rfl)) (.cons rfl (rc_same rfl (.inl rfl)) (.nil)))))) (.keep ((by rw [hq1, hq2]; rfl)) rfl (.nil)) (fun i h => by cases h)⟩)
            | (have hq1 : thK l s (j + 1) = thK l s j ||| 2 ^ c := (by rw [← hcn, thK_succ hr, thS, if_neg (by rw [h25]; decide), if_pos h30]); have hq2 : goK l s (j + 1) = goK l s j := (by rw [goK_succ hr, goS, if_neg (by rw [h25]; decide), if_pos h30]); exact ⟨j + 1, ⟨by omega, by rw [hq1, hq2]; exact noclash_t hno (by omega)⟩, by omega, weak_to (.cons rfl (rc_same rfl (.inl rfl)) (.cons rfl (rc_same rfl (.inl rfl)) (.cons rfl (rc_same rfl (.inl rfl)) (.cons rfl (rc_same rfl (.inl rfl)) (.cons rfl (rc_same rfl (.inl rfl)) (.nil)))))) (.keep ((by rw [hq1, hq2, ← leftW_t]; rfl)) rfl (.nil)) (fun i h => by cases h)⟩)
            | (have hq1 : thK l s (j + 1) = thK l s j := (by rw [thK_succ hr, thS, if_neg (by rw [h25]; decide), if_neg (by rw [h30]; decide)]); have hq2 : goK l s (j + 1) = goK l s j ||| 2 ^ c := (by rw [← hcn, goK_succ hr, goS, if_neg (by rw [h25]; decide), if_neg (by rw [h30]; decide)]); exact ⟨j + 1, ⟨by omega, by rw [hq1, hq2]; exact noclash_f hno (by omega)⟩, by omega, weak_to (.cons rfl (rc_same rfl (.inl rfl)) (.cons rfl (rc_same rfl (.inl rfl)) (.cons rfl (rc_same rfl (.inl rfl)) (.cons rfl (rc_same rfl (.inl rfl)) (.cons rfl (rc_same rfl (.inl rfl)) (.nil)))))) (.keep ((by rw [hq1, hq2, ← leftW_f (t := thK l s j) (g := goK l s j) (n := cells.toNat) (leftF_t (g := goK l s j) (c := c) (by omega))]; rfl)) rfl (.nil)) (fun i h => by cases h)⟩)
  · first | replace h16 := of_decide_eq_false h16 | skip
    refine aw_exit ?_
    refine th_e ?_
    refine th_e ?_
    refine in_hit ?_
    refine th_n ?_
    refine aw_seq ?_
    refine aw_reg ?_
    refine rs_mv rfl rfl ?_
    refine rs_mv rfl rfl ?_
    refine rs_mv rfl rfl ?_
    refine rs_nil fun _ => ?_
    refine th_n ?_
    first | (refine aw_weak (F0 := [(6, .nils), (7, .bool false)]) (H0 := []) (weak_to (.cons rfl (rc_same rfl (.inl rfl)) (.cons rfl (rc_same rfl (.inl rfl)) (.nil))) .nil (fun i h => by cases h)) ?_) | skip
    refine aw_ret ?_
    first
      | (have e : okL l s = false := decide_eq_false (by first | exact clash_t (j := j) hrm h25 h30 (by rw [hcn]; omega) | exact clash_f (j := j) hrm h25 h30 (by rw [hcn]; omega))
         rw [leftR, e, if_neg (by decide)]
         exact ret_new rfl (rc_tup (.cons (rc_virt rfl rfl) (.cons (rc_same rfl (.inr rfl)) .nil))) (.virt rfl .nil))
      | (obtain rfl : j = l.length := by omega
         rw [thK_all, goK_all] at *
         have e : okL l s = true := decide_eq_true hno
         rw [leftR, e, if_pos rfl, length_leftW]
         exact ret_new rfl (rc_same rfl (.inr rfl)) (.keep rfl rfl (noROE_map (fun _ => rfl) _) .nil))

end Go.Proofs.Ytadjdnhnbkcakaa

/-! Walks: A27. -/
namespace Go.Proofs.Ytadjdnhnbkcakaa
open Go.RowKit

/-- Cells of a further set, and those of the ones before. -/
def zipC (X O : List Int) (n k : Nat) : List Int := (List.range n).map fun i => if i < k ∧ X.getD i 0 ≠ O.getD i 0 then 0 else O.getD i 0
theorem zipC_0 {X O : List Int} {n : Nat} (h : O.length = n) : zipC X O n 0 = O := by
  refine list_ext_getD (by simp [zipC, h]) fun i hi => ?_
  have hi' : i < n := by simpa [zipC] using hi
  simp [zipC, hi']
theorem zipC_at {X O : List Int} {n k : Nat} (hk : k < n) : (zipC X O n k)[k]? = some (O.getD k 0) := by
  simp [zipC, hk]
theorem length_zipC (X O : List Int) (n k : Nat) : (zipC X O n k).length = n := by simp [zipC]
theorem zipC_t {X O : List Int} {n k : Nat} (hk : k < n) (h : X.getD k 0 ≠ O.getD k 0) : zipC X O n (k + 1) = (zipC X O n k).set k 0 := by
  refine list_ext_getD (by simp [zipC]) fun i hi => ?_
  have hi' : i < n := by simpa [zipC] using hi
  by_cases e : k = i
  · subst e
    rw [getD_set_eq (by simpa [zipC] using hk)]
    simp only [zipC, List.getD_eq_getElem?_getD, List.getElem?_map, List.getElem?_range hk, Option.map_some, Option.getD_some]
    rw [if_pos ⟨by omega, by simpa only [List.getD_eq_getElem?_getD] using h⟩]
  · rw [getD_set_ne e]
    simp only [zipC, List.getD_eq_getElem?_getD, List.getElem?_map, List.getElem?_range hi', Option.map_some, Option.getD_some]
    by_cases c : i < k
    · simp only [c, show i < k + 1 by omega, true_and]
    · simp only [c, show ¬ i < k + 1 by omega, false_and]
theorem zipC_f {X O : List Int} {n k : Nat} (h : X.getD k 0 = O.getD k 0) : zipC X O n (k + 1) = zipC X O n k := by
  unfold zipC
  refine List.map_congr_left fun i hi => ?_
  by_cases e : i = k
  · subst e
    rw [if_neg (fun q => q.2 h), if_neg (fun q => q.2 h)]
  · by_cases c : i < k
    · simp only [c, show i < k + 1 by omega, true_and]
    · simp only [c, show ¬ i < k + 1 by omega, false_and]
def bI (b : Bool) : Int := if b = true then 1 else 0
theorem bI_all : ∀ x y z w : Bool, ¬ (x = true ∧ y = true) → ¬ (z = true ∧ w = true) → (if bI x - bI y ≠ bI z - bI w then 0 else bI z - bI w) = bI (z && x) - bI (w && y) := by decide
def outR (l : List Sg) (lies : Int) (n : Nat) : Nat → List Int
  | 0 => []
  | k + 1 => if exI l lies k = true then (if tsK l lies k = [] then leftW (thM l k) (goM l k) n else zipC (leftW (thM l k) (goM l k) n) (outR l lies n k) n n) else outR l lies n k
theorem outR_first {l : List Sg} {lies : Int} {n k : Nat} (h : exI l lies k = true) (h0 : tsK l lies k = []) : outR l lies n (k + 1) = leftW (thM l k) (goM l k) n := by rw [outR, if_pos h, if_pos h0]
theorem outR_next {l : List Sg} {lies : Int} {n k : Nat} (h : exI l lies k = true) (h0 : tsK l lies k ≠ []) : outR l lies n (k + 1) = zipC (leftW (thM l k) (goM l k) n) (outR l lies n k) n n := by rw [outR, if_pos h, if_neg h0]
theorem outR_skip {l : List Sg} {lies : Int} {n k : Nat} (h : exI l lies k = false) : outR l lies n (k + 1) = outR l lies n k := by rw [outR, if_neg (by rw [h]; decide)]
theorem exI_t {l : List Sg} {lies : Int} {k : Nat} (h1 : okL l k = true) (h2 : (sizeS k 8 : Int) ≤ lies) : exI l lies k = true := by
  unfold okL at h1
  unfold exI
  rw [h1, decide_eq_true h2]; rfl
theorem exI_f1 {l : List Sg} {lies : Int} {k : Nat} (h1 : okL l k = false) : exI l lies k = false := by
  unfold okL at h1
  unfold exI
  rw [h1, Bool.and_false]
theorem exI_f2 {l : List Sg} {lies : Int} {k : Nat} (h2 : ¬ (sizeS k 8 : Int) ≤ lies) : exI l lies k = false := by
  unfold exI
  rw [decide_eq_false h2]; rfl
theorem outR_len (l : List Sg) (lies : Int) (n : Nat) : ∀ k, (tsK l lies k = [] → outR l lies n k = []) ∧ (tsK l lies k ≠ [] → (outR l lies n k).length = n)
  | 0 => ⟨fun _ => rfl, fun h => absurd rfl h⟩
  | k + 1 => by
    have ih := outR_len l lies n k
    cases e : exI l lies k with
    | false => rw [outR_skip e, tsK_f e]; exact ih
    | true =>
      rw [tsK_t e]
      refine ⟨fun h => by simp at h, fun _ => ?_⟩
      by_cases h0 : tsK l lies k = []
      · rw [outR_first e h0, length_leftW]
      · rw [outR_next e h0, length_zipC]
/-- The reference's way comes to the same. -/
theorem outR_sem (l : List Sg) (lies : Int) (n : Nat) : ∀ k, tsK l lies k ≠ [] → ∀ c, c < n → (outR l lies n k).getD c 0 = bitN (wholeT (tsK l lies k)).1 c - bitN (wholeT (tsK l lies k)).2.1 c
  | 0, h => absurd rfl h
  | k + 1, h => by
    intro c hc
    have key : ∀ ts : List T3, ts ≠ [] → ∀ t : T3, (wholeT (ts ++ [t])).1 = (wholeT ts).1 &&& t.1 ∧ (wholeT (ts ++ [t])).2.1 = (wholeT ts).2.1 &&& t.2.1 := fun ts hts t => by
      unfold wholeT
      rw [show (ts ++ [t]).headD (0, 0, 0) = ts.headD (0, 0, 0) by cases ts with | nil => exact absurd rfl hts | cons a b => rfl, List.foldl_append]
      exact ⟨rfl, rfl⟩
    cases e : exI l lies k with
    | false =>
      rw [tsK_f e] at h
      rw [outR_skip e, tsK_f e]
      exact outR_sem l lies n k h c hc
    | true =>
      have hno : thM l k &&& goM l k = 0 := by
        unfold exI at e
        simp only [Bool.and_eq_true, decide_eq_true_eq] at e
        exact e.2
      have hXc : (leftW (thM l k) (goM l k) n).getD c 0 = leftF (thM l k) (goM l k) c := getD_of (leftW_at hc)
      have hX : leftF (thM l k) (goM l k) c = bitN (thM l k) c - bitN (goM l k) c := by
        have hq := (and_zero.1 hno) c
        unfold leftF bitN
        cases e1 : (thM l k).testBit c <;> cases e2 : (goM l k).testBit c <;> simp_all
      rw [tsK_t e]
      by_cases h0 : tsK l lies k = []
      · rw [outR_first e h0, h0, hXc, hX]
        simp [wholeT, mkT, andT]
      · have ih := outR_sem l lies n k h0 c hc
        obtain ⟨k1, k2⟩ := key _ h0 (mkT l k)
        rw [outR_next e h0, k1, k2]
        have hz : (zipC (leftW (thM l k) (goM l k) n) (outR l lies n k) n n).getD c 0 = if leftF (thM l k) (goM l k) c ≠ (outR l lies n k).getD c 0 then 0 else (outR l lies n k).getD c 0 := by
          rw [← hXc]
          simp [zipC, hc]
        rw [hz, ih, hX]
        have hw : ¬ ((wholeT (tsK l lies k)).1.testBit c = true ∧ (wholeT (tsK l lies k)).2.1.testBit c = true) := by
          rintro ⟨a, b⟩
          rw [whole_bit (fun t => t.1) (fun _ _ => rfl) h0] at a
          rw [whole_bit (fun t => t.2.1) (fun _ _ => rfl) h0] at b
          obtain ⟨t, ht⟩ := List.exists_mem_of_ne_nil _ h0
          obtain ⟨s, _, hs, rfl⟩ := mem_tsK.1 ht
          have hns : thM l s &&& goM l s = 0 := by
            unfold exI at hs
            simp only [Bool.and_eq_true, decide_eq_true_eq] at hs
            exact hs.2
          exact (and_zero.1 hns) c ⟨a _ ht, b _ ht⟩
        have hq := (and_zero.1 hno) c
        have hfin := bI_all ((thM l k).testBit c) ((goM l k).testBit c) ((wholeT (tsK l lies k)).1.testBit c) ((wholeT (tsK l lies k)).2.1.testBit c) hq hw
        rw [← Nat.testBit_and, ← Nat.testBit_and] at hfin
        exact hfin
theorem outR_all {l : List Sg} {lies : Int} {n : Nat} (h : tsK l lies 256 ≠ []) : outR l lies n 256 = cellW (wholeT (tsK l lies 256)) n := by
  have hl := (outR_len l lies n 256).2 h
  refine list_ext_getD (by rw [hl, length_cellW]) fun c hc => ?_
  rw [hl] at hc
  rw [outR_sem l lies n 256 h c hc]
  simp [cellW, cellF, hc]
/-- What lies in all, as the reference goes. -/
def AlOk (l : List Sg) (lies : Int) (k al : Nat) : Prop := al < 256 ∧ ∀ p, p < 8 → (hasS al p = true ↔ ∀ s, s < k → exI l lies s = true → hasS s p = true)
theorem al_start (l : List Sg) (lies : Int) : AlOk l lies 0 255 := ⟨by decide, fun p hp => ⟨fun _ s hs => by omega, fun _ => hasS_255 p hp⟩⟩
theorem al_t {l : List Sg} {lies : Int} {k al : Nat} (h : AlOk l lies k al) (he : exI l lies k = true) : AlOk l lies (k + 1) (al &&& k) := by
  refine ⟨Nat.lt_of_le_of_lt Nat.and_le_left h.1, fun p hp => ?_⟩
  rw [hasS_and, Bool.and_eq_true, h.2 p hp]
  constructor
  · rintro ⟨a, b⟩ s hs hx
    rcases Nat.lt_or_ge s k with h' | h'
    · exact a s h' hx
    · obtain rfl : s = k := by omega
      exact b
  · exact fun a => ⟨fun s hs hx => a s (by omega) hx, a k (by omega) he⟩
theorem al_f {l : List Sg} {lies : Int} {k al : Nat} (h : AlOk l lies k al) (he : exI l lies k = false) : AlOk l lies (k + 1) al := by
  refine ⟨h.1, fun p hp => (h.2 p hp).trans ⟨fun a s hs hx => ?_, fun a s hs hx => a s (by omega) hx⟩⟩
  rcases Nat.lt_or_ge s k with h' | h'
  · exact a s h' hx
  · obtain rfl : s = k := by omega
    rw [he] at hx; cases hx
theorem al_end {l : List Sg} {lies : Int} {al : Nat} (h : AlOk l lies 256 al) (hts : tsK l lies 256 ≠ []) : outK al 8 = outK (wholeT (tsK l lies 256)).2.2 8 := by
  refine outK_congr fun p hp => ?_
  have h1 := h.2 p hp
  have h2 : hasS (wholeT (tsK l lies 256)).2.2 p = true ↔ ∀ t ∈ tsK l lies 256, t.2.2.testBit p = true := whole_bit (fun t => t.2.2) (fun _ _ => rfl) hts p
  have h3 : (∀ t ∈ tsK l lies 256, t.2.2.testBit p = true) ↔ ∀ s, s < 256 → exI l lies s = true → hasS s p = true :=
    ⟨fun a s hs hx => a _ (mem_tsK.2 ⟨s, hs, hx, rfl⟩), fun a t ht => by obtain ⟨s, hs, hx, rfl⟩ := mem_tsK.1 ht; exact a s hs hx⟩
  have h4 := h1.trans (h3.symm.trans h2.symm)
  cases e1 : hasS al p <;> cases e2 : hasS (wholeT (tsK l lies 256)).2.2 p <;> simp_all

def mc37 : MC := (.seq (.reg [⟨(some 6), (.mv (.c .nils)), none, []⟩, ⟨(some 7), (.mv (.c (.int .i64 0))), none, [0]⟩] false) (.seq (.reg [⟨(some 15), (.mv (.t 0)), none, []⟩, ⟨(some 16), (.mv (.t 1)), none, []⟩, ⟨(some 17), (.mv (.t 2)), none, []⟩, ⟨(some 18), (.call 35 [(.t 15), (.t 16), (.t 17)]), none, [0, 1, 2]⟩, ⟨(some 8), (.mv (.t 18)), none, [3, 3, 0, 1, 2, 3]⟩] false) (.seq (.seq (.reg [⟨(some 19), (.mv (.t 8)), none, []⟩, ⟨(some 20), (.bin .neq (.t 19) (.c (.int .i64 0))), none, [0]⟩] false) (.cond (.t 20) (.seq (.reg [⟨(some 21), (.mv (.t 8)), none, []⟩, ⟨(some 6), (.mv (.c .nils)), none, []⟩, ⟨(some 7), (.mv (.t 21)), none, [0, 1, 0, 1]⟩] false) .ret) .skip)) (.seq (.reg [⟨(some 9), (.mv (.c .nils)), none, []⟩] false) (.seq (.reg [⟨(some 10), (.mv (.c (.bool false))), none, []⟩] false) (.seq (.seq (.reg [⟨(some 11), (.mv (.c (.int .i64 0))), none, []⟩] false) (.block 0 (.loop (.seq (.seq (.reg [⟨(some 22), (.mv (.t 11)), none, []⟩, ⟨(some 23), (.bin .lss (.t 22) (.c (.int .i64 256))), none, [0]⟩] false) (.cond (.t 23) .skip (.exit 0))) (.seq (.block 1 (.seq (.reg [⟨(some 27), (.mv (.t 0)), none, []⟩, ⟨(some 28), (.mv (.t 1)), none, []⟩, ⟨(some 29), (.mv (.t 11)), none, []⟩, ⟨(some 30), (.call 62 [(.t 27), (.t 28), (.t 29)]), none, [0, 1, 2]⟩, ⟨(some 26), (.mv (.t 30)), none, [3]⟩, ⟨(some 31), (.ext (.t 26) 0), none, [4]⟩, ⟨(some 32), (.ext (.t 26) 1), none, [4]⟩, ⟨(some 12), (.mv (.t 31)), none, [5, 3, 0, 1, 2, 3, 4, 5]⟩, ⟨(some 13), (.mv (.t 32)), none, [6, 7, 0, 1, 2, 3, 4, 5, 6, 7]⟩] false) (.seq (.seq (.reg [⟨(some 33), (.mv (.t 13)), none, []⟩, ⟨(some 34), (.un .not (.t 33)), none, [0]⟩, ⟨(some 35), (.mv (.t 34)), none, [1]⟩, ⟨(some 36), (.mv (.t 11)), (some (35, false)), [2]⟩, ⟨(some 37), (.mv (.t 2)), (some (35, false)), [2]⟩, ⟨(some 38), (.call 63 [(.t 36), (.t 37)]), (some (35, false)), [3, 4, 2, 2]⟩, ⟨(some 39), (.un .not (.t 38)), (some (35, false)), [5, 2]⟩, ⟨(some 40), (.pick (.t 35) (.c (.bool true)) (.t 39)), none, [2, 6]⟩] false) (.cond (.t 40) (.exit 1) .skip)) (.seq (.seq (.reg [⟨(some 41), (.mv (.t 10)), none, []⟩, ⟨(some 42), (.un .not (.t 41)), none, [0]⟩] false) (.cond (.t 42) (.reg [⟨(some 43), (.mv (.t 12)), none, []⟩, ⟨(some 9), (.mv (.t 43)), none, [0, 0]⟩] false) .skip)) (.seq (.reg [⟨(some 10), (.mv (.c (.bool true))), none, []⟩] false) (.seq (.reg [⟨(some 14), (.mv (.c (.int .i64 0))), none, []⟩] false) (.block 2 (.loop (.seq (.seq (.reg [⟨(some 44), (.mv (.t 14)), none, []⟩, ⟨(some 45), (.mv (.t 1)), none, []⟩, ⟨(some 46), (.bin .lss (.t 44) (.t 45)), none, [0, 1]⟩] false) (.cond (.t 46) .skip (.exit 2))) (.seq (.block 3 (.seq (.reg [⟨(some 49), (.mv (.t 12)), none, []⟩, ⟨(some 50), (.mv (.t 14)), none, []⟩, ⟨(some 51), (.ixsl 1 (.t 49) (.t 50)), none, [0, 1]⟩, ⟨(some 52), (.ld false 1 (.t 51)), none, [2]⟩, ⟨(some 53), (.mv (.t 9)), none, []⟩, ⟨(some 54), (.mv (.t 14)), none, []⟩, ⟨(some 55), (.ixsl 1 (.t 53) (.t 54)), none, [4, 5]⟩, ⟨(some 56), (.ld false 1 (.t 55)), none, [6]⟩, ⟨(some 57), (.bin .neq (.t 52) (.t 56)), none, [3, 7]⟩] true) (.cond (.t 57) (.reg [⟨(some 58), (.mv (.t 9)), none, []⟩, ⟨(some 59), (.mv (.t 14)), none, []⟩, ⟨(some 60), (.ixsl 1 (.t 58) (.t 59)), none, [0, 1, 0, 1]⟩, ⟨none, (.st 1 (.t 60) (.c (.int .i64 0))), none, [2, 0, 1]⟩] false) .skip))) (.reg [⟨(some 47), (.mv (.t 14)), none, []⟩, ⟨(some 48), (.bin .add (.t 47) (.c (.int .i64 1))), none, [0]⟩, ⟨(some 14), (.mv (.t 48)), none, [1, 0, 1]⟩] false))))))))))) (.reg [⟨(some 24), (.mv (.t 11)), none, []⟩, ⟨(some 25), (.bin .add (.t 24) (.c (.int .i64 1))), none, [0]⟩, ⟨(some 11), (.mv (.t 25)), none, [1, 0, 1]⟩] false)))))) (.seq (.seq (.reg [⟨(some 61), (.mv (.t 10)), none, []⟩, ⟨(some 62), (.un .not (.t 61)), none, [0]⟩] false) (.cond (.t 62) (.seq (.reg [⟨(some 6), (.mv (.c .nils)), none, []⟩, ⟨(some 7), (.mv (.c (.int .i64 21))), none, [0, 0]⟩] false) .ret) .skip)) (.seq (.reg [⟨(some 63), (.mv (.t 9)), none, []⟩, ⟨(some 6), (.mv (.t 63)), none, [0, 0]⟩, ⟨(some 7), (.mv (.c (.int .i64 0))), none, [1, 0, 1]⟩] false) .ret))))))))
theorem mcOk37 : (match Try.f37.body with | some c => compC Try.prog 64 c | none => none) = some mc37 := by kernel_rfl

theorem fc37 (l : List Sg) (cells lies : Int) (hl : l.length ≤ 1000000) : FC Try.prog 37 [.rs 3 (l.map cS), iv cells, iv lies] [] (.tup [ints (cellsL l cells lies), iv (cellsE l cells lies)]) [] false := by
  refine fc_run (nt := 64) Try.func37 rfl rfl mcOk37 (Nat.le_of_ble_eq_true rfl) ?_
  delta mc37
  refine aw_seq ?_
  refine aw_reg ?_
  refine rs_mv rfl rfl ?_
  refine rs_mv rfl rfl ?_
  refine rs_nil fun _ => ?_
  refine th_n ?_
  refine aw_seq ?_
  refine aw_reg ?_
  refine rs_mv rfl rfl ?_
  refine rs_mv rfl rfl ?_
  refine rs_mv rfl rfl ?_
  refine rs_calln [] rfl rfl (fc35 l cells lies hl) (.cons (hv_same rfl) (.cons (hv_same rfl) (.cons (hv_same rfl) (.nil)))) rfl ?_
  refine rs_mv rfl rfl ?_
  refine rs_nil fun _ => ?_
  refine th_n ?_
  refine aw_seq ?_
  refine aw_seq ?_
  refine aw_reg ?_
  refine rs_mv rfl rfl ?_
  refine rs_neq rfl rfl rfl ?_
  refine rs_nil fun _ => ?_
  refine th_n ?_
  refine aw_cond rfl (fun h20 => ?_) (fun h20 => ?_)
  · first | replace h20 := of_decide_eq_true h20 | skip
    refine aw_seq ?_
    refine aw_reg ?_
    refine rs_mv rfl rfl ?_
    refine rs_mv rfl rfl ?_
    refine rs_mv rfl rfl ?_
    refine rs_nil fun _ => ?_
    refine th_n ?_
    refine aw_ret ?_
    refine th_r ?_
    first
      | (obtain ⟨e1, e2, _⟩ := cells_1 h20
         rw [e1, e2]
         exact ret_new rfl (rc_tup (.cons rc_nils (.cons (rc_same rfl (.inr rfl)) .nil))) .nil)
      | (obtain ⟨e1, e2, _⟩ := cells_2 (l := l) (cells := cells) (lies := lies) (by omega) hts
         rw [e1, e2]
         exact ret_new rfl (rc_tup (.cons rc_nils (.cons (rc_same rfl (.inr rfl)) .nil))) .nil)
      | (obtain ⟨e1, e2, _⟩ := cells_3 h0 hts
         rw [e1, e2, ← outR_all hts]
         exact ret_new rfl (rc_tup (.cons (rc_frz rfl rfl rfl (fun _ => rfl)) (.cons (rc_same rfl (.inr rfl)) .nil))) .nil)
  · first | replace h20 := of_decide_eq_false h20 | skip
    refine aw_skip ?_
    refine th_n ?_
    refine aw_seq ?_
    have h0 : checkI l cells lies = 0 := by omega
    have hok := checkI_ok.1 h0
    have hk1 := hok.c0
    have hk2 := hok.c16
    have hr0 := hok.sg
    refine aw_reg ?_
    refine rs_mv rfl rfl ?_
    refine rs_nil fun _ => ?_
    refine th_n ?_
    refine aw_seq ?_
    refine aw_reg ?_
    refine rs_mv rfl rfl ?_
    refine rs_nil fun _ => ?_
    refine th_n ?_
    refine aw_seq ?_
    refine aw_seq ?_
    refine aw_reg ?_
    refine rs_mv rfl rfl ?_
    refine rs_nil fun _ => ?_
    refine th_n ?_
    refine aw_block ?_
    refine aw_fam (α := Nat) (fun k => 256 - k) (fun k => [(0, .rs 3 (l.map cS)), (1, iv cells), (2, iv lies), (9, .sl 1009 0 (outR l lies cells.toNat (k)).length), (10, .bool (decide (tsK l lies (k) ≠ []))), (11, iv (((k) : Nat) : Int))]) (fun k => [(1009, .cells 3 1 ((outR l lies cells.toNat (k)).map ci) true)]) (fun k => k ≤ 256) 0 (by omega)
      (weak_to (.cons rfl (rc_same rfl (.inl rfl)) (.cons rfl (rc_same rfl (.inl rfl)) (.cons rfl (rc_same rfl (.inl rfl)) (.cons rfl (rc_virt rfl rfl) (.cons rfl (rc_same rfl (.inl rfl)) (.cons rfl (rc_same rfl (.inl rfl)) (.nil))))))) (.virt rfl (.nil)) (fun i h => by cases h)) ?_
    intro k hk
    refine aw_seq ?_
    refine aw_seq ?_
    refine aw_reg ?_
    refine rs_mv rfl rfl ?_
    refine rs_lss rfl rfl rfl ?_
    refine rs_nil fun _ => ?_
    refine th_n ?_
    refine aw_cond rfl (fun h23 => ?_) (fun h23 => ?_)
    · first | replace h23 := of_decide_eq_true h23 | skip
      refine aw_skip ?_
      refine th_n ?_
      refine aw_seq ?_
      refine aw_block ?_
      refine aw_seq ?_
      refine aw_reg ?_
      refine rs_mv rfl rfl ?_
      refine rs_mv rfl rfl ?_
      refine rs_mv rfl rfl ?_
      refine rs_calln [] rfl rfl (fc62 l cells k (by omega) hl hk1 hk2 hr0) (.cons (hv_same rfl) (.cons (hv_same rfl) (.cons (hv_same rfl) (.nil)))) rfl ?_
      refine rs_mv rfl rfl ?_
      refine rs_ext rfl rfl rfl ?_
      refine rs_ext rfl rfl rfl ?_
      cases h32 : okL l k
      · skip
        refine rs_mv rfl rfl ?_
        refine rs_mv rfl rfl ?_
        refine rs_nil fun _ => ?_
        refine th_n ?_
        refine aw_seq ?_
        refine aw_seq ?_
        refine aw_reg ?_
        refine rs_mv rfl rfl ?_
        refine rs_not rfl rfl ?_
        refine rs_mv rfl rfl ?_
        refine rs_skip rfl ?_
        refine rs_skip rfl ?_
        refine rs_skip rfl ?_
        refine rs_skip rfl ?_
        refine rs_pick rfl rfl rfl ?_
        refine rs_nil fun _ => ?_
        refine th_n ?_
        refine aw_cond rfl (fun _ => ?_) (fun h => by cases h)
        refine aw_exit ?_
        refine th_e ?_
        refine in_hit ?_
        refine th_n ?_
        refine aw_reg ?_
        refine rs_mv rfl rfl ?_
        first | refine rs_add rfl rfl rfl (by omega) ?_ | refine rs_addw rfl rfl rfl rfl ?_
        refine rs_mv rfl rfl ?_
        refine rs_nil fun _ => ?_
        refine th_n ?_
        first
          | (have hx := exI_f1 (lies := lies) h32; have hs := tsK_f hx; have ho := outR_skip (n := cells.toNat) hx; exact ⟨k + 1, by omega, by omega, weak_to (.cons rfl (rc_same rfl (.inl rfl)) (.cons rfl (rc_same rfl (.inl rfl)) (.cons rfl (rc_same rfl (.inl rfl)) (.cons rfl (rc_eq (by rw [ho]) rfl) (.cons rfl (rc_eq (by rw [hs]) rfl) (.cons rfl (rc_same rfl (.inl rfl)) (.nil))))))) (.keep ((by rw [ho]; rfl)) rfl (.nil)) (fun i h => by cases h)⟩)
          | (have hx := exI_f2 (l := l) (lies := lies) (k := k) (by simpa using h40); have hs := tsK_f hx; have ho := outR_skip (n := cells.toNat) hx; exact ⟨k + 1, by omega, by omega, weak_to (.cons rfl (rc_same rfl (.inl rfl)) (.cons rfl (rc_same rfl (.inl rfl)) (.cons rfl (rc_same rfl (.inl rfl)) (.cons rfl (rc_eq (by rw [ho]) rfl) (.cons rfl (rc_eq (by rw [hs]) rfl) (.cons rfl (rc_same rfl (.inl rfl)) (.nil))))))) (.keep ((by rw [ho]; rfl)) rfl (.nil)) (fun i h => by cases h)⟩)
          | (have hx := (exI_t (lies := lies) h32 (by simpa using h40)); have hs := tsK_t hx; have ho := outR_first (n := cells.toNat) hx hts0; exact ⟨k + 1, by omega, by omega, weak_to_ren (i := 12) (i' := 1009) (F1 := [(0, .rs 3 (l.map cS)), (1, iv cells), (2, iv lies), (9, .sl 12 0 (outR l lies cells.toNat (k + 1)).length), (10, .bool (decide (tsK l lies (k + 1) ≠ []))), (11, iv (((k + 1) : Nat) : Int))]) (H1 := [(12, .cells 3 1 ((outR l lies cells.toNat (k + 1)).map ci) true)]) (.cons rfl (rc_same rfl (.inl rfl)) (.cons rfl (rc_same rfl (.inl rfl)) (.cons rfl (rc_same rfl (.inl rfl)) (.cons rfl (rc_eq (by rw [ho, length_leftW]) rfl) (.cons rfl (rc_eq (by rw [hs]; simp) rfl) (.cons rfl (rc_same rfl (.inl rfl)) (.nil))))))) (.keep ((by rw [ho]; rfl)) rfl (.nil)) (fun i h => by cases h) rfl rfl (.cons rfl (.same _) (.cons rfl (.same _) (.cons rfl (.same _) (.cons rfl (.sl _ _) (.cons rfl (.same _) (.cons rfl (.same _) (.nil))))))) (.cons rfl (rc_same rfl (.inl rfl)) (.cons rfl (rc_same rfl (.inl rfl)) (.cons rfl (rc_same rfl (.inl rfl)) (.cons rfl (rc_same rfl (.inl rfl)) (.cons rfl (rc_same rfl (.inl rfl)) (.cons rfl (rc_same rfl (.inl rfl)) (.nil))))))) (.keep (rfl) rfl (.nil)) (fun i h => by cases h)⟩)
          | (have hx := (exI_t (lies := lies) h32 (by simpa using h40)); have hs := tsK_t hx; have ho := outR_next (n := cells.toNat) hx hts0; obtain rfl : c = cells.toNat := (by omega); exact ⟨k + 1, by omega, by omega, weak_to (.cons rfl (rc_same rfl (.inl rfl)) (.cons rfl (rc_same rfl (.inl rfl)) (.cons rfl (rc_same rfl (.inl rfl)) (.cons rfl (rc_eq (by rw [ho, length_zipC]) rfl) (.cons rfl (rc_eq (by rw [hs]; simp) rfl) (.cons rfl (rc_same rfl (.inl rfl)) (.nil))))))) (.keep ((by rw [ho]; rfl)) rfl (.nil)) (fun i h => by cases h)⟩)
      · skip
        refine rs_mv rfl rfl ?_
        refine rs_mv rfl rfl ?_
        refine rs_nil fun _ => ?_
        refine th_n ?_
        refine aw_seq ?_
        refine aw_seq ?_
        refine aw_reg ?_
        refine rs_mv rfl rfl ?_
        refine rs_not rfl rfl ?_
        refine rs_mv rfl rfl ?_
        refine rs_mv rfl rfl ?_
        refine rs_mv rfl rfl ?_
        refine rs_calln [] rfl rfl (fc63 k lies (by omega)) (.cons (hv_same rfl) (.cons (hv_same rfl) (.nil))) rfl ?_
        refine rs_not rfl rfl ?_
        refine rs_pick rfl rfl rfl ?_
        refine rs_nil fun _ => ?_
        refine th_n ?_
        refine aw_cond rfl (fun h40 => ?_) (fun h40 => ?_)
        · first | replace h40 := of_decide_eq_true h40 | skip
          refine aw_exit ?_
          refine th_e ?_
          refine in_hit ?_
          refine th_n ?_
          refine aw_reg ?_
          refine rs_mv rfl rfl ?_
          first | refine rs_add rfl rfl rfl (by omega) ?_ | refine rs_addw rfl rfl rfl rfl ?_
          refine rs_mv rfl rfl ?_
          refine rs_nil fun _ => ?_
          refine th_n ?_
          first
            | (have hx := exI_f1 (lies := lies) h32; have hs := tsK_f hx; have ho := outR_skip (n := cells.toNat) hx; exact ⟨k + 1, by omega, by omega, weak_to (.cons rfl (rc_same rfl (.inl rfl)) (.cons rfl (rc_same rfl (.inl rfl)) (.cons rfl (rc_same rfl (.inl rfl)) (.cons rfl (rc_eq (by rw [ho]) rfl) (.cons rfl (rc_eq (by rw [hs]) rfl) (.cons rfl (rc_same rfl (.inl rfl)) (.nil))))))) (.keep ((by rw [ho]; rfl)) rfl (.nil)) (fun i h => by cases h)⟩)
            | (have hx := exI_f2 (l := l) (lies := lies) (k := k) (by simpa using h40); have hs := tsK_f hx; have ho := outR_skip (n := cells.toNat) hx; exact ⟨k + 1, by omega, by omega, weak_to (.cons rfl (rc_same rfl (.inl rfl)) (.cons rfl (rc_same rfl (.inl rfl)) (.cons rfl (rc_same rfl (.inl rfl)) (.cons rfl (rc_eq (by rw [ho]) rfl) (.cons rfl (rc_eq (by rw [hs]) rfl) (.cons rfl (rc_same rfl (.inl rfl)) (.nil))))))) (.keep ((by rw [ho]; rfl)) rfl (.nil)) (fun i h => by cases h)⟩)
            | (have hx := (exI_t (lies := lies) h32 (by simpa using h40)); have hs := tsK_t hx; have ho := outR_first (n := cells.toNat) hx hts0; exact ⟨k + 1, by omega, by omega, weak_to_ren (i := 12) (i' := 1009) (F1 := [(0, .rs 3 (l.map cS)), (1, iv cells), (2, iv lies), (9, .sl 12 0 (outR l lies cells.toNat (k + 1)).length), (10, .bool (decide (tsK l lies (k + 1) ≠ []))), (11, iv (((k + 1) : Nat) : Int))]) (H1 := [(12, .cells 3 1 ((outR l lies cells.toNat (k + 1)).map ci) true)]) (.cons rfl (rc_same rfl (.inl rfl)) (.cons rfl (rc_same rfl (.inl rfl)) (.cons rfl (rc_same rfl (.inl rfl)) (.cons rfl (rc_eq (by rw [ho, length_leftW]) rfl) (.cons rfl (rc_eq (by rw [hs]; simp) rfl) (.cons rfl (rc_same rfl (.inl rfl)) (.nil))))))) (.keep ((by rw [ho]; rfl)) rfl (.nil)) (fun i h => by cases h) rfl rfl (.cons rfl (.same _) (.cons rfl (.same _) (.cons rfl (.same _) (.cons rfl (.sl _ _) (.cons rfl (.same _) (.cons rfl (.same _) (.nil))))))) (.cons rfl (rc_same rfl (.inl rfl)) (.cons rfl (rc_same rfl (.inl rfl)) (.cons rfl (rc_same rfl (.inl rfl)) (.cons rfl (rc_same rfl (.inl rfl)) (.cons rfl (rc_same rfl (.inl rfl)) (.cons rfl (rc_same rfl (.inl rfl)) (.nil))))))) (.keep (rfl) rfl (.nil)) (fun i h => by cases h)⟩)
            | (have hx := (exI_t (lies := lies) h32 (by simpa using h40)); have hs := tsK_t hx; have ho := outR_next (n := cells.toNat) hx hts0; obtain rfl : c = cells.toNat := (by omega); exact ⟨k + 1, by omega, by omega, weak_to (.cons rfl (rc_same rfl (.inl rfl)) (.cons rfl (rc_same rfl (.inl rfl)) (.cons rfl (rc_same rfl (.inl rfl)) (.cons rfl (rc_eq (by rw [ho, length_zipC]) rfl) (.cons rfl (rc_eq (by rw [hs]; simp) rfl) (.cons rfl (rc_same rfl (.inl rfl)) (.nil))))))) (.keep ((by rw [ho]; rfl)) rfl (.nil)) (fun i h => by cases h)⟩)
        · first | replace h40 := of_decide_eq_false h40 | skip
          have hRX : leftR l k cells.toNat = leftW (thM l k) (goM l k) cells.toNat := by rw [leftR, h32, if_pos rfl]
          have hlR : (leftR l k cells.toNat).length = cells.toNat := by rw [hRX, length_leftW]
          refine aw_skip ?_
          refine th_n ?_
          refine aw_seq ?_
          refine aw_seq ?_
          refine aw_reg ?_
          refine rs_mv rfl rfl ?_
          refine rs_not rfl rfl ?_
          refine rs_nil fun _ => ?_
          refine th_n ?_
          refine aw_cond rfl (fun h42 => ?_) (fun h42 => ?_)
          · first | replace h42 := of_decide_eq_true h42 | skip
            have hts0 : tsK l lies k = [] := by simpa using h42
            refine aw_reg ?_
            refine rs_mv rfl rfl ?_
            refine rs_mv rfl rfl ?_
            refine rs_nil fun _ => ?_
            refine th_n ?_
            refine aw_seq ?_
            refine aw_reg ?_
            refine rs_mv rfl rfl ?_
            refine rs_nil fun _ => ?_
            refine th_n ?_
            refine aw_seq ?_
            refine aw_reg ?_
            refine rs_mv rfl rfl ?_
            refine rs_nil fun _ => ?_
            refine th_n ?_
            refine aw_block ?_
            refine aw_fam (α := Nat) (fun c => cells.toNat - c) (fun c => [(0, .rs 3 (l.map cS)), (1, iv cells), (2, iv lies), (9, .sl 12 0 cells.toNat), (10, .bool true), (11, iv (((k) : Nat) : Int)), (12, .sl 12 0 cells.toNat), (14, iv (((c) : Nat) : Int))]) (fun c => [(12, .cells 3 1 ((leftW (thM l k) (goM l k) cells.toNat).map ci) true)]) (fun c => c ≤ cells.toNat) 0 (by omega)
              (weak_to (.cons rfl (rc_same rfl (.inl rfl)) (.cons rfl (rc_same rfl (.inl rfl)) (.cons rfl (rc_same rfl (.inl rfl)) (.cons rfl (rc_eq (by rw [hlR]) rfl) (.cons rfl (rc_same rfl (.inl rfl)) (.cons rfl (rc_same rfl (.inl rfl)) (.cons rfl (rc_eq (by rw [hlR]) rfl) (.cons rfl (rc_same rfl (.inl rfl)) (.nil))))))))) (.keep ((by rw [hRX]; rfl)) rfl (.nil)) (fun i h => by cases h)) ?_
            intro c hc
            refine aw_seq ?_
            refine aw_seq ?_
            refine aw_reg ?_
            refine rs_mv rfl rfl ?_
            refine rs_mv rfl rfl ?_
            refine rs_lss rfl rfl rfl ?_
            refine rs_nil fun _ => ?_
            refine th_n ?_
            refine aw_cond rfl (fun h46 => ?_) (fun h46 => ?_)
            · first | replace h46 := of_decide_eq_true h46 | skip
              refine aw_skip ?_
              refine th_n ?_
              refine aw_seq ?_
              refine aw_block ?_
              refine aw_seq ?_
              refine aw_draw hmix ?_
              refine rs_mv rfl rfl ?_
              refine rs_mv rfl rfl ?_
              refine rs_ix_sm (t := c) rfl rfl rfl rfl (by omega) ?_
              refine rs_ld_g (y := leftF (thM l k) (goM l k) c) rfl rfl rfl (leftW_at (by omega)) rfl ?_
              refine rs_mv rfl rfl ?_
              refine rs_mv rfl rfl ?_
              refine rs_ix_sm (t := c) rfl rfl rfl rfl (by omega) ?_
              refine rs_ld_g (y := leftF (thM l k) (goM l k) c) rfl rfl rfl (leftW_at (by omega)) rfl ?_
              refine rs_cmp_f rfl rfl rfl rfl (fun h => h rfl) ?_
              refine rs_nil ⟨by kernel_rfl, fun _ => ?_⟩
              refine th_n ?_
              refine aw_cond rfl (fun h => by cases h) (fun _ => ?_)
              refine aw_skip ?_
              refine in_n ?_
              refine th_n ?_
              refine aw_reg ?_
              refine rs_mv rfl rfl ?_
              first | refine rs_add rfl rfl rfl (by omega) ?_ | refine rs_addw rfl rfl rfl rfl ?_
              refine rs_mv rfl rfl ?_
              refine rs_nil fun _ => ?_
              refine th_n ?_
              exact ⟨c + 1, by omega, by omega, weak_to (.cons rfl (rc_same rfl (.inl rfl)) (.cons rfl (rc_same rfl (.inl rfl)) (.cons rfl (rc_same rfl (.inl rfl)) (.cons rfl (rc_same rfl (.inl rfl)) (.cons rfl (rc_same rfl (.inl rfl)) (.cons rfl (rc_same rfl (.inl rfl)) (.cons rfl (rc_same rfl (.inl rfl)) (.cons rfl (rc_same rfl (.inl rfl)) (.nil))))))))) (.keep (rfl) rfl (.nil)) (fun i h => by cases h)⟩
            · first | replace h46 := of_decide_eq_false h46 | skip
              refine aw_exit ?_
              refine th_e ?_
              refine th_e ?_
              refine in_hit ?_
              refine in_n ?_
              refine th_n ?_
              refine aw_reg ?_
              refine rs_mv rfl rfl ?_
              first | refine rs_add rfl rfl rfl (by omega) ?_ | refine rs_addw rfl rfl rfl rfl ?_
              refine rs_mv rfl rfl ?_
              refine rs_nil fun _ => ?_
              refine th_n ?_
              first
                | (have hx := exI_f1 (lies := lies) h32; have hs := tsK_f hx; have ho := outR_skip (n := cells.toNat) hx; exact ⟨k + 1, by omega, by omega, weak_to (.cons rfl (rc_same rfl (.inl rfl)) (.cons rfl (rc_same rfl (.inl rfl)) (.cons rfl (rc_same rfl (.inl rfl)) (.cons rfl (rc_eq (by rw [ho]) rfl) (.cons rfl (rc_eq (by rw [hs]) rfl) (.cons rfl (rc_same rfl (.inl rfl)) (.nil))))))) (.keep ((by rw [ho]; rfl)) rfl (.nil)) (fun i h => by cases h)⟩)
                | (have hx := exI_f2 (l := l) (lies := lies) (k := k) (by simpa using h40); have hs := tsK_f hx; have ho := outR_skip (n := cells.toNat) hx; exact ⟨k + 1, by omega, by omega, weak_to (.cons rfl (rc_same rfl (.inl rfl)) (.cons rfl (rc_same rfl (.inl rfl)) (.cons rfl (rc_same rfl (.inl rfl)) (.cons rfl (rc_eq (by rw [ho]) rfl) (.cons rfl (rc_eq (by rw [hs]) rfl) (.cons rfl (rc_same rfl (.inl rfl)) (.nil))))))) (.keep ((by rw [ho]; rfl)) rfl (.nil)) (fun i h => by cases h)⟩)
                | (have hx := (exI_t (lies := lies) h32 (by simpa using h40)); have hs := tsK_t hx; have ho := outR_first (n := cells.toNat) hx hts0; exact ⟨k + 1, by omega, by omega, weak_to_ren (i := 12) (i' := 1009) (F1 := [(0, .rs 3 (l.map cS)), (1, iv cells), (2, iv lies), (9, .sl 12 0 (outR l lies cells.toNat (k + 1)).length), (10, .bool (decide (tsK l lies (k + 1) ≠ []))), (11, iv (((k + 1) : Nat) : Int))]) (H1 := [(12, .cells 3 1 ((outR l lies cells.toNat (k + 1)).map ci) true)]) (.cons rfl (rc_same rfl (.inl rfl)) (.cons rfl (rc_same rfl (.inl rfl)) (.cons rfl (rc_same rfl (.inl rfl)) (.cons rfl (rc_eq (by rw [ho, length_leftW]) rfl) (.cons rfl (rc_eq (by rw [hs]; simp) rfl) (.cons rfl (rc_same rfl (.inl rfl)) (.nil))))))) (.keep ((by rw [ho]; rfl)) rfl (.nil)) (fun i h => by cases h) rfl rfl (.cons rfl (.same _) (.cons rfl (.same _) (.cons rfl (.same _) (.cons rfl (.sl _ _) (.cons rfl (.same _) (.cons rfl (.same _) (.nil))))))) (.cons rfl (rc_same rfl (.inl rfl)) (.cons rfl (rc_same rfl (.inl rfl)) (.cons rfl (rc_same rfl (.inl rfl)) (.cons rfl (rc_same rfl (.inl rfl)) (.cons rfl (rc_same rfl (.inl rfl)) (.cons rfl (rc_same rfl (.inl rfl)) (.nil))))))) (.keep (rfl) rfl (.nil)) (fun i h => by cases h)⟩)
                | (have hx := (exI_t (lies := lies) h32 (by simpa using h40)); have hs := tsK_t hx; have ho := outR_next (n := cells.toNat) hx hts0; obtain rfl : c = cells.toNat := (by omega); exact ⟨k + 1, by omega, by omega, weak_to (.cons rfl (rc_same rfl (.inl rfl)) (.cons rfl (rc_same rfl (.inl rfl)) (.cons rfl (rc_same rfl (.inl rfl)) (.cons rfl (rc_eq (by rw [ho, length_zipC]) rfl) (.cons rfl (rc_eq (by rw [hs]; simp) rfl) (.cons rfl (rc_same rfl (.inl rfl)) (.nil))))))) (.keep ((by rw [ho]; rfl)) rfl (.nil)) (fun i h => by cases h)⟩)
          · first | replace h42 := of_decide_eq_false h42 | skip
            have hts0 : tsK l lies k ≠ [] := by simpa using h42
            have hlO := (outR_len l lies cells.toNat k).2 hts0
            refine aw_skip ?_
            refine th_n ?_
            refine aw_seq ?_
            refine aw_reg ?_
            refine rs_mv rfl rfl ?_
            refine rs_nil fun _ => ?_
            refine th_n ?_
            refine aw_seq ?_
            refine aw_reg ?_
            refine rs_mv rfl rfl ?_
            refine rs_nil fun _ => ?_
            refine th_n ?_
            refine aw_block ?_
            refine aw_fam (α := Nat) (fun c => cells.toNat - c) (fun c => [(0, .rs 3 (l.map cS)), (1, iv cells), (2, iv lies), (9, .sl 1009 0 cells.toNat), (10, .bool true), (11, iv (((k) : Nat) : Int)), (12, .sl 12 0 cells.toNat), (14, iv (((c) : Nat) : Int))]) (fun c => [(12, .cells 3 1 ((leftW (thM l k) (goM l k) cells.toNat).map ci) true), (1009, .cells 3 1 ((zipC (leftW (thM l k) (goM l k) cells.toNat) (outR l lies cells.toNat (k)) cells.toNat (c)).map ci) true)]) (fun c => c ≤ cells.toNat) 0 (by omega)
              (weak_to (.cons rfl (rc_same rfl (.inl rfl)) (.cons rfl (rc_same rfl (.inl rfl)) (.cons rfl (rc_same rfl (.inl rfl)) (.cons rfl (rc_eq (by rw [hlO]) rfl) (.cons rfl (rc_same rfl (.inl rfl)) (.cons rfl (rc_same rfl (.inl rfl)) (.cons rfl (rc_eq (by rw [hlR]) rfl) (.cons rfl (rc_same rfl (.inl rfl)) (.nil))))))))) (.keep ((by rw [hRX]; rfl)) rfl (.keep ((by rw [zipC_0 hlO]; rfl)) rfl (.nil))) (fun i h => by cases h)) ?_
            intro c hc
            refine aw_seq ?_
            refine aw_seq ?_
            refine aw_reg ?_
            refine rs_mv rfl rfl ?_
            refine rs_mv rfl rfl ?_
            refine rs_lss rfl rfl rfl ?_
            refine rs_nil fun _ => ?_
            refine th_n ?_
            refine aw_cond rfl (fun h46 => ?_) (fun h46 => ?_)
            · first | replace h46 := of_decide_eq_true h46 | skip
              refine aw_skip ?_
              refine th_n ?_
              refine aw_seq ?_
              refine aw_block ?_
              refine aw_seq ?_
              refine aw_draw hmix ?_
              refine rs_mv rfl rfl ?_
              refine rs_mv rfl rfl ?_
              refine rs_ix_sm (t := c) rfl rfl rfl rfl (by omega) ?_
              refine rs_ld_g (y := (leftW (thM l k) (goM l k) cells.toNat).getD c 0) rfl rfl rfl (by rw [getD_of (leftW_at (by omega))]; exact leftW_at (by omega)) rfl ?_
              refine rs_mv rfl rfl ?_
              refine rs_mv rfl rfl ?_
              refine rs_ix_sm (t := c) rfl rfl rfl rfl (by omega) ?_
              refine rs_ld_g rfl rfl rfl (zipC_at (by omega)) rfl ?_
              refine rs_neq rfl rfl rfl ?_
              refine rs_nil ⟨by kernel_rfl, fun _ => ?_⟩
              refine th_n ?_
              refine aw_cond rfl (fun h57 => ?_) (fun h57 => ?_)
              · first | replace h57 := of_decide_eq_true h57 | skip
                refine aw_reg ?_
                refine rs_mv rfl rfl ?_
                refine rs_mv rfl rfl ?_
                refine rs_ix_sm (t := c) rfl rfl rfl rfl (by omega) ?_
                refine rs_st_m (v := 0) (fl' := true) rfl rfl rfl rfl (by rw [length_zipC]; omega) rfl rfl (Nat.le_of_ble_eq_true rfl) rfl rfl ?_
                refine rs_nil fun _ => ?_
                refine in_n ?_
                refine th_n ?_
                refine aw_reg ?_
                refine rs_mv rfl rfl ?_
                first | refine rs_add rfl rfl rfl (by omega) ?_ | refine rs_addw rfl rfl rfl rfl ?_
                refine rs_mv rfl rfl ?_
                refine rs_nil fun _ => ?_
                refine th_n ?_
                first
                  | (have hz := zipC_t (show c < cells.toNat by omega) h57; exact ⟨c + 1, by omega, by omega, weak_to (.cons rfl (rc_same rfl (.inl rfl)) (.cons rfl (rc_same rfl (.inl rfl)) (.cons rfl (rc_same rfl (.inl rfl)) (.cons rfl (rc_same rfl (.inl rfl)) (.cons rfl (rc_same rfl (.inl rfl)) (.cons rfl (rc_same rfl (.inl rfl)) (.cons rfl (rc_same rfl (.inl rfl)) (.cons rfl (rc_same rfl (.inl rfl)) (.nil))))))))) (.keep (rfl) rfl (.keep ((by rw [hz]; rfl)) rfl (.nil))) (fun i h => by cases h)⟩)
                  | (have hz := zipC_f (n := cells.toNat) (Decidable.not_not.1 h57); exact ⟨c + 1, by omega, by omega, weak_to (.cons rfl (rc_same rfl (.inl rfl)) (.cons rfl (rc_same rfl (.inl rfl)) (.cons rfl (rc_same rfl (.inl rfl)) (.cons rfl (rc_same rfl (.inl rfl)) (.cons rfl (rc_same rfl (.inl rfl)) (.cons rfl (rc_same rfl (.inl rfl)) (.cons rfl (rc_same rfl (.inl rfl)) (.cons rfl (rc_same rfl (.inl rfl)) (.nil))))))))) (.keep (rfl) rfl (.keep ((by rw [hz]; rfl)) rfl (.nil))) (fun i h => by cases h)⟩)
              · first | replace h57 := of_decide_eq_false h57 | skip
                refine aw_skip ?_
                refine in_n ?_
                refine th_n ?_
                refine aw_reg ?_
                refine rs_mv rfl rfl ?_
                first | refine rs_add rfl rfl rfl (by omega) ?_ | refine rs_addw rfl rfl rfl rfl ?_
                refine rs_mv rfl rfl ?_
                refine rs_nil fun _ => ?_
                refine th_n ?_
                first
                  | (have hz := zipC_t (show c < cells.toNat by omega) h57; exact ⟨c + 1, by omega, by omega, weak_to (.cons rfl (rc_same rfl (.inl rfl)) (.cons rfl (rc_same rfl (.inl rfl)) (.cons rfl (rc_same rfl (.inl rfl)) (.cons rfl (rc_same rfl (.inl rfl)) (.cons rfl (rc_same rfl (.inl rfl)) (.cons rfl (rc_same rfl (.inl rfl)) (.cons rfl (rc_same rfl (.inl rfl)) (.cons rfl (rc_same rfl (.inl rfl)) (.nil))))))))) (.keep (rfl) rfl (.keep ((by rw [hz]; rfl)) rfl (.nil))) (fun i h => by cases h)⟩)
                  | (have hz := zipC_f (n := cells.toNat) (Decidable.not_not.1 h57); exact ⟨c + 1, by omega, by omega, weak_to (.cons rfl (rc_same rfl (.inl rfl)) (.cons rfl (rc_same rfl (.inl rfl)) (.cons rfl (rc_same rfl (.inl rfl)) (.cons rfl (rc_same rfl (.inl rfl)) (.cons rfl (rc_same rfl (.inl rfl)) (.cons rfl (rc_same rfl (.inl rfl)) (.cons rfl (rc_same rfl (.inl rfl)) (.cons rfl (rc_same rfl (.inl rfl)) (.nil))))))))) (.keep (rfl) rfl (.keep ((by rw [hz]; rfl)) rfl (.nil))) (fun i h => by cases h)⟩)
            · first | replace h46 := of_decide_eq_false h46 | skip
              refine aw_exit ?_
              refine th_e ?_
              refine th_e ?_
              refine in_hit ?_
              refine in_n ?_
              refine th_n ?_
              refine aw_reg ?_
              refine rs_mv rfl rfl ?_
              first | refine rs_add rfl rfl rfl (by omega) ?_ | refine rs_addw rfl rfl rfl rfl ?_
              refine rs_mv rfl rfl ?_
              refine rs_nil fun _ => ?_
              refine th_n ?_
              first
                | (have hx := exI_f1 (lies := lies) h32; have hs := tsK_f hx; have ho := outR_skip (n := cells.toNat) hx; exact ⟨k + 1, by omega, by omega, weak_to (.cons rfl (rc_same rfl (.inl rfl)) (.cons rfl (rc_same rfl (.inl rfl)) (.cons rfl (rc_same rfl (.inl rfl)) (.cons rfl (rc_eq (by rw [ho]) rfl) (.cons rfl (rc_eq (by rw [hs]) rfl) (.cons rfl (rc_same rfl (.inl rfl)) (.nil))))))) (.keep ((by rw [ho]; rfl)) rfl (.nil)) (fun i h => by cases h)⟩)
                | (have hx := exI_f2 (l := l) (lies := lies) (k := k) (by simpa using h40); have hs := tsK_f hx; have ho := outR_skip (n := cells.toNat) hx; exact ⟨k + 1, by omega, by omega, weak_to (.cons rfl (rc_same rfl (.inl rfl)) (.cons rfl (rc_same rfl (.inl rfl)) (.cons rfl (rc_same rfl (.inl rfl)) (.cons rfl (rc_eq (by rw [ho]) rfl) (.cons rfl (rc_eq (by rw [hs]) rfl) (.cons rfl (rc_same rfl (.inl rfl)) (.nil))))))) (.keep ((by rw [ho]; rfl)) rfl (.nil)) (fun i h => by cases h)⟩)
                | (have hx := (exI_t (lies := lies) h32 (by simpa using h40)); have hs := tsK_t hx; have ho := outR_first (n := cells.toNat) hx hts0; exact ⟨k + 1, by omega, by omega, weak_to_ren (i := 12) (i' := 1009) (F1 := [(0, .rs 3 (l.map cS)), (1, iv cells), (2, iv lies), (9, .sl 12 0 (outR l lies cells.toNat (k + 1)).length), (10, .bool (decide (tsK l lies (k + 1) ≠ []))), (11, iv (((k + 1) : Nat) : Int))]) (H1 := [(12, .cells 3 1 ((outR l lies cells.toNat (k + 1)).map ci) true)]) (.cons rfl (rc_same rfl (.inl rfl)) (.cons rfl (rc_same rfl (.inl rfl)) (.cons rfl (rc_same rfl (.inl rfl)) (.cons rfl (rc_eq (by rw [ho, length_leftW]) rfl) (.cons rfl (rc_eq (by rw [hs]; simp) rfl) (.cons rfl (rc_same rfl (.inl rfl)) (.nil))))))) (.keep ((by rw [ho]; rfl)) rfl (.nil)) (fun i h => by cases h) rfl rfl (.cons rfl (.same _) (.cons rfl (.same _) (.cons rfl (.same _) (.cons rfl (.sl _ _) (.cons rfl (.same _) (.cons rfl (.same _) (.nil))))))) (.cons rfl (rc_same rfl (.inl rfl)) (.cons rfl (rc_same rfl (.inl rfl)) (.cons rfl (rc_same rfl (.inl rfl)) (.cons rfl (rc_same rfl (.inl rfl)) (.cons rfl (rc_same rfl (.inl rfl)) (.cons rfl (rc_same rfl (.inl rfl)) (.nil))))))) (.keep (rfl) rfl (.nil)) (fun i h => by cases h)⟩)
                | (have hx := (exI_t (lies := lies) h32 (by simpa using h40)); have hs := tsK_t hx; have ho := outR_next (n := cells.toNat) hx hts0; obtain rfl : c = cells.toNat := (by omega); exact ⟨k + 1, by omega, by omega, weak_to (.cons rfl (rc_same rfl (.inl rfl)) (.cons rfl (rc_same rfl (.inl rfl)) (.cons rfl (rc_same rfl (.inl rfl)) (.cons rfl (rc_eq (by rw [ho, length_zipC]) rfl) (.cons rfl (rc_eq (by rw [hs]; simp) rfl) (.cons rfl (rc_same rfl (.inl rfl)) (.nil))))))) (.keep ((by rw [ho]; rfl)) rfl (.nil)) (fun i h => by cases h)⟩)
    · first | replace h23 := of_decide_eq_false h23 | skip
      refine aw_exit ?_
      refine th_e ?_
      refine th_e ?_
      refine in_hit ?_
      refine th_n ?_
      refine aw_seq ?_
      refine aw_seq ?_
      refine aw_reg ?_
      refine rs_mv rfl rfl ?_
      refine rs_not rfl rfl ?_
      refine rs_nil fun _ => ?_
      refine th_n ?_
      refine aw_cond rfl (fun h62 => ?_) (fun h62 => ?_)
      · first | replace h62 := of_decide_eq_true h62 | skip
        obtain rfl : k = 256 := by omega
        have hts : tsK l lies 256 = [] := by simpa using h62
        refine aw_seq ?_
        refine aw_reg ?_
        refine rs_mv rfl rfl ?_
        refine rs_mv rfl rfl ?_
        refine rs_nil fun _ => ?_
        refine th_n ?_
        refine aw_ret ?_
        refine th_r ?_
        first
          | (obtain ⟨e1, e2, _⟩ := cells_1 h20
             rw [e1, e2]
             exact ret_new rfl (rc_tup (.cons rc_nils (.cons (rc_same rfl (.inr rfl)) .nil))) .nil)
          | (obtain ⟨e1, e2, _⟩ := cells_2 (l := l) (cells := cells) (lies := lies) (by omega) hts
             rw [e1, e2]
             exact ret_new rfl (rc_tup (.cons rc_nils (.cons (rc_same rfl (.inr rfl)) .nil))) .nil)
          | (obtain ⟨e1, e2, _⟩ := cells_3 h0 hts
             rw [e1, e2, ← outR_all hts]
             exact ret_new rfl (rc_tup (.cons (rc_frz rfl rfl rfl (fun _ => rfl)) (.cons (rc_same rfl (.inr rfl)) .nil))) .nil)
      · first | replace h62 := of_decide_eq_false h62 | skip
        obtain rfl : k = 256 := by omega
        have hts : tsK l lies 256 ≠ [] := by simpa using h62
        refine aw_skip ?_
        refine th_n ?_
        refine aw_seq ?_
        refine aw_reg ?_
        refine rs_mv rfl rfl ?_
        refine rs_mv rfl rfl ?_
        refine rs_mv rfl rfl ?_
        refine rs_nil fun _ => ?_
        refine th_n ?_
        refine aw_ret ?_
        first
          | (obtain ⟨e1, e2, _⟩ := cells_1 h20
             rw [e1, e2]
             exact ret_new rfl (rc_tup (.cons rc_nils (.cons (rc_same rfl (.inr rfl)) .nil))) .nil)
          | (obtain ⟨e1, e2, _⟩ := cells_2 (l := l) (cells := cells) (lies := lies) (by omega) hts
             rw [e1, e2]
             exact ret_new rfl (rc_tup (.cons rc_nils (.cons (rc_same rfl (.inr rfl)) .nil))) .nil)
          | (obtain ⟨e1, e2, _⟩ := cells_3 h0 hts
             rw [e1, e2, ← outR_all hts]
             exact ret_new rfl (rc_tup (.cons (rc_frz rfl rfl rfl (fun _ => rfl)) (.cons (rc_same rfl (.inr rfl)) .nil))) .nil)

def mc40 : MC := (.seq (.reg [⟨(some 6), (.mv (.c .nils)), none, []⟩, ⟨(some 7), (.mv (.c (.int .i64 0))), none, [0]⟩] false) (.seq (.reg [⟨(some 16), (.mv (.t 0)), none, []⟩, ⟨(some 17), (.mv (.t 1)), none, []⟩, ⟨(some 18), (.mv (.t 2)), none, []⟩, ⟨(some 19), (.call 35 [(.t 16), (.t 17), (.t 18)]), none, [0, 1, 2]⟩, ⟨(some 8), (.mv (.t 19)), none, [3, 3, 0, 1, 2, 3]⟩] false) (.seq (.seq (.reg [⟨(some 20), (.mv (.t 8)), none, []⟩, ⟨(some 21), (.bin .neq (.t 20) (.c (.int .i64 0))), none, [0]⟩] false) (.cond (.t 21) (.seq (.reg [⟨(some 22), (.mv (.t 8)), none, []⟩, ⟨(some 6), (.mv (.c .nils)), none, []⟩, ⟨(some 7), (.mv (.t 22)), none, [0, 1, 0, 1]⟩] false) .ret) .skip)) (.seq (.reg [⟨(some 9), (.mv (.c (.int .i64 255))), none, []⟩] false) (.seq (.reg [⟨(some 10), (.mv (.c (.bool false))), none, []⟩] false) (.seq (.seq (.reg [⟨(some 11), (.mv (.c (.int .i64 0))), none, []⟩] false) (.block 0 (.loop (.seq (.seq (.reg [⟨(some 23), (.mv (.t 11)), none, []⟩, ⟨(some 24), (.bin .lss (.t 23) (.c (.int .i64 256))), none, [0]⟩] false) (.cond (.t 24) .skip (.exit 0))) (.seq (.block 1 (.seq (.reg [⟨(some 28), (.mv (.t 0)), none, []⟩, ⟨(some 29), (.mv (.t 1)), none, []⟩, ⟨(some 30), (.mv (.t 11)), none, []⟩, ⟨(some 31), (.call 62 [(.t 28), (.t 29), (.t 30)]), none, [0, 1, 2]⟩, ⟨(some 27), (.mv (.t 31)), none, [3]⟩, ⟨(some 32), (.ext (.t 27) 0), none, [4]⟩, ⟨(some 33), (.ext (.t 27) 1), none, [4]⟩, ⟨(some 12), (.mv (.t 32)), none, [5, 3, 0, 1, 2, 3, 4, 5]⟩, ⟨(some 13), (.mv (.t 33)), none, [6, 7, 0, 1, 2, 3, 4, 5, 6, 7]⟩] false) (.seq (.reg [⟨(some 34), (.mv (.t 13)), none, []⟩, ⟨(some 35), (.mv (.t 34)), none, [0]⟩, ⟨(some 36), (.mv (.t 11)), (some (35, true)), [1]⟩, ⟨(some 37), (.mv (.t 2)), (some (35, true)), [1]⟩, ⟨(some 38), (.call 63 [(.t 36), (.t 37)]), (some (35, true)), [2, 3, 1, 1]⟩, ⟨(some 39), (.pick (.t 35) (.t 38) (.c (.bool false))), none, [1, 4]⟩] false) (.cond (.t 39) (.seq (.reg [⟨(some 10), (.mv (.c (.bool true))), none, []⟩] false) (.reg [⟨(some 40), (.mv (.t 9)), none, []⟩, ⟨(some 41), (.mv (.t 11)), none, []⟩, ⟨(some 42), (.bin .and (.t 40) (.t 41)), none, [0, 1]⟩, ⟨(some 9), (.mv (.t 42)), none, [2, 0, 1, 2]⟩] false)) .skip)))) (.reg [⟨(some 25), (.mv (.t 11)), none, []⟩, ⟨(some 26), (.bin .add (.t 25) (.c (.int .i64 1))), none, [0]⟩, ⟨(some 11), (.mv (.t 26)), none, [1, 0, 1]⟩] false)))))) (.seq (.seq (.reg [⟨(some 43), (.mv (.t 10)), none, []⟩, ⟨(some 44), (.un .not (.t 43)), none, [0]⟩] false) (.cond (.t 44) (.seq (.reg [⟨(some 6), (.mv (.c .nils)), none, []⟩, ⟨(some 7), (.mv (.c (.int .i64 21))), none, [0, 0]⟩] false) .ret) .skip)) (.seq (.reg [⟨(some 14), (.mv (.c .nils)), none, []⟩] false) (.seq (.seq (.reg [⟨(some 15), (.mv (.c (.int .i64 0))), none, []⟩] false) (.block 2 (.loop (.seq (.seq (.reg [⟨(some 45), (.mv (.t 15)), none, []⟩, ⟨(some 46), (.bin .lss (.t 45) (.c (.int .i64 8))), none, [0]⟩] false) (.cond (.t 46) .skip (.exit 2))) (.seq (.block 3 (.seq (.reg [⟨(some 49), (.mv (.t 9)), none, []⟩, ⟨(some 50), (.mv (.t 15)), none, []⟩, ⟨(some 51), (.call 64 [(.t 49), (.t 50)]), none, [0, 1]⟩] false) (.cond (.t 51) (.reg [⟨(some 52), (.mv (.t 14)), none, []⟩, ⟨(some 53), (.mv (.t 15)), none, []⟩, ⟨(some 54), (.bslice 3 1 [(.int .i64 0)] 1 [(0, (.t 53))]), none, [1]⟩, ⟨(some 55), (.app 3 1 8 [(.int .i64 0)] (.t 52) (.t 54)), none, [0, 2]⟩, ⟨(some 14), (.mv (.t 55)), none, [3, 3, 0, 1, 2, 3]⟩] false) .skip))) (.reg [⟨(some 47), (.mv (.t 15)), none, []⟩, ⟨(some 48), (.bin .add (.t 47) (.c (.int .i64 1))), none, [0]⟩, ⟨(some 15), (.mv (.t 48)), none, [1, 0, 1]⟩] false)))))) (.seq (.reg [⟨(some 56), (.mv (.t 14)), none, []⟩, ⟨(some 6), (.mv (.t 56)), none, [0, 0]⟩, ⟨(some 7), (.mv (.c (.int .i64 0))), none, [1, 0, 1]⟩] false) .ret))))))))))
theorem mcOk40 : (match Try.f40.body with | some c => compC Try.prog 57 c | none => none) = some mc40 := by kernel_rfl

theorem fc40 (l : List Sg) (cells lies : Int) (hl : l.length ≤ 1000000) : FC Try.prog 40 [.rs 3 (l.map cS), iv cells, iv lies] [] (.tup [ints (sureL l cells lies), iv (cellsE l cells lies)]) [] false := by
  refine fc_run (nt := 57) Try.func40 rfl rfl mcOk40 (Nat.le_of_ble_eq_true rfl) ?_
  delta mc40
  refine aw_seq ?_
  refine aw_reg ?_
  refine rs_mv rfl rfl ?_
  refine rs_mv rfl rfl ?_
  refine rs_nil fun _ => ?_
  refine th_n ?_
  refine aw_seq ?_
  refine aw_reg ?_
  refine rs_mv rfl rfl ?_
  refine rs_mv rfl rfl ?_
  refine rs_mv rfl rfl ?_
  refine rs_calln [] rfl rfl (fc35 l cells lies hl) (.cons (hv_same rfl) (.cons (hv_same rfl) (.cons (hv_same rfl) (.nil)))) rfl ?_
  refine rs_mv rfl rfl ?_
  refine rs_nil fun _ => ?_
  refine th_n ?_
  refine aw_seq ?_
  refine aw_seq ?_
  refine aw_reg ?_
  refine rs_mv rfl rfl ?_
  refine rs_neq rfl rfl rfl ?_
  refine rs_nil fun _ => ?_
  refine th_n ?_
  refine aw_cond rfl (fun h21 => ?_) (fun h21 => ?_)
  · first | replace h21 := of_decide_eq_true h21 | skip
    refine aw_seq ?_
    refine aw_reg ?_
    refine rs_mv rfl rfl ?_
    refine rs_mv rfl rfl ?_
    refine rs_mv rfl rfl ?_
    refine rs_nil fun _ => ?_
    refine th_n ?_
    refine aw_ret ?_
    refine th_r ?_
    first
      | (obtain ⟨e1, _, e2⟩ := cells_1 h21
         rw [e1, e2]
         exact ret_new rfl (rc_tup (.cons rc_nils (.cons (rc_same rfl (.inr rfl)) .nil))) .nil)
      | (obtain ⟨e1, _, e2⟩ := cells_2 (l := l) (cells := cells) (lies := lies) (by omega) hts
         rw [e1, e2]
         exact ret_new rfl (rc_tup (.cons rc_nils (.cons (rc_same rfl (.inr rfl)) .nil))) .nil)
      | (obtain ⟨e1, _, e2⟩ := cells_3 h0 hts
         obtain rfl : q = 8 := by omega
         rw [e1, e2, ← al_end hal hts]
         exact ret_new rfl (rc_tup (.cons (rc_frz rfl rfl rfl (fun _ => rfl)) (.cons (rc_same rfl (.inr rfl)) .nil))) .nil)
  · first | replace h21 := of_decide_eq_false h21 | skip
    refine aw_skip ?_
    refine th_n ?_
    refine aw_seq ?_
    have h0 : checkI l cells lies = 0 := by omega
    have hok := checkI_ok.1 h0
    have hk1 := hok.c0
    have hk2 := hok.c16
    have hr0 := hok.sg
    refine aw_reg ?_
    refine rs_mv rfl rfl ?_
    refine rs_nil fun _ => ?_
    refine th_n ?_
    refine aw_seq ?_
    refine aw_reg ?_
    refine rs_mv rfl rfl ?_
    refine rs_nil fun _ => ?_
    refine th_n ?_
    refine aw_seq ?_
    refine aw_seq ?_
    refine aw_reg ?_
    refine rs_mv rfl rfl ?_
    refine rs_nil fun _ => ?_
    refine th_n ?_
    refine aw_block ?_
    refine aw_fam (α := Nat × Nat) (fun a => 256 - a.1) (fun a => [(0, .rs 3 (l.map cS)), (1, iv cells), (2, iv lies), (9, iv ((a.2 : Nat) : Int)), (10, .bool (decide (tsK l lies (a.1) ≠ []))), (11, iv (((a.1) : Nat) : Int))]) (fun a => []) (fun a => a.1 ≤ 256 ∧ AlOk l lies a.1 a.2) (0, 255) (⟨by simp, al_start l lies⟩)
      (weak_to (.cons rfl (rc_same rfl (.inl rfl)) (.cons rfl (rc_same rfl (.inl rfl)) (.cons rfl (rc_same rfl (.inl rfl)) (.cons rfl (rc_same rfl (.inl rfl)) (.cons rfl (rc_same rfl (.inl rfl)) (.cons rfl (rc_same rfl (.inl rfl)) (.nil))))))) (.nil) (fun i h => by cases h)) ?_
    rintro ⟨k, al⟩ ⟨hk, hal⟩
    dsimp only at hk hal ⊢
    refine aw_seq ?_
    refine aw_seq ?_
    refine aw_reg ?_
    refine rs_mv rfl rfl ?_
    refine rs_lss rfl rfl rfl ?_
    refine rs_nil fun _ => ?_
    refine th_n ?_
    refine aw_cond rfl (fun h24 => ?_) (fun h24 => ?_)
    · first | replace h24 := of_decide_eq_true h24 | skip
      refine aw_skip ?_
      refine th_n ?_
      refine aw_seq ?_
      refine aw_block ?_
      refine aw_seq ?_
      refine aw_reg ?_
      refine rs_mv rfl rfl ?_
      refine rs_mv rfl rfl ?_
      refine rs_mv rfl rfl ?_
      refine rs_calln [] rfl rfl (fc62 l cells k (by omega) hl hk1 hk2 hr0) (.cons (hv_same rfl) (.cons (hv_same rfl) (.cons (hv_same rfl) (.nil)))) rfl ?_
      refine rs_mv rfl rfl ?_
      refine rs_ext rfl rfl rfl ?_
      refine rs_ext rfl rfl rfl ?_
      cases h33 : okL l k
      · skip
        refine rs_mv rfl rfl ?_
        refine rs_mv rfl rfl ?_
        refine rs_nil fun _ => ?_
        refine th_n ?_
        refine aw_seq ?_
        refine aw_reg ?_
        refine rs_mv rfl rfl ?_
        refine rs_mv rfl rfl ?_
        refine rs_skip rfl ?_
        refine rs_skip rfl ?_
        refine rs_skip rfl ?_
        refine rs_pick rfl rfl rfl ?_
        refine rs_nil fun _ => ?_
        refine th_n ?_
        refine aw_cond rfl (fun h => by cases h) (fun _ => ?_)
        refine aw_skip ?_
        refine in_n ?_
        refine th_n ?_
        refine aw_reg ?_
        refine rs_mv rfl rfl ?_
        first | refine rs_add rfl rfl rfl (by omega) ?_ | refine rs_addw rfl rfl rfl rfl ?_
        refine rs_mv rfl rfl ?_
        refine rs_nil fun _ => ?_
        refine th_n ?_
        first
          | (have hx := exI_f1 (lies := lies) h33; have hs := tsK_f hx; exact ⟨(k + 1, al), ⟨by simp; omega, al_f hal hx⟩, by simp; omega, weak_to (.cons rfl (rc_same rfl (.inl rfl)) (.cons rfl (rc_same rfl (.inl rfl)) (.cons rfl (rc_same rfl (.inl rfl)) (.cons rfl (rc_same rfl (.inl rfl)) (.cons rfl (rc_eq (by rw [hs]) rfl) (.cons rfl (rc_same rfl (.inl rfl)) (.nil))))))) (.nil) (fun i h => by cases h)⟩)
          | (have hx := exI_f2 (l := l) (lies := lies) (k := k) (by simpa using h39); have hs := tsK_f hx; exact ⟨(k + 1, al), ⟨by simp; omega, al_f hal hx⟩, by simp; omega, weak_to (.cons rfl (rc_same rfl (.inl rfl)) (.cons rfl (rc_same rfl (.inl rfl)) (.cons rfl (rc_same rfl (.inl rfl)) (.cons rfl (rc_same rfl (.inl rfl)) (.cons rfl (rc_eq (by rw [hs]) rfl) (.cons rfl (rc_same rfl (.inl rfl)) (.nil))))))) (.nil) (fun i h => by cases h)⟩)
          | (have hx := exI_t (lies := lies) h33 (by simpa using h39); have hs := tsK_t hx; exact ⟨(k + 1, (al &&& k)), ⟨by simp; omega, al_t hal hx⟩, by simp; omega, weak_to (.cons rfl (rc_same rfl (.inl rfl)) (.cons rfl (rc_same rfl (.inl rfl)) (.cons rfl (rc_same rfl (.inl rfl)) (.cons rfl (rc_same rfl (.inl rfl)) (.cons rfl (rc_eq (by rw [hs]; simp) rfl) (.cons rfl (rc_same rfl (.inl rfl)) (.nil))))))) (.nil) (fun i h => by cases h)⟩)
      · skip
        refine rs_mv rfl rfl ?_
        refine rs_mv rfl rfl ?_
        refine rs_nil fun _ => ?_
        refine th_n ?_
        refine aw_seq ?_
        refine aw_reg ?_
        refine rs_mv rfl rfl ?_
        refine rs_mv rfl rfl ?_
        refine rs_mv rfl rfl ?_
        refine rs_mv rfl rfl ?_
        refine rs_calln [] rfl rfl (fc63 k lies (by omega)) (.cons (hv_same rfl) (.cons (hv_same rfl) (.nil))) rfl ?_
        refine rs_pick rfl rfl rfl ?_
        refine rs_nil fun _ => ?_
        refine th_n ?_
        refine aw_cond rfl (fun h39 => ?_) (fun h39 => ?_)
        · first | replace h39 := of_decide_eq_true h39 | skip
          refine aw_seq ?_
          refine aw_reg ?_
          refine rs_mv rfl rfl ?_
          refine rs_nil fun _ => ?_
          refine th_n ?_
          refine aw_reg ?_
          refine rs_mv rfl rfl ?_
          refine rs_mv rfl rfl ?_
          refine rs_and rfl rfl rfl (and_i64 _ hal.1 k (by omega)) ?_
          refine rs_mv rfl rfl ?_
          refine rs_nil fun _ => ?_
          refine in_n ?_
          refine th_n ?_
          refine aw_reg ?_
          refine rs_mv rfl rfl ?_
          first | refine rs_add rfl rfl rfl (by omega) ?_ | refine rs_addw rfl rfl rfl rfl ?_
          refine rs_mv rfl rfl ?_
          refine rs_nil fun _ => ?_
          refine th_n ?_
          first
            | (have hx := exI_f1 (lies := lies) h33; have hs := tsK_f hx; exact ⟨(k + 1, al), ⟨by simp; omega, al_f hal hx⟩, by simp; omega, weak_to (.cons rfl (rc_same rfl (.inl rfl)) (.cons rfl (rc_same rfl (.inl rfl)) (.cons rfl (rc_same rfl (.inl rfl)) (.cons rfl (rc_same rfl (.inl rfl)) (.cons rfl (rc_eq (by rw [hs]) rfl) (.cons rfl (rc_same rfl (.inl rfl)) (.nil))))))) (.nil) (fun i h => by cases h)⟩)
            | (have hx := exI_f2 (l := l) (lies := lies) (k := k) (by simpa using h39); have hs := tsK_f hx; exact ⟨(k + 1, al), ⟨by simp; omega, al_f hal hx⟩, by simp; omega, weak_to (.cons rfl (rc_same rfl (.inl rfl)) (.cons rfl (rc_same rfl (.inl rfl)) (.cons rfl (rc_same rfl (.inl rfl)) (.cons rfl (rc_same rfl (.inl rfl)) (.cons rfl (rc_eq (by rw [hs]) rfl) (.cons rfl (rc_same rfl (.inl rfl)) (.nil))))))) (.nil) (fun i h => by cases h)⟩)
            | (have hx := exI_t (lies := lies) h33 (by simpa using h39); have hs := tsK_t hx; exact ⟨(k + 1, (al &&& k)), ⟨by simp; omega, al_t hal hx⟩, by simp; omega, weak_to (.cons rfl (rc_same rfl (.inl rfl)) (.cons rfl (rc_same rfl (.inl rfl)) (.cons rfl (rc_same rfl (.inl rfl)) (.cons rfl (rc_same rfl (.inl rfl)) (.cons rfl (rc_eq (by rw [hs]; simp) rfl) (.cons rfl (rc_same rfl (.inl rfl)) (.nil))))))) (.nil) (fun i h => by cases h)⟩)
        · first | replace h39 := of_decide_eq_false h39 | skip
          refine aw_skip ?_
          refine in_n ?_
          refine th_n ?_
          refine aw_reg ?_
          refine rs_mv rfl rfl ?_
          first | refine rs_add rfl rfl rfl (by omega) ?_ | refine rs_addw rfl rfl rfl rfl ?_
          refine rs_mv rfl rfl ?_
          refine rs_nil fun _ => ?_
          refine th_n ?_
          first
            | (have hx := exI_f1 (lies := lies) h33; have hs := tsK_f hx; exact ⟨(k + 1, al), ⟨by simp; omega, al_f hal hx⟩, by simp; omega, weak_to (.cons rfl (rc_same rfl (.inl rfl)) (.cons rfl (rc_same rfl (.inl rfl)) (.cons rfl (rc_same rfl (.inl rfl)) (.cons rfl (rc_same rfl (.inl rfl)) (.cons rfl (rc_eq (by rw [hs]) rfl) (.cons rfl (rc_same rfl (.inl rfl)) (.nil))))))) (.nil) (fun i h => by cases h)⟩)
            | (have hx := exI_f2 (l := l) (lies := lies) (k := k) (by simpa using h39); have hs := tsK_f hx; exact ⟨(k + 1, al), ⟨by simp; omega, al_f hal hx⟩, by simp; omega, weak_to (.cons rfl (rc_same rfl (.inl rfl)) (.cons rfl (rc_same rfl (.inl rfl)) (.cons rfl (rc_same rfl (.inl rfl)) (.cons rfl (rc_same rfl (.inl rfl)) (.cons rfl (rc_eq (by rw [hs]) rfl) (.cons rfl (rc_same rfl (.inl rfl)) (.nil))))))) (.nil) (fun i h => by cases h)⟩)
            | (have hx := exI_t (lies := lies) h33 (by simpa using h39); have hs := tsK_t hx; exact ⟨(k + 1, (al &&& k)), ⟨by simp; omega, al_t hal hx⟩, by simp; omega, weak_to (.cons rfl (rc_same rfl (.inl rfl)) (.cons rfl (rc_same rfl (.inl rfl)) (.cons rfl (rc_same rfl (.inl rfl)) (.cons rfl (rc_same rfl (.inl rfl)) (.cons rfl (rc_eq (by rw [hs]; simp) rfl) (.cons rfl (rc_same rfl (.inl rfl)) (.nil))))))) (.nil) (fun i h => by cases h)⟩)
    · first | replace h24 := of_decide_eq_false h24 | skip
      refine aw_exit ?_
      refine th_e ?_
      refine th_e ?_
      refine in_hit ?_
      refine th_n ?_
      refine aw_seq ?_
      refine aw_seq ?_
      refine aw_reg ?_
      refine rs_mv rfl rfl ?_
      refine rs_not rfl rfl ?_
      refine rs_nil fun _ => ?_
      refine th_n ?_
      refine aw_cond rfl (fun h44 => ?_) (fun h44 => ?_)
      · first | replace h44 := of_decide_eq_true h44 | skip
        obtain rfl : k = 256 := by omega
        have hts : tsK l lies 256 = [] := by simpa using h44
        refine aw_seq ?_
        refine aw_reg ?_
        refine rs_mv rfl rfl ?_
        refine rs_mv rfl rfl ?_
        refine rs_nil fun _ => ?_
        refine th_n ?_
        refine aw_ret ?_
        refine th_r ?_
        first
          | (obtain ⟨e1, _, e2⟩ := cells_1 h21
             rw [e1, e2]
             exact ret_new rfl (rc_tup (.cons rc_nils (.cons (rc_same rfl (.inr rfl)) .nil))) .nil)
          | (obtain ⟨e1, _, e2⟩ := cells_2 (l := l) (cells := cells) (lies := lies) (by omega) hts
             rw [e1, e2]
             exact ret_new rfl (rc_tup (.cons rc_nils (.cons (rc_same rfl (.inr rfl)) .nil))) .nil)
          | (obtain ⟨e1, _, e2⟩ := cells_3 h0 hts
             obtain rfl : q = 8 := by omega
             rw [e1, e2, ← al_end hal hts]
             exact ret_new rfl (rc_tup (.cons (rc_frz rfl rfl rfl (fun _ => rfl)) (.cons (rc_same rfl (.inr rfl)) .nil))) .nil)
      · first | replace h44 := of_decide_eq_false h44 | skip
        obtain rfl : k = 256 := by omega
        have hts : tsK l lies 256 ≠ [] := by simpa using h44
        refine aw_skip ?_
        refine th_n ?_
        refine aw_seq ?_
        refine aw_reg ?_
        refine rs_mv rfl rfl ?_
        refine rs_nil fun _ => ?_
        refine th_n ?_
        refine aw_seq ?_
        refine aw_seq ?_
        refine aw_reg ?_
        refine rs_mv rfl rfl ?_
        refine rs_nil fun _ => ?_
        refine th_n ?_
        refine aw_block ?_
        refine aw_fam (α := Nat) (fun q => 8 - q) (fun q => [(9, iv ((al : Nat) : Int)), (14, .sl 1014 0 (outK al (q)).length), (15, iv (((q) : Nat) : Int))]) (fun q => [(1014, .cells 3 1 ((outK al (q)).map ci) true)]) (fun q => q ≤ 8) 0 (by omega)
          (weak_to (.cons rfl (rc_same rfl (.inl rfl)) (.cons rfl (rc_virt rfl rfl) (.cons rfl (rc_same rfl (.inl rfl)) (.nil)))) (.virt rfl (.nil)) (fun i h => by cases h)) ?_
        intro q hq
        have hol := outK_le al q
        refine aw_seq ?_
        refine aw_seq ?_
        refine aw_reg ?_
        refine rs_mv rfl rfl ?_
        refine rs_lss rfl rfl rfl ?_
        refine rs_nil fun _ => ?_
        refine th_n ?_
        refine aw_cond rfl (fun h46 => ?_) (fun h46 => ?_)
        · first | replace h46 := of_decide_eq_true h46 | skip
          refine aw_skip ?_
          refine th_n ?_
          refine aw_seq ?_
          refine aw_block ?_
          refine aw_seq ?_
          refine aw_reg ?_
          refine rs_mv rfl rfl ?_
          refine rs_mv rfl rfl ?_
          refine rs_calln [] rfl rfl (fc64 al q hal.1 (by omega)) (.cons (hv_same rfl) (.cons (hv_same rfl) (.nil))) rfl ?_
          refine rs_nil fun _ => ?_
          refine th_n ?_
          refine aw_cond rfl (fun h51 => ?_) (fun h51 => ?_)
          · first | replace h51 := of_decide_eq_true h51 | skip
            refine aw_reg ?_
            refine rs_mv rfl rfl ?_
            refine rs_mv rfl rfl ?_
            refine rs_bslice rfl rfl rfl rfl rfl rfl ?_
            refine rs_app_m (y := (q : Int)) rfl rfl rfl rfl rfl rfl rfl rfl (by decide) rfl (by omega) (by omega) rfl ?_
            refine rs_mv rfl rfl ?_
            refine rs_nil fun _ => ?_
            refine in_n ?_
            refine th_n ?_
            refine aw_reg ?_
            refine rs_mv rfl rfl ?_
            first | refine rs_add rfl rfl rfl (by omega) ?_ | refine rs_addw rfl rfl rfl rfl ?_
            refine rs_mv rfl rfl ?_
            refine rs_nil fun _ => ?_
            refine th_n ?_
            refine ⟨q + 1, by omega, by omega, ?_⟩
            first
              | (have ho := outK_t al q h51; exact weak_to_ren (i := 55) (i' := 1014) (F1 := [(9, iv ((al : Nat) : Int)), (14, .sl 55 0 (outK al (q + 1)).length), (15, iv (((q + 1) : Nat) : Int))]) (H1 := [(55, .cells 3 1 ((outK al (q + 1)).map ci) true)]) (.cons rfl (rc_same rfl (.inl rfl)) (.cons rfl (rc_eq (by rw [ho]; simp) rfl) (.cons rfl (rc_same rfl (.inl rfl)) (.nil)))) (.keep ((by (rw [ho]) <;> rfl)) rfl (.nil)) (fun i h => by cases h) rfl rfl (.cons rfl (.same _) (.cons rfl (.sl _ _) (.cons rfl (.same _) (.nil)))) (.cons rfl (rc_same rfl (.inl rfl)) (.cons rfl (rc_same rfl (.inl rfl)) (.cons rfl (rc_same rfl (.inl rfl)) (.nil)))) (.keep (rfl) rfl (.nil)) (fun i h => by cases h))
              | (have ho := outK_f al q h51; exact weak_to (.cons rfl (rc_same rfl (.inl rfl)) (.cons rfl (rc_eq (by rw [ho]) rfl) (.cons rfl (rc_same rfl (.inl rfl)) (.nil)))) (.keep ((by (rw [ho]) <;> rfl)) rfl (.nil)) (fun i h => by cases h))
          · first | replace h51 := of_decide_eq_false h51 | skip
            refine aw_skip ?_
            refine in_n ?_
            refine th_n ?_
            refine aw_reg ?_
            refine rs_mv rfl rfl ?_
            first | refine rs_add rfl rfl rfl (by omega) ?_ | refine rs_addw rfl rfl rfl rfl ?_
            refine rs_mv rfl rfl ?_
            refine rs_nil fun _ => ?_
            refine th_n ?_
            refine ⟨q + 1, by omega, by omega, ?_⟩
            first
              | (have ho := outK_t al q h51; exact weak_to_ren (i := 55) (i' := 1014) (F1 := [(9, iv ((al : Nat) : Int)), (14, .sl 55 0 (outK al (q + 1)).length), (15, iv (((q + 1) : Nat) : Int))]) (H1 := [(55, .cells 3 1 ((outK al (q + 1)).map ci) true)]) (.cons rfl (rc_same rfl (.inl rfl)) (.cons rfl (rc_eq (by rw [ho]; simp) rfl) (.cons rfl (rc_same rfl (.inl rfl)) (.nil)))) (.keep ((by (rw [ho]) <;> rfl)) rfl (.nil)) (fun i h => by cases h) rfl rfl (.cons rfl (.same _) (.cons rfl (.sl _ _) (.cons rfl (.same _) (.nil)))) (.cons rfl (rc_same rfl (.inl rfl)) (.cons rfl (rc_same rfl (.inl rfl)) (.cons rfl (rc_same rfl (.inl rfl)) (.nil)))) (.keep (rfl) rfl (.nil)) (fun i h => by cases h))
              | (have ho := outK_f al q h51; exact weak_to (.cons rfl (rc_same rfl (.inl rfl)) (.cons rfl (rc_eq (by rw [ho]) rfl) (.cons rfl (rc_same rfl (.inl rfl)) (.nil)))) (.keep ((by (rw [ho]) <;> rfl)) rfl (.nil)) (fun i h => by cases h))
        · first | replace h46 := of_decide_eq_false h46 | skip
          refine aw_exit ?_
          refine th_e ?_
          refine th_e ?_
          refine in_hit ?_
          refine th_n ?_
          refine aw_seq ?_
          refine aw_reg ?_
          refine rs_mv rfl rfl ?_
          refine rs_mv rfl rfl ?_
          refine rs_mv rfl rfl ?_
          refine rs_nil fun _ => ?_
          refine th_n ?_
          refine aw_ret ?_
          first
            | (obtain ⟨e1, _, e2⟩ := cells_1 h21
               rw [e1, e2]
               exact ret_new rfl (rc_tup (.cons rc_nils (.cons (rc_same rfl (.inr rfl)) .nil))) .nil)
            | (obtain ⟨e1, _, e2⟩ := cells_2 (l := l) (cells := cells) (lies := lies) (by omega) hts
               rw [e1, e2]
               exact ret_new rfl (rc_tup (.cons rc_nils (.cons (rc_same rfl (.inr rfl)) .nil))) .nil)
            | (obtain ⟨e1, _, e2⟩ := cells_3 h0 hts
               obtain rfl : q = 8 := by omega
               rw [e1, e2, ← al_end hal hts]
               exact ret_new rfl (rc_tup (.cons (rc_frz rfl rfl rfl (fun _ => rfl)) (.cons (rc_same rfl (.inr rfl)) .nil))) .nil)

end Go.Proofs.Ytadjdnhnbkcakaa

/-! Walks: A29r. -/
namespace Go.Proofs.Ytadjdnhnbkcakaa
open Go.RowKit


def mc43 : MC := (.seq (.reg [⟨(some 3), (.box 74 3 (.t 0)), none, []⟩, ⟨(some 6), (.mv (.c (.int .i64 0))), none, []⟩] false) (.seq (.seq (.reg [⟨(some 7), (.mv (.c (.int .i64 0))), none, []⟩] false) (.block 0 (.loop (.seq (.seq (.reg [⟨(some 17), (.mv (.t 7)), none, []⟩, ⟨(some 18), (.fa 2 (.t 3)), none, []⟩, ⟨(some 19), (.ld false 1 (.t 18)), none, [1]⟩, ⟨(some 20), (.len (.t 19)), none, [2]⟩, ⟨(some 21), (.bin .lss (.t 17) (.t 20)), none, [0, 3]⟩] false) (.cond (.t 21) .skip (.exit 0))) (.seq (.block 1 (.seq (.reg [⟨(some 24), (.fa 2 (.t 3)), none, []⟩, ⟨(some 25), (.ld false 1 (.t 24)), none, [0]⟩, ⟨(some 26), (.mv (.t 7)), none, []⟩, ⟨(some 27), (.ixsl 1 (.t 25) (.t 26)), none, [1, 2]⟩, ⟨(some 28), (.ld false 1 (.t 27)), none, [3]⟩, ⟨(some 29), (.bin .lss (.t 28) (.c (.int .i64 1))), none, [4]⟩, ⟨(some 30), (.mv (.t 29)), none, [5]⟩, ⟨(some 31), (.fa 2 (.t 3)), (some (30, false)), [6]⟩, ⟨(some 32), (.ld false 1 (.t 31)), (some (30, false)), [7, 6]⟩, ⟨(some 33), (.mv (.t 7)), (some (30, false)), [6]⟩, ⟨(some 34), (.ixsl 1 (.t 32) (.t 33)), (some (30, false)), [8, 9, 6]⟩, ⟨(some 35), (.ld false 1 (.t 34)), (some (30, false)), [10, 6]⟩, ⟨(some 36), (.bin .gtr (.t 35) (.c (.int .i64 3))), (some (30, false)), [11, 6]⟩, ⟨(some 37), (.pick (.t 30) (.c (.bool true)) (.t 36)), none, [6, 12]⟩] false) (.cond (.t 37) (.seq (.reg [⟨(some 6), (.mv (.c (.int .i64 1))), none, []⟩] false) .ret) .skip))) (.reg [⟨(some 22), (.mv (.t 7)), none, []⟩, ⟨(some 23), (.bin .add (.t 22) (.c (.int .i64 1))), none, [0]⟩, ⟨(some 7), (.mv (.t 23)), none, [1, 0, 1]⟩] false)))))) (.seq (.reg [⟨(some 39), (.mv (.t 1)), none, []⟩, ⟨(some 40), (.fa 2 (.t 3)), none, []⟩, ⟨(some 41), (.ld false 1 (.t 40)), none, [1]⟩, ⟨(some 42), (.len (.t 41)), none, [2]⟩, ⟨(some 43), (.mv (.t 2)), none, []⟩, ⟨(some 44), (.call 37 [(.t 39), (.t 42), (.t 43)]), none, [0, 3, 4]⟩, ⟨(some 38), (.mv (.t 44)), none, [5]⟩, ⟨(some 45), (.ext (.t 38) 0), none, [6]⟩, ⟨(some 46), (.ext (.t 38) 1), none, [6]⟩, ⟨(some 8), (.mv (.t 45)), none, [7, 5, 0, 1, 2, 3, 4, 5, 6, 7]⟩, ⟨(some 9), (.mv (.t 46)), none, [8, 9, 0, 1, 2, 3, 4, 5, 6, 7, 8, 9]⟩] false) (.seq (.seq (.reg [⟨(some 47), (.mv (.t 9)), none, []⟩, ⟨(some 48), (.bin .neq (.t 47) (.c (.int .i64 0))), none, [0]⟩] false) (.cond (.t 48) (.seq (.reg [⟨(some 49), (.mv (.t 9)), none, []⟩, ⟨(some 6), (.mv (.t 49)), none, [0, 0]⟩] false) .ret) .skip)) (.seq (.reg [⟨(some 10), (.mv (.c (.bool true))), none, []⟩] false) (.seq (.seq (.reg [⟨(some 11), (.mv (.c (.int .i64 0))), none, []⟩] false) (.block 2 (.loop (.seq (.seq (.reg [⟨(some 50), (.mv (.t 11)), none, []⟩, ⟨(some 51), (.fa 2 (.t 3)), none, []⟩, ⟨(some 52), (.ld false 1 (.t 51)), none, [1]⟩, ⟨(some 53), (.len (.t 52)), none, [2]⟩, ⟨(some 54), (.bin .lss (.t 50) (.t 53)), none, [0, 3]⟩] false) (.cond (.t 54) .skip (.exit 2))) (.seq (.block 3 (.reg [⟨(some 57), (.mv (.t 10)), none, []⟩, ⟨(some 58), (.mv (.t 57)), none, [0]⟩, ⟨(some 59), (.fa 2 (.t 3)), (some (58, true)), [1]⟩, ⟨(some 60), (.ld false 1 (.t 59)), (some (58, true)), [2, 1]⟩, ⟨(some 61), (.mv (.t 11)), (some (58, true)), [1]⟩, ⟨(some 62), (.ixsl 1 (.t 60) (.t 61)), (some (58, true)), [3, 4, 1]⟩, ⟨(some 63), (.ld false 1 (.t 62)), (some (58, true)), [5, 1]⟩, ⟨(some 64), (.bin .eql (.t 63) (.c (.int .i64 3))), (some (58, true)), [6, 1]⟩, ⟨(some 65), (.mv (.t 64)), (some (58, true)), [7, 1, 1]⟩, ⟨(some 66), (.mv (.t 8)), (some (65, false)), [8]⟩, ⟨(some 67), (.mv (.t 11)), (some (65, false)), [8]⟩, ⟨(some 68), (.ixsl 1 (.t 66) (.t 67)), (some (65, false)), [9, 10, 8]⟩, ⟨(some 69), (.ld false 1 (.t 68)), (some (65, false)), [11, 8]⟩, ⟨(some 70), (.bin .eql (.t 69) (.c (.int .i64 1))), (some (65, false)), [12, 8]⟩, ⟨(some 71), (.mv (.t 70)), (some (65, false)), [13, 8, 8]⟩, ⟨(some 72), (.fa 2 (.t 3)), (some (71, true)), [14]⟩, ⟨(some 73), (.ld false 1 (.t 72)), (some (71, true)), [15, 14]⟩, ⟨(some 74), (.mv (.t 11)), (some (71, true)), [14]⟩, ⟨(some 75), (.ixsl 1 (.t 73) (.t 74)), (some (71, true)), [16, 17, 14]⟩, ⟨(some 76), (.ld false 1 (.t 75)), (some (71, true)), [18, 14]⟩, ⟨(some 77), (.bin .eql (.t 76) (.c (.int .i64 1))), (some (71, true)), [19, 14]⟩, ⟨(some 78), (.pick (.t 71) (.t 77) (.c (.bool false))), (some (65, false)), [14, 20, 8]⟩, ⟨(some 79), (.pick (.t 65) (.c (.bool true)) (.t 78)), (some (58, true)), [8, 21, 1]⟩, ⟨(some 80), (.mv (.t 79)), (some (58, true)), [22, 14, 1]⟩, ⟨(some 81), (.mv (.t 8)), (some (80, false)), [23]⟩, ⟨(some 82), (.mv (.t 11)), (some (80, false)), [23]⟩, ⟨(some 83), (.ixsl 1 (.t 81) (.t 82)), (some (80, false)), [24, 25, 23]⟩, ⟨(some 84), (.ld false 1 (.t 83)), (some (80, false)), [26, 23]⟩, ⟨(some 85), (.bin .eql (.t 84) (.c (.int .i64 (-1)))), (some (80, false)), [27, 23]⟩, ⟨(some 86), (.mv (.t 85)), (some (80, false)), [28, 23, 23]⟩, ⟨(some 87), (.fa 2 (.t 3)), (some (86, true)), [29]⟩, ⟨(some 88), (.ld false 1 (.t 87)), (some (86, true)), [30, 29]⟩, ⟨(some 89), (.mv (.t 11)), (some (86, true)), [29]⟩, ⟨(some 90), (.ixsl 1 (.t 88) (.t 89)), (some (86, true)), [31, 32, 29]⟩, ⟨(some 91), (.ld false 1 (.t 90)), (some (86, true)), [33, 29]⟩, ⟨(some 92), (.bin .eql (.t 91) (.c (.int .i64 2))), (some (86, true)), [34, 29]⟩, ⟨(some 93), (.pick (.t 86) (.t 92) (.c (.bool false))), (some (80, false)), [29, 35, 23]⟩, ⟨(some 94), (.pick (.t 80) (.c (.bool true)) (.t 93)), (some (58, true)), [23, 36, 1]⟩, ⟨(some 95), (.pick (.t 58) (.t 94) (.c (.bool false))), none, [1, 37]⟩, ⟨(some 10), (.mv (.t 95)), none, [38, 29, 0, 1, 2, 3, 4, 5, 6, 7, 8, 9, 10, 11, 12, 13, 14, 15, 16, 17, 18, 19, 20, 21, 22, 23, 24, 25, 26, 27, 28, 29, 30, 31, 32, 33, 34, 35, 36, 37, 38]⟩] false)) (.reg [⟨(some 55), (.mv (.t 11)), none, []⟩, ⟨(some 56), (.bin .add (.t 55) (.c (.int .i64 1))), none, [0]⟩, ⟨(some 11), (.mv (.t 56)), none, [1, 0, 1]⟩] false)))))) (.seq (.seq (.reg [⟨(some 96), (.mv (.t 10)), none, []⟩] false) (.cond (.t 96) (.seq (.reg [⟨(some 6), (.mv (.c (.int .i64 0))), none, []⟩] false) .ret) .skip)) (.seq (.seq (.reg [⟨(some 12), (.mv (.c (.int .i64 0))), none, []⟩] false) (.block 4 (.loop (.seq (.seq (.reg [⟨(some 97), (.mv (.t 12)), none, []⟩, ⟨(some 98), (.bin .lss (.t 97) (.c (.int .i64 256))), none, [0]⟩] false) (.cond (.t 98) .skip (.exit 4))) (.seq (.block 5 (.seq (.reg [⟨(some 102), (.mv (.t 1)), none, []⟩, ⟨(some 103), (.fa 2 (.t 3)), none, []⟩, ⟨(some 104), (.ld false 1 (.t 103)), none, [1]⟩, ⟨(some 105), (.len (.t 104)), none, [2]⟩, ⟨(some 106), (.mv (.t 12)), none, []⟩, ⟨(some 107), (.call 62 [(.t 102), (.t 105), (.t 106)]), none, [0, 3, 4]⟩, ⟨(some 101), (.mv (.t 107)), none, [5]⟩, ⟨(some 108), (.ext (.t 101) 0), none, [6]⟩, ⟨(some 109), (.ext (.t 101) 1), none, [6]⟩, ⟨(some 13), (.mv (.t 108)), none, [7, 5, 0, 1, 2, 3, 4, 5, 6, 7]⟩, ⟨(some 14), (.mv (.t 109)), none, [8, 9, 0, 1, 2, 3, 4, 5, 6, 7, 8, 9]⟩] false) (.seq (.reg [⟨(some 110), (.mv (.t 14)), none, []⟩, ⟨(some 111), (.mv (.t 110)), none, [0]⟩, ⟨(some 112), (.mv (.t 12)), (some (111, true)), [1]⟩, ⟨(some 113), (.mv (.t 2)), (some (111, true)), [1]⟩, ⟨(some 114), (.call 63 [(.t 112), (.t 113)]), (some (111, true)), [2, 3, 1, 1]⟩, ⟨(some 115), (.pick (.t 111) (.t 114) (.c (.bool false))), none, [1, 4]⟩, ⟨(some 15), (.mv (.t 115)), none, [5, 4, 0, 1, 2, 3, 4, 5]⟩] false) (.seq (.seq (.reg [⟨(some 16), (.mv (.c (.int .i64 0))), none, []⟩] false) (.block 6 (.loop (.seq (.seq (.reg [⟨(some 116), (.mv (.t 15)), none, []⟩, ⟨(some 117), (.mv (.t 116)), none, [0]⟩, ⟨(some 118), (.mv (.t 16)), (some (117, true)), [1]⟩, ⟨(some 119), (.fa 2 (.t 3)), (some (117, true)), [1]⟩, ⟨(some 120), (.ld false 1 (.t 119)), (some (117, true)), [3, 1]⟩, ⟨(some 121), (.len (.t 120)), (some (117, true)), [4, 1]⟩, ⟨(some 122), (.bin .lss (.t 118) (.t 121)), (some (117, true)), [2, 5, 1]⟩, ⟨(some 123), (.pick (.t 117) (.t 122) (.c (.bool false))), none, [1, 6]⟩] false) (.cond (.t 123) .skip (.exit 6))) (.seq (.block 7 (.reg [⟨(some 126), (.fa 2 (.t 3)), none, []⟩, ⟨(some 127), (.ld false 1 (.t 126)), none, [0]⟩, ⟨(some 128), (.mv (.t 16)), none, []⟩, ⟨(some 129), (.ixsl 1 (.t 127) (.t 128)), none, [1, 2]⟩, ⟨(some 130), (.ld false 1 (.t 129)), none, [3]⟩, ⟨(some 131), (.bin .eql (.t 130) (.c (.int .i64 3))), none, [4]⟩, ⟨(some 132), (.mv (.t 131)), none, [5]⟩, ⟨(some 133), (.mv (.t 13)), (some (132, false)), [6]⟩, ⟨(some 134), (.mv (.t 16)), (some (132, false)), [6]⟩, ⟨(some 135), (.ixsl 1 (.t 133) (.t 134)), (some (132, false)), [7, 8, 6]⟩, ⟨(some 136), (.ld false 1 (.t 135)), (some (132, false)), [9, 6]⟩, ⟨(some 137), (.bin .neq (.t 136) (.c (.int .i64 (-1)))), (some (132, false)), [10, 6]⟩, ⟨(some 138), (.mv (.t 137)), (some (132, false)), [11, 6, 6]⟩, ⟨(some 139), (.fa 2 (.t 3)), (some (138, true)), [12]⟩, ⟨(some 140), (.ld false 1 (.t 139)), (some (138, true)), [13, 12]⟩, ⟨(some 141), (.mv (.t 16)), (some (138, true)), [12]⟩, ⟨(some 142), (.ixsl 1 (.t 140) (.t 141)), (some (138, true)), [14, 15, 12]⟩, ⟨(some 143), (.ld false 1 (.t 142)), (some (138, true)), [16, 12]⟩, ⟨(some 144), (.bin .eql (.t 143) (.c (.int .i64 1))), (some (138, true)), [17, 12]⟩, ⟨(some 145), (.pick (.t 138) (.t 144) (.c (.bool false))), (some (132, false)), [12, 18, 6]⟩, ⟨(some 146), (.pick (.t 132) (.c (.bool true)) (.t 145)), none, [6, 19]⟩, ⟨(some 147), (.mv (.t 146)), none, [20, 12]⟩, ⟨(some 148), (.mv (.t 13)), (some (147, false)), [21]⟩, ⟨(some 149), (.mv (.t 16)), (some (147, false)), [21]⟩, ⟨(some 150), (.ixsl 1 (.t 148) (.t 149)), (some (147, false)), [22, 23, 21]⟩, ⟨(some 151), (.ld false 1 (.t 150)), (some (147, false)), [24, 21]⟩, ⟨(some 152), (.bin .neq (.t 151) (.c (.int .i64 1))), (some (147, false)), [25, 21]⟩, ⟨(some 153), (.mv (.t 152)), (some (147, false)), [26, 21, 21]⟩, ⟨(some 154), (.fa 2 (.t 3)), (some (153, true)), [27]⟩, ⟨(some 155), (.ld false 1 (.t 154)), (some (153, true)), [28, 27]⟩, ⟨(some 156), (.mv (.t 16)), (some (153, true)), [27]⟩, ⟨(some 157), (.ixsl 1 (.t 155) (.t 156)), (some (153, true)), [29, 30, 27]⟩, ⟨(some 158), (.ld false 1 (.t 157)), (some (153, true)), [31, 27]⟩, ⟨(some 159), (.bin .eql (.t 158) (.c (.int .i64 2))), (some (153, true)), [32, 27]⟩, ⟨(some 160), (.pick (.t 153) (.t 159) (.c (.bool false))), (some (147, false)), [27, 33, 21]⟩, ⟨(some 161), (.pick (.t 147) (.c (.bool true)) (.t 160)), none, [21, 34]⟩, ⟨(some 15), (.mv (.t 161)), none, [35, 27, 0, 1, 2, 3, 4, 5, 6, 7, 8, 9, 10, 11, 12, 13, 14, 15, 16, 17, 18, 19, 20, 21, 22, 23, 24, 25, 26, 27, 28, 29, 30, 31, 32, 33, 34, 35]⟩] false)) (.reg [⟨(some 124), (.mv (.t 16)), none, []⟩, ⟨(some 125), (.bin .add (.t 124) (.c (.int .i64 1))), none, [0]⟩, ⟨(some 16), (.mv (.t 125)), none, [1, 0, 1]⟩] false)))))) (.seq (.reg [⟨(some 162), (.mv (.t 15)), none, []⟩] false) (.cond (.t 162) (.seq (.reg [⟨(some 6), (.mv (.c (.int .i64 5))), none, []⟩] false) .ret) .skip)))))) (.reg [⟨(some 99), (.mv (.t 12)), none, []⟩, ⟨(some 100), (.bin .add (.t 99) (.c (.int .i64 1))), none, [0]⟩, ⟨(some 12), (.mv (.t 100)), none, [1, 0, 1]⟩] false)))))) (.seq (.reg [⟨(some 6), (.mv (.c (.int .i64 35))), none, []⟩] false) .ret)))))))))
theorem mcOk43 : (match Try.f43.body with | some c => compC Try.prog 163 c | none => none) = some mc43 := by kernel_rfl

theorem fc43 (want : List Int) (l : List Sg) (lies : Int) (hw : want.length ≤ 1000000) (hl : l.length ≤ 1000000) : FC Try.prog 43 [partV want, .rs 3 (l.map cS), iv lies] [] (iv (verdS want l lies)) [] false := by
  refine fc_run (nt := 163) Try.func43 rfl rfl mcOk43 (Nat.le_of_ble_eq_true rfl) ?_
  delta mc43
  refine aw_seq ?_
  refine aw_reg ?_
  refine rs_box rfl rfl rfl rfl rfl rfl ?_
  refine rs_mv rfl rfl ?_
  refine rs_nil fun _ => ?_
  refine th_n ?_
  refine aw_seq ?_
  refine aw_seq ?_
  refine aw_reg ?_
  refine rs_mv rfl rfl ?_
  refine rs_nil fun _ => ?_
  refine th_n ?_
  refine aw_block ?_
  refine aw_fam (α := Nat) (fun k => want.length - k) (fun k => [(1, .rs 3 (l.map cS)), (2, iv lies), (3, .ptr 3 0 0), (7, iv (((k) : Nat) : Int))]) (fun k => [(3, .cells 74 3 [[.str ⟨⟨[]⟩⟩, .nils, ints want]] true)]) (fun k => k ≤ want.length ∧ ∀ j y, j < k → want[j]? = some y → ¬ (y < 1 ∨ y > 3)) 0 (⟨by omega, fun j y h => by omega⟩)
    (weak_to (.cons rfl (rc_same rfl (.inl rfl)) (.cons rfl (rc_same rfl (.inl rfl)) (.cons rfl (rc_same rfl (.inl rfl)) (.cons rfl (rc_same rfl (.inl rfl)) (.nil))))) (.keep (rfl) rfl (.nil)) (fun i h => by cases h)) ?_
  rintro k ⟨hk, hok⟩
  refine aw_seq ?_
  refine aw_seq ?_
  refine aw_reg ?_
  refine rs_mv rfl rfl ?_
  first | refine rs_fa_p rfl rfl ?_ | refine rs_fa_r rfl rfl rfl ?_
  first | refine rs_ld_r rfl rfl rfl ?_ | refine rs_ld_p rfl rfl rfl rfl rfl ?_ | refine rs_ld_m rfl rfl rfl (by omega) rfl ?_
  first | refine rs_len_m rfl rfl ?_ | refine rs_len_s rfl rfl ?_ | refine rs_len_n rfl rfl ?_ | refine rs_len_r rfl rfl rfl ?_
  refine rs_lss rfl rfl rfl ?_
  refine rs_nil fun _ => ?_
  refine th_n ?_
  refine aw_cond rfl (fun h21 => ?_) (fun h21 => ?_)
  · first | replace h21 := of_decide_eq_true h21 | skip
    refine aw_skip ?_
    refine th_n ?_
    refine aw_seq ?_
    refine aw_block ?_
    refine aw_seq ?_
    refine aw_reg ?_
    obtain ⟨x, hx, hxm⟩ := at_some (L := want) (k := k) (by omega)
    first | refine rs_fa_p rfl rfl ?_ | refine rs_fa_r rfl rfl rfl ?_
    first | refine rs_ld_r rfl rfl rfl ?_ | refine rs_ld_p rfl rfl rfl rfl rfl ?_ | refine rs_ld_m rfl rfl rfl (by omega) rfl ?_
    refine rs_mv rfl rfl ?_
    refine rs_ix_g rfl rfl rfl (by omega) hx ?_
    refine rs_ld_r rfl rfl rfl ?_
    refine rs_cmp rfl rfl rfl rfl (fun h29 => ?_) (fun h29 => ?_)
    · skip
      refine rs_mv rfl rfl ?_
      refine rs_skip rfl ?_
      refine rs_skip rfl ?_
      refine rs_skip rfl ?_
      refine rs_skip rfl ?_
      refine rs_skip rfl ?_
      refine rs_skip rfl ?_
      refine rs_pick rfl rfl rfl ?_
      refine rs_nil fun _ => ?_
      refine th_n ?_
      refine aw_cond rfl (fun _ => ?_) (fun h => by cases h)
      refine aw_seq ?_
      refine aw_reg ?_
      refine rs_mv rfl rfl ?_
      refine rs_nil fun _ => ?_
      refine th_n ?_
      refine aw_ret ?_
      refine in_r ?_
      refine th_r ?_
      refine th_r ?_
      refine in_r ?_
      refine th_r ?_
      first
        | exact ret_pure rfl (congrArg _ (verd_1 (badW_t hxm (by omega))).symm) rfl (.inr rfl)
        | exact ret_pure rfl (congrArg _ (verd_2' hbw h48).symm) rfl (.inr rfl)
        | exact ret_pure rfl (congrArg _ (verd_4 hbw hE h96).symm) rfl (.inr rfl)
        | (obtain rfl : c = want.length := by omega
           rw [h116] at hg
           have hg2 := (Bool.and_eq_true _ _ ▸ hg.symm)
           exact ret_pure rfl (congrArg _ (verd_5 hbw hE h96 (mem_tsK.2 ⟨k, by omega, hg2.1, rfl⟩) hg2.2).symm) rfl (.inr rfl))
        | exact ret_pure rfl (congrArg _ (verd_6 hbw hE h96 (fun t ht => (by obtain ⟨s, hs, hx, rfl⟩ := mem_tsK.1 ht; exact hno s (by omega) hx))).symm) rfl (.inr rfl)
    · skip
      refine rs_mv rfl rfl ?_
      first | refine rs_fa_p rfl rfl ?_ | refine rs_fa_r rfl rfl rfl ?_
      first | refine rs_ld_r rfl rfl rfl ?_ | refine rs_ld_p rfl rfl rfl rfl rfl ?_ | refine rs_ld_m rfl rfl rfl (by omega) rfl ?_
      refine rs_mv rfl rfl ?_
      refine rs_ix_g rfl rfl rfl (by omega) hx ?_
      refine rs_ld_r rfl rfl rfl ?_
      refine rs_cmp rfl rfl rfl rfl (fun h36 => ?_) (fun h36 => ?_)
      · skip
        refine rs_pick rfl rfl rfl ?_
        refine rs_nil fun _ => ?_
        refine th_n ?_
        refine aw_cond rfl (fun _ => ?_) (fun h => by cases h)
        refine aw_seq ?_
        refine aw_reg ?_
        refine rs_mv rfl rfl ?_
        refine rs_nil fun _ => ?_
        refine th_n ?_
        refine aw_ret ?_
        refine in_r ?_
        refine th_r ?_
        refine th_r ?_
        refine in_r ?_
        refine th_r ?_
        first
          | exact ret_pure rfl (congrArg _ (verd_1 (badW_t hxm (by omega))).symm) rfl (.inr rfl)
          | exact ret_pure rfl (congrArg _ (verd_2' hbw h48).symm) rfl (.inr rfl)
          | exact ret_pure rfl (congrArg _ (verd_4 hbw hE h96).symm) rfl (.inr rfl)
          | (obtain rfl : c = want.length := by omega
             rw [h116] at hg
             have hg2 := (Bool.and_eq_true _ _ ▸ hg.symm)
             exact ret_pure rfl (congrArg _ (verd_5 hbw hE h96 (mem_tsK.2 ⟨k, by omega, hg2.1, rfl⟩) hg2.2).symm) rfl (.inr rfl))
          | exact ret_pure rfl (congrArg _ (verd_6 hbw hE h96 (fun t ht => (by obtain ⟨s, hs, hx, rfl⟩ := mem_tsK.1 ht; exact hno s (by omega) hx))).symm) rfl (.inr rfl)
      · skip
        refine rs_pick rfl rfl rfl ?_
        refine rs_nil fun _ => ?_
        refine th_n ?_
        refine aw_cond rfl (fun h => by cases h) (fun _ => ?_)
        refine aw_skip ?_
        refine in_n ?_
        refine th_n ?_
        refine aw_reg ?_
        refine rs_mv rfl rfl ?_
        first | refine rs_add rfl rfl rfl (by omega) ?_ | refine rs_addw rfl rfl rfl rfl ?_
        refine rs_mv rfl rfl ?_
        refine rs_nil fun _ => ?_
        refine th_n ?_
        exact ⟨k + 1, ⟨by omega, want_step hok hx (by omega)⟩, by omega, weak_to (.cons rfl (rc_same rfl (.inl rfl)) (.cons rfl (rc_same rfl (.inl rfl)) (.cons rfl (rc_same rfl (.inl rfl)) (.cons rfl (rc_same rfl (.inl rfl)) (.nil))))) (.keep (rfl) rfl (.nil)) (fun i h => by cases h)⟩
  · first | replace h21 := of_decide_eq_false h21 | skip
    refine aw_exit ?_
    refine th_e ?_
    refine th_e ?_
    refine in_hit ?_
    refine th_n ?_
    refine aw_seq ?_
    obtain rfl : k = want.length := by omega
    have hbw := want_all hok
    refine aw_reg ?_
    refine rs_mv rfl rfl ?_
    first | refine rs_fa_p rfl rfl ?_ | refine rs_fa_r rfl rfl rfl ?_
    first | refine rs_ld_r rfl rfl rfl ?_ | refine rs_ld_p rfl rfl rfl rfl rfl ?_ | refine rs_ld_m rfl rfl rfl (by omega) rfl ?_
    first | refine rs_len_m rfl rfl ?_ | refine rs_len_s rfl rfl ?_ | refine rs_len_n rfl rfl ?_ | refine rs_len_r rfl rfl rfl ?_
    refine rs_mv rfl rfl ?_
    refine rs_calln [] rfl rfl (fc37 l (want.length : Int) lies hl) (.cons (hv_same rfl) (.cons (hv_same rfl) (.cons (hv_same rfl) (.nil)))) rfl ?_
    refine rs_mv rfl rfl ?_
    refine rs_ext rfl rfl rfl ?_
    refine rs_ext rfl rfl rfl ?_
    refine rs_mv rfl rfl ?_
    refine rs_mv rfl rfl ?_
    refine rs_nil fun _ => ?_
    refine th_n ?_
    refine aw_seq ?_
    refine aw_seq ?_
    refine aw_reg ?_
    refine rs_mv rfl rfl ?_
    refine rs_neq rfl rfl rfl ?_
    refine rs_nil fun _ => ?_
    refine th_n ?_
    refine aw_cond rfl (fun h48 => ?_) (fun h48 => ?_)
    · first | replace h48 := of_decide_eq_true h48 | skip
      refine aw_seq ?_
      refine aw_reg ?_
      refine rs_mv rfl rfl ?_
      refine rs_mv rfl rfl ?_
      refine rs_nil fun _ => ?_
      refine th_n ?_
      refine aw_ret ?_
      refine th_r ?_
      first
        | exact ret_pure rfl (congrArg _ (verd_1 (badW_t hxm (by omega))).symm) rfl (.inr rfl)
        | exact ret_pure rfl (congrArg _ (verd_2' hbw h48).symm) rfl (.inr rfl)
        | exact ret_pure rfl (congrArg _ (verd_4 hbw hE h96).symm) rfl (.inr rfl)
        | (obtain rfl : c = want.length := by omega
           rw [h116] at hg
           have hg2 := (Bool.and_eq_true _ _ ▸ hg.symm)
           exact ret_pure rfl (congrArg _ (verd_5 hbw hE h96 (mem_tsK.2 ⟨k, by omega, hg2.1, rfl⟩) hg2.2).symm) rfl (.inr rfl))
        | exact ret_pure rfl (congrArg _ (verd_6 hbw hE h96 (fun t ht => (by obtain ⟨s, hs, hx, rfl⟩ := mem_tsK.1 ht; exact hno s (by omega) hx))).symm) rfl (.inr rfl)
    · first | replace h48 := of_decide_eq_false h48 | skip
      refine aw_skip ?_
      refine th_n ?_
      refine aw_seq ?_
      have hE : cellsE l want.length lies = 0 := by omega
      obtain ⟨h0, hts⟩ := cells_ok hE
      have hso := checkI_ok.1 h0
      have hr0 := hso.sg
      have hk2 := hso.c16
      have hcl := (cells_3 h0 hts).2.1
      rw [Int.toNat_natCast] at hcl
      refine aw_weak (F0 := [(1, .rs 3 (l.map cS)), (2, iv lies), (3, .ptr 3 0 0), (8, ints (cellW (wholeT (tsK l lies 256)) want.length))]) (H0 := [(3, .cells 74 3 [[.str ⟨⟨[]⟩⟩, .nils, ints want]] true)]) (weak_to (.cons rfl (rc_same rfl (.inl rfl)) (.cons rfl (rc_same rfl (.inl rfl)) (.cons rfl (rc_same rfl (.inl rfl)) (.cons rfl (rc_eq (by rw [hcl]) rfl) (.nil))))) (.keep (rfl) rfl (.nil)) (fun i h => by cases h)) ?_
      refine aw_reg ?_
      refine rs_mv rfl rfl ?_
      refine rs_nil fun _ => ?_
      refine th_n ?_
      refine aw_seq ?_
      refine aw_seq ?_
      refine aw_reg ?_
      refine rs_mv rfl rfl ?_
      refine rs_nil fun _ => ?_
      refine th_n ?_
      refine aw_block ?_
      refine aw_fam (α := Nat) (fun c => want.length - c) (fun c => [(1, .rs 3 (l.map cS)), (2, iv lies), (3, .ptr 3 0 0), (8, ints (cellW (wholeT (tsK l lies 256)) want.length)), (10, .bool (sureK want (wholeT (tsK l lies 256)) (c))), (11, iv (((c) : Nat) : Int))]) (fun c => [(3, .cells 74 3 [[.str ⟨⟨[]⟩⟩, .nils, ints want]] true)]) (fun c => c ≤ want.length) 0 (by omega)
        (weak_to (.cons rfl (rc_same rfl (.inl rfl)) (.cons rfl (rc_same rfl (.inl rfl)) (.cons rfl (rc_same rfl (.inl rfl)) (.cons rfl (rc_same rfl (.inl rfl)) (.cons rfl (rc_same rfl (.inl rfl)) (.cons rfl (rc_same rfl (.inl rfl)) (.nil))))))) (.keep (rfl) rfl (.nil)) (fun i h => by cases h)) ?_
      intro c hc
      refine aw_seq ?_
      refine aw_seq ?_
      refine aw_reg ?_
      refine rs_mv rfl rfl ?_
      first | refine rs_fa_p rfl rfl ?_ | refine rs_fa_r rfl rfl rfl ?_
      first | refine rs_ld_r rfl rfl rfl ?_ | refine rs_ld_p rfl rfl rfl rfl rfl ?_ | refine rs_ld_m rfl rfl rfl (by omega) rfl ?_
      first | refine rs_len_m rfl rfl ?_ | refine rs_len_s rfl rfl ?_ | refine rs_len_n rfl rfl ?_ | refine rs_len_r rfl rfl rfl ?_
      refine rs_lss rfl rfl rfl ?_
      refine rs_nil fun _ => ?_
      refine th_n ?_
      refine aw_cond rfl (fun h54 => ?_) (fun h54 => ?_)
      · first | replace h54 := of_decide_eq_true h54 | skip
        refine aw_skip ?_
        refine th_n ?_
        refine aw_seq ?_
        refine aw_block ?_
        refine aw_reg ?_
        obtain ⟨x, hx, hxm⟩ := at_some (L := want) (k := c) (by omega)
        have hxd := getD_of hx
        have hcc : (cellW (wholeT (tsK l lies 256)) want.length)[c]? = some (cellF (wholeT (tsK l lies 256)) c) := cellW_at (by omega)
        refine rs_mv rfl rfl ?_
        cases h57 : sureK want (wholeT (tsK l lies 256)) c
        · skip
          refine rs_mv rfl rfl ?_
          refine rs_skip rfl ?_
          refine rs_skip rfl ?_
          refine rs_skip rfl ?_
          refine rs_skip rfl ?_
          refine rs_skip rfl ?_
          refine rs_skip rfl ?_
          refine rs_skip rfl ?_
          refine rs_skip rfl ?_
          refine rs_skip rfl ?_
          refine rs_skip rfl ?_
          refine rs_skip rfl ?_
          refine rs_skip rfl ?_
          refine rs_skip rfl ?_
          refine rs_skip rfl ?_
          refine rs_skip rfl ?_
          refine rs_skip rfl ?_
          refine rs_skip rfl ?_
          refine rs_skip rfl ?_
          refine rs_skip rfl ?_
          refine rs_skip rfl ?_
          refine rs_skip rfl ?_
          refine rs_skip rfl ?_
          refine rs_skip rfl ?_
          refine rs_skip rfl ?_
          refine rs_skip rfl ?_
          refine rs_skip rfl ?_
          refine rs_skip rfl ?_
          refine rs_skip rfl ?_
          refine rs_skip rfl ?_
          refine rs_skip rfl ?_
          refine rs_skip rfl ?_
          refine rs_skip rfl ?_
          refine rs_skip rfl ?_
          refine rs_skip rfl ?_
          refine rs_skip rfl ?_
          refine rs_skip rfl ?_
          refine rs_pick rfl rfl rfl ?_
          refine rs_mv rfl rfl ?_
          refine rs_nil fun _ => ?_
          refine in_n ?_
          refine th_n ?_
          refine aw_reg ?_
          refine rs_mv rfl rfl ?_
          first | refine rs_add rfl rfl rfl (by omega) ?_ | refine rs_addw rfl rfl rfl rfl ?_
          refine rs_mv rfl rfl ?_
          refine rs_nil fun _ => ?_
          refine th_n ?_
          first
            | (exact ⟨c + 1, by omega, by omega, weak_to (.cons rfl (rc_same rfl (.inl rfl)) (.cons rfl (rc_same rfl (.inl rfl)) (.cons rfl (rc_same rfl (.inl rfl)) (.cons rfl (rc_same rfl (.inl rfl)) (.cons rfl (rc_eq (by rw [sureK_succ, h57]; rfl) rfl) (.cons rfl (rc_same rfl (.inl rfl)) (.nil))))))) (.keep (rfl) rfl (.nil)) (fun i h => by cases h)⟩)
            | (exact ⟨c + 1, by omega, by omega, weak_to (.cons rfl (rc_same rfl (.inl rfl)) (.cons rfl (rc_same rfl (.inl rfl)) (.cons rfl (rc_same rfl (.inl rfl)) (.cons rfl (rc_same rfl (.inl rfl)) (.cons rfl (rc_eq (by rw [sureK_succ, h57, hxd, show sureF x (cellF (wholeT (tsK l lies 256)) c) = true from decide_eq_true (by omega)]; rfl) rfl) (.cons rfl (rc_same rfl (.inl rfl)) (.nil))))))) (.keep (rfl) rfl (.nil)) (fun i h => by cases h)⟩)
            | (exact ⟨c + 1, by omega, by omega, weak_to (.cons rfl (rc_same rfl (.inl rfl)) (.cons rfl (rc_same rfl (.inl rfl)) (.cons rfl (rc_same rfl (.inl rfl)) (.cons rfl (rc_same rfl (.inl rfl)) (.cons rfl (rc_eq (by rw [sureK_succ, h57, hxd, show sureF x (cellF (wholeT (tsK l lies 256)) c) = false from decide_eq_false (by omega)]; rfl) rfl) (.cons rfl (rc_same rfl (.inl rfl)) (.nil))))))) (.keep (rfl) rfl (.nil)) (fun i h => by cases h)⟩)
        · skip
          refine rs_mv rfl rfl ?_
          first | refine rs_fa_p rfl rfl ?_ | refine rs_fa_r rfl rfl rfl ?_
          first | refine rs_ld_r rfl rfl rfl ?_ | refine rs_ld_p rfl rfl rfl rfl rfl ?_ | refine rs_ld_m rfl rfl rfl (by omega) rfl ?_
          refine rs_mv rfl rfl ?_
          refine rs_ix_g rfl rfl rfl (by omega) hx ?_
          refine rs_ld_r rfl rfl rfl ?_
          refine rs_cmp rfl rfl rfl rfl (fun h64 => ?_) (fun h64 => ?_)
          · skip
            refine rs_mv rfl rfl ?_
            refine rs_skip rfl ?_
            refine rs_skip rfl ?_
            refine rs_skip rfl ?_
            refine rs_skip rfl ?_
            refine rs_skip rfl ?_
            refine rs_skip rfl ?_
            refine rs_skip rfl ?_
            refine rs_skip rfl ?_
            refine rs_skip rfl ?_
            refine rs_skip rfl ?_
            refine rs_skip rfl ?_
            refine rs_skip rfl ?_
            refine rs_skip rfl ?_
            refine rs_pick rfl rfl rfl ?_
            refine rs_mv rfl rfl ?_
            refine rs_skip rfl ?_
            refine rs_skip rfl ?_
            refine rs_skip rfl ?_
            refine rs_skip rfl ?_
            refine rs_skip rfl ?_
            refine rs_skip rfl ?_
            refine rs_skip rfl ?_
            refine rs_skip rfl ?_
            refine rs_skip rfl ?_
            refine rs_skip rfl ?_
            refine rs_skip rfl ?_
            refine rs_skip rfl ?_
            refine rs_skip rfl ?_
            refine rs_pick rfl rfl rfl ?_
            refine rs_pick rfl rfl rfl ?_
            refine rs_mv rfl rfl ?_
            refine rs_nil fun _ => ?_
            refine in_n ?_
            refine th_n ?_
            refine aw_reg ?_
            refine rs_mv rfl rfl ?_
            first | refine rs_add rfl rfl rfl (by omega) ?_ | refine rs_addw rfl rfl rfl rfl ?_
            refine rs_mv rfl rfl ?_
            refine rs_nil fun _ => ?_
            refine th_n ?_
            first
              | (exact ⟨c + 1, by omega, by omega, weak_to (.cons rfl (rc_same rfl (.inl rfl)) (.cons rfl (rc_same rfl (.inl rfl)) (.cons rfl (rc_same rfl (.inl rfl)) (.cons rfl (rc_same rfl (.inl rfl)) (.cons rfl (rc_eq (by rw [sureK_succ, h57]; rfl) rfl) (.cons rfl (rc_same rfl (.inl rfl)) (.nil))))))) (.keep (rfl) rfl (.nil)) (fun i h => by cases h)⟩)
              | (exact ⟨c + 1, by omega, by omega, weak_to (.cons rfl (rc_same rfl (.inl rfl)) (.cons rfl (rc_same rfl (.inl rfl)) (.cons rfl (rc_same rfl (.inl rfl)) (.cons rfl (rc_same rfl (.inl rfl)) (.cons rfl (rc_eq (by rw [sureK_succ, h57, hxd, show sureF x (cellF (wholeT (tsK l lies 256)) c) = true from decide_eq_true (by omega)]; rfl) rfl) (.cons rfl (rc_same rfl (.inl rfl)) (.nil))))))) (.keep (rfl) rfl (.nil)) (fun i h => by cases h)⟩)
              | (exact ⟨c + 1, by omega, by omega, weak_to (.cons rfl (rc_same rfl (.inl rfl)) (.cons rfl (rc_same rfl (.inl rfl)) (.cons rfl (rc_same rfl (.inl rfl)) (.cons rfl (rc_same rfl (.inl rfl)) (.cons rfl (rc_eq (by rw [sureK_succ, h57, hxd, show sureF x (cellF (wholeT (tsK l lies 256)) c) = false from decide_eq_false (by omega)]; rfl) rfl) (.cons rfl (rc_same rfl (.inl rfl)) (.nil))))))) (.keep (rfl) rfl (.nil)) (fun i h => by cases h)⟩)
          · skip
            refine rs_mv rfl rfl ?_
            refine rs_mv rfl rfl ?_
            refine rs_mv rfl rfl ?_
            refine rs_ix_g (y := cellF (wholeT (tsK l lies 256)) c) rfl rfl rfl (by omega) hcc ?_
            refine rs_ld_r rfl rfl rfl ?_
            refine rs_cmp rfl rfl rfl rfl (fun h70 => ?_) (fun h70 => ?_)
            · skip
              refine rs_mv rfl rfl ?_
              first | refine rs_fa_p rfl rfl ?_ | refine rs_fa_r rfl rfl rfl ?_
              first | refine rs_ld_r rfl rfl rfl ?_ | refine rs_ld_p rfl rfl rfl rfl rfl ?_ | refine rs_ld_m rfl rfl rfl (by omega) rfl ?_
              refine rs_mv rfl rfl ?_
              refine rs_ix_g rfl rfl rfl (by omega) hx ?_
              refine rs_ld_r rfl rfl rfl ?_
              refine rs_cmp rfl rfl rfl rfl (fun h77 => ?_) (fun h77 => ?_)
              · skip
                refine rs_pick rfl rfl rfl ?_
                refine rs_pick rfl rfl rfl ?_
                refine rs_mv rfl rfl ?_
                refine rs_skip rfl ?_
                refine rs_skip rfl ?_
                refine rs_skip rfl ?_
                refine rs_skip rfl ?_
                refine rs_skip rfl ?_
                refine rs_skip rfl ?_
                refine rs_skip rfl ?_
                refine rs_skip rfl ?_
                refine rs_skip rfl ?_
                refine rs_skip rfl ?_
                refine rs_skip rfl ?_
                refine rs_skip rfl ?_
                refine rs_skip rfl ?_
                refine rs_pick rfl rfl rfl ?_
                refine rs_pick rfl rfl rfl ?_
                refine rs_mv rfl rfl ?_
                refine rs_nil fun _ => ?_
                refine in_n ?_
                refine th_n ?_
                refine aw_reg ?_
                refine rs_mv rfl rfl ?_
                first | refine rs_add rfl rfl rfl (by omega) ?_ | refine rs_addw rfl rfl rfl rfl ?_
                refine rs_mv rfl rfl ?_
                refine rs_nil fun _ => ?_
                refine th_n ?_
                first
                  | (exact ⟨c + 1, by omega, by omega, weak_to (.cons rfl (rc_same rfl (.inl rfl)) (.cons rfl (rc_same rfl (.inl rfl)) (.cons rfl (rc_same rfl (.inl rfl)) (.cons rfl (rc_same rfl (.inl rfl)) (.cons rfl (rc_eq (by rw [sureK_succ, h57]; rfl) rfl) (.cons rfl (rc_same rfl (.inl rfl)) (.nil))))))) (.keep (rfl) rfl (.nil)) (fun i h => by cases h)⟩)
                  | (exact ⟨c + 1, by omega, by omega, weak_to (.cons rfl (rc_same rfl (.inl rfl)) (.cons rfl (rc_same rfl (.inl rfl)) (.cons rfl (rc_same rfl (.inl rfl)) (.cons rfl (rc_same rfl (.inl rfl)) (.cons rfl (rc_eq (by rw [sureK_succ, h57, hxd, show sureF x (cellF (wholeT (tsK l lies 256)) c) = true from decide_eq_true (by omega)]; rfl) rfl) (.cons rfl (rc_same rfl (.inl rfl)) (.nil))))))) (.keep (rfl) rfl (.nil)) (fun i h => by cases h)⟩)
                  | (exact ⟨c + 1, by omega, by omega, weak_to (.cons rfl (rc_same rfl (.inl rfl)) (.cons rfl (rc_same rfl (.inl rfl)) (.cons rfl (rc_same rfl (.inl rfl)) (.cons rfl (rc_same rfl (.inl rfl)) (.cons rfl (rc_eq (by rw [sureK_succ, h57, hxd, show sureF x (cellF (wholeT (tsK l lies 256)) c) = false from decide_eq_false (by omega)]; rfl) rfl) (.cons rfl (rc_same rfl (.inl rfl)) (.nil))))))) (.keep (rfl) rfl (.nil)) (fun i h => by cases h)⟩)
              · skip
                refine rs_pick rfl rfl rfl ?_
                refine rs_pick rfl rfl rfl ?_
                refine rs_mv rfl rfl ?_
                refine rs_mv rfl rfl ?_
                refine rs_mv rfl rfl ?_
                refine rs_ix_g (y := cellF (wholeT (tsK l lies 256)) c) rfl rfl rfl (by omega) hcc ?_
                refine rs_ld_r rfl rfl rfl ?_
                refine rs_cmp rfl rfl rfl rfl (fun h85 => ?_) (fun h85 => ?_)
                · skip
                  refine rs_mv rfl rfl ?_
                  first | refine rs_fa_p rfl rfl ?_ | refine rs_fa_r rfl rfl rfl ?_
                  first | refine rs_ld_r rfl rfl rfl ?_ | refine rs_ld_p rfl rfl rfl rfl rfl ?_ | refine rs_ld_m rfl rfl rfl (by omega) rfl ?_
                  refine rs_mv rfl rfl ?_
                  refine rs_ix_g rfl rfl rfl (by omega) hx ?_
                  refine rs_ld_r rfl rfl rfl ?_
                  refine rs_cmp rfl rfl rfl rfl (fun h92 => ?_) (fun h92 => ?_)
                  · skip
                    refine rs_pick rfl rfl rfl ?_
                    refine rs_pick rfl rfl rfl ?_
                    refine rs_pick rfl rfl rfl ?_
                    refine rs_mv rfl rfl ?_
                    refine rs_nil fun _ => ?_
                    refine in_n ?_
                    refine th_n ?_
                    refine aw_reg ?_
                    refine rs_mv rfl rfl ?_
                    first | refine rs_add rfl rfl rfl (by omega) ?_ | refine rs_addw rfl rfl rfl rfl ?_
                    refine rs_mv rfl rfl ?_
                    refine rs_nil fun _ => ?_
                    refine th_n ?_
                    first
                      | (exact ⟨c + 1, by omega, by omega, weak_to (.cons rfl (rc_same rfl (.inl rfl)) (.cons rfl (rc_same rfl (.inl rfl)) (.cons rfl (rc_same rfl (.inl rfl)) (.cons rfl (rc_same rfl (.inl rfl)) (.cons rfl (rc_eq (by rw [sureK_succ, h57]; rfl) rfl) (.cons rfl (rc_same rfl (.inl rfl)) (.nil))))))) (.keep (rfl) rfl (.nil)) (fun i h => by cases h)⟩)
                      | (exact ⟨c + 1, by omega, by omega, weak_to (.cons rfl (rc_same rfl (.inl rfl)) (.cons rfl (rc_same rfl (.inl rfl)) (.cons rfl (rc_same rfl (.inl rfl)) (.cons rfl (rc_same rfl (.inl rfl)) (.cons rfl (rc_eq (by rw [sureK_succ, h57, hxd, show sureF x (cellF (wholeT (tsK l lies 256)) c) = true from decide_eq_true (by omega)]; rfl) rfl) (.cons rfl (rc_same rfl (.inl rfl)) (.nil))))))) (.keep (rfl) rfl (.nil)) (fun i h => by cases h)⟩)
                      | (exact ⟨c + 1, by omega, by omega, weak_to (.cons rfl (rc_same rfl (.inl rfl)) (.cons rfl (rc_same rfl (.inl rfl)) (.cons rfl (rc_same rfl (.inl rfl)) (.cons rfl (rc_same rfl (.inl rfl)) (.cons rfl (rc_eq (by rw [sureK_succ, h57, hxd, show sureF x (cellF (wholeT (tsK l lies 256)) c) = false from decide_eq_false (by omega)]; rfl) rfl) (.cons rfl (rc_same rfl (.inl rfl)) (.nil))))))) (.keep (rfl) rfl (.nil)) (fun i h => by cases h)⟩)
                  · skip
                    refine rs_pick rfl rfl rfl ?_
                    refine rs_pick rfl rfl rfl ?_
                    refine rs_pick rfl rfl rfl ?_
                    refine rs_mv rfl rfl ?_
                    refine rs_nil fun _ => ?_
                    refine in_n ?_
                    refine th_n ?_
                    refine aw_reg ?_
                    refine rs_mv rfl rfl ?_
                    first | refine rs_add rfl rfl rfl (by omega) ?_ | refine rs_addw rfl rfl rfl rfl ?_
                    refine rs_mv rfl rfl ?_
                    refine rs_nil fun _ => ?_
                    refine th_n ?_
                    first
                      | (exact ⟨c + 1, by omega, by omega, weak_to (.cons rfl (rc_same rfl (.inl rfl)) (.cons rfl (rc_same rfl (.inl rfl)) (.cons rfl (rc_same rfl (.inl rfl)) (.cons rfl (rc_same rfl (.inl rfl)) (.cons rfl (rc_eq (by rw [sureK_succ, h57]; rfl) rfl) (.cons rfl (rc_same rfl (.inl rfl)) (.nil))))))) (.keep (rfl) rfl (.nil)) (fun i h => by cases h)⟩)
                      | (exact ⟨c + 1, by omega, by omega, weak_to (.cons rfl (rc_same rfl (.inl rfl)) (.cons rfl (rc_same rfl (.inl rfl)) (.cons rfl (rc_same rfl (.inl rfl)) (.cons rfl (rc_same rfl (.inl rfl)) (.cons rfl (rc_eq (by rw [sureK_succ, h57, hxd, show sureF x (cellF (wholeT (tsK l lies 256)) c) = true from decide_eq_true (by omega)]; rfl) rfl) (.cons rfl (rc_same rfl (.inl rfl)) (.nil))))))) (.keep (rfl) rfl (.nil)) (fun i h => by cases h)⟩)
                      | (exact ⟨c + 1, by omega, by omega, weak_to (.cons rfl (rc_same rfl (.inl rfl)) (.cons rfl (rc_same rfl (.inl rfl)) (.cons rfl (rc_same rfl (.inl rfl)) (.cons rfl (rc_same rfl (.inl rfl)) (.cons rfl (rc_eq (by rw [sureK_succ, h57, hxd, show sureF x (cellF (wholeT (tsK l lies 256)) c) = false from decide_eq_false (by omega)]; rfl) rfl) (.cons rfl (rc_same rfl (.inl rfl)) (.nil))))))) (.keep (rfl) rfl (.nil)) (fun i h => by cases h)⟩)
                · skip
                  refine rs_mv rfl rfl ?_
                  refine rs_skip rfl ?_
                  refine rs_skip rfl ?_
                  refine rs_skip rfl ?_
                  refine rs_skip rfl ?_
                  refine rs_skip rfl ?_
                  refine rs_skip rfl ?_
                  refine rs_pick rfl rfl rfl ?_
                  refine rs_pick rfl rfl rfl ?_
                  refine rs_pick rfl rfl rfl ?_
                  refine rs_mv rfl rfl ?_
                  refine rs_nil fun _ => ?_
                  refine in_n ?_
                  refine th_n ?_
                  refine aw_reg ?_
                  refine rs_mv rfl rfl ?_
                  first | refine rs_add rfl rfl rfl (by omega) ?_ | refine rs_addw rfl rfl rfl rfl ?_
                  refine rs_mv rfl rfl ?_
                  refine rs_nil fun _ => ?_
                  refine th_n ?_
                  first
                    | (exact ⟨c + 1, by omega, by omega, weak_to (.cons rfl (rc_same rfl (.inl rfl)) (.cons rfl (rc_same rfl (.inl rfl)) (.cons rfl (rc_same rfl (.inl rfl)) (.cons rfl (rc_same rfl (.inl rfl)) (.cons rfl (rc_eq (by rw [sureK_succ, h57]; rfl) rfl) (.cons rfl (rc_same rfl (.inl rfl)) (.nil))))))) (.keep (rfl) rfl (.nil)) (fun i h => by cases h)⟩)
                    | (exact ⟨c + 1, by omega, by omega, weak_to (.cons rfl (rc_same rfl (.inl rfl)) (.cons rfl (rc_same rfl (.inl rfl)) (.cons rfl (rc_same rfl (.inl rfl)) (.cons rfl (rc_same rfl (.inl rfl)) (.cons rfl (rc_eq (by rw [sureK_succ, h57, hxd, show sureF x (cellF (wholeT (tsK l lies 256)) c) = true from decide_eq_true (by omega)]; rfl) rfl) (.cons rfl (rc_same rfl (.inl rfl)) (.nil))))))) (.keep (rfl) rfl (.nil)) (fun i h => by cases h)⟩)
                    | (exact ⟨c + 1, by omega, by omega, weak_to (.cons rfl (rc_same rfl (.inl rfl)) (.cons rfl (rc_same rfl (.inl rfl)) (.cons rfl (rc_same rfl (.inl rfl)) (.cons rfl (rc_same rfl (.inl rfl)) (.cons rfl (rc_eq (by rw [sureK_succ, h57, hxd, show sureF x (cellF (wholeT (tsK l lies 256)) c) = false from decide_eq_false (by omega)]; rfl) rfl) (.cons rfl (rc_same rfl (.inl rfl)) (.nil))))))) (.keep (rfl) rfl (.nil)) (fun i h => by cases h)⟩)
            · skip
              refine rs_mv rfl rfl ?_
              refine rs_skip rfl ?_
              refine rs_skip rfl ?_
              refine rs_skip rfl ?_
              refine rs_skip rfl ?_
              refine rs_skip rfl ?_
              refine rs_skip rfl ?_
              refine rs_pick rfl rfl rfl ?_
              refine rs_pick rfl rfl rfl ?_
              refine rs_mv rfl rfl ?_
              refine rs_mv rfl rfl ?_
              refine rs_mv rfl rfl ?_
              refine rs_ix_g (y := cellF (wholeT (tsK l lies 256)) c) rfl rfl rfl (by omega) hcc ?_
              refine rs_ld_r rfl rfl rfl ?_
              refine rs_cmp rfl rfl rfl rfl (fun h85 => ?_) (fun h85 => ?_)
              · skip
                refine rs_mv rfl rfl ?_
                first | refine rs_fa_p rfl rfl ?_ | refine rs_fa_r rfl rfl rfl ?_
                first | refine rs_ld_r rfl rfl rfl ?_ | refine rs_ld_p rfl rfl rfl rfl rfl ?_ | refine rs_ld_m rfl rfl rfl (by omega) rfl ?_
                refine rs_mv rfl rfl ?_
                refine rs_ix_g rfl rfl rfl (by omega) hx ?_
                refine rs_ld_r rfl rfl rfl ?_
                refine rs_cmp rfl rfl rfl rfl (fun h92 => ?_) (fun h92 => ?_)
                · skip
                  refine rs_pick rfl rfl rfl ?_
                  refine rs_pick rfl rfl rfl ?_
                  refine rs_pick rfl rfl rfl ?_
                  refine rs_mv rfl rfl ?_
                  refine rs_nil fun _ => ?_
                  refine in_n ?_
                  refine th_n ?_
                  refine aw_reg ?_
                  refine rs_mv rfl rfl ?_
                  first | refine rs_add rfl rfl rfl (by omega) ?_ | refine rs_addw rfl rfl rfl rfl ?_
                  refine rs_mv rfl rfl ?_
                  refine rs_nil fun _ => ?_
                  refine th_n ?_
                  first
                    | (exact ⟨c + 1, by omega, by omega, weak_to (.cons rfl (rc_same rfl (.inl rfl)) (.cons rfl (rc_same rfl (.inl rfl)) (.cons rfl (rc_same rfl (.inl rfl)) (.cons rfl (rc_same rfl (.inl rfl)) (.cons rfl (rc_eq (by rw [sureK_succ, h57]; rfl) rfl) (.cons rfl (rc_same rfl (.inl rfl)) (.nil))))))) (.keep (rfl) rfl (.nil)) (fun i h => by cases h)⟩)
                    | (exact ⟨c + 1, by omega, by omega, weak_to (.cons rfl (rc_same rfl (.inl rfl)) (.cons rfl (rc_same rfl (.inl rfl)) (.cons rfl (rc_same rfl (.inl rfl)) (.cons rfl (rc_same rfl (.inl rfl)) (.cons rfl (rc_eq (by rw [sureK_succ, h57, hxd, show sureF x (cellF (wholeT (tsK l lies 256)) c) = true from decide_eq_true (by omega)]; rfl) rfl) (.cons rfl (rc_same rfl (.inl rfl)) (.nil))))))) (.keep (rfl) rfl (.nil)) (fun i h => by cases h)⟩)
                    | (exact ⟨c + 1, by omega, by omega, weak_to (.cons rfl (rc_same rfl (.inl rfl)) (.cons rfl (rc_same rfl (.inl rfl)) (.cons rfl (rc_same rfl (.inl rfl)) (.cons rfl (rc_same rfl (.inl rfl)) (.cons rfl (rc_eq (by rw [sureK_succ, h57, hxd, show sureF x (cellF (wholeT (tsK l lies 256)) c) = false from decide_eq_false (by omega)]; rfl) rfl) (.cons rfl (rc_same rfl (.inl rfl)) (.nil))))))) (.keep (rfl) rfl (.nil)) (fun i h => by cases h)⟩)
                · skip
                  refine rs_pick rfl rfl rfl ?_
                  refine rs_pick rfl rfl rfl ?_
                  refine rs_pick rfl rfl rfl ?_
                  refine rs_mv rfl rfl ?_
                  refine rs_nil fun _ => ?_
                  refine in_n ?_
                  refine th_n ?_
                  refine aw_reg ?_
                  refine rs_mv rfl rfl ?_
                  first | refine rs_add rfl rfl rfl (by omega) ?_ | refine rs_addw rfl rfl rfl rfl ?_
                  refine rs_mv rfl rfl ?_
                  refine rs_nil fun _ => ?_
                  refine th_n ?_
                  first
                    | (exact ⟨c + 1, by omega, by omega, weak_to (.cons rfl (rc_same rfl (.inl rfl)) (.cons rfl (rc_same rfl (.inl rfl)) (.cons rfl (rc_same rfl (.inl rfl)) (.cons rfl (rc_same rfl (.inl rfl)) (.cons rfl (rc_eq (by rw [sureK_succ, h57]; rfl) rfl) (.cons rfl (rc_same rfl (.inl rfl)) (.nil))))))) (.keep (rfl) rfl (.nil)) (fun i h => by cases h)⟩)
                    | (exact ⟨c + 1, by omega, by omega, weak_to (.cons rfl (rc_same rfl (.inl rfl)) (.cons rfl (rc_same rfl (.inl rfl)) (.cons rfl (rc_same rfl (.inl rfl)) (.cons rfl (rc_same rfl (.inl rfl)) (.cons rfl (rc_eq (by rw [sureK_succ, h57, hxd, show sureF x (cellF (wholeT (tsK l lies 256)) c) = true from decide_eq_true (by omega)]; rfl) rfl) (.cons rfl (rc_same rfl (.inl rfl)) (.nil))))))) (.keep (rfl) rfl (.nil)) (fun i h => by cases h)⟩)
                    | (exact ⟨c + 1, by omega, by omega, weak_to (.cons rfl (rc_same rfl (.inl rfl)) (.cons rfl (rc_same rfl (.inl rfl)) (.cons rfl (rc_same rfl (.inl rfl)) (.cons rfl (rc_same rfl (.inl rfl)) (.cons rfl (rc_eq (by rw [sureK_succ, h57, hxd, show sureF x (cellF (wholeT (tsK l lies 256)) c) = false from decide_eq_false (by omega)]; rfl) rfl) (.cons rfl (rc_same rfl (.inl rfl)) (.nil))))))) (.keep (rfl) rfl (.nil)) (fun i h => by cases h)⟩)
              · skip
                refine rs_mv rfl rfl ?_
                refine rs_skip rfl ?_
                refine rs_skip rfl ?_
                refine rs_skip rfl ?_
                refine rs_skip rfl ?_
                refine rs_skip rfl ?_
                refine rs_skip rfl ?_
                refine rs_pick rfl rfl rfl ?_
                refine rs_pick rfl rfl rfl ?_
                refine rs_pick rfl rfl rfl ?_
                refine rs_mv rfl rfl ?_
                refine rs_nil fun _ => ?_
                refine in_n ?_
                refine th_n ?_
                refine aw_reg ?_
                refine rs_mv rfl rfl ?_
                first | refine rs_add rfl rfl rfl (by omega) ?_ | refine rs_addw rfl rfl rfl rfl ?_
                refine rs_mv rfl rfl ?_
                refine rs_nil fun _ => ?_
                refine th_n ?_
                first
                  | (exact ⟨c + 1, by omega, by omega, weak_to (.cons rfl (rc_same rfl (.inl rfl)) (.cons rfl (rc_same rfl (.inl rfl)) (.cons rfl (rc_same rfl (.inl rfl)) (.cons rfl (rc_same rfl (.inl rfl)) (.cons rfl (rc_eq (by rw [sureK_succ, h57]; rfl) rfl) (.cons rfl (rc_same rfl (.inl rfl)) (.nil))))))) (.keep (rfl) rfl (.nil)) (fun i h => by cases h)⟩)
                  | (exact ⟨c + 1, by omega, by omega, weak_to (.cons rfl (rc_same rfl (.inl rfl)) (.cons rfl (rc_same rfl (.inl rfl)) (.cons rfl (rc_same rfl (.inl rfl)) (.cons rfl (rc_same rfl (.inl rfl)) (.cons rfl (rc_eq (by rw [sureK_succ, h57, hxd, show sureF x (cellF (wholeT (tsK l lies 256)) c) = true from decide_eq_true (by omega)]; rfl) rfl) (.cons rfl (rc_same rfl (.inl rfl)) (.nil))))))) (.keep (rfl) rfl (.nil)) (fun i h => by cases h)⟩)
                  | (exact ⟨c + 1, by omega, by omega, weak_to (.cons rfl (rc_same rfl (.inl rfl)) (.cons rfl (rc_same rfl (.inl rfl)) (.cons rfl (rc_same rfl (.inl rfl)) (.cons rfl (rc_same rfl (.inl rfl)) (.cons rfl (rc_eq (by rw [sureK_succ, h57, hxd, show sureF x (cellF (wholeT (tsK l lies 256)) c) = false from decide_eq_false (by omega)]; rfl) rfl) (.cons rfl (rc_same rfl (.inl rfl)) (.nil))))))) (.keep (rfl) rfl (.nil)) (fun i h => by cases h)⟩)
      · first | replace h54 := of_decide_eq_false h54 | skip
        refine aw_exit ?_
        refine th_e ?_
        refine th_e ?_
        refine in_hit ?_
        refine th_n ?_
        refine aw_seq ?_
        refine aw_seq ?_
        obtain rfl : c = want.length := by omega
        refine aw_reg ?_
        refine rs_mv rfl rfl ?_
        refine rs_nil fun _ => ?_
        refine th_n ?_
        refine aw_cond rfl (fun h96 => ?_) (fun h96 => ?_)
        · first | replace h96 := of_decide_eq_true h96 | skip
          refine aw_seq ?_
          refine aw_reg ?_
          refine rs_mv rfl rfl ?_
          refine rs_nil fun _ => ?_
          refine th_n ?_
          refine aw_ret ?_
          refine th_r ?_
          first
            | exact ret_pure rfl (congrArg _ (verd_1 (badW_t hxm (by omega))).symm) rfl (.inr rfl)
            | exact ret_pure rfl (congrArg _ (verd_2' hbw h48).symm) rfl (.inr rfl)
            | exact ret_pure rfl (congrArg _ (verd_4 hbw hE h96).symm) rfl (.inr rfl)
            | (obtain rfl : c = want.length := by omega
               rw [h116] at hg
               have hg2 := (Bool.and_eq_true _ _ ▸ hg.symm)
               exact ret_pure rfl (congrArg _ (verd_5 hbw hE h96 (mem_tsK.2 ⟨k, by omega, hg2.1, rfl⟩) hg2.2).symm) rfl (.inr rfl))
            | exact ret_pure rfl (congrArg _ (verd_6 hbw hE h96 (fun t ht => (by obtain ⟨s, hs, hx, rfl⟩ := mem_tsK.1 ht; exact hno s (by omega) hx))).symm) rfl (.inr rfl)
        · first | replace h96 := of_decide_eq_false h96 | skip
          refine aw_skip ?_
          refine th_n ?_
          refine aw_seq ?_
          refine aw_seq ?_
          refine aw_reg ?_
          refine rs_mv rfl rfl ?_
          refine rs_nil fun _ => ?_
          refine th_n ?_
          refine aw_block ?_
          refine aw_fam (α := Nat) (fun k => 256 - k) (fun k => [(1, .rs 3 (l.map cS)), (2, iv lies), (3, .ptr 3 0 0), (12, iv (((k) : Nat) : Int))]) (fun k => [(3, .cells 74 3 [[.str ⟨⟨[]⟩⟩, .nils, ints want]] true)]) (fun k => k ≤ 256 ∧ ∀ s, s < k → exI l lies s = true → fitK want (thM l s) (goM l s) want.length = false) 0 (⟨by omega, fun s h => by omega⟩)
            (weak_to (.cons rfl (rc_same rfl (.inl rfl)) (.cons rfl (rc_same rfl (.inl rfl)) (.cons rfl (rc_same rfl (.inl rfl)) (.cons rfl (rc_same rfl (.inl rfl)) (.nil))))) (.keep (rfl) rfl (.nil)) (fun i h => by cases h)) ?_
          rintro k ⟨hk, hno⟩
          refine aw_seq ?_
          refine aw_seq ?_
          refine aw_reg ?_
          refine rs_mv rfl rfl ?_
          refine rs_lss rfl rfl rfl ?_
          refine rs_nil fun _ => ?_
          refine th_n ?_
          refine aw_cond rfl (fun h98 => ?_) (fun h98 => ?_)
          · first | replace h98 := of_decide_eq_true h98 | skip
            refine aw_skip ?_
            refine th_n ?_
            refine aw_seq ?_
            refine aw_block ?_
            refine aw_seq ?_
            refine aw_reg ?_
            refine rs_mv rfl rfl ?_
            first | refine rs_fa_p rfl rfl ?_ | refine rs_fa_r rfl rfl rfl ?_
            first | refine rs_ld_r rfl rfl rfl ?_ | refine rs_ld_p rfl rfl rfl rfl rfl ?_ | refine rs_ld_m rfl rfl rfl (by omega) rfl ?_
            first | refine rs_len_m rfl rfl ?_ | refine rs_len_s rfl rfl ?_ | refine rs_len_n rfl rfl ?_ | refine rs_len_r rfl rfl rfl ?_
            refine rs_mv rfl rfl ?_
            refine rs_calln [] rfl rfl (fc62 l (want.length : Int) k (by omega) hl (by omega) (by omega) hr0) (.cons (hv_same rfl) (.cons (hv_same rfl) (.cons (hv_same rfl) (.nil)))) rfl ?_
            refine rs_mv rfl rfl ?_
            refine rs_ext rfl rfl rfl ?_
            refine rs_ext rfl rfl rfl ?_
            cases h109 : okL l k
            · skip
              refine rs_mv rfl rfl ?_
              refine rs_mv rfl rfl ?_
              refine rs_nil fun _ => ?_
              refine th_n ?_
              refine aw_seq ?_
              refine aw_reg ?_
              refine rs_mv rfl rfl ?_
              refine rs_mv rfl rfl ?_
              refine rs_skip rfl ?_
              refine rs_skip rfl ?_
              refine rs_skip rfl ?_
              refine rs_pick rfl rfl rfl ?_
              refine rs_mv rfl rfl ?_
              refine rs_nil fun _ => ?_
              refine th_n ?_
              refine aw_seq ?_
              refine aw_seq ?_
              refine aw_reg ?_
              refine rs_mv rfl rfl ?_
              refine rs_nil fun _ => ?_
              refine th_n ?_
              refine aw_block ?_
              refine aw_fam (α := Nat × Bool) (fun a => want.length - a.1) (fun a => [(1, .rs 3 (l.map cS)), (2, iv lies), (3, .ptr 3 0 0), (12, iv (((k) : Nat) : Int)), (13, .sl 12 0 (leftR l k want.length).length), (15, .bool a.2), (16, iv (((a.1) : Nat) : Int))]) (fun a => [(3, .cells 74 3 [[.str ⟨⟨[]⟩⟩, .nils, ints want]] true), (12, .cells 3 1 ((leftR l k want.length).map ci) true)]) (fun a => a.1 ≤ want.length ∧ a.2 = (exI l lies k && fitK want (thM l k) (goM l k) a.1)) (0, false) (⟨by simp, by rw [exI_f1 h109]; rfl⟩)
                (weak_to (.cons rfl (rc_same rfl (.inl rfl)) (.cons rfl (rc_same rfl (.inl rfl)) (.cons rfl (rc_same rfl (.inl rfl)) (.cons rfl (rc_same rfl (.inl rfl)) (.cons rfl (rc_same rfl (.inl rfl)) (.cons rfl (rc_same rfl (.inl rfl)) (.cons rfl (rc_same rfl (.inl rfl)) (.nil)))))))) (.keep (rfl) rfl (.keep (rfl) rfl (.nil))) (fun i h => by cases h)) ?_
              rintro ⟨c, g⟩ ⟨hc, hg⟩
              dsimp only at hc hg ⊢
              refine aw_seq ?_
              refine aw_seq ?_
              refine aw_reg ?_
              refine rs_mv rfl rfl ?_
              cases h116 : g
              · skip
                refine rs_mv rfl rfl ?_
                refine rs_skip rfl ?_
                refine rs_skip rfl ?_
                refine rs_skip rfl ?_
                refine rs_skip rfl ?_
                refine rs_skip rfl ?_
                refine rs_pick rfl rfl rfl ?_
                refine rs_nil fun _ => ?_
                refine th_n ?_
                refine aw_cond rfl (fun h => by cases h) (fun _ => ?_)
                refine aw_exit ?_
                refine th_e ?_
                refine th_e ?_
                refine in_hit ?_
                refine th_n ?_
                refine aw_seq ?_
                refine aw_reg ?_
                refine rs_mv rfl rfl ?_
                refine rs_nil fun _ => ?_
                refine th_n ?_
                refine aw_cond rfl (fun h => by cases h) (fun _ => ?_)
                refine aw_skip ?_
                refine in_n ?_
                refine th_n ?_
                refine aw_reg ?_
                refine rs_mv rfl rfl ?_
                first | refine rs_add rfl rfl rfl (by omega) ?_ | refine rs_addw rfl rfl rfl rfl ?_
                refine rs_mv rfl rfl ?_
                refine rs_nil fun _ => ?_
                refine th_n ?_
                have hnk : exI l lies k = true → fitK want (thM l k) (goM l k) want.length = false := fun hex => (by
                  rw [hex, Bool.true_and] at hg
                  exact fitK_false (by rw [← hg]; exact h116) hc)
                exact ⟨k + 1, ⟨by omega, fun s hs hx => (by
                  by_cases e : s = k
                  · subst e; exact hnk hx
                  · exact hno s (by omega) hx)⟩, by omega, weak_to (.cons rfl (rc_same rfl (.inl rfl)) (.cons rfl (rc_same rfl (.inl rfl)) (.cons rfl (rc_same rfl (.inl rfl)) (.cons rfl (rc_same rfl (.inl rfl)) (.nil))))) (.keep (rfl) rfl (.nil)) (fun i h => by cases h)⟩
              · skip
                refine rs_mv rfl rfl ?_
                refine rs_mv rfl rfl ?_
                first | refine rs_fa_p rfl rfl ?_ | refine rs_fa_r rfl rfl rfl ?_
                first | refine rs_ld_r rfl rfl rfl ?_ | refine rs_ld_p rfl rfl rfl rfl rfl ?_ | refine rs_ld_m rfl rfl rfl (by omega) rfl ?_
                first | refine rs_len_m rfl rfl ?_ | refine rs_len_s rfl rfl ?_ | refine rs_len_n rfl rfl ?_ | refine rs_len_r rfl rfl rfl ?_
                refine rs_cmp rfl rfl rfl rfl (fun h122 => ?_) (fun h122 => ?_)
                · skip
                  refine rs_pick rfl rfl rfl ?_
                  refine rs_nil fun _ => ?_
                  refine th_n ?_
                  refine aw_cond rfl (fun _ => ?_) (fun h => by cases h)
                  refine aw_skip ?_
                  refine th_n ?_
                  refine aw_seq ?_
                  refine aw_block ?_
                  refine aw_reg ?_
                  obtain ⟨x, hx, hxm⟩ := at_some (L := want) (k := c) (by omega)
                  have hxd := getD_of hx
                  have hgg := hg.symm
                  rw [h116, Bool.and_eq_true] at hgg
                  obtain ⟨hex, hfc⟩ := hgg
                  have hRX : leftR l k want.length = leftW (thM l k) (goM l k) want.length := by rw [leftR, exI_ok hex, if_pos rfl]
                  have hlR : (leftR l k want.length).length = want.length := by rw [hRX, length_leftW]
                  first | refine rs_fa_p rfl rfl ?_ | refine rs_fa_r rfl rfl rfl ?_
                  first | refine rs_ld_r rfl rfl rfl ?_ | refine rs_ld_p rfl rfl rfl rfl rfl ?_ | refine rs_ld_m rfl rfl rfl (by omega) rfl ?_
                  refine rs_mv rfl rfl ?_
                  refine rs_ix_g rfl rfl rfl (by omega) hx ?_
                  refine rs_ld_r rfl rfl rfl ?_
                  refine rs_cmp rfl rfl rfl rfl (fun h131 => ?_) (fun h131 => ?_)
                  · skip
                    refine rs_mv rfl rfl ?_
                    refine rs_skip rfl ?_
                    refine rs_skip rfl ?_
                    refine rs_skip rfl ?_
                    refine rs_skip rfl ?_
                    refine rs_skip rfl ?_
                    refine rs_skip rfl ?_
                    refine rs_skip rfl ?_
                    refine rs_skip rfl ?_
                    refine rs_skip rfl ?_
                    refine rs_skip rfl ?_
                    refine rs_skip rfl ?_
                    refine rs_skip rfl ?_
                    refine rs_skip rfl ?_
                    refine rs_pick rfl rfl rfl ?_
                    refine rs_mv rfl rfl ?_
                    refine rs_skip rfl ?_
                    refine rs_skip rfl ?_
                    refine rs_skip rfl ?_
                    refine rs_skip rfl ?_
                    refine rs_skip rfl ?_
                    refine rs_skip rfl ?_
                    refine rs_skip rfl ?_
                    refine rs_skip rfl ?_
                    refine rs_skip rfl ?_
                    refine rs_skip rfl ?_
                    refine rs_skip rfl ?_
                    refine rs_skip rfl ?_
                    refine rs_skip rfl ?_
                    refine rs_pick rfl rfl rfl ?_
                    refine rs_mv rfl rfl ?_
                    refine rs_nil fun _ => ?_
                    refine in_n ?_
                    refine th_n ?_
                    refine aw_reg ?_
                    refine rs_mv rfl rfl ?_
                    first | refine rs_add rfl rfl rfl (by omega) ?_ | refine rs_addw rfl rfl rfl rfl ?_
                    refine rs_mv rfl rfl ?_
                    refine rs_nil fun _ => ?_
                    refine th_n ?_
                    first
                      | exact ⟨(c + 1, true), ⟨by simp; omega, by rw [hex, fitK_succ, hfc, hxd, show fitF x (leftF (thM l k) (goM l k) c) = true from decide_eq_true (by omega)]; rfl⟩, by simp; omega, weak_to (.cons rfl (rc_same rfl (.inl rfl)) (.cons rfl (rc_same rfl (.inl rfl)) (.cons rfl (rc_same rfl (.inl rfl)) (.cons rfl (rc_same rfl (.inl rfl)) (.cons rfl (rc_same rfl (.inl rfl)) (.cons rfl (rc_same rfl (.inl rfl)) (.cons rfl (rc_same rfl (.inl rfl)) (.nil)))))))) (.keep (rfl) rfl (.keep (rfl) rfl (.nil))) (fun i h => by cases h)⟩
                      | exact ⟨(c + 1, false), ⟨by simp; omega, by rw [hex, fitK_succ, hfc, hxd, show fitF x (leftF (thM l k) (goM l k) c) = false from decide_eq_false (by omega)]; rfl⟩, by simp; omega, weak_to (.cons rfl (rc_same rfl (.inl rfl)) (.cons rfl (rc_same rfl (.inl rfl)) (.cons rfl (rc_same rfl (.inl rfl)) (.cons rfl (rc_same rfl (.inl rfl)) (.cons rfl (rc_same rfl (.inl rfl)) (.cons rfl (rc_same rfl (.inl rfl)) (.cons rfl (rc_same rfl (.inl rfl)) (.nil)))))))) (.keep (rfl) rfl (.keep (rfl) rfl (.nil))) (fun i h => by cases h)⟩
                  · skip
                    refine rs_mv rfl rfl ?_
                    refine rs_mv rfl rfl ?_
                    refine rs_mv rfl rfl ?_
                    refine rs_ix_sm (t := c) rfl rfl rfl rfl (by omega) ?_
                    refine rs_ld_g (y := leftF (thM l k) (goM l k) c) rfl rfl rfl (by rw [hRX]; exact leftW_at (by omega)) rfl ?_
                    refine rs_cmp rfl rfl rfl rfl (fun h137 => ?_) (fun h137 => ?_)
                    · skip
                      refine rs_mv rfl rfl ?_
                      first | refine rs_fa_p rfl rfl ?_ | refine rs_fa_r rfl rfl rfl ?_
                      first | refine rs_ld_r rfl rfl rfl ?_ | refine rs_ld_p rfl rfl rfl rfl rfl ?_ | refine rs_ld_m rfl rfl rfl (by omega) rfl ?_
                      refine rs_mv rfl rfl ?_
                      refine rs_ix_g rfl rfl rfl (by omega) hx ?_
                      refine rs_ld_r rfl rfl rfl ?_
                      refine rs_cmp rfl rfl rfl rfl (fun h144 => ?_) (fun h144 => ?_)
                      · skip
                        refine rs_pick rfl rfl rfl ?_
                        refine rs_pick rfl rfl rfl ?_
                        refine rs_mv rfl rfl ?_
                        refine rs_skip rfl ?_
                        refine rs_skip rfl ?_
                        refine rs_skip rfl ?_
                        refine rs_skip rfl ?_
                        refine rs_skip rfl ?_
                        refine rs_skip rfl ?_
                        refine rs_skip rfl ?_
                        refine rs_skip rfl ?_
                        refine rs_skip rfl ?_
                        refine rs_skip rfl ?_
                        refine rs_skip rfl ?_
                        refine rs_skip rfl ?_
                        refine rs_skip rfl ?_
                        refine rs_pick rfl rfl rfl ?_
                        refine rs_mv rfl rfl ?_
                        refine rs_nil fun _ => ?_
                        refine in_n ?_
                        refine th_n ?_
                        refine aw_reg ?_
                        refine rs_mv rfl rfl ?_
                        first | refine rs_add rfl rfl rfl (by omega) ?_ | refine rs_addw rfl rfl rfl rfl ?_
                        refine rs_mv rfl rfl ?_
                        refine rs_nil fun _ => ?_
                        refine th_n ?_
                        first
                          | exact ⟨(c + 1, true), ⟨by simp; omega, by rw [hex, fitK_succ, hfc, hxd, show fitF x (leftF (thM l k) (goM l k) c) = true from decide_eq_true (by omega)]; rfl⟩, by simp; omega, weak_to (.cons rfl (rc_same rfl (.inl rfl)) (.cons rfl (rc_same rfl (.inl rfl)) (.cons rfl (rc_same rfl (.inl rfl)) (.cons rfl (rc_same rfl (.inl rfl)) (.cons rfl (rc_same rfl (.inl rfl)) (.cons rfl (rc_same rfl (.inl rfl)) (.cons rfl (rc_same rfl (.inl rfl)) (.nil)))))))) (.keep (rfl) rfl (.keep (rfl) rfl (.nil))) (fun i h => by cases h)⟩
                          | exact ⟨(c + 1, false), ⟨by simp; omega, by rw [hex, fitK_succ, hfc, hxd, show fitF x (leftF (thM l k) (goM l k) c) = false from decide_eq_false (by omega)]; rfl⟩, by simp; omega, weak_to (.cons rfl (rc_same rfl (.inl rfl)) (.cons rfl (rc_same rfl (.inl rfl)) (.cons rfl (rc_same rfl (.inl rfl)) (.cons rfl (rc_same rfl (.inl rfl)) (.cons rfl (rc_same rfl (.inl rfl)) (.cons rfl (rc_same rfl (.inl rfl)) (.cons rfl (rc_same rfl (.inl rfl)) (.nil)))))))) (.keep (rfl) rfl (.keep (rfl) rfl (.nil))) (fun i h => by cases h)⟩
                      · skip
                        refine rs_pick rfl rfl rfl ?_
                        refine rs_pick rfl rfl rfl ?_
                        refine rs_mv rfl rfl ?_
                        refine rs_mv rfl rfl ?_
                        refine rs_mv rfl rfl ?_
                        refine rs_ix_sm (t := c) rfl rfl rfl rfl (by omega) ?_
                        refine rs_ld_g (y := leftF (thM l k) (goM l k) c) rfl rfl rfl (by rw [hRX]; exact leftW_at (by omega)) rfl ?_
                        refine rs_cmp rfl rfl rfl rfl (fun h152 => ?_) (fun h152 => ?_)
                        · skip
                          refine rs_mv rfl rfl ?_
                          first | refine rs_fa_p rfl rfl ?_ | refine rs_fa_r rfl rfl rfl ?_
                          first | refine rs_ld_r rfl rfl rfl ?_ | refine rs_ld_p rfl rfl rfl rfl rfl ?_ | refine rs_ld_m rfl rfl rfl (by omega) rfl ?_
                          refine rs_mv rfl rfl ?_
                          refine rs_ix_g rfl rfl rfl (by omega) hx ?_
                          refine rs_ld_r rfl rfl rfl ?_
                          refine rs_cmp rfl rfl rfl rfl (fun h159 => ?_) (fun h159 => ?_)
                          · skip
                            refine rs_pick rfl rfl rfl ?_
                            refine rs_pick rfl rfl rfl ?_
                            refine rs_mv rfl rfl ?_
                            refine rs_nil fun _ => ?_
                            refine in_n ?_
                            refine th_n ?_
                            refine aw_reg ?_
                            refine rs_mv rfl rfl ?_
                            first | refine rs_add rfl rfl rfl (by omega) ?_ | refine rs_addw rfl rfl rfl rfl ?_
                            refine rs_mv rfl rfl ?_
                            refine rs_nil fun _ => ?_
                            refine th_n ?_
                            first
                              | exact ⟨(c + 1, true), ⟨by simp; omega, by rw [hex, fitK_succ, hfc, hxd, show fitF x (leftF (thM l k) (goM l k) c) = true from decide_eq_true (by omega)]; rfl⟩, by simp; omega, weak_to (.cons rfl (rc_same rfl (.inl rfl)) (.cons rfl (rc_same rfl (.inl rfl)) (.cons rfl (rc_same rfl (.inl rfl)) (.cons rfl (rc_same rfl (.inl rfl)) (.cons rfl (rc_same rfl (.inl rfl)) (.cons rfl (rc_same rfl (.inl rfl)) (.cons rfl (rc_same rfl (.inl rfl)) (.nil)))))))) (.keep (rfl) rfl (.keep (rfl) rfl (.nil))) (fun i h => by cases h)⟩
                              | exact ⟨(c + 1, false), ⟨by simp; omega, by rw [hex, fitK_succ, hfc, hxd, show fitF x (leftF (thM l k) (goM l k) c) = false from decide_eq_false (by omega)]; rfl⟩, by simp; omega, weak_to (.cons rfl (rc_same rfl (.inl rfl)) (.cons rfl (rc_same rfl (.inl rfl)) (.cons rfl (rc_same rfl (.inl rfl)) (.cons rfl (rc_same rfl (.inl rfl)) (.cons rfl (rc_same rfl (.inl rfl)) (.cons rfl (rc_same rfl (.inl rfl)) (.cons rfl (rc_same rfl (.inl rfl)) (.nil)))))))) (.keep (rfl) rfl (.keep (rfl) rfl (.nil))) (fun i h => by cases h)⟩
                          · skip
                            refine rs_pick rfl rfl rfl ?_
                            refine rs_pick rfl rfl rfl ?_
                            refine rs_mv rfl rfl ?_
                            refine rs_nil fun _ => ?_
                            refine in_n ?_
                            refine th_n ?_
                            refine aw_reg ?_
                            refine rs_mv rfl rfl ?_
                            first | refine rs_add rfl rfl rfl (by omega) ?_ | refine rs_addw rfl rfl rfl rfl ?_
                            refine rs_mv rfl rfl ?_
                            refine rs_nil fun _ => ?_
                            refine th_n ?_
                            first
                              | exact ⟨(c + 1, true), ⟨by simp; omega, by rw [hex, fitK_succ, hfc, hxd, show fitF x (leftF (thM l k) (goM l k) c) = true from decide_eq_true (by omega)]; rfl⟩, by simp; omega, weak_to (.cons rfl (rc_same rfl (.inl rfl)) (.cons rfl (rc_same rfl (.inl rfl)) (.cons rfl (rc_same rfl (.inl rfl)) (.cons rfl (rc_same rfl (.inl rfl)) (.cons rfl (rc_same rfl (.inl rfl)) (.cons rfl (rc_same rfl (.inl rfl)) (.cons rfl (rc_same rfl (.inl rfl)) (.nil)))))))) (.keep (rfl) rfl (.keep (rfl) rfl (.nil))) (fun i h => by cases h)⟩
                              | exact ⟨(c + 1, false), ⟨by simp; omega, by rw [hex, fitK_succ, hfc, hxd, show fitF x (leftF (thM l k) (goM l k) c) = false from decide_eq_false (by omega)]; rfl⟩, by simp; omega, weak_to (.cons rfl (rc_same rfl (.inl rfl)) (.cons rfl (rc_same rfl (.inl rfl)) (.cons rfl (rc_same rfl (.inl rfl)) (.cons rfl (rc_same rfl (.inl rfl)) (.cons rfl (rc_same rfl (.inl rfl)) (.cons rfl (rc_same rfl (.inl rfl)) (.cons rfl (rc_same rfl (.inl rfl)) (.nil)))))))) (.keep (rfl) rfl (.keep (rfl) rfl (.nil))) (fun i h => by cases h)⟩
                        · skip
                          refine rs_mv rfl rfl ?_
                          refine rs_skip rfl ?_
                          refine rs_skip rfl ?_
                          refine rs_skip rfl ?_
                          refine rs_skip rfl ?_
                          refine rs_skip rfl ?_
                          refine rs_skip rfl ?_
                          refine rs_pick rfl rfl rfl ?_
                          refine rs_pick rfl rfl rfl ?_
                          refine rs_mv rfl rfl ?_
                          refine rs_nil fun _ => ?_
                          refine in_n ?_
                          refine th_n ?_
                          refine aw_reg ?_
                          refine rs_mv rfl rfl ?_
                          first | refine rs_add rfl rfl rfl (by omega) ?_ | refine rs_addw rfl rfl rfl rfl ?_
                          refine rs_mv rfl rfl ?_
                          refine rs_nil fun _ => ?_
                          refine th_n ?_
                          first
                            | exact ⟨(c + 1, true), ⟨by simp; omega, by rw [hex, fitK_succ, hfc, hxd, show fitF x (leftF (thM l k) (goM l k) c) = true from decide_eq_true (by omega)]; rfl⟩, by simp; omega, weak_to (.cons rfl (rc_same rfl (.inl rfl)) (.cons rfl (rc_same rfl (.inl rfl)) (.cons rfl (rc_same rfl (.inl rfl)) (.cons rfl (rc_same rfl (.inl rfl)) (.cons rfl (rc_same rfl (.inl rfl)) (.cons rfl (rc_same rfl (.inl rfl)) (.cons rfl (rc_same rfl (.inl rfl)) (.nil)))))))) (.keep (rfl) rfl (.keep (rfl) rfl (.nil))) (fun i h => by cases h)⟩
                            | exact ⟨(c + 1, false), ⟨by simp; omega, by rw [hex, fitK_succ, hfc, hxd, show fitF x (leftF (thM l k) (goM l k) c) = false from decide_eq_false (by omega)]; rfl⟩, by simp; omega, weak_to (.cons rfl (rc_same rfl (.inl rfl)) (.cons rfl (rc_same rfl (.inl rfl)) (.cons rfl (rc_same rfl (.inl rfl)) (.cons rfl (rc_same rfl (.inl rfl)) (.cons rfl (rc_same rfl (.inl rfl)) (.cons rfl (rc_same rfl (.inl rfl)) (.cons rfl (rc_same rfl (.inl rfl)) (.nil)))))))) (.keep (rfl) rfl (.keep (rfl) rfl (.nil))) (fun i h => by cases h)⟩
                    · skip
                      refine rs_mv rfl rfl ?_
                      refine rs_skip rfl ?_
                      refine rs_skip rfl ?_
                      refine rs_skip rfl ?_
                      refine rs_skip rfl ?_
                      refine rs_skip rfl ?_
                      refine rs_skip rfl ?_
                      refine rs_pick rfl rfl rfl ?_
                      refine rs_pick rfl rfl rfl ?_
                      refine rs_mv rfl rfl ?_
                      refine rs_mv rfl rfl ?_
                      refine rs_mv rfl rfl ?_
                      refine rs_ix_sm (t := c) rfl rfl rfl rfl (by omega) ?_
                      refine rs_ld_g (y := leftF (thM l k) (goM l k) c) rfl rfl rfl (by rw [hRX]; exact leftW_at (by omega)) rfl ?_
                      refine rs_cmp rfl rfl rfl rfl (fun h152 => ?_) (fun h152 => ?_)
                      · skip
                        refine rs_mv rfl rfl ?_
                        first | refine rs_fa_p rfl rfl ?_ | refine rs_fa_r rfl rfl rfl ?_
                        first | refine rs_ld_r rfl rfl rfl ?_ | refine rs_ld_p rfl rfl rfl rfl rfl ?_ | refine rs_ld_m rfl rfl rfl (by omega) rfl ?_
                        refine rs_mv rfl rfl ?_
                        refine rs_ix_g rfl rfl rfl (by omega) hx ?_
                        refine rs_ld_r rfl rfl rfl ?_
                        refine rs_cmp rfl rfl rfl rfl (fun h159 => ?_) (fun h159 => ?_)
                        · skip
                          refine rs_pick rfl rfl rfl ?_
                          refine rs_pick rfl rfl rfl ?_
                          refine rs_mv rfl rfl ?_
                          refine rs_nil fun _ => ?_
                          refine in_n ?_
                          refine th_n ?_
                          refine aw_reg ?_
                          refine rs_mv rfl rfl ?_
                          first | refine rs_add rfl rfl rfl (by omega) ?_ | refine rs_addw rfl rfl rfl rfl ?_
                          refine rs_mv rfl rfl ?_
                          refine rs_nil fun _ => ?_
                          refine th_n ?_
                          first
                            | exact ⟨(c + 1, true), ⟨by simp; omega, by rw [hex, fitK_succ, hfc, hxd, show fitF x (leftF (thM l k) (goM l k) c) = true from decide_eq_true (by omega)]; rfl⟩, by simp; omega, weak_to (.cons rfl (rc_same rfl (.inl rfl)) (.cons rfl (rc_same rfl (.inl rfl)) (.cons rfl (rc_same rfl (.inl rfl)) (.cons rfl (rc_same rfl (.inl rfl)) (.cons rfl (rc_same rfl (.inl rfl)) (.cons rfl (rc_same rfl (.inl rfl)) (.cons rfl (rc_same rfl (.inl rfl)) (.nil)))))))) (.keep (rfl) rfl (.keep (rfl) rfl (.nil))) (fun i h => by cases h)⟩
                            | exact ⟨(c + 1, false), ⟨by simp; omega, by rw [hex, fitK_succ, hfc, hxd, show fitF x (leftF (thM l k) (goM l k) c) = false from decide_eq_false (by omega)]; rfl⟩, by simp; omega, weak_to (.cons rfl (rc_same rfl (.inl rfl)) (.cons rfl (rc_same rfl (.inl rfl)) (.cons rfl (rc_same rfl (.inl rfl)) (.cons rfl (rc_same rfl (.inl rfl)) (.cons rfl (rc_same rfl (.inl rfl)) (.cons rfl (rc_same rfl (.inl rfl)) (.cons rfl (rc_same rfl (.inl rfl)) (.nil)))))))) (.keep (rfl) rfl (.keep (rfl) rfl (.nil))) (fun i h => by cases h)⟩
                        · skip
                          refine rs_pick rfl rfl rfl ?_
                          refine rs_pick rfl rfl rfl ?_
                          refine rs_mv rfl rfl ?_
                          refine rs_nil fun _ => ?_
                          refine in_n ?_
                          refine th_n ?_
                          refine aw_reg ?_
                          refine rs_mv rfl rfl ?_
                          first | refine rs_add rfl rfl rfl (by omega) ?_ | refine rs_addw rfl rfl rfl rfl ?_
                          refine rs_mv rfl rfl ?_
                          refine rs_nil fun _ => ?_
                          refine th_n ?_
                          first
                            | exact ⟨(c + 1, true), ⟨by simp; omega, by rw [hex, fitK_succ, hfc, hxd, show fitF x (leftF (thM l k) (goM l k) c) = true from decide_eq_true (by omega)]; rfl⟩, by simp; omega, weak_to (.cons rfl (rc_same rfl (.inl rfl)) (.cons rfl (rc_same rfl (.inl rfl)) (.cons rfl (rc_same rfl (.inl rfl)) (.cons rfl (rc_same rfl (.inl rfl)) (.cons rfl (rc_same rfl (.inl rfl)) (.cons rfl (rc_same rfl (.inl rfl)) (.cons rfl (rc_same rfl (.inl rfl)) (.nil)))))))) (.keep (rfl) rfl (.keep (rfl) rfl (.nil))) (fun i h => by cases h)⟩
                            | exact ⟨(c + 1, false), ⟨by simp; omega, by rw [hex, fitK_succ, hfc, hxd, show fitF x (leftF (thM l k) (goM l k) c) = false from decide_eq_false (by omega)]; rfl⟩, by simp; omega, weak_to (.cons rfl (rc_same rfl (.inl rfl)) (.cons rfl (rc_same rfl (.inl rfl)) (.cons rfl (rc_same rfl (.inl rfl)) (.cons rfl (rc_same rfl (.inl rfl)) (.cons rfl (rc_same rfl (.inl rfl)) (.cons rfl (rc_same rfl (.inl rfl)) (.cons rfl (rc_same rfl (.inl rfl)) (.nil)))))))) (.keep (rfl) rfl (.keep (rfl) rfl (.nil))) (fun i h => by cases h)⟩
                      · skip
                        refine rs_mv rfl rfl ?_
                        refine rs_skip rfl ?_
                        refine rs_skip rfl ?_
                        refine rs_skip rfl ?_
                        refine rs_skip rfl ?_
                        refine rs_skip rfl ?_
                        refine rs_skip rfl ?_
                        refine rs_pick rfl rfl rfl ?_
                        refine rs_pick rfl rfl rfl ?_
                        refine rs_mv rfl rfl ?_
                        refine rs_nil fun _ => ?_
                        refine in_n ?_
                        refine th_n ?_
                        refine aw_reg ?_
                        refine rs_mv rfl rfl ?_
                        first | refine rs_add rfl rfl rfl (by omega) ?_ | refine rs_addw rfl rfl rfl rfl ?_
                        refine rs_mv rfl rfl ?_
                        refine rs_nil fun _ => ?_
                        refine th_n ?_
                        first
                          | exact ⟨(c + 1, true), ⟨by simp; omega, by rw [hex, fitK_succ, hfc, hxd, show fitF x (leftF (thM l k) (goM l k) c) = true from decide_eq_true (by omega)]; rfl⟩, by simp; omega, weak_to (.cons rfl (rc_same rfl (.inl rfl)) (.cons rfl (rc_same rfl (.inl rfl)) (.cons rfl (rc_same rfl (.inl rfl)) (.cons rfl (rc_same rfl (.inl rfl)) (.cons rfl (rc_same rfl (.inl rfl)) (.cons rfl (rc_same rfl (.inl rfl)) (.cons rfl (rc_same rfl (.inl rfl)) (.nil)))))))) (.keep (rfl) rfl (.keep (rfl) rfl (.nil))) (fun i h => by cases h)⟩
                          | exact ⟨(c + 1, false), ⟨by simp; omega, by rw [hex, fitK_succ, hfc, hxd, show fitF x (leftF (thM l k) (goM l k) c) = false from decide_eq_false (by omega)]; rfl⟩, by simp; omega, weak_to (.cons rfl (rc_same rfl (.inl rfl)) (.cons rfl (rc_same rfl (.inl rfl)) (.cons rfl (rc_same rfl (.inl rfl)) (.cons rfl (rc_same rfl (.inl rfl)) (.cons rfl (rc_same rfl (.inl rfl)) (.cons rfl (rc_same rfl (.inl rfl)) (.cons rfl (rc_same rfl (.inl rfl)) (.nil)))))))) (.keep (rfl) rfl (.keep (rfl) rfl (.nil))) (fun i h => by cases h)⟩
                · skip
                  refine rs_pick rfl rfl rfl ?_
                  refine rs_nil fun _ => ?_
                  refine th_n ?_
                  refine aw_cond rfl (fun h => by cases h) (fun _ => ?_)
                  refine aw_exit ?_
                  refine th_e ?_
                  refine th_e ?_
                  refine in_hit ?_
                  refine th_n ?_
                  refine aw_seq ?_
                  refine aw_reg ?_
                  refine rs_mv rfl rfl ?_
                  refine rs_nil fun _ => ?_
                  refine th_n ?_
                  refine aw_cond rfl (fun _ => ?_) (fun h => by cases h)
                  refine aw_seq ?_
                  refine aw_reg ?_
                  refine rs_mv rfl rfl ?_
                  refine rs_nil fun _ => ?_
                  refine th_n ?_
                  refine aw_ret ?_
                  refine in_r ?_
                  refine th_r ?_
                  refine th_r ?_
                  refine in_r ?_
                  refine th_r ?_
                  first
                    | exact ret_pure rfl (congrArg _ (verd_1 (badW_t hxm (by omega))).symm) rfl (.inr rfl)
                    | exact ret_pure rfl (congrArg _ (verd_2' hbw h48).symm) rfl (.inr rfl)
                    | exact ret_pure rfl (congrArg _ (verd_4 hbw hE h96).symm) rfl (.inr rfl)
                    | (obtain rfl : c = want.length := by omega
                       rw [h116] at hg
                       have hg2 := (Bool.and_eq_true _ _ ▸ hg.symm)
                       exact ret_pure rfl (congrArg _ (verd_5 hbw hE h96 (mem_tsK.2 ⟨k, by omega, hg2.1, rfl⟩) hg2.2).symm) rfl (.inr rfl))
                    | exact ret_pure rfl (congrArg _ (verd_6 hbw hE h96 (fun t ht => (by obtain ⟨s, hs, hx, rfl⟩ := mem_tsK.1 ht; exact hno s (by omega) hx))).symm) rfl (.inr rfl)
            · skip
              refine rs_mv rfl rfl ?_
              refine rs_mv rfl rfl ?_
              refine rs_nil fun _ => ?_
              refine th_n ?_
              refine aw_seq ?_
              refine aw_reg ?_
              refine rs_mv rfl rfl ?_
              refine rs_mv rfl rfl ?_
              refine rs_mv rfl rfl ?_
              refine rs_mv rfl rfl ?_
              refine rs_calln [] rfl rfl (fc63 k lies (by omega)) (.cons (hv_same rfl) (.cons (hv_same rfl) (.nil))) rfl ?_
              refine rs_pick rfl rfl rfl ?_
              refine rs_mv rfl rfl ?_
              refine rs_nil fun _ => ?_
              refine th_n ?_
              refine aw_seq ?_
              refine aw_seq ?_
              refine aw_reg ?_
              refine rs_mv rfl rfl ?_
              refine rs_nil fun _ => ?_
              refine th_n ?_
              refine aw_block ?_
              refine aw_fam (α := Nat × Bool) (fun a => want.length - a.1) (fun a => [(1, .rs 3 (l.map cS)), (2, iv lies), (3, .ptr 3 0 0), (12, iv (((k) : Nat) : Int)), (13, .sl 12 0 (leftR l k want.length).length), (15, .bool a.2), (16, iv (((a.1) : Nat) : Int))]) (fun a => [(3, .cells 74 3 [[.str ⟨⟨[]⟩⟩, .nils, ints want]] true), (12, .cells 3 1 ((leftR l k want.length).map ci) true)]) (fun a => a.1 ≤ want.length ∧ a.2 = (exI l lies k && fitK want (thM l k) (goM l k) a.1)) (0, decide ((sizeS k 8 : Int) ≤ lies)) (⟨by simp, by rw [exI_of h109, fitK_0, Bool.and_true]⟩)
                (weak_to (.cons rfl (rc_same rfl (.inl rfl)) (.cons rfl (rc_same rfl (.inl rfl)) (.cons rfl (rc_same rfl (.inl rfl)) (.cons rfl (rc_same rfl (.inl rfl)) (.cons rfl (rc_same rfl (.inl rfl)) (.cons rfl (rc_same rfl (.inl rfl)) (.cons rfl (rc_same rfl (.inl rfl)) (.nil)))))))) (.keep (rfl) rfl (.keep (rfl) rfl (.nil))) (fun i h => by cases h)) ?_
              rintro ⟨c, g⟩ ⟨hc, hg⟩
              dsimp only at hc hg ⊢
              refine aw_seq ?_
              refine aw_seq ?_
              refine aw_reg ?_
              refine rs_mv rfl rfl ?_
              cases h116 : g
              · skip
                refine rs_mv rfl rfl ?_
                refine rs_skip rfl ?_
                refine rs_skip rfl ?_
                refine rs_skip rfl ?_
                refine rs_skip rfl ?_
                refine rs_skip rfl ?_
                refine rs_pick rfl rfl rfl ?_
                refine rs_nil fun _ => ?_
                refine th_n ?_
                refine aw_cond rfl (fun h => by cases h) (fun _ => ?_)
                refine aw_exit ?_
                refine th_e ?_
                refine th_e ?_
                refine in_hit ?_
                refine th_n ?_
                refine aw_seq ?_
                refine aw_reg ?_
                refine rs_mv rfl rfl ?_
                refine rs_nil fun _ => ?_
                refine th_n ?_
                refine aw_cond rfl (fun h => by cases h) (fun _ => ?_)
                refine aw_skip ?_
                refine in_n ?_
                refine th_n ?_
                refine aw_reg ?_
                refine rs_mv rfl rfl ?_
                first | refine rs_add rfl rfl rfl (by omega) ?_ | refine rs_addw rfl rfl rfl rfl ?_
                refine rs_mv rfl rfl ?_
                refine rs_nil fun _ => ?_
                refine th_n ?_
                have hnk : exI l lies k = true → fitK want (thM l k) (goM l k) want.length = false := fun hex => (by
                  rw [hex, Bool.true_and] at hg
                  exact fitK_false (by rw [← hg]; exact h116) hc)
                exact ⟨k + 1, ⟨by omega, fun s hs hx => (by
                  by_cases e : s = k
                  · subst e; exact hnk hx
                  · exact hno s (by omega) hx)⟩, by omega, weak_to (.cons rfl (rc_same rfl (.inl rfl)) (.cons rfl (rc_same rfl (.inl rfl)) (.cons rfl (rc_same rfl (.inl rfl)) (.cons rfl (rc_same rfl (.inl rfl)) (.nil))))) (.keep (rfl) rfl (.nil)) (fun i h => by cases h)⟩
              · skip
                refine rs_mv rfl rfl ?_
                refine rs_mv rfl rfl ?_
                first | refine rs_fa_p rfl rfl ?_ | refine rs_fa_r rfl rfl rfl ?_
                first | refine rs_ld_r rfl rfl rfl ?_ | refine rs_ld_p rfl rfl rfl rfl rfl ?_ | refine rs_ld_m rfl rfl rfl (by omega) rfl ?_
                first | refine rs_len_m rfl rfl ?_ | refine rs_len_s rfl rfl ?_ | refine rs_len_n rfl rfl ?_ | refine rs_len_r rfl rfl rfl ?_
                refine rs_cmp rfl rfl rfl rfl (fun h122 => ?_) (fun h122 => ?_)
                · skip
                  refine rs_pick rfl rfl rfl ?_
                  refine rs_nil fun _ => ?_
                  refine th_n ?_
                  refine aw_cond rfl (fun _ => ?_) (fun h => by cases h)
                  refine aw_skip ?_
                  refine th_n ?_
                  refine aw_seq ?_
                  refine aw_block ?_
                  refine aw_reg ?_
                  obtain ⟨x, hx, hxm⟩ := at_some (L := want) (k := c) (by omega)
                  have hxd := getD_of hx
                  have hgg := hg.symm
                  rw [h116, Bool.and_eq_true] at hgg
                  obtain ⟨hex, hfc⟩ := hgg
                  have hRX : leftR l k want.length = leftW (thM l k) (goM l k) want.length := by rw [leftR, exI_ok hex, if_pos rfl]
                  have hlR : (leftR l k want.length).length = want.length := by rw [hRX, length_leftW]
                  first | refine rs_fa_p rfl rfl ?_ | refine rs_fa_r rfl rfl rfl ?_
                  first | refine rs_ld_r rfl rfl rfl ?_ | refine rs_ld_p rfl rfl rfl rfl rfl ?_ | refine rs_ld_m rfl rfl rfl (by omega) rfl ?_
                  refine rs_mv rfl rfl ?_
                  refine rs_ix_g rfl rfl rfl (by omega) hx ?_
                  refine rs_ld_r rfl rfl rfl ?_
                  refine rs_cmp rfl rfl rfl rfl (fun h131 => ?_) (fun h131 => ?_)
                  · skip
                    refine rs_mv rfl rfl ?_
                    refine rs_skip rfl ?_
                    refine rs_skip rfl ?_
                    refine rs_skip rfl ?_
                    refine rs_skip rfl ?_
                    refine rs_skip rfl ?_
                    refine rs_skip rfl ?_
                    refine rs_skip rfl ?_
                    refine rs_skip rfl ?_
                    refine rs_skip rfl ?_
                    refine rs_skip rfl ?_
                    refine rs_skip rfl ?_
                    refine rs_skip rfl ?_
                    refine rs_skip rfl ?_
                    refine rs_pick rfl rfl rfl ?_
                    refine rs_mv rfl rfl ?_
                    refine rs_skip rfl ?_
                    refine rs_skip rfl ?_
                    refine rs_skip rfl ?_
                    refine rs_skip rfl ?_
                    refine rs_skip rfl ?_
                    refine rs_skip rfl ?_
                    refine rs_skip rfl ?_
                    refine rs_skip rfl ?_
                    refine rs_skip rfl ?_
                    refine rs_skip rfl ?_
                    refine rs_skip rfl ?_
                    refine rs_skip rfl ?_
                    refine rs_skip rfl ?_
                    refine rs_pick rfl rfl rfl ?_
                    refine rs_mv rfl rfl ?_
                    refine rs_nil fun _ => ?_
                    refine in_n ?_
                    refine th_n ?_
                    refine aw_reg ?_
                    refine rs_mv rfl rfl ?_
                    first | refine rs_add rfl rfl rfl (by omega) ?_ | refine rs_addw rfl rfl rfl rfl ?_
                    refine rs_mv rfl rfl ?_
                    refine rs_nil fun _ => ?_
                    refine th_n ?_
                    first
                      | exact ⟨(c + 1, true), ⟨by simp; omega, by rw [hex, fitK_succ, hfc, hxd, show fitF x (leftF (thM l k) (goM l k) c) = true from decide_eq_true (by omega)]; rfl⟩, by simp; omega, weak_to (.cons rfl (rc_same rfl (.inl rfl)) (.cons rfl (rc_same rfl (.inl rfl)) (.cons rfl (rc_same rfl (.inl rfl)) (.cons rfl (rc_same rfl (.inl rfl)) (.cons rfl (rc_same rfl (.inl rfl)) (.cons rfl (rc_same rfl (.inl rfl)) (.cons rfl (rc_same rfl (.inl rfl)) (.nil)))))))) (.keep (rfl) rfl (.keep (rfl) rfl (.nil))) (fun i h => by cases h)⟩
                      | exact ⟨(c + 1, false), ⟨by simp; omega, by rw [hex, fitK_succ, hfc, hxd, show fitF x (leftF (thM l k) (goM l k) c) = false from decide_eq_false (by omega)]; rfl⟩, by simp; omega, weak_to (.cons rfl (rc_same rfl (.inl rfl)) (.cons rfl (rc_same rfl (.inl rfl)) (.cons rfl (rc_same rfl (.inl rfl)) (.cons rfl (rc_same rfl (.inl rfl)) (.cons rfl (rc_same rfl (.inl rfl)) (.cons rfl (rc_same rfl (.inl rfl)) (.cons rfl (rc_same rfl (.inl rfl)) (.nil)))))))) (.keep (rfl) rfl (.keep (rfl) rfl (.nil))) (fun i h => by cases h)⟩
                  · skip
                    refine rs_mv rfl rfl ?_
                    refine rs_mv rfl rfl ?_
                    refine rs_mv rfl rfl ?_
                    refine rs_ix_sm (t := c) rfl rfl rfl rfl (by omega) ?_
                    refine rs_ld_g (y := leftF (thM l k) (goM l k) c) rfl rfl rfl (by rw [hRX]; exact leftW_at (by omega)) rfl ?_
                    refine rs_cmp rfl rfl rfl rfl (fun h137 => ?_) (fun h137 => ?_)
                    · skip
                      refine rs_mv rfl rfl ?_
                      first | refine rs_fa_p rfl rfl ?_ | refine rs_fa_r rfl rfl rfl ?_
                      first | refine rs_ld_r rfl rfl rfl ?_ | refine rs_ld_p rfl rfl rfl rfl rfl ?_ | refine rs_ld_m rfl rfl rfl (by omega) rfl ?_
                      refine rs_mv rfl rfl ?_
                      refine rs_ix_g rfl rfl rfl (by omega) hx ?_
                      refine rs_ld_r rfl rfl rfl ?_
                      refine rs_cmp rfl rfl rfl rfl (fun h144 => ?_) (fun h144 => ?_)
                      · skip
                        refine rs_pick rfl rfl rfl ?_
                        refine rs_pick rfl rfl rfl ?_
                        refine rs_mv rfl rfl ?_
                        refine rs_skip rfl ?_
                        refine rs_skip rfl ?_
                        refine rs_skip rfl ?_
                        refine rs_skip rfl ?_
                        refine rs_skip rfl ?_
                        refine rs_skip rfl ?_
                        refine rs_skip rfl ?_
                        refine rs_skip rfl ?_
                        refine rs_skip rfl ?_
                        refine rs_skip rfl ?_
                        refine rs_skip rfl ?_
                        refine rs_skip rfl ?_
                        refine rs_skip rfl ?_
                        refine rs_pick rfl rfl rfl ?_
                        refine rs_mv rfl rfl ?_
                        refine rs_nil fun _ => ?_
                        refine in_n ?_
                        refine th_n ?_
                        refine aw_reg ?_
                        refine rs_mv rfl rfl ?_
                        first | refine rs_add rfl rfl rfl (by omega) ?_ | refine rs_addw rfl rfl rfl rfl ?_
                        refine rs_mv rfl rfl ?_
                        refine rs_nil fun _ => ?_
                        refine th_n ?_
                        first
                          | exact ⟨(c + 1, true), ⟨by simp; omega, by rw [hex, fitK_succ, hfc, hxd, show fitF x (leftF (thM l k) (goM l k) c) = true from decide_eq_true (by omega)]; rfl⟩, by simp; omega, weak_to (.cons rfl (rc_same rfl (.inl rfl)) (.cons rfl (rc_same rfl (.inl rfl)) (.cons rfl (rc_same rfl (.inl rfl)) (.cons rfl (rc_same rfl (.inl rfl)) (.cons rfl (rc_same rfl (.inl rfl)) (.cons rfl (rc_same rfl (.inl rfl)) (.cons rfl (rc_same rfl (.inl rfl)) (.nil)))))))) (.keep (rfl) rfl (.keep (rfl) rfl (.nil))) (fun i h => by cases h)⟩
                          | exact ⟨(c + 1, false), ⟨by simp; omega, by rw [hex, fitK_succ, hfc, hxd, show fitF x (leftF (thM l k) (goM l k) c) = false from decide_eq_false (by omega)]; rfl⟩, by simp; omega, weak_to (.cons rfl (rc_same rfl (.inl rfl)) (.cons rfl (rc_same rfl (.inl rfl)) (.cons rfl (rc_same rfl (.inl rfl)) (.cons rfl (rc_same rfl (.inl rfl)) (.cons rfl (rc_same rfl (.inl rfl)) (.cons rfl (rc_same rfl (.inl rfl)) (.cons rfl (rc_same rfl (.inl rfl)) (.nil)))))))) (.keep (rfl) rfl (.keep (rfl) rfl (.nil))) (fun i h => by cases h)⟩
                      · skip
                        refine rs_pick rfl rfl rfl ?_
                        refine rs_pick rfl rfl rfl ?_
                        refine rs_mv rfl rfl ?_
                        refine rs_mv rfl rfl ?_
                        refine rs_mv rfl rfl ?_
                        refine rs_ix_sm (t := c) rfl rfl rfl rfl (by omega) ?_
                        refine rs_ld_g (y := leftF (thM l k) (goM l k) c) rfl rfl rfl (by rw [hRX]; exact leftW_at (by omega)) rfl ?_
                        refine rs_cmp rfl rfl rfl rfl (fun h152 => ?_) (fun h152 => ?_)
                        · skip
                          refine rs_mv rfl rfl ?_
                          first | refine rs_fa_p rfl rfl ?_ | refine rs_fa_r rfl rfl rfl ?_
                          first | refine rs_ld_r rfl rfl rfl ?_ | refine rs_ld_p rfl rfl rfl rfl rfl ?_ | refine rs_ld_m rfl rfl rfl (by omega) rfl ?_
                          refine rs_mv rfl rfl ?_
                          refine rs_ix_g rfl rfl rfl (by omega) hx ?_
                          refine rs_ld_r rfl rfl rfl ?_
                          refine rs_cmp rfl rfl rfl rfl (fun h159 => ?_) (fun h159 => ?_)
                          · skip
                            refine rs_pick rfl rfl rfl ?_
                            refine rs_pick rfl rfl rfl ?_
                            refine rs_mv rfl rfl ?_
                            refine rs_nil fun _ => ?_
                            refine in_n ?_
                            refine th_n ?_
                            refine aw_reg ?_
                            refine rs_mv rfl rfl ?_
                            first | refine rs_add rfl rfl rfl (by omega) ?_ | refine rs_addw rfl rfl rfl rfl ?_
                            refine rs_mv rfl rfl ?_
                            refine rs_nil fun _ => ?_
                            refine th_n ?_
                            first
                              | exact ⟨(c + 1, true), ⟨by simp; omega, by rw [hex, fitK_succ, hfc, hxd, show fitF x (leftF (thM l k) (goM l k) c) = true from decide_eq_true (by omega)]; rfl⟩, by simp; omega, weak_to (.cons rfl (rc_same rfl (.inl rfl)) (.cons rfl (rc_same rfl (.inl rfl)) (.cons rfl (rc_same rfl (.inl rfl)) (.cons rfl (rc_same rfl (.inl rfl)) (.cons rfl (rc_same rfl (.inl rfl)) (.cons rfl (rc_same rfl (.inl rfl)) (.cons rfl (rc_same rfl (.inl rfl)) (.nil)))))))) (.keep (rfl) rfl (.keep (rfl) rfl (.nil))) (fun i h => by cases h)⟩
                              | exact ⟨(c + 1, false), ⟨by simp; omega, by rw [hex, fitK_succ, hfc, hxd, show fitF x (leftF (thM l k) (goM l k) c) = false from decide_eq_false (by omega)]; rfl⟩, by simp; omega, weak_to (.cons rfl (rc_same rfl (.inl rfl)) (.cons rfl (rc_same rfl (.inl rfl)) (.cons rfl (rc_same rfl (.inl rfl)) (.cons rfl (rc_same rfl (.inl rfl)) (.cons rfl (rc_same rfl (.inl rfl)) (.cons rfl (rc_same rfl (.inl rfl)) (.cons rfl (rc_same rfl (.inl rfl)) (.nil)))))))) (.keep (rfl) rfl (.keep (rfl) rfl (.nil))) (fun i h => by cases h)⟩
                          · skip
                            refine rs_pick rfl rfl rfl ?_
                            refine rs_pick rfl rfl rfl ?_
                            refine rs_mv rfl rfl ?_
                            refine rs_nil fun _ => ?_
                            refine in_n ?_
                            refine th_n ?_
                            refine aw_reg ?_
                            refine rs_mv rfl rfl ?_
                            first | refine rs_add rfl rfl rfl (by omega) ?_ | refine rs_addw rfl rfl rfl rfl ?_
                            refine rs_mv rfl rfl ?_
                            refine rs_nil fun _ => ?_
                            refine th_n ?_
                            first
                              | exact ⟨(c + 1, true), ⟨by simp; omega, by rw [hex, fitK_succ, hfc, hxd, show fitF x (leftF (thM l k) (goM l k) c) = true from decide_eq_true (by omega)]; rfl⟩, by simp; omega, weak_to (.cons rfl (rc_same rfl (.inl rfl)) (.cons rfl (rc_same rfl (.inl rfl)) (.cons rfl (rc_same rfl (.inl rfl)) (.cons rfl (rc_same rfl (.inl rfl)) (.cons rfl (rc_same rfl (.inl rfl)) (.cons rfl (rc_same rfl (.inl rfl)) (.cons rfl (rc_same rfl (.inl rfl)) (.nil)))))))) (.keep (rfl) rfl (.keep (rfl) rfl (.nil))) (fun i h => by cases h)⟩
                              | exact ⟨(c + 1, false), ⟨by simp; omega, by rw [hex, fitK_succ, hfc, hxd, show fitF x (leftF (thM l k) (goM l k) c) = false from decide_eq_false (by omega)]; rfl⟩, by simp; omega, weak_to (.cons rfl (rc_same rfl (.inl rfl)) (.cons rfl (rc_same rfl (.inl rfl)) (.cons rfl (rc_same rfl (.inl rfl)) (.cons rfl (rc_same rfl (.inl rfl)) (.cons rfl (rc_same rfl (.inl rfl)) (.cons rfl (rc_same rfl (.inl rfl)) (.cons rfl (rc_same rfl (.inl rfl)) (.nil)))))))) (.keep (rfl) rfl (.keep (rfl) rfl (.nil))) (fun i h => by cases h)⟩
                        · skip
                          refine rs_mv rfl rfl ?_
                          refine rs_skip rfl ?_
                          refine rs_skip rfl ?_
                          refine rs_skip rfl ?_
                          refine rs_skip rfl ?_
                          refine rs_skip rfl ?_
                          refine rs_skip rfl ?_
                          refine rs_pick rfl rfl rfl ?_
                          refine rs_pick rfl rfl rfl ?_
                          refine rs_mv rfl rfl ?_
                          refine rs_nil fun _ => ?_
                          refine in_n ?_
                          refine th_n ?_
                          refine aw_reg ?_
                          refine rs_mv rfl rfl ?_
                          first | refine rs_add rfl rfl rfl (by omega) ?_ | refine rs_addw rfl rfl rfl rfl ?_
                          refine rs_mv rfl rfl ?_
                          refine rs_nil fun _ => ?_
                          refine th_n ?_
                          first
                            | exact ⟨(c + 1, true), ⟨by simp; omega, by rw [hex, fitK_succ, hfc, hxd, show fitF x (leftF (thM l k) (goM l k) c) = true from decide_eq_true (by omega)]; rfl⟩, by simp; omega, weak_to (.cons rfl (rc_same rfl (.inl rfl)) (.cons rfl (rc_same rfl (.inl rfl)) (.cons rfl (rc_same rfl (.inl rfl)) (.cons rfl (rc_same rfl (.inl rfl)) (.cons rfl (rc_same rfl (.inl rfl)) (.cons rfl (rc_same rfl (.inl rfl)) (.cons rfl (rc_same rfl (.inl rfl)) (.nil)))))))) (.keep (rfl) rfl (.keep (rfl) rfl (.nil))) (fun i h => by cases h)⟩
                            | exact ⟨(c + 1, false), ⟨by simp; omega, by rw [hex, fitK_succ, hfc, hxd, show fitF x (leftF (thM l k) (goM l k) c) = false from decide_eq_false (by omega)]; rfl⟩, by simp; omega, weak_to (.cons rfl (rc_same rfl (.inl rfl)) (.cons rfl (rc_same rfl (.inl rfl)) (.cons rfl (rc_same rfl (.inl rfl)) (.cons rfl (rc_same rfl (.inl rfl)) (.cons rfl (rc_same rfl (.inl rfl)) (.cons rfl (rc_same rfl (.inl rfl)) (.cons rfl (rc_same rfl (.inl rfl)) (.nil)))))))) (.keep (rfl) rfl (.keep (rfl) rfl (.nil))) (fun i h => by cases h)⟩
                    · skip
                      refine rs_mv rfl rfl ?_
                      refine rs_skip rfl ?_
                      refine rs_skip rfl ?_
                      refine rs_skip rfl ?_
                      refine rs_skip rfl ?_
                      refine rs_skip rfl ?_
                      refine rs_skip rfl ?_
                      refine rs_pick rfl rfl rfl ?_
                      refine rs_pick rfl rfl rfl ?_
                      refine rs_mv rfl rfl ?_
                      refine rs_mv rfl rfl ?_
                      refine rs_mv rfl rfl ?_
                      refine rs_ix_sm (t := c) rfl rfl rfl rfl (by omega) ?_
                      refine rs_ld_g (y := leftF (thM l k) (goM l k) c) rfl rfl rfl (by rw [hRX]; exact leftW_at (by omega)) rfl ?_
                      refine rs_cmp rfl rfl rfl rfl (fun h152 => ?_) (fun h152 => ?_)
                      · skip
                        refine rs_mv rfl rfl ?_
                        first | refine rs_fa_p rfl rfl ?_ | refine rs_fa_r rfl rfl rfl ?_
                        first | refine rs_ld_r rfl rfl rfl ?_ | refine rs_ld_p rfl rfl rfl rfl rfl ?_ | refine rs_ld_m rfl rfl rfl (by omega) rfl ?_
                        refine rs_mv rfl rfl ?_
                        refine rs_ix_g rfl rfl rfl (by omega) hx ?_
                        refine rs_ld_r rfl rfl rfl ?_
                        refine rs_cmp rfl rfl rfl rfl (fun h159 => ?_) (fun h159 => ?_)
                        · skip
                          refine rs_pick rfl rfl rfl ?_
                          refine rs_pick rfl rfl rfl ?_
                          refine rs_mv rfl rfl ?_
                          refine rs_nil fun _ => ?_
                          refine in_n ?_
                          refine th_n ?_
                          refine aw_reg ?_
                          refine rs_mv rfl rfl ?_
                          first | refine rs_add rfl rfl rfl (by omega) ?_ | refine rs_addw rfl rfl rfl rfl ?_
                          refine rs_mv rfl rfl ?_
                          refine rs_nil fun _ => ?_
                          refine th_n ?_
                          first
                            | exact ⟨(c + 1, true), ⟨by simp; omega, by rw [hex, fitK_succ, hfc, hxd, show fitF x (leftF (thM l k) (goM l k) c) = true from decide_eq_true (by omega)]; rfl⟩, by simp; omega, weak_to (.cons rfl (rc_same rfl (.inl rfl)) (.cons rfl (rc_same rfl (.inl rfl)) (.cons rfl (rc_same rfl (.inl rfl)) (.cons rfl (rc_same rfl (.inl rfl)) (.cons rfl (rc_same rfl (.inl rfl)) (.cons rfl (rc_same rfl (.inl rfl)) (.cons rfl (rc_same rfl (.inl rfl)) (.nil)))))))) (.keep (rfl) rfl (.keep (rfl) rfl (.nil))) (fun i h => by cases h)⟩
                            | exact ⟨(c + 1, false), ⟨by simp; omega, by rw [hex, fitK_succ, hfc, hxd, show fitF x (leftF (thM l k) (goM l k) c) = false from decide_eq_false (by omega)]; rfl⟩, by simp; omega, weak_to (.cons rfl (rc_same rfl (.inl rfl)) (.cons rfl (rc_same rfl (.inl rfl)) (.cons rfl (rc_same rfl (.inl rfl)) (.cons rfl (rc_same rfl (.inl rfl)) (.cons rfl (rc_same rfl (.inl rfl)) (.cons rfl (rc_same rfl (.inl rfl)) (.cons rfl (rc_same rfl (.inl rfl)) (.nil)))))))) (.keep (rfl) rfl (.keep (rfl) rfl (.nil))) (fun i h => by cases h)⟩
                        · skip
                          refine rs_pick rfl rfl rfl ?_
                          refine rs_pick rfl rfl rfl ?_
                          refine rs_mv rfl rfl ?_
                          refine rs_nil fun _ => ?_
                          refine in_n ?_
                          refine th_n ?_
                          refine aw_reg ?_
                          refine rs_mv rfl rfl ?_
                          first | refine rs_add rfl rfl rfl (by omega) ?_ | refine rs_addw rfl rfl rfl rfl ?_
                          refine rs_mv rfl rfl ?_
                          refine rs_nil fun _ => ?_
                          refine th_n ?_
                          first
                            | exact ⟨(c + 1, true), ⟨by simp; omega, by rw [hex, fitK_succ, hfc, hxd, show fitF x (leftF (thM l k) (goM l k) c) = true from decide_eq_true (by omega)]; rfl⟩, by simp; omega, weak_to (.cons rfl (rc_same rfl (.inl rfl)) (.cons rfl (rc_same rfl (.inl rfl)) (.cons rfl (rc_same rfl (.inl rfl)) (.cons rfl (rc_same rfl (.inl rfl)) (.cons rfl (rc_same rfl (.inl rfl)) (.cons rfl (rc_same rfl (.inl rfl)) (.cons rfl (rc_same rfl (.inl rfl)) (.nil)))))))) (.keep (rfl) rfl (.keep (rfl) rfl (.nil))) (fun i h => by cases h)⟩
                            | exact ⟨(c + 1, false), ⟨by simp; omega, by rw [hex, fitK_succ, hfc, hxd, show fitF x (leftF (thM l k) (goM l k) c) = false from decide_eq_false (by omega)]; rfl⟩, by simp; omega, weak_to (.cons rfl (rc_same rfl (.inl rfl)) (.cons rfl (rc_same rfl (.inl rfl)) (.cons rfl (rc_same rfl (.inl rfl)) (.cons rfl (rc_same rfl (.inl rfl)) (.cons rfl (rc_same rfl (.inl rfl)) (.cons rfl (rc_same rfl (.inl rfl)) (.cons rfl (rc_same rfl (.inl rfl)) (.nil)))))))) (.keep (rfl) rfl (.keep (rfl) rfl (.nil))) (fun i h => by cases h)⟩
                      · skip
                        refine rs_mv rfl rfl ?_
                        refine rs_skip rfl ?_
                        refine rs_skip rfl ?_
                        refine rs_skip rfl ?_
                        refine rs_skip rfl ?_
                        refine rs_skip rfl ?_
                        refine rs_skip rfl ?_
                        refine rs_pick rfl rfl rfl ?_
                        refine rs_pick rfl rfl rfl ?_
                        refine rs_mv rfl rfl ?_
                        refine rs_nil fun _ => ?_
                        refine in_n ?_
                        refine th_n ?_
                        refine aw_reg ?_
                        refine rs_mv rfl rfl ?_
                        first | refine rs_add rfl rfl rfl (by omega) ?_ | refine rs_addw rfl rfl rfl rfl ?_
                        refine rs_mv rfl rfl ?_
                        refine rs_nil fun _ => ?_
                        refine th_n ?_
                        first
                          | exact ⟨(c + 1, true), ⟨by simp; omega, by rw [hex, fitK_succ, hfc, hxd, show fitF x (leftF (thM l k) (goM l k) c) = true from decide_eq_true (by omega)]; rfl⟩, by simp; omega, weak_to (.cons rfl (rc_same rfl (.inl rfl)) (.cons rfl (rc_same rfl (.inl rfl)) (.cons rfl (rc_same rfl (.inl rfl)) (.cons rfl (rc_same rfl (.inl rfl)) (.cons rfl (rc_same rfl (.inl rfl)) (.cons rfl (rc_same rfl (.inl rfl)) (.cons rfl (rc_same rfl (.inl rfl)) (.nil)))))))) (.keep (rfl) rfl (.keep (rfl) rfl (.nil))) (fun i h => by cases h)⟩
                          | exact ⟨(c + 1, false), ⟨by simp; omega, by rw [hex, fitK_succ, hfc, hxd, show fitF x (leftF (thM l k) (goM l k) c) = false from decide_eq_false (by omega)]; rfl⟩, by simp; omega, weak_to (.cons rfl (rc_same rfl (.inl rfl)) (.cons rfl (rc_same rfl (.inl rfl)) (.cons rfl (rc_same rfl (.inl rfl)) (.cons rfl (rc_same rfl (.inl rfl)) (.cons rfl (rc_same rfl (.inl rfl)) (.cons rfl (rc_same rfl (.inl rfl)) (.cons rfl (rc_same rfl (.inl rfl)) (.nil)))))))) (.keep (rfl) rfl (.keep (rfl) rfl (.nil))) (fun i h => by cases h)⟩
                · skip
                  refine rs_pick rfl rfl rfl ?_
                  refine rs_nil fun _ => ?_
                  refine th_n ?_
                  refine aw_cond rfl (fun h => by cases h) (fun _ => ?_)
                  refine aw_exit ?_
                  refine th_e ?_
                  refine th_e ?_
                  refine in_hit ?_
                  refine th_n ?_
                  refine aw_seq ?_
                  refine aw_reg ?_
                  refine rs_mv rfl rfl ?_
                  refine rs_nil fun _ => ?_
                  refine th_n ?_
                  refine aw_cond rfl (fun _ => ?_) (fun h => by cases h)
                  refine aw_seq ?_
                  refine aw_reg ?_
                  refine rs_mv rfl rfl ?_
                  refine rs_nil fun _ => ?_
                  refine th_n ?_
                  refine aw_ret ?_
                  refine in_r ?_
                  refine th_r ?_
                  refine th_r ?_
                  refine in_r ?_
                  refine th_r ?_
                  first
                    | exact ret_pure rfl (congrArg _ (verd_1 (badW_t hxm (by omega))).symm) rfl (.inr rfl)
                    | exact ret_pure rfl (congrArg _ (verd_2' hbw h48).symm) rfl (.inr rfl)
                    | exact ret_pure rfl (congrArg _ (verd_4 hbw hE h96).symm) rfl (.inr rfl)
                    | (obtain rfl : c = want.length := by omega
                       rw [h116] at hg
                       have hg2 := (Bool.and_eq_true _ _ ▸ hg.symm)
                       exact ret_pure rfl (congrArg _ (verd_5 hbw hE h96 (mem_tsK.2 ⟨k, by omega, hg2.1, rfl⟩) hg2.2).symm) rfl (.inr rfl))
                    | exact ret_pure rfl (congrArg _ (verd_6 hbw hE h96 (fun t ht => (by obtain ⟨s, hs, hx, rfl⟩ := mem_tsK.1 ht; exact hno s (by omega) hx))).symm) rfl (.inr rfl)
          · first | replace h98 := of_decide_eq_false h98 | skip
            refine aw_exit ?_
            refine th_e ?_
            refine th_e ?_
            refine in_hit ?_
            refine th_n ?_
            refine aw_seq ?_
            refine aw_reg ?_
            refine rs_mv rfl rfl ?_
            refine rs_nil fun _ => ?_
            refine th_n ?_
            refine aw_ret ?_
            first
              | exact ret_pure rfl (congrArg _ (verd_1 (badW_t hxm (by omega))).symm) rfl (.inr rfl)
              | exact ret_pure rfl (congrArg _ (verd_2' hbw h48).symm) rfl (.inr rfl)
              | exact ret_pure rfl (congrArg _ (verd_4 hbw hE h96).symm) rfl (.inr rfl)
              | (obtain rfl : c = want.length := by omega
                 rw [h116] at hg
                 have hg2 := (Bool.and_eq_true _ _ ▸ hg.symm)
                 exact ret_pure rfl (congrArg _ (verd_5 hbw hE h96 (mem_tsK.2 ⟨k, by omega, hg2.1, rfl⟩) hg2.2).symm) rfl (.inr rfl))
              | exact ret_pure rfl (congrArg _ (verd_6 hbw hE h96 (fun t ht => (by obtain ⟨s, hs, hx, rfl⟩ := mem_tsK.1 ht; exact hno s (by omega) hx))).symm) rfl (.inr rfl)

end Go.Proofs.Ytadjdnhnbkcakaa
