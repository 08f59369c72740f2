/-
  Walks: A15.
-/
import Derived.Test.YtadjdnhnbkcakaaA14
namespace Go.Proofs.Ytadjdnhnbkcakaa
open Go.RowKit

theorem fc23_t (xs : List Int) (hx : xs.length ≤ 4611686018427387904) : FC Try.prog 23 [ints xs, ints xs] [] (.bool true) [] false := by
  have := fc23 xs xs hx
  rwa [show sameS xs xs = true from decide_eq_true rfl] at this

def mc47 : MC := (.seq (.reg [⟨(some 10), (.mv (.c (.bool false))), none, []⟩] false) (.seq (.reg [⟨(some 17), (.mv (.t 4)), none, []⟩, ⟨(some 18), (.bslice 3 1 [(.int .i64 0)] 1 [(0, (.c (.int .i64 0)))]), none, []⟩, ⟨(some 19), (.bslice 3 1 [(.int .i64 0)] 1 [(0, (.c (.int .i64 100)))]), none, []⟩, ⟨(some 20), (.mv (.t 0)), none, []⟩, ⟨(some 21), (.call 21 [(.t 17), (.t 18), (.t 19), (.t 20)]), none, [0, 1, 2, 3]⟩, ⟨(some 16), (.mv (.t 21)), none, [4]⟩, ⟨(some 22), (.ext (.t 16) 0), none, [5]⟩, ⟨(some 23), (.ext (.t 16) 1), none, [5]⟩, ⟨(some 24), (.ext (.t 16) 2), none, [5]⟩, ⟨(some 11), (.mv (.t 22)), none, [6, 4, 0, 1, 2, 3, 4, 5, 6]⟩, ⟨(some 12), (.mv (.t 23)), none, [7, 9, 0, 1, 2, 3, 4, 5, 6, 7, 9]⟩, ⟨(some 13), (.mv (.t 24)), none, [8, 10, 0, 1, 2, 3, 4, 5, 6, 7, 8, 9, 10]⟩] false) (.seq (.reg [⟨(some 26), (.mv (.t 4)), none, []⟩, ⟨(some 27), (.bslice 3 1 [(.int .i64 0)] 1 [(0, (.c (.int .i64 0)))]), none, []⟩, ⟨(some 28), (.bslice 3 1 [(.int .i64 0)] 1 [(0, (.c (.int .i64 100)))]), none, []⟩, ⟨(some 29), (.mv (.t 0)), none, []⟩, ⟨(some 30), (.call 24 [(.t 26), (.t 27), (.t 28), (.t 29)]), none, [0, 1, 2, 3]⟩, ⟨(some 25), (.mv (.t 30)), none, [4]⟩, ⟨(some 31), (.ext (.t 25) 0), none, [5]⟩, ⟨(some 32), (.ext (.t 25) 1), none, [5]⟩, ⟨(some 14), (.mv (.t 31)), none, [6, 4, 0, 1, 2, 3, 4, 5, 6]⟩, ⟨(some 15), (.mv (.t 32)), none, [7, 8, 0, 1, 2, 3, 4, 5, 6, 7, 8]⟩] false) (.seq (.reg [⟨(some 33), (.mv (.t 13)), none, []⟩, ⟨(some 34), (.bin .eql (.t 33) (.c (.int .i64 0))), none, [0]⟩, ⟨(some 35), (.mv (.t 34)), none, [1]⟩, ⟨(some 36), (.mv (.t 15)), (some (35, true)), [2]⟩, ⟨(some 37), (.bin .eql (.t 36) (.c (.int .i64 0))), (some (35, true)), [3, 2]⟩, ⟨(some 38), (.pick (.t 35) (.t 37) (.c (.bool false))), none, [2, 4]⟩, ⟨(some 39), (.mv (.t 38)), none, [5, 2]⟩, ⟨(some 40), (.mv (.t 11)), (some (39, true)), [6]⟩, ⟨(some 41), (.mv (.t 1)), (some (39, true)), [6]⟩, ⟨(some 42), (.bslice 3 1 [(.int .i64 0)] 1 [(0, (.t 41))]), (some (39, true)), [8, 6]⟩, ⟨(some 43), (.call 23 [(.t 40), (.t 42)]), (some (39, true)), [7, 9, 6, 6]⟩, ⟨(some 44), (.pick (.t 39) (.t 43) (.c (.bool false))), none, [6, 10]⟩, ⟨(some 45), (.mv (.t 44)), none, [11, 10]⟩, ⟨(some 46), (.mv (.t 12)), (some (45, true)), [12]⟩, ⟨(some 47), (.mv (.t 2)), (some (45, true)), [12]⟩, ⟨(some 48), (.bslice 3 1 [(.int .i64 0)] 1 [(0, (.t 47))]), (some (45, true)), [14, 12]⟩, ⟨(some 49), (.call 23 [(.t 46), (.t 48)]), (some (45, true)), [13, 15, 12, 12]⟩, ⟨(some 50), (.pick (.t 45) (.t 49) (.c (.bool false))), none, [12, 16]⟩, ⟨(some 51), (.mv (.t 50)), none, [17, 16]⟩, ⟨(some 52), (.mv (.t 14)), (some (51, true)), [18]⟩, ⟨(some 53), (.mv (.t 3)), (some (51, true)), [18]⟩, ⟨(some 54), (.call 23 [(.t 52), (.t 53)]), (some (51, true)), [19, 20, 18, 18]⟩, ⟨(some 55), (.pick (.t 51) (.t 54) (.c (.bool false))), none, [18, 21]⟩, ⟨(some 10), (.mv (.t 55)), none, [22, 21, 0, 1, 2, 3, 4, 5, 6, 7, 8, 9, 10, 11, 12, 13, 14, 15, 16, 17, 18, 19, 20, 21, 22]⟩] false) .ret))))
theorem mcOk47 : (match Try.f47.body with | some c => compC Try.prog 56 c | none => none) = some mc47 := by kernel_rfl

theorem fc47 (l : List Rd) (lies lo hi : Int) (liars : List Int) (hE : narrowE l [0] [100] lies = 0) (hA : narrowA l [0] [100] lies = [lo]) (hB : narrowB l [0] [100] lies = [hi]) (hF : liarsE l [0] [100] lies = 0) (hL : liarsL l [0] [100] lies = liars) (hle : liars.length ≤ 8) : FC Try.prog 47 [iv lies, iv lo, iv hi, ints liars, .rs 4 (l.map cR)] [] (.bool true) [] false := by
  have hN : FC Try.prog 21 [.rs 4 (l.map cR), ints [0], ints [100], .int .i64 lies] [] (.tup [ints [lo], ints [hi], iv 0]) [] false := by have := fz21 l [0] [100] lies; rwa [hA, hB, hE] at this
  have hM : FC Try.prog 24 [.rs 4 (l.map cR), ints [0], ints [100], .int .i64 lies] [] (.tup [ints liars, iv 0]) [] false := by have := fz24 l [0] [100] lies; rwa [hL, hF] at this
  refine fc_run (nt := 56) Try.func47 rfl rfl mcOk47 (Nat.le_of_ble_eq_true rfl) ?_
  delta mc47
  refine aw_seq ?_
  refine aw_reg ?_
  refine rs_mv rfl rfl ?_
  refine rs_nil fun _ => ?_
  refine th_n ?_
  refine aw_seq ?_
  refine aw_reg ?_
  refine rs_mv rfl rfl ?_
  refine rs_bslice rfl rfl rfl rfl rfl rfl ?_
  refine rs_bslice rfl rfl rfl rfl rfl rfl ?_
  refine rs_mv rfl rfl ?_
  refine rs_calln [18, 19] rfl rfl (hN) (.cons (hv_same rfl) (.cons (hv_sl (by simp) rfl (Nat.le_of_ble_eq_true rfl) rfl) (.cons (hv_sl (by simp) rfl (Nat.le_of_ble_eq_true rfl) rfl) (.cons (hv_same rfl) (.nil))))) rfl ?_
  refine rs_mv rfl rfl ?_
  refine rs_ext rfl rfl rfl ?_
  refine rs_ext rfl rfl rfl ?_
  refine rs_ext rfl rfl rfl ?_
  refine rs_mv rfl rfl ?_
  refine rs_mv rfl rfl ?_
  refine rs_mv rfl rfl ?_
  refine rs_nil fun _ => ?_
  refine th_n ?_
  refine aw_seq ?_
  refine aw_reg ?_
  refine rs_mv rfl rfl ?_
  refine rs_bslice rfl rfl rfl rfl rfl rfl ?_
  refine rs_bslice rfl rfl rfl rfl rfl rfl ?_
  refine rs_mv rfl rfl ?_
  refine rs_calln [27, 28] rfl rfl (hM) (.cons (hv_same rfl) (.cons (hv_sl (by simp) rfl (Nat.le_of_ble_eq_true rfl) rfl) (.cons (hv_sl (by simp) rfl (Nat.le_of_ble_eq_true rfl) rfl) (.cons (hv_same rfl) (.nil))))) rfl ?_
  refine rs_mv rfl rfl ?_
  refine rs_ext rfl rfl rfl ?_
  refine rs_ext rfl rfl rfl ?_
  refine rs_mv rfl rfl ?_
  refine rs_mv rfl rfl ?_
  refine rs_nil fun _ => ?_
  refine th_n ?_
  refine aw_seq ?_
  refine aw_reg ?_
  refine rs_mv rfl rfl ?_
  refine rs_cmp_t rfl rfl rfl rfl rfl ?_
  refine rs_mv rfl rfl ?_
  refine rs_mv rfl rfl ?_
  refine rs_cmp_t rfl rfl rfl rfl rfl ?_
  refine rs_pick rfl rfl rfl ?_
  refine rs_mv rfl rfl ?_
  refine rs_mv rfl rfl ?_
  refine rs_mv rfl rfl ?_
  refine rs_bslice rfl rfl rfl rfl rfl rfl ?_
  refine rs_calln [42] rfl rfl (fc23_t [lo] (Nat.le_of_ble_eq_true rfl)) (.cons (hv_same rfl) (.cons (hv_sl (by simp) rfl (Nat.le_of_ble_eq_true rfl) rfl) (.nil))) rfl ?_
  refine rs_pick rfl rfl rfl ?_
  refine rs_mv rfl rfl ?_
  refine rs_mv rfl rfl ?_
  refine rs_mv rfl rfl ?_
  refine rs_bslice rfl rfl rfl rfl rfl rfl ?_
  refine rs_calln [48] rfl rfl (fc23_t [hi] (Nat.le_of_ble_eq_true rfl)) (.cons (hv_same rfl) (.cons (hv_sl (by simp) rfl (Nat.le_of_ble_eq_true rfl) rfl) (.nil))) rfl ?_
  refine rs_pick rfl rfl rfl ?_
  refine rs_mv rfl rfl ?_
  refine rs_mv rfl rfl ?_
  refine rs_mv rfl rfl ?_
  refine rs_calln [] rfl rfl (fc23_t liars (by omega)) (.cons (hv_same rfl) (.cons (hv_same rfl) (.nil))) rfl ?_
  refine rs_pick rfl rfl rfl ?_
  refine rs_mv rfl rfl ?_
  refine rs_nil fun _ => ?_
  refine th_n ?_
  refine aw_ret ?_
  exact ret_pure rfl rfl rfl (.inr rfl)

end Go.Proofs.Ytadjdnhnbkcakaa
