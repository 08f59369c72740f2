/-
  Walks: A12.
-/
import Derived.Test.YtadjdnhnbkcakaaA11
import Derived.Test.YtadjdnhnbkcakaaL24
namespace Go.Proofs.Ytadjdnhnbkcakaa
open Go.RowKit

theorem fz21 (l : List Rd) (lo hi : List Int) (lies : Int) : FC Try.prog 21 [.rs 4 (l.map cR), ints lo, ints hi, .int .i64 lies] [] (.tup [ints (narrowA l lo hi lies), ints (narrowB l lo hi lies), iv (narrowE l lo hi lies)]) [] false :=
  fc_frozen (fc21 l lo hi lies) (rc_tup (.cons (rc_frz rfl rfl rfl (fun _ => rfl)) (.cons (rc_frz rfl rfl rfl (fun _ => rfl)) (.cons (rc_same rfl (.inr rfl)) .nil))))
theorem fz22 (l : List Rd) (lo hi : List Int) (lies : Int) : FC Try.prog 22 [.rs 4 (l.map cR), ints lo, ints hi, .int .i64 lies] [] (.tup [ints (narrowA l lo hi lies), ints (narrowB l lo hi lies), iv (narrowE l lo hi lies)]) [] false :=
  fc_frozen (fc22 l lo hi lies) (rc_tup (.cons (rc_frz rfl rfl rfl (fun _ => rfl)) (.cons (rc_frz rfl rfl rfl (fun _ => rfl)) (.cons (rc_same rfl (.inr rfl)) .nil))))
theorem fz24 (l : List Rd) (lo hi : List Int) (lies : Int) : FC Try.prog 24 [.rs 4 (l.map cR), ints lo, ints hi, .int .i64 lies] [] (.tup [ints (liarsL l lo hi lies), iv (liarsE l lo hi lies)]) [] false :=
  fc_frozen (fc24 l lo hi lies) (rc_tup (.cons (rc_frz rfl rfl rfl (fun _ => rfl)) (.cons (rc_same rfl (.inr rfl)) .nil)))
theorem fz25 (l : List Rd) (lo hi : List Int) (lies : Int) : FC Try.prog 25 [.rs 4 (l.map cR), ints lo, ints hi, .int .i64 lies] [] (.tup [ints (liarsL l lo hi lies), iv (liarsE l lo hi lies)]) [] false :=
  fc_frozen (fc25 l lo hi lies) (rc_tup (.cons (rc_frz rfl rfl rfl (fun _ => rfl)) (.cons (rc_same rfl (.inr rfl)) .nil)))
theorem fz29 (ls : List (List Int)) (q : Int) (hq : q ≤ 4611686018427387904) (hls : ∀ L ∈ ls, L.length ≤ 4611686018427387904) : FC Try.prog 29 [.rs 1 (ls.map cL), .int .i64 q] [] (.rs 4 ((readS ls q).map cR)) [] false :=
  fc_frozen (fc29 ls q hq hls) (rc_frz rfl rfl rfl (fun _ => rfl))

def mc18 : MC := (.seq (.reg [⟨(some 4), (.mv (.c .nils)), none, []⟩] false) (.seq (.reg [⟨(some 5), (.mv (.t 0)), none, []⟩, ⟨(some 6), (.mv (.t 0)), none, []⟩, ⟨(some 7), (.len (.t 6)), none, [1]⟩, ⟨(some 8), (.mv (.t 1)), none, []⟩, ⟨(some 9), (.mn (.t 7) (.t 8)), none, [2, 3]⟩, ⟨(some 10), (.slc 1 (.t 5) none (some (.t 9))), none, [0, 4]⟩, ⟨(some 4), (.mv (.t 10)), none, [5, 0, 1, 2, 3, 4, 5]⟩] false) .ret))
theorem mcOk18 : (match Try.f18.body with | some c => compC Try.prog 11 c | none => none) = some mc18 := by kernel_rfl

theorem fc18 (xs : List Int) (n : Nat) : FC Try.prog 18 [ints xs, .int .i64 (n : Int)] [] (ints (xs.take n)) [] true := by
  refine fc_run (nt := 11) Try.func18 rfl rfl mcOk18 (Nat.le_of_ble_eq_true rfl) ?_
  delta mc18
  refine aw_seq ?_
  refine aw_reg ?_
  refine rs_mv rfl rfl ?_
  refine rs_nil fun _ => ?_
  refine th_n ?_
  refine aw_seq ?_
  refine aw_reg ?_
  refine rs_mv rfl rfl ?_
  refine rs_mv rfl rfl ?_
  first | refine rs_len_m rfl rfl ?_ | refine rs_len_s rfl rfl ?_ | refine rs_len_n rfl rfl ?_ | refine rs_len_r rfl rfl rfl ?_
  refine rs_mv rfl rfl ?_
  refine rs_mn rfl rfl rfl rfl ?_
  refine rs_slc_r (l := 0) (q := min (xs.length : Int) (n : Int)) (els' := (xs.take n).map ci) rfl rfl rfl rfl rfl (by omega) (by omega) (by simp; omega) (by rw [show (min (xs.length : Int) (n : Int)).toNat = min xs.length n by omega]; simp [List.take_eq_take_min, Nat.min_comm]) ?_
  refine rs_mv rfl rfl ?_
  refine rs_nil fun _ => ?_
  refine th_n ?_
  refine aw_ret ?_
  exact ret_pure rfl rfl rfl (.inl rfl)

def mc46 : MC := (.seq (.reg [⟨(some 6), (.alloc 50 4 [(.int .i64 0), (.int .i64 0), (.int .i64 0), (.int .i64 0)]), none, []⟩] false) (.seq (.reg [⟨(some 7), (.mv (.t 0)), none, []⟩, ⟨(some 8), (.mv (.t 1)), none, []⟩, ⟨(some 9), (.mv (.t 2)), none, []⟩, ⟨(some 10), (.build [(.int .i64 0), (.int .i64 0), (.int .i64 0), (.int .i64 0)] [(0, (1, (.t 7))), (2, (1, (.t 8))), (3, (1, (.t 9)))]), none, [0, 1, 2]⟩, ⟨none, (.st 4 (.t 6) (.t 10)), none, [3, 0, 1, 2, 3]⟩] false) .ret))
theorem mcOk46 : (match Try.f46.body with | some c => compC Try.prog 11 c | none => none) = some mc46 := by kernel_rfl

theorem fc46 (w lo hi : Int) : FC Try.prog 46 [iv w, iv lo, iv hi] [] (.agg (cR ⟨w, 0, lo, hi⟩)) [] false := by
  refine fc_run (nt := 11) Try.func46 rfl rfl mcOk46 (Nat.le_of_ble_eq_true rfl) ?_
  delta mc46
  refine aw_seq ?_
  refine aw_reg ?_
  refine rs_alloc rfl rfl rfl ?_
  refine rs_nil fun _ => ?_
  refine th_n ?_
  refine aw_seq ?_
  refine aw_reg ?_
  refine rs_mv rfl rfl ?_
  refine rs_mv rfl rfl ?_
  refine rs_mv rfl rfl ?_
  refine rs_build rfl rfl ?_
  refine rs_st rfl rfl rfl rfl rfl rfl rfl (Nat.le_of_ble_eq_true rfl) rfl rfl ?_
  refine rs_nil fun _ => ?_
  refine th_n ?_
  refine aw_ret ?_
  exact ret_pure (resVs_cell (n := 4) rfl rfl (by kernel_rfl) (by kernel_rfl) rfl) rfl rfl (.inr rfl)

end Go.Proofs.Ytadjdnhnbkcakaa
