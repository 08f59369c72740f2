/-
  Walks: A3.
-/
import Derived.Test.YtadjdnhnbkcakaaA2
namespace Go.Proofs.Ytadjdnhnbkcakaa
open Go.RowKit

theorem flat_ci : ∀ y : Int, closedL (ci y) = true := fun _ => rfl
/-- The number of bits, as the library counts them. -/
def oc1 (x : Int) : Int := IntKind.u64.wrap (bits .and .u64 (x.fdiv (2 ^ min ((1 : Int)).toNat IntKind.u64.bits)) 6148914691236517205 + bits .and .u64 x 6148914691236517205)
def oc2 (x : Int) : Int := IntKind.u64.wrap (bits .and .u64 (x.fdiv (2 ^ min ((2 : Int)).toNat IntKind.u64.bits)) 3689348814741910323 + bits .and .u64 x 3689348814741910323)
def oc3 (x : Int) : Int := bits .and .u64 (IntKind.u64.wrap (x.fdiv (2 ^ min ((4 : Int)).toNat IntKind.u64.bits) + x)) 1085102592571150095
def oc4 (k : Int) (x : Int) : Int := IntKind.u64.wrap (x + x.fdiv (2 ^ min k.toNat IntKind.u64.bits))
def oc (x : Int) : Int := bits .and .i64 (IntKind.i64.wrap (oc4 32 (oc4 16 (oc4 8 (oc3 (oc2 (oc1 x))))))) 127
theorem oc_ok : ∀ s : Nat, s < 256 → oc (s : Int) = (sizeS s 8 : Int) := by decide +kernel

def mc48 : MC := (.seq (.reg [⟨(some 2), (.mv (.c .nils)), none, []⟩] false) (.seq (.seq (.reg [⟨(some 3), (.mv (.t 0)), none, []⟩, ⟨(some 4), (.isnil true false (.t 3)), none, [0]⟩] false) (.cond (.t 4) (.seq (.reg [⟨(some 2), (.mv (.c .nils)), none, []⟩] false) .ret) .skip)) (.seq (.reg [⟨(some 5), (.bslice 3 1 [(.int .i64 0)] 0 []), none, []⟩, ⟨(some 6), (.mv (.t 0)), none, []⟩, ⟨(some 7), (.app 3 1 8 [(.int .i64 0)] (.t 5) (.t 6)), none, [0, 1]⟩, ⟨(some 2), (.mv (.t 7)), none, [2, 2, 0, 1, 2]⟩] false) .ret)))
theorem mcOk48 : (match Try.f48.body with | some c => compC Try.prog 8 c | none => none) = some mc48 := by kernel_rfl

theorem fc48_0  : FC Try.prog 48 [ints ([] : List Int)] [] (.sl 7 0 ([] : List Int).length) [(7, .cells 3 1 (([] : List Int).map ci) true)] false := by
  refine fc_run (nt := 8) Try.func48 rfl rfl mcOk48 (Nat.le_of_ble_eq_true rfl) ?_
  delta mc48
  refine aw_seq ?_
  refine aw_reg ?_
  refine rs_mv rfl rfl ?_
  refine rs_nil fun _ => ?_
  refine th_n ?_
  refine aw_seq ?_
  refine aw_seq ?_
  refine aw_reg ?_
  refine rs_mv rfl rfl ?_
  refine rs_nil_any rfl rfl (.inl ⟨_, rfl⟩) ?_
  refine rs_nil fun _ => ?_
  refine th_n ?_
  refine aw_condany rfl ?_ ?_
  · skip
    refine aw_seq ?_
    refine aw_reg ?_
    refine rs_mv rfl rfl ?_
    refine rs_nil fun _ => ?_
    refine th_n ?_
    refine aw_ret ?_
    refine th_r ?_
    first
      | exact ret_new rfl (rc_same rfl (.inr rfl)) (.keep rfl rfl (noROE_map (fun _ => rfl) _) .nil)
      | exact ret_new rfl (rc_virt rfl rfl) (.virt rfl .nil)
  · skip
    refine aw_skip ?_
    refine th_n ?_
    refine aw_seq ?_
    refine aw_reg ?_
    refine rs_bslice rfl rfl rfl rfl rfl rfl ?_
    refine rs_mv rfl rfl ?_
    refine rs_app_e (ys := ([] : List Int)) (n := ([] : List Int).length) (f := ci) (rd := []) rfl rfl rfl rfl rfl rfl rfl (by simp) (fun _ => rfl) rfl (by first | decide | (simp; omega)) (by first | decide | (simp; omega)) flat_ci ?_
    refine rs_mv rfl rfl ?_
    refine rs_nil fun _ => ?_
    refine th_n ?_
    refine aw_ret ?_
    first
      | exact ret_new rfl (rc_same rfl (.inr rfl)) (.keep rfl rfl (noROE_map (fun _ => rfl) _) .nil)
      | exact ret_new rfl (rc_virt rfl rfl) (.virt rfl .nil)

theorem fc48_1 (x : Int) (xs : List Int) (hx : xs.length ≤ 1000000) : FC Try.prog 48 [ints (x :: xs)] [] (.sl 7 0 (x :: xs).length) [(7, .cells 3 1 ((x :: xs).map ci) true)] false := by
  refine fc_run (nt := 8) Try.func48 rfl rfl mcOk48 (Nat.le_of_ble_eq_true rfl) ?_
  delta mc48
  refine aw_seq ?_
  refine aw_reg ?_
  refine rs_mv rfl rfl ?_
  refine rs_nil fun _ => ?_
  refine th_n ?_
  refine aw_seq ?_
  refine aw_seq ?_
  refine aw_reg ?_
  refine rs_mv rfl rfl ?_
  refine rs_nil_f rfl rfl (.inl ⟨_, _, _, rfl⟩) ?_
  refine rs_nil fun _ => ?_
  refine th_n ?_
  refine aw_cond rfl (fun h => by cases h) (fun _ => ?_)
  refine aw_skip ?_
  refine th_n ?_
  refine aw_seq ?_
  refine aw_reg ?_
  refine rs_bslice rfl rfl rfl rfl rfl rfl ?_
  refine rs_mv rfl rfl ?_
  refine rs_app_e (ys := (x :: xs)) (n := (x :: xs).length) (f := ci) (rd := []) rfl rfl rfl rfl rfl rfl rfl (by simp) (fun _ => rfl) rfl (by first | decide | (simp; omega)) (by first | decide | (simp; omega)) flat_ci ?_
  refine rs_mv rfl rfl ?_
  refine rs_nil fun _ => ?_
  refine th_n ?_
  refine aw_ret ?_
  first
    | exact ret_new rfl (rc_same rfl (.inr rfl)) (.keep rfl rfl (noROE_map (fun _ => rfl) _) .nil)
    | exact ret_new rfl (rc_virt rfl rfl) (.virt rfl .nil)

theorem fc48 (xs : List Int) (hx : xs.length ≤ 1000000) : FC Try.prog 48 [ints xs] [] (.sl 7 0 xs.length) [(7, .cells 3 1 (xs.map ci) true)] false := by
  cases xs with
  | nil => exact fc48_0
  | cons x xs => exact fc48_1 x xs (by simp at hx; omega)

def mc70 : MC := (.seq (.reg [⟨(some 2), (.mv (.c (.int .i64 0))), none, []⟩] false) (.seq (.reg [⟨(some 3), (.mv (.t 0)), none, []⟩, ⟨(some 4), (.bin .shr (.t 3) (.c (.int .u64 1))), none, [0]⟩, ⟨(some 5), (.bin .and (.t 4) (.c (.int .u64 6148914691236517205))), none, [1]⟩, ⟨(some 6), (.mv (.t 0)), none, []⟩, ⟨(some 7), (.bin .and (.t 6) (.c (.int .u64 6148914691236517205))), none, [3]⟩, ⟨(some 8), (.bin .add (.t 5) (.t 7)), none, [2, 4]⟩, ⟨(some 0), (.mv (.t 8)), none, [5, 0, 1, 2, 3, 4, 5]⟩] false) (.seq (.reg [⟨(some 9), (.mv (.t 0)), none, []⟩, ⟨(some 10), (.bin .shr (.t 9) (.c (.int .u64 2))), none, [0]⟩, ⟨(some 11), (.bin .and (.t 10) (.c (.int .u64 3689348814741910323))), none, [1]⟩, ⟨(some 12), (.mv (.t 0)), none, []⟩, ⟨(some 13), (.bin .and (.t 12) (.c (.int .u64 3689348814741910323))), none, [3]⟩, ⟨(some 14), (.bin .add (.t 11) (.t 13)), none, [2, 4]⟩, ⟨(some 0), (.mv (.t 14)), none, [5, 0, 1, 2, 3, 4, 5]⟩] false) (.seq (.reg [⟨(some 15), (.mv (.t 0)), none, []⟩, ⟨(some 16), (.bin .shr (.t 15) (.c (.int .u64 4))), none, [0]⟩, ⟨(some 17), (.mv (.t 0)), none, []⟩, ⟨(some 18), (.bin .add (.t 16) (.t 17)), none, [1, 2]⟩, ⟨(some 19), (.bin .and (.t 18) (.c (.int .u64 1085102592571150095))), none, [3]⟩, ⟨(some 0), (.mv (.t 19)), none, [4, 0, 1, 2, 3, 4]⟩] false) (.seq (.reg [⟨(some 20), (.mv (.t 0)), none, []⟩, ⟨(some 21), (.mv (.t 0)), none, []⟩, ⟨(some 22), (.bin .shr (.t 21) (.c (.int .u64 8))), none, [1]⟩, ⟨(some 23), (.bin .add (.t 20) (.t 22)), none, [0, 2]⟩, ⟨(some 0), (.mv (.t 23)), none, [3, 0, 1, 2, 3]⟩] false) (.seq (.reg [⟨(some 24), (.mv (.t 0)), none, []⟩, ⟨(some 25), (.mv (.t 0)), none, []⟩, ⟨(some 26), (.bin .shr (.t 25) (.c (.int .u64 16))), none, [1]⟩, ⟨(some 27), (.bin .add (.t 24) (.t 26)), none, [0, 2]⟩, ⟨(some 0), (.mv (.t 27)), none, [3, 0, 1, 2, 3]⟩] false) (.seq (.reg [⟨(some 28), (.mv (.t 0)), none, []⟩, ⟨(some 29), (.mv (.t 0)), none, []⟩, ⟨(some 30), (.bin .shr (.t 29) (.c (.int .u64 32))), none, [1]⟩, ⟨(some 31), (.bin .add (.t 28) (.t 30)), none, [0, 2]⟩, ⟨(some 0), (.mv (.t 31)), none, [3, 0, 1, 2, 3]⟩] false) (.seq (.reg [⟨(some 32), (.mv (.t 0)), none, []⟩, ⟨(some 33), (.cvt .i64 (.t 32)), none, [0]⟩, ⟨(some 34), (.bin .and (.t 33) (.c (.int .i64 127))), none, [1]⟩, ⟨(some 2), (.mv (.t 34)), none, [2, 0, 1, 2]⟩] false) .ret))))))))
theorem mcOk70 : (match Try.f70.body with | some c => compC Try.prog 35 c | none => none) = some mc70 := by kernel_rfl

theorem fc70 (s : Nat) (hs : s < 256) : FC Try.prog 70 [.int .u64 (s : Int)] [] (.int .i64 (sizeS s 8 : Int)) [] false := by
  refine fc_run (nt := 35) Try.func70 rfl rfl mcOk70 (Nat.le_of_ble_eq_true rfl) ?_
  delta mc70
  refine aw_seq ?_
  refine aw_reg ?_
  refine rs_mv rfl rfl ?_
  refine rs_nil fun _ => ?_
  refine th_n ?_
  refine aw_seq ?_
  refine aw_reg ?_
  refine rs_mv rfl rfl ?_
  refine rs_shr rfl rfl rfl (by decide) rfl ?_
  refine rs_and rfl rfl rfl rfl ?_
  refine rs_mv rfl rfl ?_
  refine rs_and rfl rfl rfl rfl ?_
  first | refine rs_add rfl rfl rfl (by decide) ?_ | refine rs_addw rfl rfl rfl rfl ?_
  refine rs_mv rfl rfl ?_
  refine rs_nil fun _ => ?_
  refine th_n ?_
  refine aw_seq ?_
  refine aw_reg ?_
  refine rs_mv rfl rfl ?_
  refine rs_shr rfl rfl rfl (by decide) rfl ?_
  refine rs_and rfl rfl rfl rfl ?_
  refine rs_mv rfl rfl ?_
  refine rs_and rfl rfl rfl rfl ?_
  first | refine rs_add rfl rfl rfl (by decide) ?_ | refine rs_addw rfl rfl rfl rfl ?_
  refine rs_mv rfl rfl ?_
  refine rs_nil fun _ => ?_
  refine th_n ?_
  refine aw_seq ?_
  refine aw_reg ?_
  refine rs_mv rfl rfl ?_
  refine rs_shr rfl rfl rfl (by decide) rfl ?_
  refine rs_mv rfl rfl ?_
  first | refine rs_add rfl rfl rfl (by decide) ?_ | refine rs_addw rfl rfl rfl rfl ?_
  refine rs_and rfl rfl rfl rfl ?_
  refine rs_mv rfl rfl ?_
  refine rs_nil fun _ => ?_
  refine th_n ?_
  refine aw_seq ?_
  refine aw_reg ?_
  refine rs_mv rfl rfl ?_
  refine rs_mv rfl rfl ?_
  refine rs_shr rfl rfl rfl (by decide) rfl ?_
  first | refine rs_add rfl rfl rfl (by decide) ?_ | refine rs_addw rfl rfl rfl rfl ?_
  refine rs_mv rfl rfl ?_
  refine rs_nil fun _ => ?_
  refine th_n ?_
  refine aw_seq ?_
  refine aw_reg ?_
  refine rs_mv rfl rfl ?_
  refine rs_mv rfl rfl ?_
  refine rs_shr rfl rfl rfl (by decide) rfl ?_
  first | refine rs_add rfl rfl rfl (by decide) ?_ | refine rs_addw rfl rfl rfl rfl ?_
  refine rs_mv rfl rfl ?_
  refine rs_nil fun _ => ?_
  refine th_n ?_
  refine aw_seq ?_
  refine aw_reg ?_
  refine rs_mv rfl rfl ?_
  refine rs_mv rfl rfl ?_
  refine rs_shr rfl rfl rfl (by decide) rfl ?_
  first | refine rs_add rfl rfl rfl (by decide) ?_ | refine rs_addw rfl rfl rfl rfl ?_
  refine rs_mv rfl rfl ?_
  refine rs_nil fun _ => ?_
  refine th_n ?_
  refine aw_seq ?_
  refine aw_reg ?_
  refine rs_mv rfl rfl ?_
  refine rs_cvt rfl rfl rfl ?_
  refine rs_and rfl rfl rfl rfl ?_
  refine rs_mv rfl rfl ?_
  refine rs_nil fun _ => ?_
  refine th_n ?_
  refine aw_ret ?_
  exact ret_pure rfl (congrArg (AV.int .i64) (oc_ok s hs)) rfl (.inr rfl)

def mc66 : MC := (.seq (.reg [⟨(some 2), (.mv (.c (.int .i64 0))), none, []⟩] false) (.seq (.cond (.c (.bool false)) (.seq (.reg [⟨(some 3), (.mv (.t 0)), none, []⟩, ⟨(some 4), (.cvt .u32 (.t 3)), none, [0]⟩, ⟨(some 5), (.call 69 [(.t 4)]), none, [1]⟩, ⟨(some 2), (.mv (.t 5)), none, [2, 2, 0, 1, 2]⟩] false) .ret) .skip) (.seq (.reg [⟨(some 6), (.mv (.t 0)), none, []⟩, ⟨(some 7), (.call 70 [(.t 6)]), none, [0]⟩, ⟨(some 2), (.mv (.t 7)), none, [1, 1, 0, 1]⟩] false) .ret)))
theorem mcOk66 : (match Try.f66.body with | some c => compC Try.prog 8 c | none => none) = some mc66 := by kernel_rfl

theorem fc66 (s : Nat) (hs : s < 256) : FC Try.prog 66 [.int .u64 (s : Int)] [] (.int .i64 (sizeS s 8 : Int)) [] false := by
  refine fc_run (nt := 8) Try.func66 rfl rfl mcOk66 (Nat.le_of_ble_eq_true rfl) ?_
  delta mc66
  refine aw_seq ?_
  refine aw_reg ?_
  refine rs_mv rfl rfl ?_
  refine rs_nil fun _ => ?_
  refine th_n ?_
  refine aw_seq ?_
  refine aw_cond rfl (fun h => by cases h) (fun _ => ?_)
  refine aw_skip ?_
  refine th_n ?_
  refine aw_seq ?_
  refine aw_reg ?_
  refine rs_mv rfl rfl ?_
  refine rs_calln [] rfl rfl (fc70 s hs) (.cons (hv_same rfl) (.nil)) rfl ?_
  refine rs_mv rfl rfl ?_
  refine rs_nil fun _ => ?_
  refine th_n ?_
  refine aw_ret ?_
  exact ret_pure rfl rfl rfl (.inr rfl)

end Go.Proofs.Ytadjdnhnbkcakaa
