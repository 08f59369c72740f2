/-
  Walks: A0.
-/
import Derived.Test.YtadjdnhnbkcakaaL23
import Derived.Test.YtadjdnhnbkcakaaProg
namespace Go.Proofs.Ytadjdnhnbkcakaa
open Go.RowKit

theorem hmix : Try.prog.follows .mixedOrders = true := by kernel_rfl

theorem tmod_range (n m : Int) (h : 1 ≤ m) : -m < n.tmod m ∧ n.tmod m < m := by
  have h1 := Int.tmod_lt_of_pos n (show (0 : Int) < m by omega)
  have h2 := Int.tmod_lt_of_pos (-n) (show (0 : Int) < m by omega)
  rw [Int.neg_tmod] at h2
  omega

theorem mod_eq (n m : Int) (h : 1 ≤ m) : (n.tmod m + m).tmod m = n % m := by
  have h1 := tmod_range n m h
  rw [Int.tmod_eq_emod_of_nonneg (by omega), Int.add_emod_right, Int.tmod_eq_emod]
  split
  · simp
  · rw [Int.sub_emod]; simp [Int.natAbs_of_nonneg (show 0 ≤ m by omega)]

def modS (n m : Int) : Int := if m < 1 then 0 else n % m

def hasS (s p : Nat) : Bool := s.testBit p
theorem has_bits : ∀ s : Nat, s < 256 → ∀ p : Nat, p < 8 → decide (bits .and .i64 ((s : Int).fdiv (2 ^ min ((p : Int)).toNat 64)) 1 = 1) = hasS s p := by decide +kernel

def sizeS (s : Nat) : Nat → Nat
  | 0 => 0
  | n + 1 => sizeS s n + if hasS s n then 1 else 0
theorem sizeS_le (s : Nat) : ∀ n, sizeS s n ≤ n
  | 0 => Nat.le_refl _
  | n + 1 => by
    have := sizeS_le s n
    simp only [sizeS]
    split <;> omega

def mc30 : MC := (.seq (.reg [⟨(some 4), (.mv (.c (.int .i64 0))), none, []⟩] false) (.seq (.seq (.reg [⟨(some 5), (.mv (.t 1)), none, []⟩, ⟨(some 6), (.bin .lss (.t 5) (.c (.int .i64 1))), none, [0]⟩] false) (.cond (.t 6) (.seq (.reg [⟨(some 4), (.mv (.c (.int .i64 0))), none, []⟩] false) .ret) .skip)) (.seq (.reg [⟨(some 7), (.mv (.t 0)), none, []⟩, ⟨(some 8), (.mv (.t 1)), none, []⟩, ⟨(some 9), (.bin .rem (.t 7) (.t 8)), none, [0, 1]⟩, ⟨(some 10), (.mv (.t 1)), none, []⟩, ⟨(some 11), (.bin .add (.t 9) (.t 10)), none, [2, 3]⟩, ⟨(some 12), (.mv (.t 1)), none, []⟩, ⟨(some 13), (.bin .rem (.t 11) (.t 12)), none, [4, 5]⟩, ⟨(some 4), (.mv (.t 13)), none, [6, 0, 1, 2, 3, 4, 5, 6]⟩] false) .ret)))
theorem mcOk30 : (match Try.f30.body with | some c => compC Try.prog 14 c | none => none) = some mc30 := by kernel_rfl

theorem fc30 (n m : Int) (hm : m ≤ 4611686018427387904) : FC Try.prog 30 [.int .i64 n, .int .i64 m] [] (.int .i64 (modS n m)) [] false := by
  refine fc_run (nt := 14) Try.func30 rfl rfl mcOk30 (Nat.le_of_ble_eq_true rfl) ?_
  delta mc30
  refine aw_seq ?_
  refine aw_reg ?_
  refine rs_mv rfl rfl ?_
  refine rs_nil fun _ => ?_
  refine th_n ?_
  refine aw_seq ?_
  refine aw_seq ?_
  refine aw_reg ?_
  refine rs_mv rfl rfl ?_
  refine rs_lss rfl rfl rfl ?_
  refine rs_nil fun _ => ?_
  refine th_n ?_
  refine aw_cond rfl (fun h6 => ?_) (fun h6 => ?_)
  · first | replace h6 := of_decide_eq_true h6 | skip
    have hr : modS n m = 0 := if_pos h6
    refine aw_seq ?_
    refine aw_reg ?_
    refine rs_mv rfl rfl ?_
    refine rs_nil fun _ => ?_
    refine th_n ?_
    refine aw_ret ?_
    refine th_r ?_
    exact ret_pure rfl (by rw [hr]; first | rfl | exact congrArg _ (mod_eq n m (by omega))) rfl (.inr rfl)
  · first | replace h6 := of_decide_eq_false h6 | skip
    have hr : modS n m = n % m := if_neg h6
    have ht := tmod_range n m (by omega)
    refine aw_skip ?_
    refine th_n ?_
    refine aw_seq ?_
    refine aw_reg ?_
    refine rs_mv rfl rfl ?_
    refine rs_mv rfl rfl ?_
    refine rs_rem rfl rfl rfl (by omega) rfl ?_
    refine rs_mv rfl rfl ?_
    refine rs_add rfl rfl rfl (by omega) ?_
    refine rs_mv rfl rfl ?_
    refine rs_rem rfl rfl rfl (by omega) rfl ?_
    refine rs_mv rfl rfl ?_
    refine rs_nil fun _ => ?_
    refine th_n ?_
    refine aw_ret ?_
    exact ret_pure rfl (by rw [hr]; first | rfl | exact congrArg _ (mod_eq n m (by omega))) rfl (.inr rfl)

def mc55 : MC := (.seq (.reg [⟨(some 4), (.mv (.c (.bool false))), none, []⟩] false) (.seq (.reg [⟨(some 5), (.mv (.t 0)), none, []⟩, ⟨(some 6), (.mv (.t 1)), none, []⟩, ⟨(some 7), (.bin .shr (.t 5) (.t 6)), none, [0, 1]⟩, ⟨(some 8), (.bin .and (.t 7) (.c (.int .i64 1))), none, [2]⟩, ⟨(some 9), (.bin .eql (.t 8) (.c (.int .i64 1))), none, [3]⟩, ⟨(some 4), (.mv (.t 9)), none, [4, 0, 1, 2, 3, 4]⟩] false) .ret))
theorem mcOk55 : (match Try.f55.body with | some c => compC Try.prog 10 c | none => none) = some mc55 := by kernel_rfl

theorem fc55 (s p : Nat) (hs : s < 256) (hp : p < 8) : FC Try.prog 55 [.int .i64 (s : Int), .int .i64 (p : Int)] [] (.bool (hasS s p)) [] false := by
  refine fc_run (nt := 10) Try.func55 rfl rfl mcOk55 (Nat.le_of_ble_eq_true rfl) ?_
  delta mc55
  refine aw_seq ?_
  refine aw_reg ?_
  refine rs_mv rfl rfl ?_
  refine rs_nil fun _ => ?_
  refine th_n ?_
  refine aw_seq ?_
  refine aw_reg ?_
  refine rs_mv rfl rfl ?_
  refine rs_mv rfl rfl ?_
  refine rs_shr rfl rfl rfl (by omega) rfl ?_
  refine rs_and rfl rfl rfl rfl ?_
  refine rs_eql rfl rfl rfl ?_
  refine rs_mv rfl rfl ?_
  refine rs_nil fun _ => ?_
  refine th_n ?_
  refine aw_ret ?_
  exact ret_pure rfl (congrArg AV.bool (has_bits s hs p hp)) rfl (.inr rfl)

def mc53 : MC := (.seq (.reg [⟨(some 2), (.mv (.c (.int .i64 0))), none, []⟩] false) (.seq (.reg [⟨(some 3), (.mv (.c (.int .i64 0))), none, []⟩] false) (.seq (.seq (.reg [⟨(some 4), (.mv (.c (.int .i64 0))), none, []⟩] false) (.block 0 (.loop (.seq (.seq (.reg [⟨(some 5), (.mv (.t 4)), none, []⟩, ⟨(some 6), (.bin .lss (.t 5) (.c (.int .i64 8))), none, [0]⟩] false) (.cond (.t 6) .skip (.exit 0))) (.seq (.block 1 (.seq (.reg [⟨(some 9), (.mv (.t 0)), none, []⟩, ⟨(some 10), (.mv (.t 4)), none, []⟩, ⟨(some 11), (.call 55 [(.t 9), (.t 10)]), none, [0, 1]⟩] false) (.cond (.t 11) (.reg [⟨(some 12), (.mv (.t 3)), none, []⟩, ⟨(some 13), (.bin .add (.t 12) (.c (.int .i64 1))), none, [0]⟩, ⟨(some 3), (.mv (.t 13)), none, [1, 0, 1]⟩] false) .skip))) (.reg [⟨(some 7), (.mv (.t 4)), none, []⟩, ⟨(some 8), (.bin .add (.t 7) (.c (.int .i64 1))), none, [0]⟩, ⟨(some 4), (.mv (.t 8)), none, [1, 0, 1]⟩] false)))))) (.seq (.reg [⟨(some 14), (.mv (.t 3)), none, []⟩, ⟨(some 2), (.mv (.t 14)), none, [0, 0]⟩] false) .ret))))
theorem mcOk53 : (match Try.f53.body with | some c => compC Try.prog 15 c | none => none) = some mc53 := by kernel_rfl

theorem fc53 (s : Nat) (hs : s < 256) : FC Try.prog 53 [.int .i64 (s : Int)] [] (.int .i64 (sizeS s 8)) [] false := by
  refine fc_run (nt := 15) Try.func53 rfl rfl mcOk53 (Nat.le_of_ble_eq_true rfl) ?_
  delta mc53
  refine aw_seq ?_
  refine aw_reg ?_
  refine rs_mv rfl rfl ?_
  refine rs_nil fun _ => ?_
  refine th_n ?_
  refine aw_seq ?_
  refine aw_reg ?_
  refine rs_mv rfl rfl ?_
  refine rs_nil fun _ => ?_
  refine th_n ?_
  refine aw_seq ?_
  refine aw_seq ?_
  refine aw_reg ?_
  refine rs_mv rfl rfl ?_
  refine rs_nil fun _ => ?_
  refine th_n ?_
  refine aw_block ?_
  refine aw_fam (α := Nat) (fun k => 8 - k) (fun k => [(0, .int .i64 (s : Int)), (3, .int .i64 (sizeS s k)), (4, .int .i64 (k : Int))]) (fun _ => []) (fun k => k ≤ 8) 0 (by omega)
    (weak_to (.cons rfl (rc_same rfl (.inl rfl)) (.cons rfl (rc_same rfl (.inl rfl)) (.cons rfl (rc_same rfl (.inl rfl)) (.nil)))) .nil (fun i h => by cases h)) ?_
  intro k hk
  have hsz := sizeS_le s k
  refine aw_seq ?_
  refine aw_seq ?_
  refine aw_reg ?_
  refine rs_mv rfl rfl ?_
  refine rs_lss rfl rfl rfl ?_
  refine rs_nil fun _ => ?_
  refine th_n ?_
  refine aw_cond rfl (fun h6 => ?_) (fun h6 => ?_)
  · first | replace h6 := of_decide_eq_true h6 | skip
    refine aw_skip ?_
    refine th_n ?_
    refine aw_seq ?_
    refine aw_block ?_
    refine aw_seq ?_
    refine aw_reg ?_
    refine rs_mv rfl rfl ?_
    refine rs_mv rfl rfl ?_
    refine rs_calln [] rfl rfl (fc55 s k hs (by omega)) (.cons (hv_same rfl) (.cons (hv_same rfl) (.nil))) rfl ?_
    refine rs_nil fun _ => ?_
    refine th_n ?_
    refine aw_cond rfl (fun h11 => ?_) (fun h11 => ?_)
    · first | replace h11 := of_decide_eq_true h11 | skip
      refine aw_reg ?_
      refine rs_mv rfl rfl ?_
      refine rs_add rfl rfl rfl (by omega) ?_
      refine rs_mv rfl rfl ?_
      refine rs_nil fun _ => ?_
      refine in_n ?_
      refine th_n ?_
      refine aw_reg ?_
      refine rs_mv rfl rfl ?_
      refine rs_add rfl rfl rfl (by omega) ?_
      refine rs_mv rfl rfl ?_
      refine rs_nil fun _ => ?_
      refine th_n ?_
      exact ⟨k + 1, by omega, by omega, weak_to (.cons rfl (rc_same rfl (.inl rfl)) (.cons rfl (rc_int (by simp [sizeS, h11])) (.cons rfl (rc_same rfl (.inl rfl)) (.nil)))) (.nil) (fun i h => by cases h)⟩
    · first | replace h11 := of_decide_eq_false h11 | skip
      refine aw_skip ?_
      refine in_n ?_
      refine th_n ?_
      refine aw_reg ?_
      refine rs_mv rfl rfl ?_
      refine rs_add rfl rfl rfl (by omega) ?_
      refine rs_mv rfl rfl ?_
      refine rs_nil fun _ => ?_
      refine th_n ?_
      exact ⟨k + 1, by omega, by omega, weak_to (.cons rfl (rc_same rfl (.inl rfl)) (.cons rfl (rc_int (by simp [sizeS, h11])) (.cons rfl (rc_same rfl (.inl rfl)) (.nil)))) (.nil) (fun i h => by cases h)⟩
  · first | replace h6 := of_decide_eq_false h6 | skip
    refine aw_exit ?_
    refine th_e ?_
    refine th_e ?_
    refine in_hit ?_
    refine th_n ?_
    refine aw_seq ?_
    refine aw_reg ?_
    refine rs_mv rfl rfl ?_
    refine rs_mv rfl rfl ?_
    refine rs_nil fun _ => ?_
    refine th_n ?_
    refine aw_ret ?_
    obtain rfl : k = 8 := by omega
    exact ret_pure rfl rfl rfl (.inr rfl)

/-- Lists of numbers, as values. -/
abbrev ints (xs : List Int) : AV := .rs 1 (xs.map ci)
def sameS (xs ys : List Int) : Bool := decide (xs = ys)

def mc23 : MC := (.seq (.reg [⟨(some 4), (.mv (.c (.bool false))), none, []⟩] false) (.seq (.seq (.reg [⟨(some 6), (.mv (.t 0)), none, []⟩, ⟨(some 7), (.len (.t 6)), none, [0]⟩, ⟨(some 8), (.mv (.t 1)), none, []⟩, ⟨(some 9), (.len (.t 8)), none, [2]⟩, ⟨(some 10), (.bin .neq (.t 7) (.t 9)), none, [1, 3]⟩] false) (.cond (.t 10) (.seq (.reg [⟨(some 4), (.mv (.c (.bool false))), none, []⟩] false) .ret) .skip)) (.seq (.seq (.reg [⟨(some 5), (.mv (.c (.int .i64 0))), none, []⟩] false) (.block 0 (.loop (.seq (.seq (.reg [⟨(some 11), (.mv (.t 5)), none, []⟩, ⟨(some 12), (.mv (.t 0)), none, []⟩, ⟨(some 13), (.len (.t 12)), none, [1]⟩, ⟨(some 14), (.bin .lss (.t 11) (.t 13)), none, [0, 2]⟩] false) (.cond (.t 14) .skip (.exit 0))) (.seq (.block 1 (.seq (.reg [⟨(some 17), (.mv (.t 0)), none, []⟩, ⟨(some 18), (.mv (.t 5)), none, []⟩, ⟨(some 19), (.ixsl 1 (.t 17) (.t 18)), none, [0, 1]⟩, ⟨(some 20), (.ld false 1 (.t 19)), none, [2]⟩, ⟨(some 21), (.mv (.t 1)), none, []⟩, ⟨(some 22), (.mv (.t 5)), none, []⟩, ⟨(some 23), (.ixsl 1 (.t 21) (.t 22)), none, [4, 5]⟩, ⟨(some 24), (.ld false 1 (.t 23)), none, [6]⟩, ⟨(some 25), (.bin .neq (.t 20) (.t 24)), none, [3, 7]⟩] true) (.cond (.t 25) (.seq (.reg [⟨(some 4), (.mv (.c (.bool false))), none, []⟩] false) .ret) .skip))) (.reg [⟨(some 15), (.mv (.t 5)), none, []⟩, ⟨(some 16), (.bin .add (.t 15) (.c (.int .i64 1))), none, [0]⟩, ⟨(some 5), (.mv (.t 16)), none, [1, 0, 1]⟩] false)))))) (.seq (.reg [⟨(some 4), (.mv (.c (.bool true))), none, []⟩] false) .ret))))
theorem mcOk23 : (match Try.f23.body with | some c => compC Try.prog 26 c | none => none) = some mc23 := by kernel_rfl

theorem fc23 (xs ys : List Int) (hx : xs.length ≤ 4611686018427387904) : FC Try.prog 23 [ints xs, ints ys] [] (.bool (sameS xs ys)) [] false := by
  refine fc_run (nt := 26) Try.func23 rfl rfl mcOk23 (Nat.le_of_ble_eq_true rfl) ?_
  delta mc23
  refine aw_seq ?_
  refine aw_reg ?_
  refine rs_mv rfl rfl ?_
  refine rs_nil fun _ => ?_
  refine th_n ?_
  refine aw_seq ?_
  refine aw_seq ?_
  refine aw_reg ?_
  refine rs_mv rfl rfl ?_
  first | refine rs_len_m rfl rfl ?_ | refine rs_len_s rfl rfl ?_ | refine rs_len_n rfl rfl ?_ | refine rs_len_r rfl rfl rfl ?_
  refine rs_mv rfl rfl ?_
  first | refine rs_len_m rfl rfl ?_ | refine rs_len_s rfl rfl ?_ | refine rs_len_n rfl rfl ?_ | refine rs_len_r rfl rfl rfl ?_
  refine rs_neq rfl rfl rfl ?_
  refine rs_nil fun _ => ?_
  refine th_n ?_
  refine aw_cond rfl (fun h10 => ?_) (fun h10 => ?_)
  · first | replace h10 := of_decide_eq_true h10 | skip
    refine aw_seq ?_
    refine aw_reg ?_
    refine rs_mv rfl rfl ?_
    refine rs_nil fun _ => ?_
    refine th_n ?_
    refine aw_ret ?_
    refine th_r ?_
    first
      | exact ret_pure rfl (congrArg AV.bool (Eq.symm (decide_eq_false (fun e => by subst e; omega)))) rfl (.inr rfl)
      | exact ret_pure rfl (congrArg AV.bool (Eq.symm (decide_eq_true (List.ext_getElem? fun j => by
          by_cases e : j < k
          · exact hj j e
          · rw [List.getElem?_eq_none (by omega), List.getElem?_eq_none (by omega)])))) rfl (.inr rfl)
  · first | replace h10 := of_decide_eq_false h10 | skip
    refine aw_skip ?_
    refine th_n ?_
    refine aw_seq ?_
    refine aw_seq ?_
    refine aw_reg ?_
    refine rs_mv rfl rfl ?_
    refine rs_nil fun _ => ?_
    refine th_n ?_
    refine aw_block ?_
    refine aw_fam (α := Nat) (fun k => xs.length - k) (fun k => [(0, ints xs), (1, ints ys), (5, .int .i64 (k : Int))]) (fun _ => []) (fun k => k ≤ xs.length ∧ ∀ j, j < k → xs[j]? = ys[j]?) 0 ⟨by omega, fun j h => by omega⟩
      (weak_to (.cons rfl (rc_same rfl (.inl rfl)) (.cons rfl (rc_same rfl (.inl rfl)) (.cons rfl (rc_same rfl (.inl rfl)) (.nil)))) .nil (fun i h => by cases h)) ?_
    rintro k ⟨hk, hj⟩
    have hlen : xs.length = ys.length := by omega
    refine aw_seq ?_
    refine aw_seq ?_
    refine aw_reg ?_
    refine rs_mv rfl rfl ?_
    refine rs_mv rfl rfl ?_
    first | refine rs_len_m rfl rfl ?_ | refine rs_len_s rfl rfl ?_ | refine rs_len_n rfl rfl ?_ | refine rs_len_r rfl rfl rfl ?_
    refine rs_lss rfl rfl rfl ?_
    refine rs_nil fun _ => ?_
    refine th_n ?_
    refine aw_cond rfl (fun h14 => ?_) (fun h14 => ?_)
    · first | replace h14 := of_decide_eq_true h14 | skip
      refine aw_skip ?_
      refine th_n ?_
      refine aw_seq ?_
      refine aw_block ?_
      refine aw_seq ?_
      refine aw_draw hmix ?_
      refine rs_mv rfl rfl ?_
      refine rs_mv rfl rfl ?_
      first | refine rs_ix_m rfl rfl rfl (by omega) ?_ | refine rs_ix_sm rfl rfl rfl rfl (by omega) ?_
      first | refine rs_ld_r rfl rfl rfl ?_ | refine rs_ld_p rfl rfl rfl rfl rfl ?_ | refine rs_ld_m rfl rfl rfl (by omega) rfl ?_
      refine rs_mv rfl rfl ?_
      refine rs_mv rfl rfl ?_
      first | refine rs_ix_m rfl rfl rfl (by omega) ?_ | refine rs_ix_sm rfl rfl rfl rfl (by omega) ?_
      first | refine rs_ld_r rfl rfl rfl ?_ | refine rs_ld_p rfl rfl rfl rfl rfl ?_ | refine rs_ld_m rfl rfl rfl (by omega) rfl ?_
      refine rs_neq rfl rfl rfl ?_
      refine rs_nil ⟨rfl, fun _ => ?_⟩
      refine th_n ?_
      refine aw_cond rfl (fun h25 => ?_) (fun h25 => ?_)
      · first | replace h25 := of_decide_eq_true h25 | skip
        refine aw_seq ?_
        refine aw_reg ?_
        refine rs_mv rfl rfl ?_
        refine rs_nil fun _ => ?_
        refine th_n ?_
        refine aw_ret ?_
        refine in_r ?_
        refine th_r ?_
        refine th_r ?_
        refine in_r ?_
        refine th_r ?_
        first
          | exact ret_pure rfl (congrArg AV.bool (Eq.symm (decide_eq_false (fun e => by subst e; omega)))) rfl (.inr rfl)
          | exact ret_pure rfl (congrArg AV.bool (Eq.symm (decide_eq_true (List.ext_getElem? fun j => by
              by_cases e : j < k
              · exact hj j e
              · rw [List.getElem?_eq_none (by omega), List.getElem?_eq_none (by omega)])))) rfl (.inr rfl)
      · first | replace h25 := of_decide_eq_false h25 | skip
        refine aw_skip ?_
        refine in_n ?_
        refine th_n ?_
        refine aw_reg ?_
        refine rs_mv rfl rfl ?_
        refine rs_add rfl rfl rfl (by omega) ?_
        refine rs_mv rfl rfl ?_
        refine rs_nil fun _ => ?_
        refine th_n ?_
        refine ⟨k + 1, ⟨by omega, fun j hj1 => ?_⟩, by omega, weak_to (.cons rfl (rc_same rfl (.inl rfl)) (.cons rfl (rc_same rfl (.inl rfl)) (.cons rfl (rc_same rfl (.inl rfl)) (.nil)))) .nil (fun i h => by cases h)⟩
        by_cases e : j = k
        · subst e; rw [List.getElem?_eq_getElem (by omega), List.getElem?_eq_getElem (by omega)]; exact congrArg some (by omega)
        · exact hj j (by omega)
    · first | replace h14 := of_decide_eq_false h14 | skip
      refine aw_exit ?_
      refine th_e ?_
      refine th_e ?_
      refine in_hit ?_
      refine th_n ?_
      refine aw_seq ?_
      refine aw_reg ?_
      refine rs_mv rfl rfl ?_
      refine rs_nil fun _ => ?_
      refine th_n ?_
      refine aw_ret ?_
      first
        | exact ret_pure rfl (congrArg AV.bool (Eq.symm (decide_eq_false (fun e => by subst e; omega)))) rfl (.inr rfl)
        | exact ret_pure rfl (congrArg AV.bool (Eq.symm (decide_eq_true (List.ext_getElem? fun j => by
            by_cases e : j < k
            · exact hj j e
            · rw [List.getElem?_eq_none (by omega), List.getElem?_eq_none (by omega)])))) rfl (.inr rfl)

/-- A draw of numbers: what comes next, and where it stands then. -/
def nextV (L : List Int) (k : Nat) (n : Int) : Int := match L[k]? with
  | some x => modS x n
  | none => 0
def nextA (L : List Int) (k : Nat) : Nat := if k < L.length then k + 1 else k
abbrev drawOb (e : Nat) (L : List Int) (k : Nat) : Ob := .cells e 2 [[ints L, .int .i64 (k : Int)]] true
theorem modS_range (x n : Int) (h : 1 ≤ n) : 0 ≤ modS x n ∧ modS x n < n := by
  unfold modS
  rw [if_neg (by omega)]
  exact ⟨Int.emod_nonneg _ (by omega), Int.emod_lt_of_pos _ (by omega)⟩
theorem nextV_range (L : List Int) (k : Nat) (n : Int) (h : 1 ≤ n) : 0 ≤ nextV L k n ∧ nextV L k n < n := by
  unfold nextV
  split
  · exact modS_range _ n h
  · omega

def mc56 : MC := (.seq (.reg [⟨(some 4), (.mv (.c (.int .i64 0))), none, []⟩] false) (.seq (.seq (.reg [⟨(some 5), (.mv (.t 0)), none, []⟩, ⟨(some 6), (.nilc (.t 5)), none, [0]⟩, ⟨(some 7), (.fa 1 (.t 6)), none, [1]⟩, ⟨(some 8), (.ld false 1 (.t 7)), none, [2]⟩, ⟨(some 9), (.mv (.t 0)), none, []⟩, ⟨(some 10), (.nilc (.t 9)), none, [4]⟩, ⟨(some 11), (.fa 0 (.t 10)), none, [5]⟩, ⟨(some 12), (.ld false 1 (.t 11)), none, [6]⟩, ⟨(some 13), (.len (.t 12)), none, [7]⟩, ⟨(some 14), (.bin .geq (.t 8) (.t 13)), none, [3, 8]⟩] true) (.cond (.t 14) (.seq (.reg [⟨(some 4), (.mv (.c (.int .i64 0))), none, []⟩] false) .ret) .skip)) (.seq (.reg [⟨(some 15), (.mv (.t 0)), none, []⟩, ⟨(some 16), (.nilc (.t 15)), none, [0]⟩, ⟨(some 17), (.fa 1 (.t 16)), none, [1]⟩, ⟨(some 18), (.ld false 1 (.t 17)), none, [2]⟩, ⟨(some 19), (.bin .add (.t 18) (.c (.int .i64 1))), none, [3]⟩, ⟨(some 20), (.nilc (.t 15)), none, [0, 0, 1, 2, 3, 4]⟩, ⟨(some 21), (.fa 1 (.t 20)), none, [5, 0, 1, 2, 3, 4]⟩, ⟨none, (.st 1 (.t 21) (.t 19)), none, [6, 4, 0, 1, 2, 3, 4]⟩] false) (.seq (.reg [⟨(some 22), (.mv (.t 0)), none, []⟩, ⟨(some 23), (.nilc (.t 22)), none, [0]⟩, ⟨(some 24), (.fa 0 (.t 23)), none, [1]⟩, ⟨(some 25), (.ld false 1 (.t 24)), none, [2]⟩, ⟨(some 26), (.mv (.t 0)), none, []⟩, ⟨(some 27), (.nilc (.t 26)), none, [4]⟩, ⟨(some 28), (.fa 1 (.t 27)), none, [5]⟩, ⟨(some 29), (.ld false 1 (.t 28)), none, [6]⟩, ⟨(some 30), (.bin .sub (.t 29) (.c (.int .i64 1))), none, [7]⟩, ⟨(some 31), (.ixsl 1 (.t 25) (.t 30)), none, [3, 8]⟩, ⟨(some 32), (.ld false 1 (.t 31)), none, [9]⟩, ⟨(some 33), (.mv (.t 1)), none, []⟩, ⟨(some 34), (.call 30 [(.t 32), (.t 33)]), none, [10, 11]⟩, ⟨(some 4), (.mv (.t 34)), none, [12, 12, 0, 1, 2, 3, 4, 5, 6, 7, 8, 9, 10, 11, 12]⟩] true) .ret))))
theorem mcOk56 : (match Try.f56.body with | some c => compC Try.prog 35 c | none => none) = some mc56 := by kernel_rfl

theorem fc56_ (e : Nat) (L : List Int) (k : Nat) (n : Int) (hn : n ≤ 4611686018427387904) (hL : L.length ≤ 4611686018427387904) : FC Try.prog 56 [.ptr 1000 0 0, .int .i64 n] [(1000, drawOb e L k)] (.int .i64 (nextV L k n)) [(1000, drawOb e L (nextA L k))] true := by
  refine fc_run (nt := 35) Try.func56 rfl rfl mcOk56 (Nat.le_of_ble_eq_true rfl) ?_
  delta mc56
  refine aw_seq ?_
  refine aw_reg ?_
  refine rs_mv rfl rfl ?_
  refine rs_nil fun _ => ?_
  refine th_n ?_
  refine aw_seq ?_
  refine aw_seq ?_
  refine aw_draw hmix ?_
  refine rs_mv rfl rfl ?_
  first | refine rs_nilc_p rfl rfl ?_ | refine rs_nilc_r rfl rfl ?_
  first | refine rs_fa_p rfl rfl ?_ | refine rs_fa_r rfl rfl rfl ?_
  first | refine rs_ld_r rfl rfl rfl ?_ | refine rs_ld_p rfl rfl rfl rfl rfl ?_ | refine rs_ld_m rfl rfl rfl (by omega) rfl ?_
  refine rs_mv rfl rfl ?_
  first | refine rs_nilc_p rfl rfl ?_ | refine rs_nilc_r rfl rfl ?_
  first | refine rs_fa_p rfl rfl ?_ | refine rs_fa_r rfl rfl rfl ?_
  first | refine rs_ld_r rfl rfl rfl ?_ | refine rs_ld_p rfl rfl rfl rfl rfl ?_ | refine rs_ld_m rfl rfl rfl (by omega) rfl ?_
  first | refine rs_len_m rfl rfl ?_ | refine rs_len_s rfl rfl ?_ | refine rs_len_n rfl rfl ?_ | refine rs_len_r rfl rfl rfl ?_
  refine rs_geq rfl rfl rfl ?_
  refine rs_nil ⟨rfl, fun _ => ?_⟩
  refine th_n ?_
  refine aw_cond rfl (fun h14 => ?_) (fun h14 => ?_)
  · first | replace h14 := of_decide_eq_true h14 | skip
    have e1 : nextV L k n = 0 := by unfold nextV; rw [List.getElem?_eq_none (by omega)]
    have e2 : nextA L k = k := if_neg (by omega)
    rw [e1, e2]
    refine aw_seq ?_
    refine aw_reg ?_
    refine rs_mv rfl rfl ?_
    refine rs_nil fun _ => ?_
    refine th_n ?_
    refine aw_ret ?_
    refine th_r ?_
    exact ret_own rfl (rc_same rfl (.inl rfl)) (.keep rfl rfl .nil) (.cons rfl rfl rfl .nil)
  · first | replace h14 := of_decide_eq_false h14 | skip
    have hk : k < L.length := by omega
    have e1 : nextV L k n = modS L[k] n := by unfold nextV; rw [List.getElem?_eq_getElem hk]
    have e2 : nextA L k = k + 1 := if_pos hk
    rw [e1, e2]
    refine aw_skip ?_
    refine th_n ?_
    refine aw_seq ?_
    refine aw_reg ?_
    refine rs_mv rfl rfl ?_
    first | refine rs_nilc_p rfl rfl ?_ | refine rs_nilc_r rfl rfl ?_
    first | refine rs_fa_p rfl rfl ?_ | refine rs_fa_r rfl rfl rfl ?_
    first | refine rs_ld_r rfl rfl rfl ?_ | refine rs_ld_p rfl rfl rfl rfl rfl ?_ | refine rs_ld_m rfl rfl rfl (by omega) rfl ?_
    refine rs_add rfl rfl rfl (by omega) ?_
    first | refine rs_nilc_p rfl rfl ?_ | refine rs_nilc_r rfl rfl ?_
    first | refine rs_fa_p rfl rfl ?_ | refine rs_fa_r rfl rfl rfl ?_
    refine rs_st rfl rfl rfl rfl rfl rfl rfl (Nat.le_of_ble_eq_true rfl) rfl rfl ?_
    refine rs_nil fun _ => ?_
    refine th_n ?_
    refine aw_seq ?_
    refine aw_draw hmix ?_
    refine rs_mv rfl rfl ?_
    first | refine rs_nilc_p rfl rfl ?_ | refine rs_nilc_r rfl rfl ?_
    first | refine rs_fa_p rfl rfl ?_ | refine rs_fa_r rfl rfl rfl ?_
    first | refine rs_ld_r rfl rfl rfl ?_ | refine rs_ld_p rfl rfl rfl rfl rfl ?_ | refine rs_ld_m rfl rfl rfl (by omega) rfl ?_
    refine rs_mv rfl rfl ?_
    first | refine rs_nilc_p rfl rfl ?_ | refine rs_nilc_r rfl rfl ?_
    first | refine rs_fa_p rfl rfl ?_ | refine rs_fa_r rfl rfl rfl ?_
    first | refine rs_ld_r rfl rfl rfl ?_ | refine rs_ld_p rfl rfl rfl rfl rfl ?_ | refine rs_ld_m rfl rfl rfl (by omega) rfl ?_
    refine rs_sub (b := 1) (a := ((k + 1 : Nat) : Int)) rfl rfl rfl (by omega) ?_
    refine rs_ix_m (t := k) rfl rfl (congrArg (fun x => some (AV.int .i64 x)) (by omega)) (by omega) ?_
    first | refine rs_ld_r rfl rfl rfl ?_ | refine rs_ld_p rfl rfl rfl rfl rfl ?_ | refine rs_ld_m rfl rfl rfl (by omega) rfl ?_
    refine rs_mv rfl rfl ?_
    refine rs_calln [] rfl rfl (fc30 L[k] n hn) (.cons (hv_same rfl) (.cons (hv_same rfl) (.nil))) rfl ?_
    refine rs_mv rfl rfl ?_
    refine rs_nil ⟨rfl, fun _ => ?_⟩
    refine th_n ?_
    refine aw_ret ?_
    exact ret_own rfl (rc_same rfl (.inl rfl)) (.keep rfl rfl .nil) (.cons rfl rfl rfl .nil)

theorem fc56 (i e : Nat) (L : List Int) (k : Nat) (n : Int) (hn : n ≤ 4611686018427387904) (hL : L.length ≤ 4611686018427387904) : FC Try.prog 56 [.ptr i 0 0, .int .i64 n] [(i, drawOb e L k)] (.int .i64 (nextV L k n)) [(i, drawOb e L (nextA L k))] true :=
  fc_ren (swp 1000 i) (swp_swp _ _) (fc56_ e L k n hn hL) (.cons (.ptr (by simp [swp])) (.cons (.closed rfl) .nil)) (.cons (by simp [swp]) .flat .nil) (.closed rfl) (.cons (by simp [swp]) .flat .nil)

end Go.Proofs.Ytadjdnhnbkcakaa
