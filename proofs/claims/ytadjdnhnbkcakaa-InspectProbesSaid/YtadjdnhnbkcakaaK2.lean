/-
  Parts of the proof: A0 A1 A2 A3 A4 A5 A6 A7.
-/
import Derived.Test.YtadjdnhnbkcakaaK1
import Derived.Test.YtadjdnhnbkcakaaProg
set_option linter.unusedVariables false

/-! Walks: A0. -/
namespace Go.Proofs.Ytadjdnhnbkcakaa
open Go.RowKit

theorem hmix : Try.prog.follows .mixedOrders = true := by kernel_rfl

theorem tmod_range (n m : Int) (h : 1 ≤ m) : -m < n.tmod m ∧ n.tmod m < m := by
  have h1 := Int.tmod_lt_of_pos n (show (0 : Int) < m by omega)
  have h2 := Int.tmod_lt_of_pos (-n) (show (0 : Int) < m by omega)
  rw [Int.neg_tmod] at h2
  omega

theorem mod_eq (n m : Int) (h : 1 ≤ m) : (n.tmod m + m).tmod m = n % m := by
  have h1 := tmod_range n m h
  rw [Int.tmod_eq_emod_of_nonneg (by omega), Int.add_emod_right, Int.tmod_eq_emod]
  split
  · simp
  · rw [Int.sub_emod]; simp [Int.natAbs_of_nonneg (show 0 ≤ m by omega)]

def modS (n m : Int) : Int := if m < 1 then 0 else n % m

def hasS (s p : Nat) : Bool := s.testBit p
theorem has_bits : ∀ s : Nat, s < 256 → ∀ p : Nat, p < 8 → decide (bits .and .i64 ((s : Int).fdiv (2 ^ min ((p : Int)).toNat 64)) 1 = 1) = hasS s p := by decide +kernel

def sizeS (s : Nat) : Nat → Nat
  | 0 => 0
  | n + 1 => sizeS s n + if hasS s n then 1 else 0
theorem sizeS_le (s : Nat) : ∀ n, sizeS s n ≤ n
  | 0 => Nat.le_refl _
  | n + 1 => by
    have := sizeS_le s n
    simp only [sizeS]
    split <;> omega

def mc30 : MC := (.seq (.reg [⟨(some 4), (.mv (.c (.int .i64 0))), none, []⟩] false) (.seq (.seq (.reg [⟨(some 5), (.mv (.t 1)), none, []⟩, ⟨(some 6), (.bin .lss (.t 5) (.c (.int .i64 1))), none, [0]⟩] false) (.cond (.t 6) (.seq (.reg [⟨(some 4), (.mv (.c (.int .i64 0))), none, []⟩] false) .ret) .skip)) (.seq (.reg [⟨(some 7), (.mv (.t 0)), none, []⟩, ⟨(some 8), (.mv (.t 1)), none, []⟩, ⟨(some 9), (.bin .rem (.t 7) (.t 8)), none, [0, 1]⟩, ⟨(some 10), (.mv (.t 1)), none, []⟩, ⟨(some 11), (.bin .add (.t 9) (.t 10)), none, [2, 3]⟩, ⟨(some 12), (.mv (.t 1)), none, []⟩, ⟨(some 13), (.bin .rem (.t 11) (.t 12)), none, [4, 5]⟩, ⟨(some 4), (.mv (.t 13)), none, [6, 0, 1, 2, 3, 4, 5, 6]⟩] false) .ret)))
theorem mcOk30 : (match Try.f30.body with | some c => compC Try.prog 14 c | none => none) = some mc30 := by kernel_rfl

theorem fc30 (n m : Int) (hm : m ≤ 4611686018427387904) : FC Try.prog 30 [.int .i64 n, .int .i64 m] [] (.int .i64 (modS n m)) [] false := by
  refine fc_run (nt := 14) Try.func30 rfl rfl mcOk30 (Nat.le_of_ble_eq_true rfl) ?_
  delta mc30
  refine aw_seq ?_
  refine aw_reg ?_
  refine rs_mv rfl rfl ?_
  refine rs_nil fun _ => ?_
  refine th_n ?_
  refine aw_seq ?_
  refine aw_seq ?_
  refine aw_reg ?_
  refine rs_mv rfl rfl ?_
  refine rs_lss rfl rfl rfl ?_
  refine rs_nil fun _ => ?_
  refine th_n ?_
  refine aw_cond rfl (fun h6 => ?_) (fun h6 => ?_)
  · first | replace h6 := of_decide_eq_true h6 | skip
    have hr : modS n m = 0 := if_pos h6
    refine aw_seq ?_
    refine aw_reg ?_
    refine rs_mv rfl rfl ?_
    refine rs_nil fun _ => ?_
    refine th_n ?_
    refine aw_ret ?_
    refine th_r ?_
    exact ret_pure rfl (by rw [hr]; first | rfl | exact congrArg _ (mod_eq n m (by omega))) rfl (.inr rfl)
  · first | replace h6 := of_decide_eq_false h6 | skip
    have hr : modS n m = n % m := if_neg h6
    have ht := tmod_range n m (by omega)
    refine aw_skip ?_
    refine th_n ?_
    refine aw_seq ?_
    refine aw_reg ?_
    refine rs_mv rfl rfl ?_
    refine rs_mv rfl rfl ?_
    refine rs_rem rfl rfl rfl (by omega) rfl ?_
    refine rs_mv rfl rfl ?_
    refine rs_add rfl rfl rfl (by omega) ?_
    refine rs_mv rfl rfl ?_
    refine rs_rem rfl rfl rfl (by omega) rfl ?_
    refine rs_mv rfl rfl ?_
    refine rs_nil fun _ => ?_
    refine th_n ?_
    refine aw_ret ?_
    exact ret_pure rfl (by rw [hr]; first | rfl | exact congrArg _ (mod_eq n m (by omega))) rfl (.inr rfl)

def mc55 : MC := (.seq (.reg [⟨(some 4), (.mv (.c (.bool false))), none, []⟩] false) (.seq (.reg [⟨(some 5), (.mv (.t 0)), none, []⟩, ⟨(some 6), (.mv (.t 1)), none, []⟩, ⟨(some 7), (.bin .shr (.t 5) (.t 6)), none, [0, 1]⟩, ⟨(some 8), (.bin .and (.t 7) (.c (.int .i64 1))), none, [2]⟩, ⟨(some 9), (.bin .eql (.t 8) (.c (.int .i64 1))), none, [3]⟩, ⟨(some 4), (.mv (.t 9)), none, [4, 0, 1, 2, 3, 4]⟩] false) .ret))
theorem mcOk55 : (match Try.f55.body with | some c => compC Try.prog 10 c | none => none) = some mc55 := by kernel_rfl

theorem fc55 (s p : Nat) (hs : s < 256) (hp : p < 8) : FC Try.prog 55 [.int .i64 (s : Int), .int .i64 (p : Int)] [] (.bool (hasS s p)) [] false := by
  refine fc_run (nt := 10) Try.func55 rfl rfl mcOk55 (Nat.le_of_ble_eq_true rfl) ?_
  delta mc55
  refine aw_seq ?_
  refine aw_reg ?_
  refine rs_mv rfl rfl ?_
  refine rs_nil fun _ => ?_
  refine th_n ?_
  refine aw_seq ?_
  refine aw_reg ?_
  refine rs_mv rfl rfl ?_
  refine rs_mv rfl rfl ?_
  refine rs_shr rfl rfl rfl (by omega) rfl ?_
  refine rs_and rfl rfl rfl rfl ?_
  refine rs_eql rfl rfl rfl ?_
  refine rs_mv rfl rfl ?_
  refine rs_nil fun _ => ?_
  refine th_n ?_
  refine aw_ret ?_
  exact ret_pure rfl (congrArg AV.bool (has_bits s hs p hp)) rfl (.inr rfl)

def mc53 : MC := (.seq (.reg [⟨(some 2), (.mv (.c (.int .i64 0))), none, []⟩] false) (.seq (.reg [⟨(some 3), (.mv (.c (.int .i64 0))), none, []⟩] false) (.seq (.seq (.reg [⟨(some 4), (.mv (.c (.int .i64 0))), none, []⟩] false) (.block 0 (.loop (.seq (.seq (.reg [⟨(some 5), (.mv (.t 4)), none, []⟩, ⟨(some 6), (.bin .lss (.t 5) (.c (.int .i64 8))), none, [0]⟩] false) (.cond (.t 6) .skip (.exit 0))) (.seq (.block 1 (.seq (.reg [⟨(some 9), (.mv (.t 0)), none, []⟩, ⟨(some 10), (.mv (.t 4)), none, []⟩, ⟨(some 11), (.call 55 [(.t 9), (.t 10)]), none, [0, 1]⟩] false) (.cond (.t 11) (.reg [⟨(some 12), (.mv (.t 3)), none, []⟩, ⟨(some 13), (.bin .add (.t 12) (.c (.int .i64 1))), none, [0]⟩, ⟨(some 3), (.mv (.t 13)), none, [1, 0, 1]⟩] false) .skip))) (.reg [⟨(some 7), (.mv (.t 4)), none, []⟩, ⟨(some 8), (.bin .add (.t 7) (.c (.int .i64 1))), none, [0]⟩, ⟨(some 4), (.mv (.t 8)), none, [1, 0, 1]⟩] false)))))) (.seq (.reg [⟨(some 14), (.mv (.t 3)), none, []⟩, ⟨(some 2), (.mv (.t 14)), none, [0, 0]⟩] false) .ret))))
theorem mcOk53 : (match Try.f53.body with | some c => compC Try.prog 15 c | none => none) = some mc53 := by kernel_rfl

theorem fc53 (s : Nat) (hs : s < 256) : FC Try.prog 53 [.int .i64 (s : Int)] [] (.int .i64 (sizeS s 8)) [] false := by
  refine fc_run (nt := 15) Try.func53 rfl rfl mcOk53 (Nat.le_of_ble_eq_true rfl) ?_
  delta mc53
  refine aw_seq ?_
  refine aw_reg ?_
  refine rs_mv rfl rfl ?_
  refine rs_nil fun _ => ?_
  refine th_n ?_
  refine aw_seq ?_
  refine aw_reg ?_
  refine rs_mv rfl rfl ?_
  refine rs_nil fun _ => ?_
  refine th_n ?_
  refine aw_seq ?_
  refine aw_seq ?_
  refine aw_reg ?_
  refine rs_mv rfl rfl ?_
  refine rs_nil fun _ => ?_
  refine th_n ?_
  refine aw_block ?_
  refine aw_fam (α := Nat) (fun k => 8 - k) (fun k => [(0, .int .i64 (s : Int)), (3, .int .i64 (sizeS s k)), (4, .int .i64 (k : Int))]) (fun _ => []) (fun k => k ≤ 8) 0 (by omega)
    (weak_to (.cons rfl (rc_same rfl (.inl rfl)) (.cons rfl (rc_same rfl (.inl rfl)) (.cons rfl (rc_same rfl (.inl rfl)) (.nil)))) .nil (fun i h => by cases h)) ?_
  intro k hk
  have hsz := sizeS_le s k
  refine aw_seq ?_
  refine aw_seq ?_
  refine aw_reg ?_
  refine rs_mv rfl rfl ?_
  refine rs_lss rfl rfl rfl ?_
  refine rs_nil fun _ => ?_
  refine th_n ?_
  refine aw_cond rfl (fun h6 => ?_) (fun h6 => ?_)
  · first | replace h6 := of_decide_eq_true h6 | skip
    refine aw_skip ?_
    refine th_n ?_
    refine aw_seq ?_
    refine aw_block ?_
    refine aw_seq ?_
    refine aw_reg ?_
    refine rs_mv rfl rfl ?_
    refine rs_mv rfl rfl ?_
    refine rs_calln [] rfl rfl (fc55 s k hs (by omega)) (.cons (hv_same rfl) (.cons (hv_same rfl) (.nil))) rfl ?_
    refine rs_nil fun _ => ?_
    refine th_n ?_
    refine aw_cond rfl (fun h11 => ?_) (fun h11 => ?_)
    · first | replace h11 := of_decide_eq_true h11 | skip
      refine aw_reg ?_
      refine rs_mv rfl rfl ?_
      refine rs_add rfl rfl rfl (by omega) ?_
      refine rs_mv rfl rfl ?_
      refine rs_nil fun _ => ?_
      refine in_n ?_
      refine th_n ?_
      refine aw_reg ?_
      refine rs_mv rfl rfl ?_
      refine rs_add rfl rfl rfl (by omega) ?_
      refine rs_mv rfl rfl ?_
      refine rs_nil fun _ => ?_
      refine th_n ?_
      exact ⟨k + 1, by omega, by omega, weak_to (.cons rfl (rc_same rfl (.inl rfl)) (.cons rfl (rc_int (by simp [sizeS, h11])) (.cons rfl (rc_same rfl (.inl rfl)) (.nil)))) (.nil) (fun i h => by cases h)⟩
    · first | replace h11 := of_decide_eq_false h11 | skip
      refine aw_skip ?_
      refine in_n ?_
      refine th_n ?_
      refine aw_reg ?_
      refine rs_mv rfl rfl ?_
      refine rs_add rfl rfl rfl (by omega) ?_
      refine rs_mv rfl rfl ?_
      refine rs_nil fun _ => ?_
      refine th_n ?_
      exact ⟨k + 1, by omega, by omega, weak_to (.cons rfl (rc_same rfl (.inl rfl)) (.cons rfl (rc_int (by simp [sizeS, h11])) (.cons rfl (rc_same rfl (.inl rfl)) (.nil)))) (.nil) (fun i h => by cases h)⟩
  · first | replace h6 := of_decide_eq_false h6 | skip
    refine aw_exit ?_
    refine th_e ?_
    refine th_e ?_
    refine in_hit ?_
    refine th_n ?_
    refine aw_seq ?_
    refine aw_reg ?_
    refine rs_mv rfl rfl ?_
    refine rs_mv rfl rfl ?_
    refine rs_nil fun _ => ?_
    refine th_n ?_
    refine aw_ret ?_
    obtain rfl : k = 8 := by omega
    exact ret_pure rfl rfl rfl (.inr rfl)

/-- Lists of numbers, as values. -/
abbrev ints (xs : List Int) : AV := .rs 1 (xs.map ci)
def sameS (xs ys : List Int) : Bool := decide (xs = ys)

def mc23 : MC := (.seq (.reg [⟨(some 4), (.mv (.c (.bool false))), none, []⟩] false) (.seq (.seq (.reg [⟨(some 6), (.mv (.t 0)), none, []⟩, ⟨(some 7), (.len (.t 6)), none, [0]⟩, ⟨(some 8), (.mv (.t 1)), none, []⟩, ⟨(some 9), (.len (.t 8)), none, [2]⟩, ⟨(some 10), (.bin .neq (.t 7) (.t 9)), none, [1, 3]⟩] false) (.cond (.t 10) (.seq (.reg [⟨(some 4), (.mv (.c (.bool false))), none, []⟩] false) .ret) .skip)) (.seq (.seq (.reg [⟨(some 5), (.mv (.c (.int .i64 0))), none, []⟩] false) (.block 0 (.loop (.seq (.seq (.reg [⟨(some 11), (.mv (.t 5)), none, []⟩, ⟨(some 12), (.mv (.t 0)), none, []⟩, ⟨(some 13), (.len (.t 12)), none, [1]⟩, ⟨(some 14), (.bin .lss (.t 11) (.t 13)), none, [0, 2]⟩] false) (.cond (.t 14) .skip (.exit 0))) (.seq (.block 1 (.seq (.reg [⟨(some 17), (.mv (.t 0)), none, []⟩, ⟨(some 18), (.mv (.t 5)), none, []⟩, ⟨(some 19), (.ixsl 1 (.t 17) (.t 18)), none, [0, 1]⟩, ⟨(some 20), (.ld false 1 (.t 19)), none, [2]⟩, ⟨(some 21), (.mv (.t 1)), none, []⟩, ⟨(some 22), (.mv (.t 5)), none, []⟩, ⟨(some 23), (.ixsl 1 (.t 21) (.t 22)), none, [4, 5]⟩, ⟨(some 24), (.ld false 1 (.t 23)), none, [6]⟩, ⟨(some 25), (.bin .neq (.t 20) (.t 24)), none, [3, 7]⟩] true) (.cond (.t 25) (.seq (.reg [⟨(some 4), (.mv (.c (.bool false))), none, []⟩] false) .ret) .skip))) (.reg [⟨(some 15), (.mv (.t 5)), none, []⟩, ⟨(some 16), (.bin .add (.t 15) (.c (.int .i64 1))), none, [0]⟩, ⟨(some 5), (.mv (.t 16)), none, [1, 0, 1]⟩] false)))))) (.seq (.reg [⟨(some 4), (.mv (.c (.bool true))), none, []⟩] false) .ret))))
theorem mcOk23 : (match Try.f23.body with | some c => compC Try.prog 26 c | none => none) = some mc23 := by kernel_rfl

theorem fc23 (xs ys : List Int) (hx : xs.length ≤ 4611686018427387904) : FC Try.prog 23 [ints xs, ints ys] [] (.bool (sameS xs ys)) [] false := by
  refine fc_run (nt := 26) Try.func23 rfl rfl mcOk23 (Nat.le_of_ble_eq_true rfl) ?_
  delta mc23
  refine aw_seq ?_
  refine aw_reg ?_
  refine rs_mv rfl rfl ?_
  refine rs_nil fun _ => ?_
  refine th_n ?_
  refine aw_seq ?_
  refine aw_seq ?_
  refine aw_reg ?_
  refine rs_mv rfl rfl ?_
  first | refine rs_len_m rfl rfl ?_ | refine rs_len_s rfl rfl ?_ | refine rs_len_n rfl rfl ?_ | refine rs_len_r rfl rfl rfl ?_
  refine rs_mv rfl rfl ?_
  first | refine rs_len_m rfl rfl ?_ | refine rs_len_s rfl rfl ?_ | refine rs_len_n rfl rfl ?_ | refine rs_len_r rfl rfl rfl ?_
  refine rs_neq rfl rfl rfl ?_
  refine rs_nil fun _ => ?_
  refine th_n ?_
  refine aw_cond rfl (fun h10 => ?_) (fun h10 => ?_)
  · first | replace h10 := of_decide_eq_true h10 | skip
    refine aw_seq ?_
    refine aw_reg ?_
    refine rs_mv rfl rfl ?_
    refine rs_nil fun _ => ?_
    refine th_n ?_
    refine aw_ret ?_
    refine th_r ?_
    first
      | exact ret_pure rfl (congrArg AV.bool (Eq.symm (decide_eq_false (fun e => by subst e; omega)))) rfl (.inr rfl)
      | exact ret_pure rfl (congrArg AV.bool (Eq.symm (decide_eq_true (List.ext_getElem? fun j => by
          by_cases e : j < k
          · exact hj j e
          · rw [List.getElem?_eq_none (by omega), List.getElem?_eq_none (by omega)])))) rfl (.inr rfl)
  · first | replace h10 := of_decide_eq_false h10 | skip
    refine aw_skip ?_
    refine th_n ?_
    refine aw_seq ?_
    refine aw_seq ?_
    refine aw_reg ?_
    refine rs_mv rfl rfl ?_
    refine rs_nil fun _ => ?_
    refine th_n ?_
    refine aw_block ?_
    refine aw_fam (α := Nat) (fun k => xs.length - k) (fun k => [(0, ints xs), (1, ints ys), (5, .int .i64 (k : Int))]) (fun _ => []) (fun k => k ≤ xs.length ∧ ∀ j, j < k → xs[j]? = ys[j]?) 0 ⟨by omega, fun j h => by omega⟩
      (weak_to (.cons rfl (rc_same rfl (.inl rfl)) (.cons rfl (rc_same rfl (.inl rfl)) (.cons rfl (rc_same rfl (.inl rfl)) (.nil)))) .nil (fun i h => by cases h)) ?_
    rintro k ⟨hk, hj⟩
    have hlen : xs.length = ys.length := by omega
    refine aw_seq ?_
    refine aw_seq ?_
    refine aw_reg ?_
    refine rs_mv rfl rfl ?_
    refine rs_mv rfl rfl ?_
    first | refine rs_len_m rfl rfl ?_ | refine rs_len_s rfl rfl ?_ | refine rs_len_n rfl rfl ?_ | refine rs_len_r rfl rfl rfl ?_
    refine rs_lss rfl rfl rfl ?_
    refine rs_nil fun _ => ?_
    refine th_n ?_
    refine aw_cond rfl (fun h14 => ?_) (fun h14 => ?_)
    · first | replace h14 := of_decide_eq_true h14 | skip
      refine aw_skip ?_
      refine th_n ?_
      refine aw_seq ?_
      refine aw_block ?_
      refine aw_seq ?_
      refine aw_draw hmix ?_
      refine rs_mv rfl rfl ?_
      refine rs_mv rfl rfl ?_
      first | refine rs_ix_m rfl rfl rfl (by omega) ?_ | refine rs_ix_sm rfl rfl rfl rfl (by omega) ?_
      first | refine rs_ld_r rfl rfl rfl ?_ | refine rs_ld_p rfl rfl rfl rfl rfl ?_ | refine rs_ld_m rfl rfl rfl (by omega) rfl ?_
      refine rs_mv rfl rfl ?_
      refine rs_mv rfl rfl ?_
      first | refine rs_ix_m rfl rfl rfl (by omega) ?_ | refine rs_ix_sm rfl rfl rfl rfl (by omega) ?_
      first | refine rs_ld_r rfl rfl rfl ?_ | refine rs_ld_p rfl rfl rfl rfl rfl ?_ | refine rs_ld_m rfl rfl rfl (by omega) rfl ?_
      refine rs_neq rfl rfl rfl ?_
      refine rs_nil ⟨rfl, fun _ => ?_⟩
      refine th_n ?_
      refine aw_cond rfl (fun h25 => ?_) (fun h25 => ?_)
      · first | replace h25 := of_decide_eq_true h25 | skip
        refine aw_seq ?_
        refine aw_reg ?_
        refine rs_mv rfl rfl ?_
        refine rs_nil fun _ => ?_
        refine th_n ?_
        refine aw_ret ?_
        refine in_r ?_
        refine th_r ?_
        refine th_r ?_
        refine in_r ?_
        refine th_r ?_
        first
          | exact ret_pure rfl (congrArg AV.bool (Eq.symm (decide_eq_false (fun e => by subst e; omega)))) rfl (.inr rfl)
          | exact ret_pure rfl (congrArg AV.bool (Eq.symm (decide_eq_true (List.ext_getElem? fun j => by
              by_cases e : j < k
              · exact hj j e
              · rw [List.getElem?_eq_none (by omega), List.getElem?_eq_none (by omega)])))) rfl (.inr rfl)
      · first | replace h25 := of_decide_eq_false h25 | skip
        refine aw_skip ?_
        refine in_n ?_
        refine th_n ?_
        refine aw_reg ?_
        refine rs_mv rfl rfl ?_
        refine rs_add rfl rfl rfl (by omega) ?_
        refine rs_mv rfl rfl ?_
        refine rs_nil fun _ => ?_
        refine th_n ?_
        refine ⟨k + 1, ⟨by omega, fun j hj1 => ?_⟩, by omega, weak_to (.cons rfl (rc_same rfl (.inl rfl)) (.cons rfl (rc_same rfl (.inl rfl)) (.cons rfl (rc_same rfl (.inl rfl)) (.nil)))) .nil (fun i h => by cases h)⟩
        by_cases e : j = k
        · subst e; rw [List.getElem?_eq_getElem (by omega), List.getElem?_eq_getElem (by omega)]; exact congrArg some (by omega)
        · exact hj j (by omega)
    · first | replace h14 := of_decide_eq_false h14 | skip
      refine aw_exit ?_
      refine th_e ?_
      refine th_e ?_
      refine in_hit ?_
      refine th_n ?_
      refine aw_seq ?_
      refine aw_reg ?_
      refine rs_mv rfl rfl ?_
      refine rs_nil fun _ => ?_
      refine th_n ?_
      refine aw_ret ?_
      first
        | exact ret_pure rfl (congrArg AV.bool (Eq.symm (decide_eq_false (fun e => by subst e; omega)))) rfl (.inr rfl)
        | exact ret_pure rfl (congrArg AV.bool (Eq.symm (decide_eq_true (List.ext_getElem? fun j => by
            by_cases e : j < k
            · exact hj j e
            · rw [List.getElem?_eq_none (by omega), List.getElem?_eq_none (by omega)])))) rfl (.inr rfl)

/-- A draw of numbers: what comes next, and where it stands then. -/
def nextV (L : List Int) (k : Nat) (n : Int) : Int := match L[k]? with
  | some x => modS x n
  | none => 0
def nextA (L : List Int) (k : Nat) : Nat := if k < L.length then k + 1 else k
abbrev drawOb (e : Nat) (L : List Int) (k : Nat) : Ob := .cells e 2 [[ints L, .int .i64 (k : Int)]] true
theorem modS_range (x n : Int) (h : 1 ≤ n) : 0 ≤ modS x n ∧ modS x n < n := by
  unfold modS
  rw [if_neg (by omega)]
  exact ⟨Int.emod_nonneg _ (by omega), Int.emod_lt_of_pos _ (by omega)⟩
theorem nextV_range (L : List Int) (k : Nat) (n : Int) (h : 1 ≤ n) : 0 ≤ nextV L k n ∧ nextV L k n < n := by
  unfold nextV
  split
  · exact modS_range _ n h
  · omega

def mc56 : MC := (.seq (.reg [⟨(some 4), (.mv (.c (.int .i64 0))), none, []⟩] false) (.seq (.seq (.reg [⟨(some 5), (.mv (.t 0)), none, []⟩, ⟨(some 6), (.nilc (.t 5)), none, [0]⟩, ⟨(some 7), (.fa 1 (.t 6)), none, [1]⟩, ⟨(some 8), (.ld false 1 (.t 7)), none, [2]⟩, ⟨(some 9), (.mv (.t 0)), none, []⟩, ⟨(some 10), (.nilc (.t 9)), none, [4]⟩, ⟨(some 11), (.fa 0 (.t 10)), none, [5]⟩, ⟨(some 12), (.ld false 1 (.t 11)), none, [6]⟩, ⟨(some 13), (.len (.t 12)), none, [7]⟩, ⟨(some 14), (.bin .geq (.t 8) (.t 13)), none, [3, 8]⟩] true) (.cond (.t 14) (.seq (.reg [⟨(some 4), (.mv (.c (.int .i64 0))), none, []⟩] false) .ret) .skip)) (.seq (.reg [⟨(some 15), (.mv (.t 0)), none, []⟩, ⟨(some 16), (.nilc (.t 15)), none, [0]⟩, ⟨(some 17), (.fa 1 (.t 16)), none, [1]⟩, ⟨(some 18), (.ld false 1 (.t 17)), none, [2]⟩, ⟨(some 19), (.bin .add (.t 18) (.c (.int .i64 1))), none, [3]⟩, ⟨(some 20), (.nilc (.t 15)), none, [0, 0, 1, 2, 3, 4]⟩, ⟨(some 21), (.fa 1 (.t 20)), none, [5, 0, 1, 2, 3, 4]⟩, ⟨none, (.st 1 (.t 21) (.t 19)), none, [6, 4, 0, 1, 2, 3, 4]⟩] false) (.seq (.reg [⟨(some 22), (.mv (.t 0)), none, []⟩, ⟨(some 23), (.nilc (.t 22)), none, [0]⟩, ⟨(some 24), (.fa 0 (.t 23)), none, [1]⟩, ⟨(some 25), (.ld false 1 (.t 24)), none, [2]⟩, ⟨(some 26), (.mv (.t 0)), none, []⟩, ⟨(some 27), (.nilc (.t 26)), none, [4]⟩, ⟨(some 28), (.fa 1 (.t 27)), none, [5]⟩, ⟨(some 29), (.ld false 1 (.t 28)), none, [6]⟩, ⟨(some 30), (.bin .sub (.t 29) (.c (.int .i64 1))), none, [7]⟩, ⟨(some 31), (.ixsl 1 (.t 25) (.t 30)), none, [3, 8]⟩, ⟨(some 32), (.ld false 1 (.t 31)), none, [9]⟩, ⟨(some 33), (.mv (.t 1)), none, []⟩, ⟨(some 34), (.call 30 [(.t 32), (.t 33)]), none, [10, 11]⟩, ⟨(some 4), (.mv (.t 34)), none, [12, 12, 0, 1, 2, 3, 4, 5, 6, 7, 8, 9, 10, 11, 12]⟩] true) .ret))))
theorem mcOk56 : (match Try.f56.body with | some c => compC Try.prog 35 c | none => none) = some mc56 := by kernel_rfl

theorem fc56_ (e : Nat) (L : List Int) (k : Nat) (n : Int) (hn : n ≤ 4611686018427387904) (hL : L.length ≤ 4611686018427387904) : FC Try.prog 56 [.ptr 1000 0 0, .int .i64 n] [(1000, drawOb e L k)] (.int .i64 (nextV L k n)) [(1000, drawOb e L (nextA L k))] true := by
  refine fc_run (nt := 35) Try.func56 rfl rfl mcOk56 (Nat.le_of_ble_eq_true rfl) ?_
  delta mc56
  refine aw_seq ?_
  refine aw_reg ?_
  refine rs_mv rfl rfl ?_
  refine rs_nil fun _ => ?_
  refine th_n ?_
  refine aw_seq ?_
  refine aw_seq ?_
  refine aw_draw hmix ?_
  refine rs_mv rfl rfl ?_
  first | refine rs_nilc_p rfl rfl ?_ | refine rs_nilc_r rfl rfl ?_
  first | refine rs_fa_p rfl rfl ?_ | refine rs_fa_r rfl rfl rfl ?_
  first | refine rs_ld_r rfl rfl rfl ?_ | refine rs_ld_p rfl rfl rfl rfl rfl ?_ | refine rs_ld_m rfl rfl rfl (by omega) rfl ?_
  refine rs_mv rfl rfl ?_
  first | refine rs_nilc_p rfl rfl ?_ | refine rs_nilc_r rfl rfl ?_
  first | refine rs_fa_p rfl rfl ?_ | refine rs_fa_r rfl rfl rfl ?_
  first | refine rs_ld_r rfl rfl rfl ?_ | refine rs_ld_p rfl rfl rfl rfl rfl ?_ | refine rs_ld_m rfl rfl rfl (by omega) rfl ?_
  first | refine rs_len_m rfl rfl ?_ | refine rs_len_s rfl rfl ?_ | refine rs_len_n rfl rfl ?_ | refine rs_len_r rfl rfl rfl ?_
  refine rs_geq rfl rfl rfl ?_
  refine rs_nil ⟨rfl, fun _ => ?_⟩
  refine th_n ?_
  refine aw_cond rfl (fun h14 => ?_) (fun h14 => ?_)
  · first | replace h14 := of_decide_eq_true h14 | skip
    have e1 : nextV L k n = 0 := by unfold nextV; rw [List.getElem?_eq_none (by omega)]
    have e2 : nextA L k = k := if_neg (by omega)
    rw [e1, e2]
    refine aw_seq ?_
    refine aw_reg ?_
    refine rs_mv rfl rfl ?_
    refine rs_nil fun _ => ?_
    refine th_n ?_
    refine aw_ret ?_
    refine th_r ?_
    exact ret_own rfl (rc_same rfl (.inl rfl)) (.keep rfl rfl .nil) (.cons rfl rfl rfl .nil)
  · first | replace h14 := of_decide_eq_false h14 | skip
    have hk : k < L.length := by omega
    have e1 : nextV L k n = modS L[k] n := by unfold nextV; rw [List.getElem?_eq_getElem hk]
    have e2 : nextA L k = k + 1 := if_pos hk
    rw [e1, e2]
    refine aw_skip ?_
    refine th_n ?_
    refine aw_seq ?_
    refine aw_reg ?_
    refine rs_mv rfl rfl ?_
    first | refine rs_nilc_p rfl rfl ?_ | refine rs_nilc_r rfl rfl ?_
    first | refine rs_fa_p rfl rfl ?_ | refine rs_fa_r rfl rfl rfl ?_
    first | refine rs_ld_r rfl rfl rfl ?_ | refine rs_ld_p rfl rfl rfl rfl rfl ?_ | refine rs_ld_m rfl rfl rfl (by omega) rfl ?_
    refine rs_add rfl rfl rfl (by omega) ?_
    first | refine rs_nilc_p rfl rfl ?_ | refine rs_nilc_r rfl rfl ?_
    first | refine rs_fa_p rfl rfl ?_ | refine rs_fa_r rfl rfl rfl ?_
    refine rs_st rfl rfl rfl rfl rfl rfl rfl (Nat.le_of_ble_eq_true rfl) rfl rfl ?_
    refine rs_nil fun _ => ?_
    refine th_n ?_
    refine aw_seq ?_
    refine aw_draw hmix ?_
    refine rs_mv rfl rfl ?_
    first | refine rs_nilc_p rfl rfl ?_ | refine rs_nilc_r rfl rfl ?_
    first | refine rs_fa_p rfl rfl ?_ | refine rs_fa_r rfl rfl rfl ?_
    first | refine rs_ld_r rfl rfl rfl ?_ | refine rs_ld_p rfl rfl rfl rfl rfl ?_ | refine rs_ld_m rfl rfl rfl (by omega) rfl ?_
    refine rs_mv rfl rfl ?_
    first | refine rs_nilc_p rfl rfl ?_ | refine rs_nilc_r rfl rfl ?_
    first | refine rs_fa_p rfl rfl ?_ | refine rs_fa_r rfl rfl rfl ?_
    first | refine rs_ld_r rfl rfl rfl ?_ | refine rs_ld_p rfl rfl rfl rfl rfl ?_ | refine rs_ld_m rfl rfl rfl (by omega) rfl ?_
    refine rs_sub (b := 1) (a := ((k + 1 : Nat) : Int)) rfl rfl rfl (by omega) ?_
    refine rs_ix_m (t := k) rfl rfl (congrArg (fun x => some (AV.int .i64 x)) (by omega)) (by omega) ?_
    first | refine rs_ld_r rfl rfl rfl ?_ | refine rs_ld_p rfl rfl rfl rfl rfl ?_ | refine rs_ld_m rfl rfl rfl (by omega) rfl ?_
    refine rs_mv rfl rfl ?_
    refine rs_calln [] rfl rfl (fc30 L[k] n hn) (.cons (hv_same rfl) (.cons (hv_same rfl) (.nil))) rfl ?_
    refine rs_mv rfl rfl ?_
    refine rs_nil ⟨rfl, fun _ => ?_⟩
    refine th_n ?_
    refine aw_ret ?_
    exact ret_own rfl (rc_same rfl (.inl rfl)) (.keep rfl rfl .nil) (.cons rfl rfl rfl .nil)

theorem fc56 (i e : Nat) (L : List Int) (k : Nat) (n : Int) (hn : n ≤ 4611686018427387904) (hL : L.length ≤ 4611686018427387904) : FC Try.prog 56 [.ptr i 0 0, .int .i64 n] [(i, drawOb e L k)] (.int .i64 (nextV L k n)) [(i, drawOb e L (nextA L k))] true :=
  fc_ren (swp 1000 i) (swp_swp _ _) (fc56_ e L k n hn hL) (.cons (.ptr (by simp [swp])) (.cons (.closed rfl) .nil)) (.cons (by simp [swp]) .flat .nil) (.closed rfl) (.cons (by simp [swp]) .flat .nil)

end Go.Proofs.Ytadjdnhnbkcakaa

/-! Walks: A1. -/
namespace Go.Proofs.Ytadjdnhnbkcakaa
open Go.RowKit

/-- A reading. -/
structure Rd where
  (probe of_ lo hi : Int)
deriving DecidableEq
abbrev cR (r : Rd) : List AV := [.int .i64 r.probe, .int .i64 r.of_, .int .i64 r.lo, .int .i64 r.hi]
abbrev cL (L : List Int) : List AV := [ints L]
def widS (t : Int) : Int := if t = 0 then 0 else if t = 1 then 1 else if t = 2 then 3 else 9
theorem wid_at (t : Int) (h0 : 0 ≤ t) (h1 : t < 4) : ([ci 0, ci 1, ci 3, ci 9] : List (List AV))[0 + t.toNat]? = some (ci (widS t)) := by
  obtain rfl | rfl | rfl | rfl : t = 0 ∨ t = 1 ∨ t = 2 ∨ t = 3 := by omega
  all_goals rfl
theorem wid_range (t : Int) : 0 ≤ widS t ∧ widS t ≤ 9 := by
  unfold widS
  split <;> (try split) <;> (try split) <;> omega
def mkR (q : Int) (L : List Int) : Rd :=
  let a1 := nextA L 0
  let a2 := nextA L a1
  let a3 := nextA L a2
  ⟨nextV L 0 4, nextV L a1 q, nextV L a2 9, nextV L a2 9 + widS (nextV L a3 4)⟩
def readS (ls : List (List Int)) (q : Int) : List Rd := if 0 < q then (ls.take 10).map (mkR q) else []
theorem take_map_succ {α β : Type} (f : α → β) (l : List α) (k : Nat) (h : k < l.length) : (l.take (k + 1)).map f = (l.take k).map f ++ [f l[k]] := by
  rw [List.take_succ_eq_append_getElem h, List.map_append]; rfl

def mc29 : MC := (.seq (.reg [⟨(some 4), (.mv (.c .nils)), none, []⟩] false) (.seq (.reg [⟨(some 5), (.mv (.c .nils)), none, []⟩] false) (.seq (.seq (.reg [⟨(some 6), (.mv (.c (.int .i64 0))), none, []⟩] false) (.block 0 (.loop (.seq (.seq (.reg [⟨(some 9), (.mv (.t 6)), none, []⟩, ⟨(some 10), (.mv (.t 0)), none, []⟩, ⟨(some 11), (.len (.t 10)), none, [1]⟩, ⟨(some 12), (.bin .lss (.t 9) (.t 11)), none, [0, 2]⟩, ⟨(some 13), (.mv (.t 12)), none, [3]⟩, ⟨(some 14), (.mv (.t 6)), (some (13, true)), [4]⟩, ⟨(some 15), (.bin .lss (.t 14) (.c (.int .i64 10))), (some (13, true)), [5, 4]⟩, ⟨(some 16), (.pick (.t 13) (.t 15) (.c (.bool false))), none, [4, 6]⟩, ⟨(some 17), (.mv (.t 16)), none, [7, 4]⟩, ⟨(some 18), (.mv (.t 1)), (some (17, true)), [8]⟩, ⟨(some 19), (.bin .gtr (.t 18) (.c (.int .i64 0))), (some (17, true)), [9, 8]⟩, ⟨(some 20), (.pick (.t 17) (.t 19) (.c (.bool false))), none, [8, 10]⟩] false) (.cond (.t 20) .skip (.exit 0))) (.seq (.block 1 (.seq (.reg [⟨(some 23), (.mv (.t 0)), none, []⟩, ⟨(some 24), (.mv (.t 6)), none, []⟩, ⟨(some 25), (.ixsl 1 (.t 23) (.t 24)), none, [0, 1]⟩, ⟨(some 26), (.ld false 1 (.t 25)), none, [2]⟩, ⟨(some 27), (.build [.nils, (.int .i64 0)] [(0, (1, (.t 26)))]), none, [3]⟩, ⟨(some 28), (.box 103 2 (.t 27)), none, [4]⟩, ⟨(some 7), (.mv (.t 28)), none, [5, 0, 1, 2, 3, 4, 5]⟩] false) (.seq (.reg [⟨(some 29), (.mv (.t 7)), none, []⟩, ⟨(some 30), (.call 56 [(.t 29), (.c (.int .i64 4))]), none, [0]⟩, ⟨(some 31), (.mv (.t 7)), none, []⟩, ⟨(some 32), (.mv (.t 1)), none, []⟩, ⟨(some 33), (.call 56 [(.t 31), (.t 32)]), none, [2, 3, 1]⟩, ⟨(some 34), (.mv (.t 7)), none, []⟩, ⟨(some 35), (.call 56 [(.t 34), (.c (.int .i64 9))]), none, [5, 4]⟩, ⟨(some 36), (.build [(.int .i64 0), (.int .i64 0), (.int .i64 0), (.int .i64 0)] [(0, (1, (.t 30))), (1, (1, (.t 33))), (2, (1, (.t 35)))]), none, [1, 4, 6]⟩, ⟨(some 8), (.alloc 50 4 [(.int .i64 0), (.int .i64 0), (.int .i64 0), (.int .i64 0)]), none, []⟩, ⟨none, (.st 4 (.t 8) (.t 36)), none, [8, 7, 6, 0, 1, 2, 3, 4, 5, 6, 7, 8]⟩] false) (.seq (.reg [⟨(some 37), (.fa 2 (.t 8)), none, []⟩, ⟨(some 38), (.ld false 1 (.t 37)), none, [0]⟩, ⟨(some 39), (.bslice 3 1 [(.int .i64 0)] 4 [(0, (.c (.int .i64 0))), (1, (.c (.int .i64 1))), (2, (.c (.int .i64 3))), (3, (.c (.int .i64 9)))]), none, []⟩, ⟨(some 40), (.mv (.t 7)), none, []⟩, ⟨(some 41), (.call 56 [(.t 40), (.c (.int .i64 4))]), none, [3]⟩, ⟨(some 42), (.ixsl 1 (.t 39) (.t 41)), none, [2, 4]⟩, ⟨(some 43), (.ld false 1 (.t 42)), none, [5]⟩, ⟨(some 44), (.bin .add (.t 38) (.t 43)), none, [1, 6]⟩, ⟨(some 45), (.fa 3 (.t 8)), none, [0, 1, 2, 3, 4, 5, 6, 7]⟩, ⟨none, (.st 1 (.t 45) (.t 44)), none, [8, 7, 4, 0, 1, 2, 3, 4, 5, 6, 7]⟩] true) (.reg [⟨(some 46), (.mv (.t 5)), none, []⟩, ⟨(some 47), (.ld true 4 (.t 8)), none, []⟩, ⟨(some 48), (.bslice 50 4 [(.int .i64 0), (.int .i64 0), (.int .i64 0), (.int .i64 0)] 1 [(0, (.t 47))]), none, [1]⟩, ⟨(some 49), (.app 50 4 32 [(.int .i64 0), (.int .i64 0), (.int .i64 0), (.int .i64 0)] (.t 46) (.t 48)), none, [0, 2]⟩, ⟨(some 5), (.mv (.t 49)), none, [3, 3, 0, 1, 2, 3]⟩] false))))) (.reg [⟨(some 21), (.mv (.t 6)), none, []⟩, ⟨(some 22), (.bin .add (.t 21) (.c (.int .i64 1))), none, [0]⟩, ⟨(some 6), (.mv (.t 22)), none, [1, 0, 1]⟩] false)))))) (.seq (.reg [⟨(some 50), (.mv (.t 5)), none, []⟩, ⟨(some 4), (.mv (.t 50)), none, [0, 0]⟩] false) .ret))))
theorem mcOk29 : (match Try.f29.body with | some c => compC Try.prog 51 c | none => none) = some mc29 := by kernel_rfl

theorem fc29 (ls : List (List Int)) (q : Int) (hq : q ≤ 4611686018427387904) (hls : ∀ L ∈ ls, L.length ≤ 4611686018427387904) : FC Try.prog 29 [.rs 1 (ls.map cL), .int .i64 q] [] (.sl 1005 0 (readS ls q).length) [(1005, .cells 50 4 ((readS ls q).map cR) true)] false := by
  refine fc_run (nt := 51) Try.func29 rfl rfl mcOk29 (Nat.le_of_ble_eq_true rfl) ?_
  delta mc29
  refine aw_seq ?_
  refine aw_reg ?_
  refine rs_mv rfl rfl ?_
  refine rs_nil fun _ => ?_
  refine th_n ?_
  refine aw_seq ?_
  refine aw_reg ?_
  refine rs_mv rfl rfl ?_
  refine rs_nil fun _ => ?_
  refine th_n ?_
  refine aw_seq ?_
  refine aw_seq ?_
  refine aw_reg ?_
  refine rs_mv rfl rfl ?_
  refine rs_nil fun _ => ?_
  refine th_n ?_
  refine aw_block ?_
  refine aw_fam (α := Nat) (fun k => ls.length + 1 - k) (fun k => [(0, .rs 1 (ls.map cL)), (1, .int .i64 q), (5, .sl 1005 0 (k)), (6, .int .i64 (((k) : Nat) : Int))]) (fun k => [(1005, .cells 50 4 (((ls.take (k)).map (mkR q)).map cR) true)]) (fun k => k ≤ ls.length ∧ k ≤ 10 ∧ (0 < q ∨ k = 0)) 0 (⟨by omega, by omega, .inr rfl⟩)
    (weak_to (.cons rfl (rc_same rfl (.inl rfl)) (.cons rfl (rc_same rfl (.inl rfl)) (.cons rfl (rc_virt rfl rfl) (.cons rfl (rc_same rfl (.inl rfl)) (.nil))))) (.virt rfl (.nil)) (fun i h => by cases h)) ?_
  rintro k ⟨hk, hk10, hkq⟩
  refine aw_seq ?_
  refine aw_seq ?_
  refine aw_reg ?_
  refine rs_mv rfl rfl ?_
  refine rs_mv rfl rfl ?_
  first | refine rs_len_m rfl rfl ?_ | refine rs_len_s rfl rfl ?_ | refine rs_len_n rfl rfl ?_ | refine rs_len_r rfl rfl rfl ?_
  refine rs_cmp rfl rfl rfl rfl (fun h12 => ?_) (fun h12 => ?_)
  · skip
    refine rs_mv rfl rfl ?_
    refine rs_mv rfl rfl ?_
    refine rs_cmp rfl rfl rfl rfl (fun h15 => ?_) (fun h15 => ?_)
    · skip
      refine rs_pick rfl rfl rfl ?_
      refine rs_mv rfl rfl ?_
      refine rs_mv rfl rfl ?_
      refine rs_cmp rfl rfl rfl rfl (fun h19 => ?_) (fun h19 => ?_)
      · skip
        refine rs_pick rfl rfl rfl ?_
        refine rs_nil fun _ => ?_
        refine th_n ?_
        refine aw_cond rfl (fun _ => ?_) (fun h => by cases h)
        refine aw_skip ?_
        refine th_n ?_
        refine aw_seq ?_
        refine aw_block ?_
        refine aw_seq ?_
        refine aw_reg ?_
        have hkl : k < ls.length := by omega
        have hL := hls ls[k] (List.getElem_mem _)
        refine rs_mv rfl rfl ?_
        refine rs_mv rfl rfl ?_
        first | refine rs_ix_m rfl rfl rfl (by omega) ?_ | refine rs_ix_sm rfl rfl rfl rfl (by omega) ?_
        first | refine rs_ld_r rfl rfl rfl ?_ | refine rs_ld_p rfl rfl rfl rfl rfl ?_ | refine rs_ld_m rfl rfl rfl (by omega) rfl ?_
        refine rs_build rfl rfl ?_
        refine rs_box rfl rfl rfl rfl rfl rfl ?_
        refine rs_mv rfl rfl ?_
        refine rs_nil fun _ => ?_
        refine th_n ?_
        refine aw_seq ?_
        refine aw_reg ?_
        refine rs_mv rfl rfl ?_
        refine rs_callo [(28, drawOb 103 ls[k] 0)] rfl rfl (fc56 28 103 ls[k] 0 4 (by omega) hL) (.cons (hv_same rfl) (.cons (hv_same rfl) (.nil))) (.cons rfl (.nil)) rfl rfl rfl ?_
        refine rs_mv rfl rfl ?_
        refine rs_mv rfl rfl ?_
        refine rs_callo [(28, drawOb 103 ls[k] (nextA ls[k] 0))] rfl rfl (fc56 28 103 ls[k] (nextA ls[k] 0) q hq hL) (.cons (hv_same rfl) (.cons (hv_same rfl) (.nil))) (.cons rfl (.nil)) rfl rfl rfl ?_
        refine rs_mv rfl rfl ?_
        refine rs_callo [(28, drawOb 103 ls[k] (nextA ls[k] (nextA ls[k] 0)))] rfl rfl (fc56 28 103 ls[k] (nextA ls[k] (nextA ls[k] 0)) 9 (by omega) hL) (.cons (hv_same rfl) (.cons (hv_same rfl) (.nil))) (.cons rfl (.nil)) rfl rfl rfl ?_
        refine rs_build rfl rfl ?_
        refine rs_alloc rfl rfl rfl ?_
        refine rs_st rfl rfl rfl rfl rfl rfl rfl (Nat.le_of_ble_eq_true rfl) rfl rfl ?_
        refine rs_nil fun _ => ?_
        refine th_n ?_
        refine aw_seq ?_
        refine aw_draw hmix ?_
        first | refine rs_fa_p rfl rfl ?_ | refine rs_fa_r rfl rfl rfl ?_
        first | refine rs_ld_r rfl rfl rfl ?_ | refine rs_ld_p rfl rfl rfl rfl rfl ?_ | refine rs_ld_m rfl rfl rfl (by omega) rfl ?_
        refine rs_bslice rfl rfl rfl rfl rfl rfl ?_
        refine rs_mv rfl rfl ?_
        refine rs_callo [(28, drawOb 103 ls[k] (nextA ls[k] (nextA ls[k] (nextA ls[k] 0))))] rfl rfl (fc56 28 103 ls[k] (nextA ls[k] (nextA ls[k] (nextA ls[k] 0))) 4 (by omega) hL) (.cons (hv_same rfl) (.cons (hv_same rfl) (.nil))) (.cons rfl (.nil)) rfl rfl rfl ?_
        have hw := nextV_range ls[k] (nextA ls[k] (nextA ls[k] (nextA ls[k] 0))) 4 (by omega)
        refine rs_ix_s rfl rfl rfl rfl hw.1 hw.2 ?_
        refine rs_ld_p rfl rfl rfl (el := ci (widS (nextV ls[k] (nextA ls[k] (nextA ls[k] (nextA ls[k] 0))) 4))) (wid_at _ hw.1 hw.2) rfl ?_
        have hlo := nextV_range ls[k] (nextA ls[k] (nextA ls[k] 0)) 9 (by omega)
        have hwd := wid_range (nextV ls[k] (nextA ls[k] (nextA ls[k] (nextA ls[k] 0))) 4)
        refine rs_add rfl rfl rfl (by omega) ?_
        first | refine rs_fa_p rfl rfl ?_ | refine rs_fa_r rfl rfl rfl ?_
        refine rs_st rfl rfl rfl rfl rfl rfl rfl (Nat.le_of_ble_eq_true rfl) rfl rfl ?_
        refine rs_nil ⟨by kernel_rfl, fun _ => ?_⟩
        refine th_n ?_
        refine aw_reg ?_
        refine rs_mv rfl rfl ?_
        first | refine rs_ld_pa rfl rfl rfl rfl (Nat.le_of_ble_eq_true rfl) rfl ?_ | refine rs_ld_ra rfl rfl (Nat.le_of_ble_eq_true rfl) rfl ?_ | refine rs_ld_ma rfl rfl rfl (by omega) (Nat.le_of_ble_eq_true rfl) rfl ?_
        refine rs_bslice rfl rfl rfl rfl rfl rfl ?_
        refine rs_app_m (y := mkR q ls[k]) rfl rfl rfl rfl (by simp; omega) rfl rfl rfl (by decide) rfl (by omega) (by omega) rfl ?_
        refine rs_mv rfl rfl ?_
        refine rs_nil fun _ => ?_
        refine in_n ?_
        refine th_n ?_
        refine aw_reg ?_
        refine rs_mv rfl rfl ?_
        refine rs_add rfl rfl rfl (by omega) ?_
        refine rs_mv rfl rfl ?_
        refine rs_nil fun _ => ?_
        refine th_n ?_
        refine ⟨k + 1, ⟨by omega, by omega, by omega⟩, by omega, ?_⟩
        exact weak_to_ren (i := 49) (i' := 1005) (F1 := [(0, .rs 1 (ls.map cL)), (1, .int .i64 q), (5, .sl 49 0 (k + 1)), (6, .int .i64 (((k + 1) : Nat) : Int))]) (H1 := [(49, .cells 50 4 (((ls.take (k + 1)).map (mkR q)).map cR) true)]) (.cons rfl (rc_same rfl (.inl rfl)) (.cons rfl (rc_same rfl (.inl rfl)) (.cons rfl (rc_same rfl (.inl rfl)) (.cons rfl (rc_same rfl (.inl rfl)) (.nil))))) (.keep ((by rw [take_map_succ (mkR q) ls k hkl]; rfl)) rfl (.nil)) (fun i h => by cases h) rfl rfl (.cons rfl (.same _) (.cons rfl (.same _) (.cons rfl (.sl _ _) (.cons rfl (.same _) (.nil))))) (.cons rfl (rc_same rfl (.inl rfl)) (.cons rfl (rc_same rfl (.inl rfl)) (.cons rfl (rc_same rfl (.inl rfl)) (.cons rfl (rc_same rfl (.inl rfl)) (.nil))))) (.keep (rfl) rfl (.nil)) (fun i h => by cases h)
      · skip
        refine rs_pick rfl rfl rfl ?_
        refine rs_nil fun _ => ?_
        refine th_n ?_
        refine aw_cond rfl (fun h => by cases h) (fun _ => ?_)
        refine aw_exit ?_
        refine th_e ?_
        refine th_e ?_
        refine in_hit ?_
        refine th_n ?_
        refine aw_seq ?_
        refine aw_reg ?_
        refine rs_mv rfl rfl ?_
        refine rs_mv rfl rfl ?_
        refine rs_nil fun _ => ?_
        refine th_n ?_
        refine aw_ret ?_
        have hr : readS ls q = (ls.take k).map (mkR q) := by
          unfold readS
          split
          · rename_i hq0
            by_cases hk1 : k = 10
            · rw [hk1]
            · have : k = ls.length := by omega
              subst this
              rw [List.take_of_length_le (by omega), List.take_of_length_le (by omega)]
          · have : k = 0 := by omega
            subst this; simp
        have hlen : ((ls.take k).map (mkR q)).length = k := by simp; omega
        rw [hr, hlen]
        exact ret_new rfl (rc_same rfl (.inr rfl)) (.keep rfl rfl (noROE_map (fun _ => rfl) _) .nil)
    · skip
      refine rs_pick rfl rfl rfl ?_
      refine rs_mv rfl rfl ?_
      refine rs_skip rfl ?_
      refine rs_skip rfl ?_
      refine rs_pick rfl rfl rfl ?_
      refine rs_nil fun _ => ?_
      refine th_n ?_
      refine aw_cond rfl (fun h => by cases h) (fun _ => ?_)
      refine aw_exit ?_
      refine th_e ?_
      refine th_e ?_
      refine in_hit ?_
      refine th_n ?_
      refine aw_seq ?_
      refine aw_reg ?_
      refine rs_mv rfl rfl ?_
      refine rs_mv rfl rfl ?_
      refine rs_nil fun _ => ?_
      refine th_n ?_
      refine aw_ret ?_
      have hr : readS ls q = (ls.take k).map (mkR q) := by
        unfold readS
        split
        · rename_i hq0
          by_cases hk1 : k = 10
          · rw [hk1]
          · have : k = ls.length := by omega
            subst this
            rw [List.take_of_length_le (by omega), List.take_of_length_le (by omega)]
        · have : k = 0 := by omega
          subst this; simp
      have hlen : ((ls.take k).map (mkR q)).length = k := by simp; omega
      rw [hr, hlen]
      exact ret_new rfl (rc_same rfl (.inr rfl)) (.keep rfl rfl (noROE_map (fun _ => rfl) _) .nil)
  · skip
    refine rs_mv rfl rfl ?_
    refine rs_skip rfl ?_
    refine rs_skip rfl ?_
    refine rs_pick rfl rfl rfl ?_
    refine rs_mv rfl rfl ?_
    refine rs_skip rfl ?_
    refine rs_skip rfl ?_
    refine rs_pick rfl rfl rfl ?_
    refine rs_nil fun _ => ?_
    refine th_n ?_
    refine aw_cond rfl (fun h => by cases h) (fun _ => ?_)
    refine aw_exit ?_
    refine th_e ?_
    refine th_e ?_
    refine in_hit ?_
    refine th_n ?_
    refine aw_seq ?_
    refine aw_reg ?_
    refine rs_mv rfl rfl ?_
    refine rs_mv rfl rfl ?_
    refine rs_nil fun _ => ?_
    refine th_n ?_
    refine aw_ret ?_
    have hr : readS ls q = (ls.take k).map (mkR q) := by
      unfold readS
      split
      · rename_i hq0
        by_cases hk1 : k = 10
        · rw [hk1]
        · have : k = ls.length := by omega
          subst this
          rw [List.take_of_length_le (by omega), List.take_of_length_le (by omega)]
      · have : k = 0 := by omega
        subst this; simp
    have hlen : ((ls.take k).map (mkR q)).length = k := by simp; omega
    rw [hr, hlen]
    exact ret_new rfl (rc_same rfl (.inr rfl)) (.keep rfl rfl (noROE_map (fun _ => rfl) _) .nil)

end Go.Proofs.Ytadjdnhnbkcakaa

/-! Walks: A2. -/
namespace Go.Proofs.Ytadjdnhnbkcakaa
open Go.RowKit

def badL (a b : Int) : Prop := a < -1048576 ∨ b > 1048576 ∨ a > b
instance (a b : Int) : Decidable (badL a b) := by unfold badL; infer_instance
def badR (n : Nat) (r : Rd) : Prop := r.probe < 0 ∨ r.probe ≥ 8 ∨ r.of_ < 0 ∨ r.of_ ≥ (n : Int) ∨ r.lo > r.hi
instance (n : Nat) (r : Rd) : Decidable (badR n r) := by unfold badR; infer_instance
/-- What Check says. -/
def checkS (l : List Rd) (lo hi : List Int) (lies : Int) : Int :=
  if 40 < l.length ∨ 6 < lo.length ∨ 6 < hi.length then 2
  else if lo.length ≠ hi.length then 4
  else if lies < 0 ∨ 3 < lies then 3
  else if (lo.zip hi).any (fun p => decide (badL p.1 p.2)) = true then 3
  else if l.any (fun r => decide (badR lo.length r)) = true then 3
  else 0
section
variable {l : List Rd} {lo hi : List Int} {lies : Int}
theorem check_1 (h : 40 < l.length ∨ 6 < lo.length ∨ 6 < hi.length) : checkS l lo hi lies = 2 := if_pos h
theorem check_2 (h1 : l.length ≤ 40 ∧ lo.length ≤ 6 ∧ hi.length ≤ 6) (h2 : lo.length ≠ hi.length) : checkS l lo hi lies = 4 := by
  unfold checkS; rw [if_neg (by omega), if_pos h2]
theorem check_3 (h1 : l.length ≤ 40 ∧ lo.length ≤ 6 ∧ hi.length ≤ 6) (h2 : lo.length = hi.length) (h3 : lies < 0 ∨ 3 < lies) : checkS l lo hi lies = 3 := by
  unfold checkS; rw [if_neg (by omega), if_neg (by omega), if_pos h3]
theorem check_4 (h1 : l.length ≤ 40 ∧ lo.length ≤ 6 ∧ hi.length ≤ 6) (h2 : lo.length = hi.length) (h3 : 0 ≤ lies ∧ lies ≤ 3) (k : Nat) (hk : k < lo.length) (hk2 : k < hi.length) (h4 : lo[k] < -1048576 ∨ hi[k] > 1048576 ∨ lo[k] > hi[k]) : checkS l lo hi lies = 3 := by
  unfold checkS
  rw [if_neg (by omega), if_neg (by omega), if_neg (by omega), if_pos]
  refine List.any_eq_true.2 ⟨(lo[k], hi[k]), ?_, decide_eq_true h4⟩
  rw [← List.getElem_zip (h := by simp; omega)]
  exact List.getElem_mem _
theorem any_lim (h2 : lo.length = hi.length) (h : ∀ j, j < lo.length → ∀ (h1 : j < lo.length) (h2 : j < hi.length), ¬ badL lo[j] hi[j]) : ¬ (lo.zip hi).any (fun p => decide (badL p.1 p.2)) = true := fun hx => by
  obtain ⟨p, hp, hb⟩ := List.any_eq_true.1 hx
  obtain ⟨j, hj, rfl⟩ := List.getElem_of_mem hp
  rw [List.getElem_zip] at hb
  simp at hj
  exact h j (by omega) (by omega) (by omega) (of_decide_eq_true hb)
theorem check_5 (h1 : l.length ≤ 40 ∧ lo.length ≤ 6 ∧ hi.length ≤ 6) (h2 : lo.length = hi.length) (h3 : 0 ≤ lies ∧ lies ≤ 3) (h4 : ∀ j, j < lo.length → ∀ (h1 : j < lo.length) (h2 : j < hi.length), ¬ badL lo[j] hi[j])
    (k : Nat) (hk : k < l.length) (h5 : l[k].probe < 0 ∨ l[k].probe ≥ 8 ∨ l[k].of_ < 0 ∨ l[k].of_ ≥ (lo.length : Int) ∨ l[k].lo > l[k].hi) : checkS l lo hi lies = 3 := by
  unfold checkS
  rw [if_neg (by omega), if_neg (by omega), if_neg (by omega), if_neg (any_lim h2 h4), if_pos]
  exact List.any_eq_true.2 ⟨l[k], List.getElem_mem _, decide_eq_true h5⟩
theorem check_6 (h1 : l.length ≤ 40 ∧ lo.length ≤ 6 ∧ hi.length ≤ 6) (h2 : lo.length = hi.length) (h3 : 0 ≤ lies ∧ lies ≤ 3) (h4 : ∀ j, j < lo.length → ∀ (h1 : j < lo.length) (h2 : j < hi.length), ¬ badL lo[j] hi[j])
    (h5 : ∀ j, j < l.length → ∀ (h1 : j < l.length), ¬ badR lo.length l[j]) : checkS l lo hi lies = 0 := by
  unfold checkS
  rw [if_neg (by omega), if_neg (by omega), if_neg (by omega), if_neg (any_lim h2 h4), if_neg]
  intro hx
  obtain ⟨r, hr, hb⟩ := List.any_eq_true.1 hx
  obtain ⟨j, hj, rfl⟩ := List.getElem_of_mem hr
  exact h5 j hj hj (of_decide_eq_true hb)
end

def mc19 : MC := (.seq (.reg [⟨(some 8), (.mv (.c (.int .i64 0))), none, []⟩] false) (.seq (.block 0 (.seq (.reg [⟨(some 13), (.mv (.t 0)), none, []⟩, ⟨(some 14), (.len (.t 13)), none, [0]⟩, ⟨(some 15), (.bin .gtr (.t 14) (.c (.int .i64 40))), none, [1]⟩, ⟨(some 16), (.mv (.t 15)), none, [2]⟩, ⟨(some 17), (.mv (.t 1)), (some (16, false)), [3]⟩, ⟨(some 18), (.len (.t 17)), (some (16, false)), [4, 3]⟩, ⟨(some 19), (.mv (.t 2)), (some (16, false)), [3]⟩, ⟨(some 20), (.len (.t 19)), (some (16, false)), [6, 3]⟩, ⟨(some 21), (.mx (.t 18) (.t 20)), (some (16, false)), [5, 7, 3]⟩, ⟨(some 22), (.bin .gtr (.t 21) (.c (.int .i64 6))), (some (16, false)), [8, 3]⟩, ⟨(some 23), (.pick (.t 16) (.c (.bool true)) (.t 22)), none, [3, 9]⟩, ⟨(some 12), (.mv (.t 23)), none, [10, 3]⟩] false) (.cond (.t 12) (.seq (.reg [⟨(some 8), (.mv (.c (.int .i64 2))), none, []⟩] false) .ret) (.seq (.reg [⟨(some 25), (.mv (.t 1)), none, []⟩, ⟨(some 26), (.len (.t 25)), none, [0]⟩, ⟨(some 27), (.mv (.t 2)), none, []⟩, ⟨(some 28), (.len (.t 27)), none, [2]⟩, ⟨(some 29), (.bin .neq (.t 26) (.t 28)), none, [1, 3]⟩, ⟨(some 24), (.mv (.t 29)), none, [4]⟩] false) (.cond (.t 24) (.seq (.reg [⟨(some 8), (.mv (.c (.int .i64 4))), none, []⟩] false) .ret) (.seq (.reg [⟨(some 31), (.mv (.t 3)), none, []⟩, ⟨(some 32), (.bin .lss (.t 31) (.c (.int .i64 0))), none, [0]⟩, ⟨(some 33), (.mv (.t 32)), none, [1]⟩, ⟨(some 34), (.mv (.t 3)), (some (33, false)), [2]⟩, ⟨(some 35), (.bin .gtr (.t 34) (.c (.int .i64 3))), (some (33, false)), [3, 2]⟩, ⟨(some 36), (.pick (.t 33) (.c (.bool true)) (.t 35)), none, [2, 4]⟩, ⟨(some 30), (.mv (.t 36)), none, [5, 2]⟩] false) (.cond (.t 30) (.seq (.reg [⟨(some 8), (.mv (.c (.int .i64 3))), none, []⟩] false) .ret) .skip))))))) (.seq (.seq (.reg [⟨(some 37), (.mv (.t 1)), none, []⟩, ⟨(some 38), (.len (.t 37)), none, [0]⟩, ⟨(some 39), (.mv (.c (.int .i64 0))), none, []⟩] false) (.block 1 (.loop (.seq (.reg [⟨(some 40), (.bin .lss (.t 39) (.t 38)), none, []⟩] false) (.seq (.cond (.t 40) .skip (.exit 1)) (.seq (.block 2 (.seq (.reg [⟨(some 41), (.mv (.t 39)), none, []⟩, ⟨(some 9), (.mv (.t 41)), none, [0, 0]⟩] false) (.seq (.reg [⟨(some 42), (.mv (.t 1)), none, []⟩, ⟨(some 43), (.mv (.t 9)), none, []⟩, ⟨(some 44), (.ixsl 1 (.t 42) (.t 43)), none, [0, 1]⟩, ⟨(some 45), (.ld false 1 (.t 44)), none, [2]⟩, ⟨(some 46), (.bin .lss (.t 45) (.c (.int .i64 (-1048576)))), none, [3]⟩, ⟨(some 47), (.mv (.t 46)), none, [4]⟩, ⟨(some 48), (.mv (.t 2)), (some (47, false)), [5]⟩, ⟨(some 49), (.mv (.t 9)), (some (47, false)), [5]⟩, ⟨(some 50), (.ixsl 1 (.t 48) (.t 49)), (some (47, false)), [6, 7, 5]⟩, ⟨(some 51), (.ld false 1 (.t 50)), (some (47, false)), [8, 5]⟩, ⟨(some 52), (.bin .gtr (.t 51) (.c (.int .i64 1048576))), (some (47, false)), [9, 5]⟩, ⟨(some 53), (.pick (.t 47) (.c (.bool true)) (.t 52)), none, [5, 10]⟩, ⟨(some 54), (.mv (.t 53)), none, [11, 5]⟩, ⟨(some 55), (.mv (.t 1)), (some (54, false)), [12]⟩, ⟨(some 56), (.mv (.t 9)), (some (54, false)), [12]⟩, ⟨(some 57), (.ixsl 1 (.t 55) (.t 56)), (some (54, false)), [13, 14, 12]⟩, ⟨(some 58), (.ld false 1 (.t 57)), (some (54, false)), [15, 12]⟩, ⟨(some 59), (.mv (.t 2)), (some (54, false)), [12]⟩, ⟨(some 60), (.mv (.t 9)), (some (54, false)), [12]⟩, ⟨(some 61), (.ixsl 1 (.t 59) (.t 60)), (some (54, false)), [17, 18, 12]⟩, ⟨(some 62), (.ld false 1 (.t 61)), (some (54, false)), [19, 12]⟩, ⟨(some 63), (.bin .gtr (.t 58) (.t 62)), (some (54, false)), [16, 20, 12]⟩, ⟨(some 64), (.pick (.t 54) (.c (.bool true)) (.t 63)), none, [12, 21]⟩] true) (.cond (.t 64) (.seq (.reg [⟨(some 8), (.mv (.c (.int .i64 3))), none, []⟩] false) .ret) .skip)))) (.reg [⟨(some 65), (.bin .add (.t 39) (.c (.int .i64 1))), none, []⟩, ⟨(some 39), (.mv (.t 65)), none, [0]⟩] false))))))) (.seq (.seq (.reg [⟨(some 66), (.mv (.t 0)), none, []⟩, ⟨(some 67), (.len (.t 66)), none, [0]⟩, ⟨(some 68), (.mv (.c (.int .i64 0))), none, []⟩] false) (.block 3 (.loop (.seq (.reg [⟨(some 69), (.bin .lss (.t 68) (.t 67)), none, []⟩] false) (.seq (.cond (.t 69) .skip (.exit 3)) (.seq (.block 4 (.seq (.reg [⟨(some 70), (.ixsl 4 (.t 66) (.t 68)), none, []⟩, ⟨(some 71), (.ld true 4 (.t 70)), none, [0]⟩, ⟨(some 11), (.alloc 50 4 [(.int .i64 0), (.int .i64 0), (.int .i64 0), (.int .i64 0)]), none, []⟩, ⟨none, (.st 4 (.t 11) (.t 71)), none, [2, 1, 0, 1, 2]⟩] false) (.seq (.reg [⟨(some 72), (.fa 0 (.t 11)), none, []⟩, ⟨(some 73), (.ld false 1 (.t 72)), none, [0]⟩, ⟨(some 74), (.bin .lss (.t 73) (.c (.int .i64 0))), none, [1]⟩, ⟨(some 75), (.mv (.t 74)), none, [2]⟩, ⟨(some 76), (.fa 0 (.t 11)), (some (75, false)), [3]⟩, ⟨(some 77), (.ld false 1 (.t 76)), (some (75, false)), [4, 3]⟩, ⟨(some 78), (.bin .geq (.t 77) (.c (.int .i64 8))), (some (75, false)), [5, 3]⟩, ⟨(some 79), (.pick (.t 75) (.c (.bool true)) (.t 78)), none, [3, 6]⟩, ⟨(some 80), (.mv (.t 79)), none, [7, 3]⟩, ⟨(some 81), (.fa 1 (.t 11)), (some (80, false)), [8]⟩, ⟨(some 82), (.ld false 1 (.t 81)), (some (80, false)), [9, 8]⟩, ⟨(some 83), (.bin .lss (.t 82) (.c (.int .i64 0))), (some (80, false)), [10, 8]⟩, ⟨(some 84), (.pick (.t 80) (.c (.bool true)) (.t 83)), none, [8, 11]⟩, ⟨(some 85), (.mv (.t 84)), none, [12, 8]⟩, ⟨(some 86), (.fa 1 (.t 11)), (some (85, false)), [13]⟩, ⟨(some 87), (.ld false 1 (.t 86)), (some (85, false)), [14, 13]⟩, ⟨(some 88), (.mv (.t 1)), (some (85, false)), [13]⟩, ⟨(some 89), (.len (.t 88)), (some (85, false)), [16, 13]⟩, ⟨(some 90), (.bin .geq (.t 87) (.t 89)), (some (85, false)), [15, 17, 13]⟩, ⟨(some 91), (.pick (.t 85) (.c (.bool true)) (.t 90)), none, [13, 18]⟩, ⟨(some 92), (.mv (.t 91)), none, [19, 13]⟩, ⟨(some 93), (.fa 2 (.t 11)), (some (92, false)), [20]⟩, ⟨(some 94), (.ld false 1 (.t 93)), (some (92, false)), [21, 20]⟩, ⟨(some 95), (.fa 3 (.t 11)), (some (92, false)), [20]⟩, ⟨(some 96), (.ld false 1 (.t 95)), (some (92, false)), [23, 20]⟩, ⟨(some 97), (.bin .gtr (.t 94) (.t 96)), (some (92, false)), [22, 24, 20]⟩, ⟨(some 98), (.pick (.t 92) (.c (.bool true)) (.t 97)), none, [20, 25]⟩] false) (.cond (.t 98) (.seq (.reg [⟨(some 8), (.mv (.c (.int .i64 3))), none, []⟩] false) .ret) .skip)))) (.reg [⟨(some 99), (.bin .add (.t 68) (.c (.int .i64 1))), none, []⟩, ⟨(some 68), (.mv (.t 99)), none, [0]⟩] false))))))) (.seq (.reg [⟨(some 8), (.mv (.c (.int .i64 0))), none, []⟩] false) .ret)))))
theorem mcOk19 : (match Try.f19.body with | some c => compC Try.prog 100 c | none => none) = some mc19 := by kernel_rfl

theorem fc19 (l : List Rd) (lo hi : List Int) (lies : Int) : FC Try.prog 19 [.rs 4 (l.map cR), ints lo, ints hi, .int .i64 lies] [] (.int .i64 (checkS l lo hi lies)) [] false := by
  refine fc_run (nt := 100) Try.func19 rfl rfl mcOk19 (Nat.le_of_ble_eq_true rfl) ?_
  delta mc19
  refine aw_seq ?_
  refine aw_reg ?_
  refine rs_mv rfl rfl ?_
  refine rs_nil fun _ => ?_
  refine th_n ?_
  refine aw_seq ?_
  refine aw_block ?_
  refine aw_seq ?_
  refine aw_reg ?_
  refine rs_mv rfl rfl ?_
  first | refine rs_len_m rfl rfl ?_ | refine rs_len_s rfl rfl ?_ | refine rs_len_n rfl rfl ?_ | refine rs_len_r rfl rfl rfl ?_
  refine rs_cmp rfl rfl rfl rfl (fun h15 => ?_) (fun h15 => ?_)
  · skip
    refine rs_mv rfl rfl ?_
    refine rs_skip rfl ?_
    refine rs_skip rfl ?_
    refine rs_skip rfl ?_
    refine rs_skip rfl ?_
    refine rs_skip rfl ?_
    refine rs_skip rfl ?_
    refine rs_pick rfl rfl rfl ?_
    refine rs_mv rfl rfl ?_
    refine rs_nil fun _ => ?_
    refine th_n ?_
    refine aw_cond rfl (fun _ => ?_) (fun h => by cases h)
    refine aw_seq ?_
    refine aw_reg ?_
    refine rs_mv rfl rfl ?_
    refine rs_nil fun _ => ?_
    refine th_n ?_
    refine aw_ret ?_
    refine in_r ?_
    refine th_r ?_
    first
      | exact ret_pure rfl (congrArg _ (check_1 (by omega)).symm) rfl (.inr rfl)
      | exact ret_pure rfl (congrArg _ (check_2 (by omega) (by omega)).symm) rfl (.inr rfl)
      | exact ret_pure rfl (congrArg _ (check_3 (by omega) (by omega) (by omega)).symm) rfl (.inr rfl)
      | exact ret_pure rfl (congrArg _ (check_4 (by omega) (by omega) (by omega) k (by omega) (by omega) (by omega)).symm) rfl (.inr rfl)
      | exact ret_pure rfl (congrArg _ (check_5 (by omega) (by omega) (by omega) (fun j hj => hb j (by omega)) q (by omega) (by omega)).symm) rfl (.inr rfl)
      | exact ret_pure rfl (congrArg _ (check_6 (by omega) (by omega) (by omega) (fun j hj => hb j (by omega)) (fun j hj => hc j (by omega))).symm) rfl (.inr rfl)
  · skip
    refine rs_mv rfl rfl ?_
    refine rs_mv rfl rfl ?_
    first | refine rs_len_m rfl rfl ?_ | refine rs_len_s rfl rfl ?_ | refine rs_len_n rfl rfl ?_ | refine rs_len_r rfl rfl rfl ?_
    refine rs_mv rfl rfl ?_
    first | refine rs_len_m rfl rfl ?_ | refine rs_len_s rfl rfl ?_ | refine rs_len_n rfl rfl ?_ | refine rs_len_r rfl rfl rfl ?_
    refine rs_mx rfl rfl rfl rfl ?_
    refine rs_cmp rfl rfl rfl rfl (fun h22 => ?_) (fun h22 => ?_)
    · skip
      refine rs_pick rfl rfl rfl ?_
      refine rs_mv rfl rfl ?_
      refine rs_nil fun _ => ?_
      refine th_n ?_
      refine aw_cond rfl (fun _ => ?_) (fun h => by cases h)
      refine aw_seq ?_
      refine aw_reg ?_
      refine rs_mv rfl rfl ?_
      refine rs_nil fun _ => ?_
      refine th_n ?_
      refine aw_ret ?_
      refine in_r ?_
      refine th_r ?_
      first
        | exact ret_pure rfl (congrArg _ (check_1 (by omega)).symm) rfl (.inr rfl)
        | exact ret_pure rfl (congrArg _ (check_2 (by omega) (by omega)).symm) rfl (.inr rfl)
        | exact ret_pure rfl (congrArg _ (check_3 (by omega) (by omega) (by omega)).symm) rfl (.inr rfl)
        | exact ret_pure rfl (congrArg _ (check_4 (by omega) (by omega) (by omega) k (by omega) (by omega) (by omega)).symm) rfl (.inr rfl)
        | exact ret_pure rfl (congrArg _ (check_5 (by omega) (by omega) (by omega) (fun j hj => hb j (by omega)) q (by omega) (by omega)).symm) rfl (.inr rfl)
        | exact ret_pure rfl (congrArg _ (check_6 (by omega) (by omega) (by omega) (fun j hj => hb j (by omega)) (fun j hj => hc j (by omega))).symm) rfl (.inr rfl)
    · skip
      refine rs_pick rfl rfl rfl ?_
      refine rs_mv rfl rfl ?_
      refine rs_nil fun _ => ?_
      refine th_n ?_
      refine aw_cond rfl (fun h => by cases h) (fun _ => ?_)
      refine aw_seq ?_
      refine aw_reg ?_
      refine rs_mv rfl rfl ?_
      first | refine rs_len_m rfl rfl ?_ | refine rs_len_s rfl rfl ?_ | refine rs_len_n rfl rfl ?_ | refine rs_len_r rfl rfl rfl ?_
      refine rs_mv rfl rfl ?_
      first | refine rs_len_m rfl rfl ?_ | refine rs_len_s rfl rfl ?_ | refine rs_len_n rfl rfl ?_ | refine rs_len_r rfl rfl rfl ?_
      refine rs_neq rfl rfl rfl ?_
      refine rs_mv rfl rfl ?_
      refine rs_nil fun _ => ?_
      refine th_n ?_
      refine aw_cond rfl (fun h24 => ?_) (fun h24 => ?_)
      · first | replace h24 := of_decide_eq_true h24 | skip
        refine aw_seq ?_
        refine aw_reg ?_
        refine rs_mv rfl rfl ?_
        refine rs_nil fun _ => ?_
        refine th_n ?_
        refine aw_ret ?_
        refine in_r ?_
        refine th_r ?_
        first
          | exact ret_pure rfl (congrArg _ (check_1 (by omega)).symm) rfl (.inr rfl)
          | exact ret_pure rfl (congrArg _ (check_2 (by omega) (by omega)).symm) rfl (.inr rfl)
          | exact ret_pure rfl (congrArg _ (check_3 (by omega) (by omega) (by omega)).symm) rfl (.inr rfl)
          | exact ret_pure rfl (congrArg _ (check_4 (by omega) (by omega) (by omega) k (by omega) (by omega) (by omega)).symm) rfl (.inr rfl)
          | exact ret_pure rfl (congrArg _ (check_5 (by omega) (by omega) (by omega) (fun j hj => hb j (by omega)) q (by omega) (by omega)).symm) rfl (.inr rfl)
          | exact ret_pure rfl (congrArg _ (check_6 (by omega) (by omega) (by omega) (fun j hj => hb j (by omega)) (fun j hj => hc j (by omega))).symm) rfl (.inr rfl)
      · first | replace h24 := of_decide_eq_false h24 | skip
        refine aw_seq ?_
        refine aw_reg ?_
        refine rs_mv rfl rfl ?_
        refine rs_cmp rfl rfl rfl rfl (fun h32 => ?_) (fun h32 => ?_)
        · skip
          refine rs_mv rfl rfl ?_
          refine rs_skip rfl ?_
          refine rs_skip rfl ?_
          refine rs_pick rfl rfl rfl ?_
          refine rs_mv rfl rfl ?_
          refine rs_nil fun _ => ?_
          refine th_n ?_
          refine aw_cond rfl (fun _ => ?_) (fun h => by cases h)
          refine aw_seq ?_
          refine aw_reg ?_
          refine rs_mv rfl rfl ?_
          refine rs_nil fun _ => ?_
          refine th_n ?_
          refine aw_ret ?_
          refine in_r ?_
          refine th_r ?_
          first
            | exact ret_pure rfl (congrArg _ (check_1 (by omega)).symm) rfl (.inr rfl)
            | exact ret_pure rfl (congrArg _ (check_2 (by omega) (by omega)).symm) rfl (.inr rfl)
            | exact ret_pure rfl (congrArg _ (check_3 (by omega) (by omega) (by omega)).symm) rfl (.inr rfl)
            | exact ret_pure rfl (congrArg _ (check_4 (by omega) (by omega) (by omega) k (by omega) (by omega) (by omega)).symm) rfl (.inr rfl)
            | exact ret_pure rfl (congrArg _ (check_5 (by omega) (by omega) (by omega) (fun j hj => hb j (by omega)) q (by omega) (by omega)).symm) rfl (.inr rfl)
            | exact ret_pure rfl (congrArg _ (check_6 (by omega) (by omega) (by omega) (fun j hj => hb j (by omega)) (fun j hj => hc j (by omega))).symm) rfl (.inr rfl)
        · skip
          refine rs_mv rfl rfl ?_
          refine rs_mv rfl rfl ?_
          refine rs_cmp rfl rfl rfl rfl (fun h35 => ?_) (fun h35 => ?_)
          · skip
            refine rs_pick rfl rfl rfl ?_
            refine rs_mv rfl rfl ?_
            refine rs_nil fun _ => ?_
            refine th_n ?_
            refine aw_cond rfl (fun _ => ?_) (fun h => by cases h)
            refine aw_seq ?_
            refine aw_reg ?_
            refine rs_mv rfl rfl ?_
            refine rs_nil fun _ => ?_
            refine th_n ?_
            refine aw_ret ?_
            refine in_r ?_
            refine th_r ?_
            first
              | exact ret_pure rfl (congrArg _ (check_1 (by omega)).symm) rfl (.inr rfl)
              | exact ret_pure rfl (congrArg _ (check_2 (by omega) (by omega)).symm) rfl (.inr rfl)
              | exact ret_pure rfl (congrArg _ (check_3 (by omega) (by omega) (by omega)).symm) rfl (.inr rfl)
              | exact ret_pure rfl (congrArg _ (check_4 (by omega) (by omega) (by omega) k (by omega) (by omega) (by omega)).symm) rfl (.inr rfl)
              | exact ret_pure rfl (congrArg _ (check_5 (by omega) (by omega) (by omega) (fun j hj => hb j (by omega)) q (by omega) (by omega)).symm) rfl (.inr rfl)
              | exact ret_pure rfl (congrArg _ (check_6 (by omega) (by omega) (by omega) (fun j hj => hb j (by omega)) (fun j hj => hc j (by omega))).symm) rfl (.inr rfl)
          · skip
            refine rs_pick rfl rfl rfl ?_
            refine rs_mv rfl rfl ?_
            refine rs_nil fun _ => ?_
            refine th_n ?_
            refine aw_cond rfl (fun h => by cases h) (fun _ => ?_)
            refine aw_skip ?_
            refine in_n ?_
            refine th_n ?_
            refine aw_seq ?_
            refine aw_seq ?_
            refine aw_reg ?_
            refine rs_mv rfl rfl ?_
            first | refine rs_len_m rfl rfl ?_ | refine rs_len_s rfl rfl ?_ | refine rs_len_n rfl rfl ?_ | refine rs_len_r rfl rfl rfl ?_
            refine rs_mv rfl rfl ?_
            refine rs_nil fun _ => ?_
            refine th_n ?_
            refine aw_block ?_
            refine aw_fam (α := Nat) (fun k => lo.length - k) (fun k => [(0, .rs 4 (l.map cR)), (1, ints lo), (2, ints hi), (3, .int .i64 lies), (39, .int .i64 (((k) : Nat) : Int)), (38, .int .i64 (lo.length : Int))]) (fun k => []) (fun k => k ≤ lo.length ∧ ∀ j, j < k → ∀ (h1 : j < lo.length) (h2 : j < hi.length), ¬ badL lo[j] hi[j]) 0 (⟨by omega, fun j h => by omega⟩)
              (weak_to (.cons rfl (rc_same rfl (.inl rfl)) (.cons rfl (rc_same rfl (.inl rfl)) (.cons rfl (rc_same rfl (.inl rfl)) (.cons rfl (rc_same rfl (.inl rfl)) (.cons rfl (rc_same rfl (.inl rfl)) (.cons rfl (rc_same rfl (.inl rfl)) (.nil))))))) (.nil) (fun i h => by cases h)) ?_
            rintro k ⟨hk, hb⟩
            refine aw_seq ?_
            refine aw_reg ?_
            refine rs_lss rfl rfl rfl ?_
            refine rs_nil fun _ => ?_
            refine th_n ?_
            refine aw_seq ?_
            refine aw_cond rfl (fun h40 => ?_) (fun h40 => ?_)
            · first | replace h40 := of_decide_eq_true h40 | skip
              refine aw_skip ?_
              refine th_n ?_
              refine aw_seq ?_
              refine aw_block ?_
              refine aw_seq ?_
              refine aw_reg ?_
              refine rs_mv rfl rfl ?_
              refine rs_mv rfl rfl ?_
              refine rs_nil fun _ => ?_
              refine th_n ?_
              refine aw_seq ?_
              refine aw_draw hmix ?_
              refine rs_mv rfl rfl ?_
              refine rs_mv rfl rfl ?_
              first | refine rs_ix_m rfl rfl rfl (by omega) ?_ | refine rs_ix_sm rfl rfl rfl rfl (by omega) ?_
              first | refine rs_ld_r rfl rfl rfl ?_ | refine rs_ld_p rfl rfl rfl rfl rfl ?_ | refine rs_ld_m rfl rfl rfl (by omega) rfl ?_
              refine rs_cmp rfl rfl rfl rfl (fun h46 => ?_) (fun h46 => ?_)
              · skip
                refine rs_mv rfl rfl ?_
                refine rs_skip rfl ?_
                refine rs_skip rfl ?_
                refine rs_skip rfl ?_
                refine rs_skip rfl ?_
                refine rs_skip rfl ?_
                refine rs_pick rfl rfl rfl ?_
                refine rs_mv rfl rfl ?_
                refine rs_skip rfl ?_
                refine rs_skip rfl ?_
                refine rs_skip rfl ?_
                refine rs_skip rfl ?_
                refine rs_skip rfl ?_
                refine rs_skip rfl ?_
                refine rs_skip rfl ?_
                refine rs_skip rfl ?_
                refine rs_skip rfl ?_
                refine rs_pick rfl rfl rfl ?_
                refine rs_nil ⟨by kernel_rfl, fun _ => ?_⟩
                refine th_n ?_
                refine aw_cond rfl (fun _ => ?_) (fun h => by cases h)
                refine aw_seq ?_
                refine aw_reg ?_
                refine rs_mv rfl rfl ?_
                refine rs_nil fun _ => ?_
                refine th_n ?_
                refine aw_ret ?_
                refine in_r ?_
                refine th_r ?_
                refine th_r ?_
                refine in_r ?_
                refine th_r ?_
                first
                  | exact ret_pure rfl (congrArg _ (check_1 (by omega)).symm) rfl (.inr rfl)
                  | exact ret_pure rfl (congrArg _ (check_2 (by omega) (by omega)).symm) rfl (.inr rfl)
                  | exact ret_pure rfl (congrArg _ (check_3 (by omega) (by omega) (by omega)).symm) rfl (.inr rfl)
                  | exact ret_pure rfl (congrArg _ (check_4 (by omega) (by omega) (by omega) k (by omega) (by omega) (by omega)).symm) rfl (.inr rfl)
                  | exact ret_pure rfl (congrArg _ (check_5 (by omega) (by omega) (by omega) (fun j hj => hb j (by omega)) q (by omega) (by omega)).symm) rfl (.inr rfl)
                  | exact ret_pure rfl (congrArg _ (check_6 (by omega) (by omega) (by omega) (fun j hj => hb j (by omega)) (fun j hj => hc j (by omega))).symm) rfl (.inr rfl)
              · skip
                refine rs_mv rfl rfl ?_
                refine rs_mv rfl rfl ?_
                refine rs_mv rfl rfl ?_
                first | refine rs_ix_m rfl rfl rfl (by omega) ?_ | refine rs_ix_sm rfl rfl rfl rfl (by omega) ?_
                first | refine rs_ld_r rfl rfl rfl ?_ | refine rs_ld_p rfl rfl rfl rfl rfl ?_ | refine rs_ld_m rfl rfl rfl (by omega) rfl ?_
                refine rs_cmp rfl rfl rfl rfl (fun h52 => ?_) (fun h52 => ?_)
                · skip
                  refine rs_pick rfl rfl rfl ?_
                  refine rs_mv rfl rfl ?_
                  refine rs_skip rfl ?_
                  refine rs_skip rfl ?_
                  refine rs_skip rfl ?_
                  refine rs_skip rfl ?_
                  refine rs_skip rfl ?_
                  refine rs_skip rfl ?_
                  refine rs_skip rfl ?_
                  refine rs_skip rfl ?_
                  refine rs_skip rfl ?_
                  refine rs_pick rfl rfl rfl ?_
                  refine rs_nil ⟨by kernel_rfl, fun _ => ?_⟩
                  refine th_n ?_
                  refine aw_cond rfl (fun _ => ?_) (fun h => by cases h)
                  refine aw_seq ?_
                  refine aw_reg ?_
                  refine rs_mv rfl rfl ?_
                  refine rs_nil fun _ => ?_
                  refine th_n ?_
                  refine aw_ret ?_
                  refine in_r ?_
                  refine th_r ?_
                  refine th_r ?_
                  refine in_r ?_
                  refine th_r ?_
                  first
                    | exact ret_pure rfl (congrArg _ (check_1 (by omega)).symm) rfl (.inr rfl)
                    | exact ret_pure rfl (congrArg _ (check_2 (by omega) (by omega)).symm) rfl (.inr rfl)
                    | exact ret_pure rfl (congrArg _ (check_3 (by omega) (by omega) (by omega)).symm) rfl (.inr rfl)
                    | exact ret_pure rfl (congrArg _ (check_4 (by omega) (by omega) (by omega) k (by omega) (by omega) (by omega)).symm) rfl (.inr rfl)
                    | exact ret_pure rfl (congrArg _ (check_5 (by omega) (by omega) (by omega) (fun j hj => hb j (by omega)) q (by omega) (by omega)).symm) rfl (.inr rfl)
                    | exact ret_pure rfl (congrArg _ (check_6 (by omega) (by omega) (by omega) (fun j hj => hb j (by omega)) (fun j hj => hc j (by omega))).symm) rfl (.inr rfl)
                · skip
                  refine rs_pick rfl rfl rfl ?_
                  refine rs_mv rfl rfl ?_
                  refine rs_mv rfl rfl ?_
                  refine rs_mv rfl rfl ?_
                  first | refine rs_ix_m rfl rfl rfl (by omega) ?_ | refine rs_ix_sm rfl rfl rfl rfl (by omega) ?_
                  first | refine rs_ld_r rfl rfl rfl ?_ | refine rs_ld_p rfl rfl rfl rfl rfl ?_ | refine rs_ld_m rfl rfl rfl (by omega) rfl ?_
                  refine rs_mv rfl rfl ?_
                  refine rs_mv rfl rfl ?_
                  first | refine rs_ix_m rfl rfl rfl (by omega) ?_ | refine rs_ix_sm rfl rfl rfl rfl (by omega) ?_
                  first | refine rs_ld_r rfl rfl rfl ?_ | refine rs_ld_p rfl rfl rfl rfl rfl ?_ | refine rs_ld_m rfl rfl rfl (by omega) rfl ?_
                  refine rs_cmp rfl rfl rfl rfl (fun h63 => ?_) (fun h63 => ?_)
                  · skip
                    refine rs_pick rfl rfl rfl ?_
                    refine rs_nil ⟨by kernel_rfl, fun _ => ?_⟩
                    refine th_n ?_
                    refine aw_cond rfl (fun _ => ?_) (fun h => by cases h)
                    refine aw_seq ?_
                    refine aw_reg ?_
                    refine rs_mv rfl rfl ?_
                    refine rs_nil fun _ => ?_
                    refine th_n ?_
                    refine aw_ret ?_
                    refine in_r ?_
                    refine th_r ?_
                    refine th_r ?_
                    refine in_r ?_
                    refine th_r ?_
                    first
                      | exact ret_pure rfl (congrArg _ (check_1 (by omega)).symm) rfl (.inr rfl)
                      | exact ret_pure rfl (congrArg _ (check_2 (by omega) (by omega)).symm) rfl (.inr rfl)
                      | exact ret_pure rfl (congrArg _ (check_3 (by omega) (by omega) (by omega)).symm) rfl (.inr rfl)
                      | exact ret_pure rfl (congrArg _ (check_4 (by omega) (by omega) (by omega) k (by omega) (by omega) (by omega)).symm) rfl (.inr rfl)
                      | exact ret_pure rfl (congrArg _ (check_5 (by omega) (by omega) (by omega) (fun j hj => hb j (by omega)) q (by omega) (by omega)).symm) rfl (.inr rfl)
                      | exact ret_pure rfl (congrArg _ (check_6 (by omega) (by omega) (by omega) (fun j hj => hb j (by omega)) (fun j hj => hc j (by omega))).symm) rfl (.inr rfl)
                  · skip
                    refine rs_pick rfl rfl rfl ?_
                    refine rs_nil ⟨by kernel_rfl, fun _ => ?_⟩
                    refine th_n ?_
                    refine aw_cond rfl (fun h => by cases h) (fun _ => ?_)
                    refine aw_skip ?_
                    refine in_n ?_
                    refine th_n ?_
                    refine aw_reg ?_
                    refine rs_add rfl rfl rfl (by omega) ?_
                    refine rs_mv rfl rfl ?_
                    refine rs_nil fun _ => ?_
                    refine th_n ?_
                    refine ⟨k + 1, ⟨by omega, fun j hj h1 h2 => ?_⟩, by omega, weak_to (.cons rfl (rc_same rfl (.inl rfl)) (.cons rfl (rc_same rfl (.inl rfl)) (.cons rfl (rc_same rfl (.inl rfl)) (.cons rfl (rc_same rfl (.inl rfl)) (.cons rfl (rc_same rfl (.inl rfl)) (.cons rfl (rc_same rfl (.inl rfl)) (.nil))))))) (.nil) (fun i h => by cases h)⟩
                    by_cases e : j = k
                    · subst e; unfold badL; omega
                    · exact hb j (by omega) h1 h2
            · first | replace h40 := of_decide_eq_false h40 | skip
              refine aw_exit ?_
              refine th_e ?_
              refine th_e ?_
              refine in_hit ?_
              refine th_n ?_
              refine aw_seq ?_
              refine aw_seq ?_
              refine aw_reg ?_
              refine rs_mv rfl rfl ?_
              first | refine rs_len_m rfl rfl ?_ | refine rs_len_s rfl rfl ?_ | refine rs_len_n rfl rfl ?_ | refine rs_len_r rfl rfl rfl ?_
              refine rs_mv rfl rfl ?_
              refine rs_nil fun _ => ?_
              refine th_n ?_
              refine aw_block ?_
              refine aw_fam (α := Nat) (fun q => l.length - q) (fun q => [(0, .rs 4 (l.map cR)), (1, ints lo), (2, ints hi), (3, .int .i64 lies), (68, .int .i64 (((q) : Nat) : Int)), (66, .rs 4 (l.map cR)), (67, .int .i64 (l.length : Int))]) (fun q => []) (fun q => q ≤ l.length ∧ ∀ j, j < q → ∀ (h1 : j < l.length), ¬ badR lo.length l[j]) 0 (⟨by omega, fun j h => by omega⟩)
                (weak_to (.cons rfl (rc_same rfl (.inl rfl)) (.cons rfl (rc_same rfl (.inl rfl)) (.cons rfl (rc_same rfl (.inl rfl)) (.cons rfl (rc_same rfl (.inl rfl)) (.cons rfl (rc_same rfl (.inl rfl)) (.cons rfl (rc_same rfl (.inl rfl)) (.cons rfl (rc_same rfl (.inl rfl)) (.nil)))))))) (.nil) (fun i h => by cases h)) ?_
              rintro q ⟨hq, hc⟩
              refine aw_seq ?_
              refine aw_reg ?_
              refine rs_lss rfl rfl rfl ?_
              refine rs_nil fun _ => ?_
              refine th_n ?_
              refine aw_seq ?_
              refine aw_cond rfl (fun h69 => ?_) (fun h69 => ?_)
              · first | replace h69 := of_decide_eq_true h69 | skip
                refine aw_skip ?_
                refine th_n ?_
                refine aw_seq ?_
                refine aw_block ?_
                refine aw_seq ?_
                refine aw_reg ?_
                first | refine rs_ix_m rfl rfl rfl (by omega) ?_ | refine rs_ix_sm rfl rfl rfl rfl (by omega) ?_
                first | refine rs_ld_pa rfl rfl rfl rfl (Nat.le_of_ble_eq_true rfl) rfl ?_ | refine rs_ld_ra rfl rfl (Nat.le_of_ble_eq_true rfl) rfl ?_ | refine rs_ld_ma rfl rfl rfl (by omega) (Nat.le_of_ble_eq_true rfl) rfl ?_
                refine rs_alloc rfl rfl rfl ?_
                refine rs_st rfl rfl rfl rfl rfl rfl rfl (Nat.le_of_ble_eq_true rfl) rfl rfl ?_
                refine rs_nil fun _ => ?_
                refine th_n ?_
                refine aw_seq ?_
                refine aw_reg ?_
                first | refine rs_fa_p rfl rfl ?_ | refine rs_fa_r rfl rfl rfl ?_
                first | refine rs_ld_r rfl rfl rfl ?_ | refine rs_ld_p rfl rfl rfl rfl rfl ?_ | refine rs_ld_m rfl rfl rfl (by omega) rfl ?_
                refine rs_cmp rfl rfl rfl rfl (fun h74 => ?_) (fun h74 => ?_)
                · skip
                  refine rs_mv rfl rfl ?_
                  refine rs_skip rfl ?_
                  refine rs_skip rfl ?_
                  refine rs_skip rfl ?_
                  refine rs_pick rfl rfl rfl ?_
                  refine rs_mv rfl rfl ?_
                  refine rs_skip rfl ?_
                  refine rs_skip rfl ?_
                  refine rs_skip rfl ?_
                  refine rs_pick rfl rfl rfl ?_
                  refine rs_mv rfl rfl ?_
                  refine rs_skip rfl ?_
                  refine rs_skip rfl ?_
                  refine rs_skip rfl ?_
                  refine rs_skip rfl ?_
                  refine rs_skip rfl ?_
                  refine rs_pick rfl rfl rfl ?_
                  refine rs_mv rfl rfl ?_
                  refine rs_skip rfl ?_
                  refine rs_skip rfl ?_
                  refine rs_skip rfl ?_
                  refine rs_skip rfl ?_
                  refine rs_skip rfl ?_
                  refine rs_pick rfl rfl rfl ?_
                  refine rs_nil fun _ => ?_
                  refine th_n ?_
                  refine aw_cond rfl (fun _ => ?_) (fun h => by cases h)
                  refine aw_seq ?_
                  refine aw_reg ?_
                  refine rs_mv rfl rfl ?_
                  refine rs_nil fun _ => ?_
                  refine th_n ?_
                  refine aw_ret ?_
                  refine in_r ?_
                  refine th_r ?_
                  refine th_r ?_
                  refine in_r ?_
                  refine th_r ?_
                  first
                    | exact ret_pure rfl (congrArg _ (check_1 (by omega)).symm) rfl (.inr rfl)
                    | exact ret_pure rfl (congrArg _ (check_2 (by omega) (by omega)).symm) rfl (.inr rfl)
                    | exact ret_pure rfl (congrArg _ (check_3 (by omega) (by omega) (by omega)).symm) rfl (.inr rfl)
                    | exact ret_pure rfl (congrArg _ (check_4 (by omega) (by omega) (by omega) k (by omega) (by omega) (by omega)).symm) rfl (.inr rfl)
                    | exact ret_pure rfl (congrArg _ (check_5 (by omega) (by omega) (by omega) (fun j hj => hb j (by omega)) q (by omega) (by omega)).symm) rfl (.inr rfl)
                    | exact ret_pure rfl (congrArg _ (check_6 (by omega) (by omega) (by omega) (fun j hj => hb j (by omega)) (fun j hj => hc j (by omega))).symm) rfl (.inr rfl)
                · skip
                  refine rs_mv rfl rfl ?_
                  first | refine rs_fa_p rfl rfl ?_ | refine rs_fa_r rfl rfl rfl ?_
                  first | refine rs_ld_r rfl rfl rfl ?_ | refine rs_ld_p rfl rfl rfl rfl rfl ?_ | refine rs_ld_m rfl rfl rfl (by omega) rfl ?_
                  refine rs_cmp rfl rfl rfl rfl (fun h78 => ?_) (fun h78 => ?_)
                  · skip
                    refine rs_pick rfl rfl rfl ?_
                    refine rs_mv rfl rfl ?_
                    refine rs_skip rfl ?_
                    refine rs_skip rfl ?_
                    refine rs_skip rfl ?_
                    refine rs_pick rfl rfl rfl ?_
                    refine rs_mv rfl rfl ?_
                    refine rs_skip rfl ?_
                    refine rs_skip rfl ?_
                    refine rs_skip rfl ?_
                    refine rs_skip rfl ?_
                    refine rs_skip rfl ?_
                    refine rs_pick rfl rfl rfl ?_
                    refine rs_mv rfl rfl ?_
                    refine rs_skip rfl ?_
                    refine rs_skip rfl ?_
                    refine rs_skip rfl ?_
                    refine rs_skip rfl ?_
                    refine rs_skip rfl ?_
                    refine rs_pick rfl rfl rfl ?_
                    refine rs_nil fun _ => ?_
                    refine th_n ?_
                    refine aw_cond rfl (fun _ => ?_) (fun h => by cases h)
                    refine aw_seq ?_
                    refine aw_reg ?_
                    refine rs_mv rfl rfl ?_
                    refine rs_nil fun _ => ?_
                    refine th_n ?_
                    refine aw_ret ?_
                    refine in_r ?_
                    refine th_r ?_
                    refine th_r ?_
                    refine in_r ?_
                    refine th_r ?_
                    first
                      | exact ret_pure rfl (congrArg _ (check_1 (by omega)).symm) rfl (.inr rfl)
                      | exact ret_pure rfl (congrArg _ (check_2 (by omega) (by omega)).symm) rfl (.inr rfl)
                      | exact ret_pure rfl (congrArg _ (check_3 (by omega) (by omega) (by omega)).symm) rfl (.inr rfl)
                      | exact ret_pure rfl (congrArg _ (check_4 (by omega) (by omega) (by omega) k (by omega) (by omega) (by omega)).symm) rfl (.inr rfl)
                      | exact ret_pure rfl (congrArg _ (check_5 (by omega) (by omega) (by omega) (fun j hj => hb j (by omega)) q (by omega) (by omega)).symm) rfl (.inr rfl)
                      | exact ret_pure rfl (congrArg _ (check_6 (by omega) (by omega) (by omega) (fun j hj => hb j (by omega)) (fun j hj => hc j (by omega))).symm) rfl (.inr rfl)
                  · skip
                    refine rs_pick rfl rfl rfl ?_
                    refine rs_mv rfl rfl ?_
                    first | refine rs_fa_p rfl rfl ?_ | refine rs_fa_r rfl rfl rfl ?_
                    first | refine rs_ld_r rfl rfl rfl ?_ | refine rs_ld_p rfl rfl rfl rfl rfl ?_ | refine rs_ld_m rfl rfl rfl (by omega) rfl ?_
                    refine rs_cmp rfl rfl rfl rfl (fun h83 => ?_) (fun h83 => ?_)
                    · skip
                      refine rs_pick rfl rfl rfl ?_
                      refine rs_mv rfl rfl ?_
                      refine rs_skip rfl ?_
                      refine rs_skip rfl ?_
                      refine rs_skip rfl ?_
                      refine rs_skip rfl ?_
                      refine rs_skip rfl ?_
                      refine rs_pick rfl rfl rfl ?_
                      refine rs_mv rfl rfl ?_
                      refine rs_skip rfl ?_
                      refine rs_skip rfl ?_
                      refine rs_skip rfl ?_
                      refine rs_skip rfl ?_
                      refine rs_skip rfl ?_
                      refine rs_pick rfl rfl rfl ?_
                      refine rs_nil fun _ => ?_
                      refine th_n ?_
                      refine aw_cond rfl (fun _ => ?_) (fun h => by cases h)
                      refine aw_seq ?_
                      refine aw_reg ?_
                      refine rs_mv rfl rfl ?_
                      refine rs_nil fun _ => ?_
                      refine th_n ?_
                      refine aw_ret ?_
                      refine in_r ?_
                      refine th_r ?_
                      refine th_r ?_
                      refine in_r ?_
                      refine th_r ?_
                      first
                        | exact ret_pure rfl (congrArg _ (check_1 (by omega)).symm) rfl (.inr rfl)
                        | exact ret_pure rfl (congrArg _ (check_2 (by omega) (by omega)).symm) rfl (.inr rfl)
                        | exact ret_pure rfl (congrArg _ (check_3 (by omega) (by omega) (by omega)).symm) rfl (.inr rfl)
                        | exact ret_pure rfl (congrArg _ (check_4 (by omega) (by omega) (by omega) k (by omega) (by omega) (by omega)).symm) rfl (.inr rfl)
                        | exact ret_pure rfl (congrArg _ (check_5 (by omega) (by omega) (by omega) (fun j hj => hb j (by omega)) q (by omega) (by omega)).symm) rfl (.inr rfl)
                        | exact ret_pure rfl (congrArg _ (check_6 (by omega) (by omega) (by omega) (fun j hj => hb j (by omega)) (fun j hj => hc j (by omega))).symm) rfl (.inr rfl)
                    · skip
                      refine rs_pick rfl rfl rfl ?_
                      refine rs_mv rfl rfl ?_
                      first | refine rs_fa_p rfl rfl ?_ | refine rs_fa_r rfl rfl rfl ?_
                      first | refine rs_ld_r rfl rfl rfl ?_ | refine rs_ld_p rfl rfl rfl rfl rfl ?_ | refine rs_ld_m rfl rfl rfl (by omega) rfl ?_
                      refine rs_mv rfl rfl ?_
                      first | refine rs_len_m rfl rfl ?_ | refine rs_len_s rfl rfl ?_ | refine rs_len_n rfl rfl ?_ | refine rs_len_r rfl rfl rfl ?_
                      refine rs_cmp rfl rfl rfl rfl (fun h90 => ?_) (fun h90 => ?_)
                      · skip
                        refine rs_pick rfl rfl rfl ?_
                        refine rs_mv rfl rfl ?_
                        refine rs_skip rfl ?_
                        refine rs_skip rfl ?_
                        refine rs_skip rfl ?_
                        refine rs_skip rfl ?_
                        refine rs_skip rfl ?_
                        refine rs_pick rfl rfl rfl ?_
                        refine rs_nil fun _ => ?_
                        refine th_n ?_
                        refine aw_cond rfl (fun _ => ?_) (fun h => by cases h)
                        refine aw_seq ?_
                        refine aw_reg ?_
                        refine rs_mv rfl rfl ?_
                        refine rs_nil fun _ => ?_
                        refine th_n ?_
                        refine aw_ret ?_
                        refine in_r ?_
                        refine th_r ?_
                        refine th_r ?_
                        refine in_r ?_
                        refine th_r ?_
                        first
                          | exact ret_pure rfl (congrArg _ (check_1 (by omega)).symm) rfl (.inr rfl)
                          | exact ret_pure rfl (congrArg _ (check_2 (by omega) (by omega)).symm) rfl (.inr rfl)
                          | exact ret_pure rfl (congrArg _ (check_3 (by omega) (by omega) (by omega)).symm) rfl (.inr rfl)
                          | exact ret_pure rfl (congrArg _ (check_4 (by omega) (by omega) (by omega) k (by omega) (by omega) (by omega)).symm) rfl (.inr rfl)
                          | exact ret_pure rfl (congrArg _ (check_5 (by omega) (by omega) (by omega) (fun j hj => hb j (by omega)) q (by omega) (by omega)).symm) rfl (.inr rfl)
                          | exact ret_pure rfl (congrArg _ (check_6 (by omega) (by omega) (by omega) (fun j hj => hb j (by omega)) (fun j hj => hc j (by omega))).symm) rfl (.inr rfl)
                      · skip
                        refine rs_pick rfl rfl rfl ?_
                        refine rs_mv rfl rfl ?_
                        first | refine rs_fa_p rfl rfl ?_ | refine rs_fa_r rfl rfl rfl ?_
                        first | refine rs_ld_r rfl rfl rfl ?_ | refine rs_ld_p rfl rfl rfl rfl rfl ?_ | refine rs_ld_m rfl rfl rfl (by omega) rfl ?_
                        first | refine rs_fa_p rfl rfl ?_ | refine rs_fa_r rfl rfl rfl ?_
                        first | refine rs_ld_r rfl rfl rfl ?_ | refine rs_ld_p rfl rfl rfl rfl rfl ?_ | refine rs_ld_m rfl rfl rfl (by omega) rfl ?_
                        refine rs_cmp rfl rfl rfl rfl (fun h97 => ?_) (fun h97 => ?_)
                        · skip
                          refine rs_pick rfl rfl rfl ?_
                          refine rs_nil fun _ => ?_
                          refine th_n ?_
                          refine aw_cond rfl (fun _ => ?_) (fun h => by cases h)
                          refine aw_seq ?_
                          refine aw_reg ?_
                          refine rs_mv rfl rfl ?_
                          refine rs_nil fun _ => ?_
                          refine th_n ?_
                          refine aw_ret ?_
                          refine in_r ?_
                          refine th_r ?_
                          refine th_r ?_
                          refine in_r ?_
                          refine th_r ?_
                          first
                            | exact ret_pure rfl (congrArg _ (check_1 (by omega)).symm) rfl (.inr rfl)
                            | exact ret_pure rfl (congrArg _ (check_2 (by omega) (by omega)).symm) rfl (.inr rfl)
                            | exact ret_pure rfl (congrArg _ (check_3 (by omega) (by omega) (by omega)).symm) rfl (.inr rfl)
                            | exact ret_pure rfl (congrArg _ (check_4 (by omega) (by omega) (by omega) k (by omega) (by omega) (by omega)).symm) rfl (.inr rfl)
                            | exact ret_pure rfl (congrArg _ (check_5 (by omega) (by omega) (by omega) (fun j hj => hb j (by omega)) q (by omega) (by omega)).symm) rfl (.inr rfl)
                            | exact ret_pure rfl (congrArg _ (check_6 (by omega) (by omega) (by omega) (fun j hj => hb j (by omega)) (fun j hj => hc j (by omega))).symm) rfl (.inr rfl)
                        · skip
                          refine rs_pick rfl rfl rfl ?_
                          refine rs_nil fun _ => ?_
                          refine th_n ?_
                          refine aw_cond rfl (fun h => by cases h) (fun _ => ?_)
                          refine aw_skip ?_
                          refine in_n ?_
                          refine th_n ?_
                          refine aw_reg ?_
                          refine rs_add rfl rfl rfl (by omega) ?_
                          refine rs_mv rfl rfl ?_
                          refine rs_nil fun _ => ?_
                          refine th_n ?_
                          refine ⟨q + 1, ⟨by omega, fun j hj h1 => ?_⟩, by omega, weak_to (.cons rfl (rc_same rfl (.inl rfl)) (.cons rfl (rc_same rfl (.inl rfl)) (.cons rfl (rc_same rfl (.inl rfl)) (.cons rfl (rc_same rfl (.inl rfl)) (.cons rfl (rc_same rfl (.inl rfl)) (.cons rfl (rc_same rfl (.inl rfl)) (.cons rfl (rc_same rfl (.inl rfl)) (.nil)))))))) (.nil) (fun i h => by cases h)⟩
                          by_cases e : j = q
                          · subst e; unfold badR; omega
                          · exact hc j (by omega) h1
              · first | replace h69 := of_decide_eq_false h69 | skip
                refine aw_exit ?_
                refine th_e ?_
                refine th_e ?_
                refine in_hit ?_
                refine th_n ?_
                refine aw_seq ?_
                refine aw_reg ?_
                refine rs_mv rfl rfl ?_
                refine rs_nil fun _ => ?_
                refine th_n ?_
                refine aw_ret ?_
                first
                  | exact ret_pure rfl (congrArg _ (check_1 (by omega)).symm) rfl (.inr rfl)
                  | exact ret_pure rfl (congrArg _ (check_2 (by omega) (by omega)).symm) rfl (.inr rfl)
                  | exact ret_pure rfl (congrArg _ (check_3 (by omega) (by omega) (by omega)).symm) rfl (.inr rfl)
                  | exact ret_pure rfl (congrArg _ (check_4 (by omega) (by omega) (by omega) k (by omega) (by omega) (by omega)).symm) rfl (.inr rfl)
                  | exact ret_pure rfl (congrArg _ (check_5 (by omega) (by omega) (by omega) (fun j hj => hb j (by omega)) q (by omega) (by omega)).symm) rfl (.inr rfl)
                  | exact ret_pure rfl (congrArg _ (check_6 (by omega) (by omega) (by omega) (fun j hj => hb j (by omega)) (fun j hj => hc j (by omega))).symm) rfl (.inr rfl)

def mc20 : MC := (.seq (.reg [⟨(some 8), (.mv (.c (.int .i64 0))), none, []⟩] false) (.seq (.seq (.reg [⟨(some 11), (.mv (.t 0)), none, []⟩, ⟨(some 12), (.len (.t 11)), none, [0]⟩, ⟨(some 13), (.bin .gtr (.t 12) (.c (.int .i64 40))), none, [1]⟩, ⟨(some 14), (.mv (.t 13)), none, [2]⟩, ⟨(some 15), (.mv (.t 1)), (some (14, false)), [3]⟩, ⟨(some 16), (.len (.t 15)), (some (14, false)), [4, 3]⟩, ⟨(some 17), (.bin .gtr (.t 16) (.c (.int .i64 6))), (some (14, false)), [5, 3]⟩, ⟨(some 18), (.pick (.t 14) (.c (.bool true)) (.t 17)), none, [3, 6]⟩, ⟨(some 19), (.mv (.t 18)), none, [7, 3]⟩, ⟨(some 20), (.mv (.t 2)), (some (19, false)), [8]⟩, ⟨(some 21), (.len (.t 20)), (some (19, false)), [9, 8]⟩, ⟨(some 22), (.bin .gtr (.t 21) (.c (.int .i64 6))), (some (19, false)), [10, 8]⟩, ⟨(some 23), (.pick (.t 19) (.c (.bool true)) (.t 22)), none, [8, 11]⟩] false) (.cond (.t 23) (.seq (.reg [⟨(some 8), (.mv (.c (.int .i64 2))), none, []⟩] false) .ret) .skip)) (.seq (.seq (.reg [⟨(some 24), (.mv (.t 1)), none, []⟩, ⟨(some 25), (.len (.t 24)), none, [0]⟩, ⟨(some 26), (.mv (.t 2)), none, []⟩, ⟨(some 27), (.len (.t 26)), none, [2]⟩, ⟨(some 28), (.bin .neq (.t 25) (.t 27)), none, [1, 3]⟩] false) (.cond (.t 28) (.seq (.reg [⟨(some 8), (.mv (.c (.int .i64 4))), none, []⟩] false) .ret) .skip)) (.seq (.seq (.reg [⟨(some 29), (.mv (.t 3)), none, []⟩, ⟨(some 30), (.bin .lss (.t 29) (.c (.int .i64 0))), none, [0]⟩, ⟨(some 31), (.mv (.t 30)), none, [1]⟩, ⟨(some 32), (.mv (.t 3)), (some (31, false)), [2]⟩, ⟨(some 33), (.bin .gtr (.t 32) (.c (.int .i64 3))), (some (31, false)), [3, 2]⟩, ⟨(some 34), (.pick (.t 31) (.c (.bool true)) (.t 33)), none, [2, 4]⟩] false) (.cond (.t 34) (.seq (.reg [⟨(some 8), (.mv (.c (.int .i64 3))), none, []⟩] false) .ret) .skip)) (.seq (.seq (.reg [⟨(some 9), (.mv (.c (.int .i64 0))), none, []⟩] false) (.block 0 (.loop (.seq (.seq (.reg [⟨(some 35), (.mv (.t 9)), none, []⟩, ⟨(some 36), (.mv (.t 1)), none, []⟩, ⟨(some 37), (.len (.t 36)), none, [1]⟩, ⟨(some 38), (.bin .lss (.t 35) (.t 37)), none, [0, 2]⟩] false) (.cond (.t 38) .skip (.exit 0))) (.seq (.block 1 (.seq (.reg [⟨(some 41), (.mv (.t 1)), none, []⟩, ⟨(some 42), (.mv (.t 9)), none, []⟩, ⟨(some 43), (.ixsl 1 (.t 41) (.t 42)), none, [0, 1]⟩, ⟨(some 44), (.ld false 1 (.t 43)), none, [2]⟩, ⟨(some 45), (.bin .lss (.t 44) (.c (.int .i64 (-1048576)))), none, [3]⟩, ⟨(some 46), (.mv (.t 45)), none, [4]⟩, ⟨(some 47), (.mv (.t 2)), (some (46, false)), [5]⟩, ⟨(some 48), (.mv (.t 9)), (some (46, false)), [5]⟩, ⟨(some 49), (.ixsl 1 (.t 47) (.t 48)), (some (46, false)), [6, 7, 5]⟩, ⟨(some 50), (.ld false 1 (.t 49)), (some (46, false)), [8, 5]⟩, ⟨(some 51), (.bin .gtr (.t 50) (.c (.int .i64 1048576))), (some (46, false)), [9, 5]⟩, ⟨(some 52), (.pick (.t 46) (.c (.bool true)) (.t 51)), none, [5, 10]⟩, ⟨(some 53), (.mv (.t 52)), none, [11, 5]⟩, ⟨(some 54), (.mv (.t 1)), (some (53, false)), [12]⟩, ⟨(some 55), (.mv (.t 9)), (some (53, false)), [12]⟩, ⟨(some 56), (.ixsl 1 (.t 54) (.t 55)), (some (53, false)), [13, 14, 12]⟩, ⟨(some 57), (.ld false 1 (.t 56)), (some (53, false)), [15, 12]⟩, ⟨(some 58), (.mv (.t 2)), (some (53, false)), [12]⟩, ⟨(some 59), (.mv (.t 9)), (some (53, false)), [12]⟩, ⟨(some 60), (.ixsl 1 (.t 58) (.t 59)), (some (53, false)), [17, 18, 12]⟩, ⟨(some 61), (.ld false 1 (.t 60)), (some (53, false)), [19, 12]⟩, ⟨(some 62), (.bin .gtr (.t 57) (.t 61)), (some (53, false)), [16, 20, 12]⟩, ⟨(some 63), (.pick (.t 53) (.c (.bool true)) (.t 62)), none, [12, 21]⟩] true) (.cond (.t 63) (.seq (.reg [⟨(some 8), (.mv (.c (.int .i64 3))), none, []⟩] false) .ret) .skip))) (.reg [⟨(some 39), (.mv (.t 9)), none, []⟩, ⟨(some 40), (.bin .add (.t 39) (.c (.int .i64 1))), none, [0]⟩, ⟨(some 9), (.mv (.t 40)), none, [1, 0, 1]⟩] false)))))) (.seq (.seq (.reg [⟨(some 10), (.mv (.c (.int .i64 0))), none, []⟩] false) (.block 2 (.loop (.seq (.seq (.reg [⟨(some 64), (.mv (.t 10)), none, []⟩, ⟨(some 65), (.mv (.t 0)), none, []⟩, ⟨(some 66), (.len (.t 65)), none, [1]⟩, ⟨(some 67), (.bin .lss (.t 64) (.t 66)), none, [0, 2]⟩] false) (.cond (.t 67) .skip (.exit 2))) (.seq (.block 3 (.seq (.reg [⟨(some 70), (.mv (.t 0)), none, []⟩, ⟨(some 71), (.mv (.t 10)), none, []⟩, ⟨(some 72), (.ixsl 4 (.t 70) (.t 71)), none, [0, 1]⟩, ⟨(some 73), (.fa 0 (.t 72)), none, [2]⟩, ⟨(some 74), (.ld false 1 (.t 73)), none, [3]⟩, ⟨(some 75), (.bin .lss (.t 74) (.c (.int .i64 0))), none, [4]⟩, ⟨(some 76), (.mv (.t 75)), none, [5]⟩, ⟨(some 77), (.mv (.t 0)), (some (76, false)), [6]⟩, ⟨(some 78), (.mv (.t 10)), (some (76, false)), [6]⟩, ⟨(some 79), (.ixsl 4 (.t 77) (.t 78)), (some (76, false)), [7, 8, 6]⟩, ⟨(some 80), (.fa 0 (.t 79)), (some (76, false)), [9, 6]⟩, ⟨(some 81), (.ld false 1 (.t 80)), (some (76, false)), [10, 6]⟩, ⟨(some 82), (.bin .geq (.t 81) (.c (.int .i64 8))), (some (76, false)), [11, 6]⟩, ⟨(some 83), (.pick (.t 76) (.c (.bool true)) (.t 82)), none, [6, 12]⟩, ⟨(some 84), (.mv (.t 83)), none, [13, 6]⟩, ⟨(some 85), (.mv (.t 0)), (some (84, false)), [14]⟩, ⟨(some 86), (.mv (.t 10)), (some (84, false)), [14]⟩, ⟨(some 87), (.ixsl 4 (.t 85) (.t 86)), (some (84, false)), [15, 16, 14]⟩, ⟨(some 88), (.fa 1 (.t 87)), (some (84, false)), [17, 14]⟩, ⟨(some 89), (.ld false 1 (.t 88)), (some (84, false)), [18, 14]⟩, ⟨(some 90), (.bin .lss (.t 89) (.c (.int .i64 0))), (some (84, false)), [19, 14]⟩, ⟨(some 91), (.pick (.t 84) (.c (.bool true)) (.t 90)), none, [14, 20]⟩, ⟨(some 92), (.mv (.t 91)), none, [21, 14]⟩, ⟨(some 93), (.mv (.t 0)), (some (92, false)), [22]⟩, ⟨(some 94), (.mv (.t 10)), (some (92, false)), [22]⟩, ⟨(some 95), (.ixsl 4 (.t 93) (.t 94)), (some (92, false)), [23, 24, 22]⟩, ⟨(some 96), (.fa 1 (.t 95)), (some (92, false)), [25, 22]⟩, ⟨(some 97), (.ld false 1 (.t 96)), (some (92, false)), [26, 22]⟩, ⟨(some 98), (.mv (.t 1)), (some (92, false)), [22]⟩, ⟨(some 99), (.len (.t 98)), (some (92, false)), [28, 22]⟩, ⟨(some 100), (.bin .geq (.t 97) (.t 99)), (some (92, false)), [27, 29, 22]⟩, ⟨(some 101), (.pick (.t 92) (.c (.bool true)) (.t 100)), none, [22, 30]⟩, ⟨(some 102), (.mv (.t 101)), none, [31, 22]⟩, ⟨(some 103), (.mv (.t 0)), (some (102, false)), [32]⟩, ⟨(some 104), (.mv (.t 10)), (some (102, false)), [32]⟩, ⟨(some 105), (.ixsl 4 (.t 103) (.t 104)), (some (102, false)), [33, 34, 32]⟩, ⟨(some 106), (.fa 2 (.t 105)), (some (102, false)), [35, 32]⟩, ⟨(some 107), (.ld false 1 (.t 106)), (some (102, false)), [36, 32]⟩, ⟨(some 108), (.mv (.t 0)), (some (102, false)), [32]⟩, ⟨(some 109), (.mv (.t 10)), (some (102, false)), [32]⟩, ⟨(some 110), (.ixsl 4 (.t 108) (.t 109)), (some (102, false)), [38, 39, 32]⟩, ⟨(some 111), (.fa 3 (.t 110)), (some (102, false)), [40, 32]⟩, ⟨(some 112), (.ld false 1 (.t 111)), (some (102, false)), [41, 32]⟩, ⟨(some 113), (.bin .gtr (.t 107) (.t 112)), (some (102, false)), [37, 42, 32]⟩, ⟨(some 114), (.pick (.t 102) (.c (.bool true)) (.t 113)), none, [32, 43]⟩] true) (.cond (.t 114) (.seq (.reg [⟨(some 8), (.mv (.c (.int .i64 3))), none, []⟩] false) .ret) .skip))) (.reg [⟨(some 68), (.mv (.t 10)), none, []⟩, ⟨(some 69), (.bin .add (.t 68) (.c (.int .i64 1))), none, [0]⟩, ⟨(some 10), (.mv (.t 69)), none, [1, 0, 1]⟩] false)))))) (.seq (.reg [⟨(some 8), (.mv (.c (.int .i64 0))), none, []⟩] false) .ret)))))))
theorem mcOk20 : (match Try.f20.body with | some c => compC Try.prog 115 c | none => none) = some mc20 := by kernel_rfl

theorem fc20 (l : List Rd) (lo hi : List Int) (lies : Int) : FC Try.prog 20 [.rs 4 (l.map cR), ints lo, ints hi, .int .i64 lies] [] (.int .i64 (checkS l lo hi lies)) [] false := by
  refine fc_run (nt := 115) Try.func20 rfl rfl mcOk20 (Nat.le_of_ble_eq_true rfl) ?_
  delta mc20
  refine aw_seq ?_
  refine aw_reg ?_
  refine rs_mv rfl rfl ?_
  refine rs_nil fun _ => ?_
  refine th_n ?_
  refine aw_seq ?_
  refine aw_seq ?_
  refine aw_reg ?_
  refine rs_mv rfl rfl ?_
  first | refine rs_len_m rfl rfl ?_ | refine rs_len_s rfl rfl ?_ | refine rs_len_n rfl rfl ?_ | refine rs_len_r rfl rfl rfl ?_
  refine rs_cmp rfl rfl rfl rfl (fun h13 => ?_) (fun h13 => ?_)
  · skip
    refine rs_mv rfl rfl ?_
    refine rs_skip rfl ?_
    refine rs_skip rfl ?_
    refine rs_skip rfl ?_
    refine rs_pick rfl rfl rfl ?_
    refine rs_mv rfl rfl ?_
    refine rs_skip rfl ?_
    refine rs_skip rfl ?_
    refine rs_skip rfl ?_
    refine rs_pick rfl rfl rfl ?_
    refine rs_nil fun _ => ?_
    refine th_n ?_
    refine aw_cond rfl (fun _ => ?_) (fun h => by cases h)
    refine aw_seq ?_
    refine aw_reg ?_
    refine rs_mv rfl rfl ?_
    refine rs_nil fun _ => ?_
    refine th_n ?_
    refine aw_ret ?_
    refine th_r ?_
    first
      | exact ret_pure rfl (congrArg _ (check_1 (by omega)).symm) rfl (.inr rfl)
      | exact ret_pure rfl (congrArg _ (check_2 (by omega) (by omega)).symm) rfl (.inr rfl)
      | exact ret_pure rfl (congrArg _ (check_3 (by omega) (by omega) (by omega)).symm) rfl (.inr rfl)
      | exact ret_pure rfl (congrArg _ (check_4 (by omega) (by omega) (by omega) k (by omega) (by omega) (by omega)).symm) rfl (.inr rfl)
      | exact ret_pure rfl (congrArg _ (check_5 (by omega) (by omega) (by omega) (fun j hj => hb j (by omega)) q (by omega) (by omega)).symm) rfl (.inr rfl)
      | exact ret_pure rfl (congrArg _ (check_6 (by omega) (by omega) (by omega) (fun j hj => hb j (by omega)) (fun j hj => hc j (by omega))).symm) rfl (.inr rfl)
  · skip
    refine rs_mv rfl rfl ?_
    refine rs_mv rfl rfl ?_
    first | refine rs_len_m rfl rfl ?_ | refine rs_len_s rfl rfl ?_ | refine rs_len_n rfl rfl ?_ | refine rs_len_r rfl rfl rfl ?_
    refine rs_cmp rfl rfl rfl rfl (fun h17 => ?_) (fun h17 => ?_)
    · skip
      refine rs_pick rfl rfl rfl ?_
      refine rs_mv rfl rfl ?_
      refine rs_skip rfl ?_
      refine rs_skip rfl ?_
      refine rs_skip rfl ?_
      refine rs_pick rfl rfl rfl ?_
      refine rs_nil fun _ => ?_
      refine th_n ?_
      refine aw_cond rfl (fun _ => ?_) (fun h => by cases h)
      refine aw_seq ?_
      refine aw_reg ?_
      refine rs_mv rfl rfl ?_
      refine rs_nil fun _ => ?_
      refine th_n ?_
      refine aw_ret ?_
      refine th_r ?_
      first
        | exact ret_pure rfl (congrArg _ (check_1 (by omega)).symm) rfl (.inr rfl)
        | exact ret_pure rfl (congrArg _ (check_2 (by omega) (by omega)).symm) rfl (.inr rfl)
        | exact ret_pure rfl (congrArg _ (check_3 (by omega) (by omega) (by omega)).symm) rfl (.inr rfl)
        | exact ret_pure rfl (congrArg _ (check_4 (by omega) (by omega) (by omega) k (by omega) (by omega) (by omega)).symm) rfl (.inr rfl)
        | exact ret_pure rfl (congrArg _ (check_5 (by omega) (by omega) (by omega) (fun j hj => hb j (by omega)) q (by omega) (by omega)).symm) rfl (.inr rfl)
        | exact ret_pure rfl (congrArg _ (check_6 (by omega) (by omega) (by omega) (fun j hj => hb j (by omega)) (fun j hj => hc j (by omega))).symm) rfl (.inr rfl)
    · skip
      refine rs_pick rfl rfl rfl ?_
      refine rs_mv rfl rfl ?_
      refine rs_mv rfl rfl ?_
      first | refine rs_len_m rfl rfl ?_ | refine rs_len_s rfl rfl ?_ | refine rs_len_n rfl rfl ?_ | refine rs_len_r rfl rfl rfl ?_
      refine rs_cmp rfl rfl rfl rfl (fun h22 => ?_) (fun h22 => ?_)
      · skip
        refine rs_pick rfl rfl rfl ?_
        refine rs_nil fun _ => ?_
        refine th_n ?_
        refine aw_cond rfl (fun _ => ?_) (fun h => by cases h)
        refine aw_seq ?_
        refine aw_reg ?_
        refine rs_mv rfl rfl ?_
        refine rs_nil fun _ => ?_
        refine th_n ?_
        refine aw_ret ?_
        refine th_r ?_
        first
          | exact ret_pure rfl (congrArg _ (check_1 (by omega)).symm) rfl (.inr rfl)
          | exact ret_pure rfl (congrArg _ (check_2 (by omega) (by omega)).symm) rfl (.inr rfl)
          | exact ret_pure rfl (congrArg _ (check_3 (by omega) (by omega) (by omega)).symm) rfl (.inr rfl)
          | exact ret_pure rfl (congrArg _ (check_4 (by omega) (by omega) (by omega) k (by omega) (by omega) (by omega)).symm) rfl (.inr rfl)
          | exact ret_pure rfl (congrArg _ (check_5 (by omega) (by omega) (by omega) (fun j hj => hb j (by omega)) q (by omega) (by omega)).symm) rfl (.inr rfl)
          | exact ret_pure rfl (congrArg _ (check_6 (by omega) (by omega) (by omega) (fun j hj => hb j (by omega)) (fun j hj => hc j (by omega))).symm) rfl (.inr rfl)
      · skip
        refine rs_pick rfl rfl rfl ?_
        refine rs_nil fun _ => ?_
        refine th_n ?_
        refine aw_cond rfl (fun h => by cases h) (fun _ => ?_)
        refine aw_skip ?_
        refine th_n ?_
        refine aw_seq ?_
        refine aw_seq ?_
        refine aw_reg ?_
        refine rs_mv rfl rfl ?_
        first | refine rs_len_m rfl rfl ?_ | refine rs_len_s rfl rfl ?_ | refine rs_len_n rfl rfl ?_ | refine rs_len_r rfl rfl rfl ?_
        refine rs_mv rfl rfl ?_
        first | refine rs_len_m rfl rfl ?_ | refine rs_len_s rfl rfl ?_ | refine rs_len_n rfl rfl ?_ | refine rs_len_r rfl rfl rfl ?_
        refine rs_neq rfl rfl rfl ?_
        refine rs_nil fun _ => ?_
        refine th_n ?_
        refine aw_cond rfl (fun h28 => ?_) (fun h28 => ?_)
        · first | replace h28 := of_decide_eq_true h28 | skip
          refine aw_seq ?_
          refine aw_reg ?_
          refine rs_mv rfl rfl ?_
          refine rs_nil fun _ => ?_
          refine th_n ?_
          refine aw_ret ?_
          refine th_r ?_
          first
            | exact ret_pure rfl (congrArg _ (check_1 (by omega)).symm) rfl (.inr rfl)
            | exact ret_pure rfl (congrArg _ (check_2 (by omega) (by omega)).symm) rfl (.inr rfl)
            | exact ret_pure rfl (congrArg _ (check_3 (by omega) (by omega) (by omega)).symm) rfl (.inr rfl)
            | exact ret_pure rfl (congrArg _ (check_4 (by omega) (by omega) (by omega) k (by omega) (by omega) (by omega)).symm) rfl (.inr rfl)
            | exact ret_pure rfl (congrArg _ (check_5 (by omega) (by omega) (by omega) (fun j hj => hb j (by omega)) q (by omega) (by omega)).symm) rfl (.inr rfl)
            | exact ret_pure rfl (congrArg _ (check_6 (by omega) (by omega) (by omega) (fun j hj => hb j (by omega)) (fun j hj => hc j (by omega))).symm) rfl (.inr rfl)
        · first | replace h28 := of_decide_eq_false h28 | skip
          refine aw_skip ?_
          refine th_n ?_
          refine aw_seq ?_
          refine aw_seq ?_
          refine aw_reg ?_
          refine rs_mv rfl rfl ?_
          refine rs_cmp rfl rfl rfl rfl (fun h30 => ?_) (fun h30 => ?_)
          · skip
            refine rs_mv rfl rfl ?_
            refine rs_skip rfl ?_
            refine rs_skip rfl ?_
            refine rs_pick rfl rfl rfl ?_
            refine rs_nil fun _ => ?_
            refine th_n ?_
            refine aw_cond rfl (fun _ => ?_) (fun h => by cases h)
            refine aw_seq ?_
            refine aw_reg ?_
            refine rs_mv rfl rfl ?_
            refine rs_nil fun _ => ?_
            refine th_n ?_
            refine aw_ret ?_
            refine th_r ?_
            first
              | exact ret_pure rfl (congrArg _ (check_1 (by omega)).symm) rfl (.inr rfl)
              | exact ret_pure rfl (congrArg _ (check_2 (by omega) (by omega)).symm) rfl (.inr rfl)
              | exact ret_pure rfl (congrArg _ (check_3 (by omega) (by omega) (by omega)).symm) rfl (.inr rfl)
              | exact ret_pure rfl (congrArg _ (check_4 (by omega) (by omega) (by omega) k (by omega) (by omega) (by omega)).symm) rfl (.inr rfl)
              | exact ret_pure rfl (congrArg _ (check_5 (by omega) (by omega) (by omega) (fun j hj => hb j (by omega)) q (by omega) (by omega)).symm) rfl (.inr rfl)
              | exact ret_pure rfl (congrArg _ (check_6 (by omega) (by omega) (by omega) (fun j hj => hb j (by omega)) (fun j hj => hc j (by omega))).symm) rfl (.inr rfl)
          · skip
            refine rs_mv rfl rfl ?_
            refine rs_mv rfl rfl ?_
            refine rs_cmp rfl rfl rfl rfl (fun h33 => ?_) (fun h33 => ?_)
            · skip
              refine rs_pick rfl rfl rfl ?_
              refine rs_nil fun _ => ?_
              refine th_n ?_
              refine aw_cond rfl (fun _ => ?_) (fun h => by cases h)
              refine aw_seq ?_
              refine aw_reg ?_
              refine rs_mv rfl rfl ?_
              refine rs_nil fun _ => ?_
              refine th_n ?_
              refine aw_ret ?_
              refine th_r ?_
              first
                | exact ret_pure rfl (congrArg _ (check_1 (by omega)).symm) rfl (.inr rfl)
                | exact ret_pure rfl (congrArg _ (check_2 (by omega) (by omega)).symm) rfl (.inr rfl)
                | exact ret_pure rfl (congrArg _ (check_3 (by omega) (by omega) (by omega)).symm) rfl (.inr rfl)
                | exact ret_pure rfl (congrArg _ (check_4 (by omega) (by omega) (by omega) k (by omega) (by omega) (by omega)).symm) rfl (.inr rfl)
                | exact ret_pure rfl (congrArg _ (check_5 (by omega) (by omega) (by omega) (fun j hj => hb j (by omega)) q (by omega) (by omega)).symm) rfl (.inr rfl)
                | exact ret_pure rfl (congrArg _ (check_6 (by omega) (by omega) (by omega) (fun j hj => hb j (by omega)) (fun j hj => hc j (by omega))).symm) rfl (.inr rfl)
            · skip
              refine rs_pick rfl rfl rfl ?_
              refine rs_nil fun _ => ?_
              refine th_n ?_
              refine aw_cond rfl (fun h => by cases h) (fun _ => ?_)
              refine aw_skip ?_
              refine th_n ?_
              refine aw_seq ?_
              refine aw_seq ?_
              refine aw_reg ?_
              refine rs_mv rfl rfl ?_
              refine rs_nil fun _ => ?_
              refine th_n ?_
              refine aw_block ?_
              refine aw_fam (α := Nat) (fun k => lo.length - k) (fun k => [(0, .rs 4 (l.map cR)), (1, ints lo), (2, ints hi), (3, .int .i64 lies), (9, .int .i64 (((k) : Nat) : Int))]) (fun k => []) (fun k => k ≤ lo.length ∧ ∀ j, j < k → ∀ (h1 : j < lo.length) (h2 : j < hi.length), ¬ badL lo[j] hi[j]) 0 (⟨by omega, fun j h => by omega⟩)
                (weak_to (.cons rfl (rc_same rfl (.inl rfl)) (.cons rfl (rc_same rfl (.inl rfl)) (.cons rfl (rc_same rfl (.inl rfl)) (.cons rfl (rc_same rfl (.inl rfl)) (.cons rfl (rc_same rfl (.inl rfl)) (.nil)))))) (.nil) (fun i h => by cases h)) ?_
              rintro k ⟨hk, hb⟩
              refine aw_seq ?_
              refine aw_seq ?_
              refine aw_reg ?_
              refine rs_mv rfl rfl ?_
              refine rs_mv rfl rfl ?_
              first | refine rs_len_m rfl rfl ?_ | refine rs_len_s rfl rfl ?_ | refine rs_len_n rfl rfl ?_ | refine rs_len_r rfl rfl rfl ?_
              refine rs_lss rfl rfl rfl ?_
              refine rs_nil fun _ => ?_
              refine th_n ?_
              refine aw_cond rfl (fun h38 => ?_) (fun h38 => ?_)
              · first | replace h38 := of_decide_eq_true h38 | skip
                refine aw_skip ?_
                refine th_n ?_
                refine aw_seq ?_
                refine aw_block ?_
                refine aw_seq ?_
                refine aw_draw hmix ?_
                refine rs_mv rfl rfl ?_
                refine rs_mv rfl rfl ?_
                first | refine rs_ix_m rfl rfl rfl (by omega) ?_ | refine rs_ix_sm rfl rfl rfl rfl (by omega) ?_
                first | refine rs_ld_r rfl rfl rfl ?_ | refine rs_ld_p rfl rfl rfl rfl rfl ?_ | refine rs_ld_m rfl rfl rfl (by omega) rfl ?_
                refine rs_cmp rfl rfl rfl rfl (fun h45 => ?_) (fun h45 => ?_)
                · skip
                  refine rs_mv rfl rfl ?_
                  refine rs_skip rfl ?_
                  refine rs_skip rfl ?_
                  refine rs_skip rfl ?_
                  refine rs_skip rfl ?_
                  refine rs_skip rfl ?_
                  refine rs_pick rfl rfl rfl ?_
                  refine rs_mv rfl rfl ?_
                  refine rs_skip rfl ?_
                  refine rs_skip rfl ?_
                  refine rs_skip rfl ?_
                  refine rs_skip rfl ?_
                  refine rs_skip rfl ?_
                  refine rs_skip rfl ?_
                  refine rs_skip rfl ?_
                  refine rs_skip rfl ?_
                  refine rs_skip rfl ?_
                  refine rs_pick rfl rfl rfl ?_
                  refine rs_nil ⟨by kernel_rfl, fun _ => ?_⟩
                  refine th_n ?_
                  refine aw_cond rfl (fun _ => ?_) (fun h => by cases h)
                  refine aw_seq ?_
                  refine aw_reg ?_
                  refine rs_mv rfl rfl ?_
                  refine rs_nil fun _ => ?_
                  refine th_n ?_
                  refine aw_ret ?_
                  refine in_r ?_
                  refine th_r ?_
                  refine th_r ?_
                  refine in_r ?_
                  refine th_r ?_
                  first
                    | exact ret_pure rfl (congrArg _ (check_1 (by omega)).symm) rfl (.inr rfl)
                    | exact ret_pure rfl (congrArg _ (check_2 (by omega) (by omega)).symm) rfl (.inr rfl)
                    | exact ret_pure rfl (congrArg _ (check_3 (by omega) (by omega) (by omega)).symm) rfl (.inr rfl)
                    | exact ret_pure rfl (congrArg _ (check_4 (by omega) (by omega) (by omega) k (by omega) (by omega) (by omega)).symm) rfl (.inr rfl)
                    | exact ret_pure rfl (congrArg _ (check_5 (by omega) (by omega) (by omega) (fun j hj => hb j (by omega)) q (by omega) (by omega)).symm) rfl (.inr rfl)
                    | exact ret_pure rfl (congrArg _ (check_6 (by omega) (by omega) (by omega) (fun j hj => hb j (by omega)) (fun j hj => hc j (by omega))).symm) rfl (.inr rfl)
                · skip
                  refine rs_mv rfl rfl ?_
                  refine rs_mv rfl rfl ?_
                  refine rs_mv rfl rfl ?_
                  first | refine rs_ix_m rfl rfl rfl (by omega) ?_ | refine rs_ix_sm rfl rfl rfl rfl (by omega) ?_
                  first | refine rs_ld_r rfl rfl rfl ?_ | refine rs_ld_p rfl rfl rfl rfl rfl ?_ | refine rs_ld_m rfl rfl rfl (by omega) rfl ?_
                  refine rs_cmp rfl rfl rfl rfl (fun h51 => ?_) (fun h51 => ?_)
                  · skip
                    refine rs_pick rfl rfl rfl ?_
                    refine rs_mv rfl rfl ?_
                    refine rs_skip rfl ?_
                    refine rs_skip rfl ?_
                    refine rs_skip rfl ?_
                    refine rs_skip rfl ?_
                    refine rs_skip rfl ?_
                    refine rs_skip rfl ?_
                    refine rs_skip rfl ?_
                    refine rs_skip rfl ?_
                    refine rs_skip rfl ?_
                    refine rs_pick rfl rfl rfl ?_
                    refine rs_nil ⟨by kernel_rfl, fun _ => ?_⟩
                    refine th_n ?_
                    refine aw_cond rfl (fun _ => ?_) (fun h => by cases h)
                    refine aw_seq ?_
                    refine aw_reg ?_
                    refine rs_mv rfl rfl ?_
                    refine rs_nil fun _ => ?_
                    refine th_n ?_
                    refine aw_ret ?_
                    refine in_r ?_
                    refine th_r ?_
                    refine th_r ?_
                    refine in_r ?_
                    refine th_r ?_
                    first
                      | exact ret_pure rfl (congrArg _ (check_1 (by omega)).symm) rfl (.inr rfl)
                      | exact ret_pure rfl (congrArg _ (check_2 (by omega) (by omega)).symm) rfl (.inr rfl)
                      | exact ret_pure rfl (congrArg _ (check_3 (by omega) (by omega) (by omega)).symm) rfl (.inr rfl)
                      | exact ret_pure rfl (congrArg _ (check_4 (by omega) (by omega) (by omega) k (by omega) (by omega) (by omega)).symm) rfl (.inr rfl)
                      | exact ret_pure rfl (congrArg _ (check_5 (by omega) (by omega) (by omega) (fun j hj => hb j (by omega)) q (by omega) (by omega)).symm) rfl (.inr rfl)
                      | exact ret_pure rfl (congrArg _ (check_6 (by omega) (by omega) (by omega) (fun j hj => hb j (by omega)) (fun j hj => hc j (by omega))).symm) rfl (.inr rfl)
                  · skip
                    refine rs_pick rfl rfl rfl ?_
                    refine rs_mv rfl rfl ?_
                    refine rs_mv rfl rfl ?_
                    refine rs_mv rfl rfl ?_
                    first | refine rs_ix_m rfl rfl rfl (by omega) ?_ | refine rs_ix_sm rfl rfl rfl rfl (by omega) ?_
                    first | refine rs_ld_r rfl rfl rfl ?_ | refine rs_ld_p rfl rfl rfl rfl rfl ?_ | refine rs_ld_m rfl rfl rfl (by omega) rfl ?_
                    refine rs_mv rfl rfl ?_
                    refine rs_mv rfl rfl ?_
                    first | refine rs_ix_m rfl rfl rfl (by omega) ?_ | refine rs_ix_sm rfl rfl rfl rfl (by omega) ?_
                    first | refine rs_ld_r rfl rfl rfl ?_ | refine rs_ld_p rfl rfl rfl rfl rfl ?_ | refine rs_ld_m rfl rfl rfl (by omega) rfl ?_
                    refine rs_cmp rfl rfl rfl rfl (fun h62 => ?_) (fun h62 => ?_)
                    · skip
                      refine rs_pick rfl rfl rfl ?_
                      refine rs_nil ⟨by kernel_rfl, fun _ => ?_⟩
                      refine th_n ?_
                      refine aw_cond rfl (fun _ => ?_) (fun h => by cases h)
                      refine aw_seq ?_
                      refine aw_reg ?_
                      refine rs_mv rfl rfl ?_
                      refine rs_nil fun _ => ?_
                      refine th_n ?_
                      refine aw_ret ?_
                      refine in_r ?_
                      refine th_r ?_
                      refine th_r ?_
                      refine in_r ?_
                      refine th_r ?_
                      first
                        | exact ret_pure rfl (congrArg _ (check_1 (by omega)).symm) rfl (.inr rfl)
                        | exact ret_pure rfl (congrArg _ (check_2 (by omega) (by omega)).symm) rfl (.inr rfl)
                        | exact ret_pure rfl (congrArg _ (check_3 (by omega) (by omega) (by omega)).symm) rfl (.inr rfl)
                        | exact ret_pure rfl (congrArg _ (check_4 (by omega) (by omega) (by omega) k (by omega) (by omega) (by omega)).symm) rfl (.inr rfl)
                        | exact ret_pure rfl (congrArg _ (check_5 (by omega) (by omega) (by omega) (fun j hj => hb j (by omega)) q (by omega) (by omega)).symm) rfl (.inr rfl)
                        | exact ret_pure rfl (congrArg _ (check_6 (by omega) (by omega) (by omega) (fun j hj => hb j (by omega)) (fun j hj => hc j (by omega))).symm) rfl (.inr rfl)
                    · skip
                      refine rs_pick rfl rfl rfl ?_
                      refine rs_nil ⟨by kernel_rfl, fun _ => ?_⟩
                      refine th_n ?_
                      refine aw_cond rfl (fun h => by cases h) (fun _ => ?_)
                      refine aw_skip ?_
                      refine in_n ?_
                      refine th_n ?_
                      refine aw_reg ?_
                      refine rs_mv rfl rfl ?_
                      refine rs_add rfl rfl rfl (by omega) ?_
                      refine rs_mv rfl rfl ?_
                      refine rs_nil fun _ => ?_
                      refine th_n ?_
                      refine ⟨k + 1, ⟨by omega, fun j hj h1 h2 => ?_⟩, by omega, weak_to (.cons rfl (rc_same rfl (.inl rfl)) (.cons rfl (rc_same rfl (.inl rfl)) (.cons rfl (rc_same rfl (.inl rfl)) (.cons rfl (rc_same rfl (.inl rfl)) (.cons rfl (rc_same rfl (.inl rfl)) (.nil)))))) (.nil) (fun i h => by cases h)⟩
                      by_cases e : j = k
                      · subst e; unfold badL; omega
                      · exact hb j (by omega) h1 h2
              · first | replace h38 := of_decide_eq_false h38 | skip
                refine aw_exit ?_
                refine th_e ?_
                refine th_e ?_
                refine in_hit ?_
                refine th_n ?_
                refine aw_seq ?_
                refine aw_seq ?_
                refine aw_reg ?_
                refine rs_mv rfl rfl ?_
                refine rs_nil fun _ => ?_
                refine th_n ?_
                refine aw_block ?_
                refine aw_fam (α := Nat) (fun q => l.length - q) (fun q => [(0, .rs 4 (l.map cR)), (1, ints lo), (2, ints hi), (3, .int .i64 lies), (10, .int .i64 (((q) : Nat) : Int))]) (fun q => []) (fun q => q ≤ l.length ∧ ∀ j, j < q → ∀ (h1 : j < l.length), ¬ badR lo.length l[j]) 0 (⟨by omega, fun j h => by omega⟩)
                  (weak_to (.cons rfl (rc_same rfl (.inl rfl)) (.cons rfl (rc_same rfl (.inl rfl)) (.cons rfl (rc_same rfl (.inl rfl)) (.cons rfl (rc_same rfl (.inl rfl)) (.cons rfl (rc_same rfl (.inl rfl)) (.nil)))))) (.nil) (fun i h => by cases h)) ?_
                rintro q ⟨hq, hc⟩
                refine aw_seq ?_
                refine aw_seq ?_
                refine aw_reg ?_
                refine rs_mv rfl rfl ?_
                refine rs_mv rfl rfl ?_
                first | refine rs_len_m rfl rfl ?_ | refine rs_len_s rfl rfl ?_ | refine rs_len_n rfl rfl ?_ | refine rs_len_r rfl rfl rfl ?_
                refine rs_lss rfl rfl rfl ?_
                refine rs_nil fun _ => ?_
                refine th_n ?_
                refine aw_cond rfl (fun h67 => ?_) (fun h67 => ?_)
                · first | replace h67 := of_decide_eq_true h67 | skip
                  refine aw_skip ?_
                  refine th_n ?_
                  refine aw_seq ?_
                  refine aw_block ?_
                  refine aw_seq ?_
                  refine aw_draw hmix ?_
                  refine rs_mv rfl rfl ?_
                  refine rs_mv rfl rfl ?_
                  first | refine rs_ix_m rfl rfl rfl (by omega) ?_ | refine rs_ix_sm rfl rfl rfl rfl (by omega) ?_
                  first | refine rs_fa_p rfl rfl ?_ | refine rs_fa_r rfl rfl rfl ?_
                  first | refine rs_ld_r rfl rfl rfl ?_ | refine rs_ld_p rfl rfl rfl rfl rfl ?_ | refine rs_ld_m rfl rfl rfl (by omega) rfl ?_
                  refine rs_cmp rfl rfl rfl rfl (fun h75 => ?_) (fun h75 => ?_)
                  · skip
                    refine rs_mv rfl rfl ?_
                    refine rs_skip rfl ?_
                    refine rs_skip rfl ?_
                    refine rs_skip rfl ?_
                    refine rs_skip rfl ?_
                    refine rs_skip rfl ?_
                    refine rs_skip rfl ?_
                    refine rs_pick rfl rfl rfl ?_
                    refine rs_mv rfl rfl ?_
                    refine rs_skip rfl ?_
                    refine rs_skip rfl ?_
                    refine rs_skip rfl ?_
                    refine rs_skip rfl ?_
                    refine rs_skip rfl ?_
                    refine rs_skip rfl ?_
                    refine rs_pick rfl rfl rfl ?_
                    refine rs_mv rfl rfl ?_
                    refine rs_skip rfl ?_
                    refine rs_skip rfl ?_
                    refine rs_skip rfl ?_
                    refine rs_skip rfl ?_
                    refine rs_skip rfl ?_
                    refine rs_skip rfl ?_
                    refine rs_skip rfl ?_
                    refine rs_skip rfl ?_
                    refine rs_pick rfl rfl rfl ?_
                    refine rs_mv rfl rfl ?_
                    refine rs_skip rfl ?_
                    refine rs_skip rfl ?_
                    refine rs_skip rfl ?_
                    refine rs_skip rfl ?_
                    refine rs_skip rfl ?_
                    refine rs_skip rfl ?_
                    refine rs_skip rfl ?_
                    refine rs_skip rfl ?_
                    refine rs_skip rfl ?_
                    refine rs_skip rfl ?_
                    refine rs_skip rfl ?_
                    refine rs_pick rfl rfl rfl ?_
                    refine rs_nil ⟨by kernel_rfl, fun _ => ?_⟩
                    refine th_n ?_
                    refine aw_cond rfl (fun _ => ?_) (fun h => by cases h)
                    refine aw_seq ?_
                    refine aw_reg ?_
                    refine rs_mv rfl rfl ?_
                    refine rs_nil fun _ => ?_
                    refine th_n ?_
                    refine aw_ret ?_
                    refine in_r ?_
                    refine th_r ?_
                    refine th_r ?_
                    refine in_r ?_
                    refine th_r ?_
                    first
                      | exact ret_pure rfl (congrArg _ (check_1 (by omega)).symm) rfl (.inr rfl)
                      | exact ret_pure rfl (congrArg _ (check_2 (by omega) (by omega)).symm) rfl (.inr rfl)
                      | exact ret_pure rfl (congrArg _ (check_3 (by omega) (by omega) (by omega)).symm) rfl (.inr rfl)
                      | exact ret_pure rfl (congrArg _ (check_4 (by omega) (by omega) (by omega) k (by omega) (by omega) (by omega)).symm) rfl (.inr rfl)
                      | exact ret_pure rfl (congrArg _ (check_5 (by omega) (by omega) (by omega) (fun j hj => hb j (by omega)) q (by omega) (by omega)).symm) rfl (.inr rfl)
                      | exact ret_pure rfl (congrArg _ (check_6 (by omega) (by omega) (by omega) (fun j hj => hb j (by omega)) (fun j hj => hc j (by omega))).symm) rfl (.inr rfl)
                  · skip
                    refine rs_mv rfl rfl ?_
                    refine rs_mv rfl rfl ?_
                    refine rs_mv rfl rfl ?_
                    first | refine rs_ix_m rfl rfl rfl (by omega) ?_ | refine rs_ix_sm rfl rfl rfl rfl (by omega) ?_
                    first | refine rs_fa_p rfl rfl ?_ | refine rs_fa_r rfl rfl rfl ?_
                    first | refine rs_ld_r rfl rfl rfl ?_ | refine rs_ld_p rfl rfl rfl rfl rfl ?_ | refine rs_ld_m rfl rfl rfl (by omega) rfl ?_
                    refine rs_cmp rfl rfl rfl rfl (fun h82 => ?_) (fun h82 => ?_)
                    · skip
                      refine rs_pick rfl rfl rfl ?_
                      refine rs_mv rfl rfl ?_
                      refine rs_skip rfl ?_
                      refine rs_skip rfl ?_
                      refine rs_skip rfl ?_
                      refine rs_skip rfl ?_
                      refine rs_skip rfl ?_
                      refine rs_skip rfl ?_
                      refine rs_pick rfl rfl rfl ?_
                      refine rs_mv rfl rfl ?_
                      refine rs_skip rfl ?_
                      refine rs_skip rfl ?_
                      refine rs_skip rfl ?_
                      refine rs_skip rfl ?_
                      refine rs_skip rfl ?_
                      refine rs_skip rfl ?_
                      refine rs_skip rfl ?_
                      refine rs_skip rfl ?_
                      refine rs_pick rfl rfl rfl ?_
                      refine rs_mv rfl rfl ?_
                      refine rs_skip rfl ?_
                      refine rs_skip rfl ?_
                      refine rs_skip rfl ?_
                      refine rs_skip rfl ?_
                      refine rs_skip rfl ?_
                      refine rs_skip rfl ?_
                      refine rs_skip rfl ?_
                      refine rs_skip rfl ?_
                      refine rs_skip rfl ?_
                      refine rs_skip rfl ?_
                      refine rs_skip rfl ?_
                      refine rs_pick rfl rfl rfl ?_
                      refine rs_nil ⟨by kernel_rfl, fun _ => ?_⟩
                      refine th_n ?_
                      refine aw_cond rfl (fun _ => ?_) (fun h => by cases h)
                      refine aw_seq ?_
                      refine aw_reg ?_
                      refine rs_mv rfl rfl ?_
                      refine rs_nil fun _ => ?_
                      refine th_n ?_
                      refine aw_ret ?_
                      refine in_r ?_
                      refine th_r ?_
                      refine th_r ?_
                      refine in_r ?_
                      refine th_r ?_
                      first
                        | exact ret_pure rfl (congrArg _ (check_1 (by omega)).symm) rfl (.inr rfl)
                        | exact ret_pure rfl (congrArg _ (check_2 (by omega) (by omega)).symm) rfl (.inr rfl)
                        | exact ret_pure rfl (congrArg _ (check_3 (by omega) (by omega) (by omega)).symm) rfl (.inr rfl)
                        | exact ret_pure rfl (congrArg _ (check_4 (by omega) (by omega) (by omega) k (by omega) (by omega) (by omega)).symm) rfl (.inr rfl)
                        | exact ret_pure rfl (congrArg _ (check_5 (by omega) (by omega) (by omega) (fun j hj => hb j (by omega)) q (by omega) (by omega)).symm) rfl (.inr rfl)
                        | exact ret_pure rfl (congrArg _ (check_6 (by omega) (by omega) (by omega) (fun j hj => hb j (by omega)) (fun j hj => hc j (by omega))).symm) rfl (.inr rfl)
                    · skip
                      refine rs_pick rfl rfl rfl ?_
                      refine rs_mv rfl rfl ?_
                      refine rs_mv rfl rfl ?_
                      refine rs_mv rfl rfl ?_
                      first | refine rs_ix_m rfl rfl rfl (by omega) ?_ | refine rs_ix_sm rfl rfl rfl rfl (by omega) ?_
                      first | refine rs_fa_p rfl rfl ?_ | refine rs_fa_r rfl rfl rfl ?_
                      first | refine rs_ld_r rfl rfl rfl ?_ | refine rs_ld_p rfl rfl rfl rfl rfl ?_ | refine rs_ld_m rfl rfl rfl (by omega) rfl ?_
                      refine rs_cmp rfl rfl rfl rfl (fun h90 => ?_) (fun h90 => ?_)
                      · skip
                        refine rs_pick rfl rfl rfl ?_
                        refine rs_mv rfl rfl ?_
                        refine rs_skip rfl ?_
                        refine rs_skip rfl ?_
                        refine rs_skip rfl ?_
                        refine rs_skip rfl ?_
                        refine rs_skip rfl ?_
                        refine rs_skip rfl ?_
                        refine rs_skip rfl ?_
                        refine rs_skip rfl ?_
                        refine rs_pick rfl rfl rfl ?_
                        refine rs_mv rfl rfl ?_
                        refine rs_skip rfl ?_
                        refine rs_skip rfl ?_
                        refine rs_skip rfl ?_
                        refine rs_skip rfl ?_
                        refine rs_skip rfl ?_
                        refine rs_skip rfl ?_
                        refine rs_skip rfl ?_
                        refine rs_skip rfl ?_
                        refine rs_skip rfl ?_
                        refine rs_skip rfl ?_
                        refine rs_skip rfl ?_
                        refine rs_pick rfl rfl rfl ?_
                        refine rs_nil ⟨by kernel_rfl, fun _ => ?_⟩
                        refine th_n ?_
                        refine aw_cond rfl (fun _ => ?_) (fun h => by cases h)
                        refine aw_seq ?_
                        refine aw_reg ?_
                        refine rs_mv rfl rfl ?_
                        refine rs_nil fun _ => ?_
                        refine th_n ?_
                        refine aw_ret ?_
                        refine in_r ?_
                        refine th_r ?_
                        refine th_r ?_
                        refine in_r ?_
                        refine th_r ?_
                        first
                          | exact ret_pure rfl (congrArg _ (check_1 (by omega)).symm) rfl (.inr rfl)
                          | exact ret_pure rfl (congrArg _ (check_2 (by omega) (by omega)).symm) rfl (.inr rfl)
                          | exact ret_pure rfl (congrArg _ (check_3 (by omega) (by omega) (by omega)).symm) rfl (.inr rfl)
                          | exact ret_pure rfl (congrArg _ (check_4 (by omega) (by omega) (by omega) k (by omega) (by omega) (by omega)).symm) rfl (.inr rfl)
                          | exact ret_pure rfl (congrArg _ (check_5 (by omega) (by omega) (by omega) (fun j hj => hb j (by omega)) q (by omega) (by omega)).symm) rfl (.inr rfl)
                          | exact ret_pure rfl (congrArg _ (check_6 (by omega) (by omega) (by omega) (fun j hj => hb j (by omega)) (fun j hj => hc j (by omega))).symm) rfl (.inr rfl)
                      · skip
                        refine rs_pick rfl rfl rfl ?_
                        refine rs_mv rfl rfl ?_
                        refine rs_mv rfl rfl ?_
                        refine rs_mv rfl rfl ?_
                        first | refine rs_ix_m rfl rfl rfl (by omega) ?_ | refine rs_ix_sm rfl rfl rfl rfl (by omega) ?_
                        first | refine rs_fa_p rfl rfl ?_ | refine rs_fa_r rfl rfl rfl ?_
                        first | refine rs_ld_r rfl rfl rfl ?_ | refine rs_ld_p rfl rfl rfl rfl rfl ?_ | refine rs_ld_m rfl rfl rfl (by omega) rfl ?_
                        refine rs_mv rfl rfl ?_
                        first | refine rs_len_m rfl rfl ?_ | refine rs_len_s rfl rfl ?_ | refine rs_len_n rfl rfl ?_ | refine rs_len_r rfl rfl rfl ?_
                        refine rs_cmp rfl rfl rfl rfl (fun h100 => ?_) (fun h100 => ?_)
                        · skip
                          refine rs_pick rfl rfl rfl ?_
                          refine rs_mv rfl rfl ?_
                          refine rs_skip rfl ?_
                          refine rs_skip rfl ?_
                          refine rs_skip rfl ?_
                          refine rs_skip rfl ?_
                          refine rs_skip rfl ?_
                          refine rs_skip rfl ?_
                          refine rs_skip rfl ?_
                          refine rs_skip rfl ?_
                          refine rs_skip rfl ?_
                          refine rs_skip rfl ?_
                          refine rs_skip rfl ?_
                          refine rs_pick rfl rfl rfl ?_
                          refine rs_nil ⟨by kernel_rfl, fun _ => ?_⟩
                          refine th_n ?_
                          refine aw_cond rfl (fun _ => ?_) (fun h => by cases h)
                          refine aw_seq ?_
                          refine aw_reg ?_
                          refine rs_mv rfl rfl ?_
                          refine rs_nil fun _ => ?_
                          refine th_n ?_
                          refine aw_ret ?_
                          refine in_r ?_
                          refine th_r ?_
                          refine th_r ?_
                          refine in_r ?_
                          refine th_r ?_
                          first
                            | exact ret_pure rfl (congrArg _ (check_1 (by omega)).symm) rfl (.inr rfl)
                            | exact ret_pure rfl (congrArg _ (check_2 (by omega) (by omega)).symm) rfl (.inr rfl)
                            | exact ret_pure rfl (congrArg _ (check_3 (by omega) (by omega) (by omega)).symm) rfl (.inr rfl)
                            | exact ret_pure rfl (congrArg _ (check_4 (by omega) (by omega) (by omega) k (by omega) (by omega) (by omega)).symm) rfl (.inr rfl)
                            | exact ret_pure rfl (congrArg _ (check_5 (by omega) (by omega) (by omega) (fun j hj => hb j (by omega)) q (by omega) (by omega)).symm) rfl (.inr rfl)
                            | exact ret_pure rfl (congrArg _ (check_6 (by omega) (by omega) (by omega) (fun j hj => hb j (by omega)) (fun j hj => hc j (by omega))).symm) rfl (.inr rfl)
                        · skip
                          refine rs_pick rfl rfl rfl ?_
                          refine rs_mv rfl rfl ?_
                          refine rs_mv rfl rfl ?_
                          refine rs_mv rfl rfl ?_
                          first | refine rs_ix_m rfl rfl rfl (by omega) ?_ | refine rs_ix_sm rfl rfl rfl rfl (by omega) ?_
                          first | refine rs_fa_p rfl rfl ?_ | refine rs_fa_r rfl rfl rfl ?_
                          first | refine rs_ld_r rfl rfl rfl ?_ | refine rs_ld_p rfl rfl rfl rfl rfl ?_ | refine rs_ld_m rfl rfl rfl (by omega) rfl ?_
                          refine rs_mv rfl rfl ?_
                          refine rs_mv rfl rfl ?_
                          first | refine rs_ix_m rfl rfl rfl (by omega) ?_ | refine rs_ix_sm rfl rfl rfl rfl (by omega) ?_
                          first | refine rs_fa_p rfl rfl ?_ | refine rs_fa_r rfl rfl rfl ?_
                          first | refine rs_ld_r rfl rfl rfl ?_ | refine rs_ld_p rfl rfl rfl rfl rfl ?_ | refine rs_ld_m rfl rfl rfl (by omega) rfl ?_
                          refine rs_cmp rfl rfl rfl rfl (fun h113 => ?_) (fun h113 => ?_)
                          · skip
                            refine rs_pick rfl rfl rfl ?_
                            refine rs_nil ⟨by kernel_rfl, fun _ => ?_⟩
                            refine th_n ?_
                            refine aw_cond rfl (fun _ => ?_) (fun h => by cases h)
                            refine aw_seq ?_
                            refine aw_reg ?_
                            refine rs_mv rfl rfl ?_
                            refine rs_nil fun _ => ?_
                            refine th_n ?_
                            refine aw_ret ?_
                            refine in_r ?_
                            refine th_r ?_
                            refine th_r ?_
                            refine in_r ?_
                            refine th_r ?_
                            first
                              | exact ret_pure rfl (congrArg _ (check_1 (by omega)).symm) rfl (.inr rfl)
                              | exact ret_pure rfl (congrArg _ (check_2 (by omega) (by omega)).symm) rfl (.inr rfl)
                              | exact ret_pure rfl (congrArg _ (check_3 (by omega) (by omega) (by omega)).symm) rfl (.inr rfl)
                              | exact ret_pure rfl (congrArg _ (check_4 (by omega) (by omega) (by omega) k (by omega) (by omega) (by omega)).symm) rfl (.inr rfl)
                              | exact ret_pure rfl (congrArg _ (check_5 (by omega) (by omega) (by omega) (fun j hj => hb j (by omega)) q (by omega) (by omega)).symm) rfl (.inr rfl)
                              | exact ret_pure rfl (congrArg _ (check_6 (by omega) (by omega) (by omega) (fun j hj => hb j (by omega)) (fun j hj => hc j (by omega))).symm) rfl (.inr rfl)
                          · skip
                            refine rs_pick rfl rfl rfl ?_
                            refine rs_nil ⟨by kernel_rfl, fun _ => ?_⟩
                            refine th_n ?_
                            refine aw_cond rfl (fun h => by cases h) (fun _ => ?_)
                            refine aw_skip ?_
                            refine in_n ?_
                            refine th_n ?_
                            refine aw_reg ?_
                            refine rs_mv rfl rfl ?_
                            refine rs_add rfl rfl rfl (by omega) ?_
                            refine rs_mv rfl rfl ?_
                            refine rs_nil fun _ => ?_
                            refine th_n ?_
                            refine ⟨q + 1, ⟨by omega, fun j hj h1 => ?_⟩, by omega, weak_to (.cons rfl (rc_same rfl (.inl rfl)) (.cons rfl (rc_same rfl (.inl rfl)) (.cons rfl (rc_same rfl (.inl rfl)) (.cons rfl (rc_same rfl (.inl rfl)) (.cons rfl (rc_same rfl (.inl rfl)) (.nil)))))) (.nil) (fun i h => by cases h)⟩
                            by_cases e : j = q
                            · subst e; unfold badR; omega
                            · exact hc j (by omega) h1
                · first | replace h67 := of_decide_eq_false h67 | skip
                  refine aw_exit ?_
                  refine th_e ?_
                  refine th_e ?_
                  refine in_hit ?_
                  refine th_n ?_
                  refine aw_seq ?_
                  refine aw_reg ?_
                  refine rs_mv rfl rfl ?_
                  refine rs_nil fun _ => ?_
                  refine th_n ?_
                  refine aw_ret ?_
                  first
                    | exact ret_pure rfl (congrArg _ (check_1 (by omega)).symm) rfl (.inr rfl)
                    | exact ret_pure rfl (congrArg _ (check_2 (by omega) (by omega)).symm) rfl (.inr rfl)
                    | exact ret_pure rfl (congrArg _ (check_3 (by omega) (by omega) (by omega)).symm) rfl (.inr rfl)
                    | exact ret_pure rfl (congrArg _ (check_4 (by omega) (by omega) (by omega) k (by omega) (by omega) (by omega)).symm) rfl (.inr rfl)
                    | exact ret_pure rfl (congrArg _ (check_5 (by omega) (by omega) (by omega) (fun j hj => hb j (by omega)) q (by omega) (by omega)).symm) rfl (.inr rfl)
                    | exact ret_pure rfl (congrArg _ (check_6 (by omega) (by omega) (by omega) (fun j hj => hb j (by omega)) (fun j hj => hc j (by omega))).symm) rfl (.inr rfl)

end Go.Proofs.Ytadjdnhnbkcakaa

/-! Walks: A3. -/
namespace Go.Proofs.Ytadjdnhnbkcakaa
open Go.RowKit

theorem flat_ci : ∀ y : Int, closedL (ci y) = true := fun _ => rfl
/-- The number of bits, as the library counts them. -/
def oc1 (x : Int) : Int := IntKind.u64.wrap (bits .and .u64 (x.fdiv (2 ^ min ((1 : Int)).toNat IntKind.u64.bits)) 6148914691236517205 + bits .and .u64 x 6148914691236517205)
def oc2 (x : Int) : Int := IntKind.u64.wrap (bits .and .u64 (x.fdiv (2 ^ min ((2 : Int)).toNat IntKind.u64.bits)) 3689348814741910323 + bits .and .u64 x 3689348814741910323)
def oc3 (x : Int) : Int := bits .and .u64 (IntKind.u64.wrap (x.fdiv (2 ^ min ((4 : Int)).toNat IntKind.u64.bits) + x)) 1085102592571150095
def oc4 (k : Int) (x : Int) : Int := IntKind.u64.wrap (x + x.fdiv (2 ^ min k.toNat IntKind.u64.bits))
def oc (x : Int) : Int := bits .and .i64 (IntKind.i64.wrap (oc4 32 (oc4 16 (oc4 8 (oc3 (oc2 (oc1 x))))))) 127
theorem oc_ok : ∀ s : Nat, s < 256 → oc (s : Int) = (sizeS s 8 : Int) := by decide +kernel

def mc48 : MC := (.seq (.reg [⟨(some 2), (.mv (.c .nils)), none, []⟩] false) (.seq (.seq (.reg [⟨(some 3), (.mv (.t 0)), none, []⟩, ⟨(some 4), (.isnil true false (.t 3)), none, [0]⟩] false) (.cond (.t 4) (.seq (.reg [⟨(some 2), (.mv (.c .nils)), none, []⟩] false) .ret) .skip)) (.seq (.reg [⟨(some 5), (.bslice 3 1 [(.int .i64 0)] 0 []), none, []⟩, ⟨(some 6), (.mv (.t 0)), none, []⟩, ⟨(some 7), (.app 3 1 8 [(.int .i64 0)] (.t 5) (.t 6)), none, [0, 1]⟩, ⟨(some 2), (.mv (.t 7)), none, [2, 2, 0, 1, 2]⟩] false) .ret)))
theorem mcOk48 : (match Try.f48.body with | some c => compC Try.prog 8 c | none => none) = some mc48 := by kernel_rfl

theorem fc48_0  : FC Try.prog 48 [ints ([] : List Int)] [] (.sl 7 0 ([] : List Int).length) [(7, .cells 3 1 (([] : List Int).map ci) true)] false := by
  refine fc_run (nt := 8) Try.func48 rfl rfl mcOk48 (Nat.le_of_ble_eq_true rfl) ?_
  delta mc48
  refine aw_seq ?_
  refine aw_reg ?_
  refine rs_mv rfl rfl ?_
  refine rs_nil fun _ => ?_
  refine th_n ?_
  refine aw_seq ?_
  refine aw_seq ?_
  refine aw_reg ?_
  refine rs_mv rfl rfl ?_
  refine rs_nil_any rfl rfl (.inl ⟨_, rfl⟩) ?_
  refine rs_nil fun _ => ?_
  refine th_n ?_
  refine aw_condany rfl ?_ ?_
  · skip
    refine aw_seq ?_
    refine aw_reg ?_
    refine rs_mv rfl rfl ?_
    refine rs_nil fun _ => ?_
    refine th_n ?_
    refine aw_ret ?_
    refine th_r ?_
    first
      | exact ret_new rfl (rc_same rfl (.inr rfl)) (.keep rfl rfl (noROE_map (fun _ => rfl) _) .nil)
      | exact ret_new rfl (rc_virt rfl rfl) (.virt rfl .nil)
  · skip
    refine aw_skip ?_
    refine th_n ?_
    refine aw_seq ?_
    refine aw_reg ?_
    refine rs_bslice rfl rfl rfl rfl rfl rfl ?_
    refine rs_mv rfl rfl ?_
    refine rs_app_e (ys := ([] : List Int)) (n := ([] : List Int).length) (f := ci) (rd := []) rfl rfl rfl rfl rfl rfl rfl (by simp) (fun _ => rfl) rfl (by first | decide | (simp; omega)) (by first | decide | (simp; omega)) flat_ci ?_
    refine rs_mv rfl rfl ?_
    refine rs_nil fun _ => ?_
    refine th_n ?_
    refine aw_ret ?_
    first
      | exact ret_new rfl (rc_same rfl (.inr rfl)) (.keep rfl rfl (noROE_map (fun _ => rfl) _) .nil)
      | exact ret_new rfl (rc_virt rfl rfl) (.virt rfl .nil)

theorem fc48_1 (x : Int) (xs : List Int) (hx : xs.length ≤ 1000000) : FC Try.prog 48 [ints (x :: xs)] [] (.sl 7 0 (x :: xs).length) [(7, .cells 3 1 ((x :: xs).map ci) true)] false := by
  refine fc_run (nt := 8) Try.func48 rfl rfl mcOk48 (Nat.le_of_ble_eq_true rfl) ?_
  delta mc48
  refine aw_seq ?_
  refine aw_reg ?_
  refine rs_mv rfl rfl ?_
  refine rs_nil fun _ => ?_
  refine th_n ?_
  refine aw_seq ?_
  refine aw_seq ?_
  refine aw_reg ?_
  refine rs_mv rfl rfl ?_
  refine rs_nil_f rfl rfl (.inl ⟨_, _, _, rfl⟩) ?_
  refine rs_nil fun _ => ?_
  refine th_n ?_
  refine aw_cond rfl (fun h => by cases h) (fun _ => ?_)
  refine aw_skip ?_
  refine th_n ?_
  refine aw_seq ?_
  refine aw_reg ?_
  refine rs_bslice rfl rfl rfl rfl rfl rfl ?_
  refine rs_mv rfl rfl ?_
  refine rs_app_e (ys := (x :: xs)) (n := (x :: xs).length) (f := ci) (rd := []) rfl rfl rfl rfl rfl rfl rfl (by simp) (fun _ => rfl) rfl (by first | decide | (simp; omega)) (by first | decide | (simp; omega)) flat_ci ?_
  refine rs_mv rfl rfl ?_
  refine rs_nil fun _ => ?_
  refine th_n ?_
  refine aw_ret ?_
  first
    | exact ret_new rfl (rc_same rfl (.inr rfl)) (.keep rfl rfl (noROE_map (fun _ => rfl) _) .nil)
    | exact ret_new rfl (rc_virt rfl rfl) (.virt rfl .nil)

theorem fc48 (xs : List Int) (hx : xs.length ≤ 1000000) : FC Try.prog 48 [ints xs] [] (.sl 7 0 xs.length) [(7, .cells 3 1 (xs.map ci) true)] false := by
  cases xs with
  | nil => exact fc48_0
  | cons x xs => exact fc48_1 x xs (by simp at hx; omega)

def mc70 : MC := (.seq (.reg [⟨(some 2), (.mv (.c (.int .i64 0))), none, []⟩] false) (.seq (.reg [⟨(some 3), (.mv (.t 0)), none, []⟩, ⟨(some 4), (.bin .shr (.t 3) (.c (.int .u64 1))), none, [0]⟩, ⟨(some 5), (.bin .and (.t 4) (.c (.int .u64 6148914691236517205))), none, [1]⟩, ⟨(some 6), (.mv (.t 0)), none, []⟩, ⟨(some 7), (.bin .and (.t 6) (.c (.int .u64 6148914691236517205))), none, [3]⟩, ⟨(some 8), (.bin .add (.t 5) (.t 7)), none, [2, 4]⟩, ⟨(some 0), (.mv (.t 8)), none, [5, 0, 1, 2, 3, 4, 5]⟩] false) (.seq (.reg [⟨(some 9), (.mv (.t 0)), none, []⟩, ⟨(some 10), (.bin .shr (.t 9) (.c (.int .u64 2))), none, [0]⟩, ⟨(some 11), (.bin .and (.t 10) (.c (.int .u64 3689348814741910323))), none, [1]⟩, ⟨(some 12), (.mv (.t 0)), none, []⟩, ⟨(some 13), (.bin .and (.t 12) (.c (.int .u64 3689348814741910323))), none, [3]⟩, ⟨(some 14), (.bin .add (.t 11) (.t 13)), none, [2, 4]⟩, ⟨(some 0), (.mv (.t 14)), none, [5, 0, 1, 2, 3, 4, 5]⟩] false) (.seq (.reg [⟨(some 15), (.mv (.t 0)), none, []⟩, ⟨(some 16), (.bin .shr (.t 15) (.c (.int .u64 4))), none, [0]⟩, ⟨(some 17), (.mv (.t 0)), none, []⟩, ⟨(some 18), (.bin .add (.t 16) (.t 17)), none, [1, 2]⟩, ⟨(some 19), (.bin .and (.t 18) (.c (.int .u64 1085102592571150095))), none, [3]⟩, ⟨(some 0), (.mv (.t 19)), none, [4, 0, 1, 2, 3, 4]⟩] false) (.seq (.reg [⟨(some 20), (.mv (.t 0)), none, []⟩, ⟨(some 21), (.mv (.t 0)), none, []⟩, ⟨(some 22), (.bin .shr (.t 21) (.c (.int .u64 8))), none, [1]⟩, ⟨(some 23), (.bin .add (.t 20) (.t 22)), none, [0, 2]⟩, ⟨(some 0), (.mv (.t 23)), none, [3, 0, 1, 2, 3]⟩] false) (.seq (.reg [⟨(some 24), (.mv (.t 0)), none, []⟩, ⟨(some 25), (.mv (.t 0)), none, []⟩, ⟨(some 26), (.bin .shr (.t 25) (.c (.int .u64 16))), none, [1]⟩, ⟨(some 27), (.bin .add (.t 24) (.t 26)), none, [0, 2]⟩, ⟨(some 0), (.mv (.t 27)), none, [3, 0, 1, 2, 3]⟩] false) (.seq (.reg [⟨(some 28), (.mv (.t 0)), none, []⟩, ⟨(some 29), (.mv (.t 0)), none, []⟩, ⟨(some 30), (.bin .shr (.t 29) (.c (.int .u64 32))), none, [1]⟩, ⟨(some 31), (.bin .add (.t 28) (.t 30)), none, [0, 2]⟩, ⟨(some 0), (.mv (.t 31)), none, [3, 0, 1, 2, 3]⟩] false) (.seq (.reg [⟨(some 32), (.mv (.t 0)), none, []⟩, ⟨(some 33), (.cvt .i64 (.t 32)), none, [0]⟩, ⟨(some 34), (.bin .and (.t 33) (.c (.int .i64 127))), none, [1]⟩, ⟨(some 2), (.mv (.t 34)), none, [2, 0, 1, 2]⟩] false) .ret))))))))
theorem mcOk70 : (match Try.f70.body with | some c => compC Try.prog 35 c | none => none) = some mc70 := by kernel_rfl

theorem fc70 (s : Nat) (hs : s < 256) : FC Try.prog 70 [.int .u64 (s : Int)] [] (.int .i64 (sizeS s 8 : Int)) [] false := by
  refine fc_run (nt := 35) Try.func70 rfl rfl mcOk70 (Nat.le_of_ble_eq_true rfl) ?_
  delta mc70
  refine aw_seq ?_
  refine aw_reg ?_
  refine rs_mv rfl rfl ?_
  refine rs_nil fun _ => ?_
  refine th_n ?_
  refine aw_seq ?_
  refine aw_reg ?_
  refine rs_mv rfl rfl ?_
  refine rs_shr rfl rfl rfl (by decide) rfl ?_
  refine rs_and rfl rfl rfl rfl ?_
  refine rs_mv rfl rfl ?_
  refine rs_and rfl rfl rfl rfl ?_
  first | refine rs_add rfl rfl rfl (by decide) ?_ | refine rs_addw rfl rfl rfl rfl ?_
  refine rs_mv rfl rfl ?_
  refine rs_nil fun _ => ?_
  refine th_n ?_
  refine aw_seq ?_
  refine aw_reg ?_
  refine rs_mv rfl rfl ?_
  refine rs_shr rfl rfl rfl (by decide) rfl ?_
  refine rs_and rfl rfl rfl rfl ?_
  refine rs_mv rfl rfl ?_
  refine rs_and rfl rfl rfl rfl ?_
  first | refine rs_add rfl rfl rfl (by decide) ?_ | refine rs_addw rfl rfl rfl rfl ?_
  refine rs_mv rfl rfl ?_
  refine rs_nil fun _ => ?_
  refine th_n ?_
  refine aw_seq ?_
  refine aw_reg ?_
  refine rs_mv rfl rfl ?_
  refine rs_shr rfl rfl rfl (by decide) rfl ?_
  refine rs_mv rfl rfl ?_
  first | refine rs_add rfl rfl rfl (by decide) ?_ | refine rs_addw rfl rfl rfl rfl ?_
  refine rs_and rfl rfl rfl rfl ?_
  refine rs_mv rfl rfl ?_
  refine rs_nil fun _ => ?_
  refine th_n ?_
  refine aw_seq ?_
  refine aw_reg ?_
  refine rs_mv rfl rfl ?_
  refine rs_mv rfl rfl ?_
  refine rs_shr rfl rfl rfl (by decide) rfl ?_
  first | refine rs_add rfl rfl rfl (by decide) ?_ | refine rs_addw rfl rfl rfl rfl ?_
  refine rs_mv rfl rfl ?_
  refine rs_nil fun _ => ?_
  refine th_n ?_
  refine aw_seq ?_
  refine aw_reg ?_
  refine rs_mv rfl rfl ?_
  refine rs_mv rfl rfl ?_
  refine rs_shr rfl rfl rfl (by decide) rfl ?_
  first | refine rs_add rfl rfl rfl (by decide) ?_ | refine rs_addw rfl rfl rfl rfl ?_
  refine rs_mv rfl rfl ?_
  refine rs_nil fun _ => ?_
  refine th_n ?_
  refine aw_seq ?_
  refine aw_reg ?_
  refine rs_mv rfl rfl ?_
  refine rs_mv rfl rfl ?_
  refine rs_shr rfl rfl rfl (by decide) rfl ?_
  first | refine rs_add rfl rfl rfl (by decide) ?_ | refine rs_addw rfl rfl rfl rfl ?_
  refine rs_mv rfl rfl ?_
  refine rs_nil fun _ => ?_
  refine th_n ?_
  refine aw_seq ?_
  refine aw_reg ?_
  refine rs_mv rfl rfl ?_
  refine rs_cvt rfl rfl rfl ?_
  refine rs_and rfl rfl rfl rfl ?_
  refine rs_mv rfl rfl ?_
  refine rs_nil fun _ => ?_
  refine th_n ?_
  refine aw_ret ?_
  exact ret_pure rfl (congrArg (AV.int .i64) (oc_ok s hs)) rfl (.inr rfl)

def mc66 : MC := (.seq (.reg [⟨(some 2), (.mv (.c (.int .i64 0))), none, []⟩] false) (.seq (.cond (.c (.bool false)) (.seq (.reg [⟨(some 3), (.mv (.t 0)), none, []⟩, ⟨(some 4), (.cvt .u32 (.t 3)), none, [0]⟩, ⟨(some 5), (.call 69 [(.t 4)]), none, [1]⟩, ⟨(some 2), (.mv (.t 5)), none, [2, 2, 0, 1, 2]⟩] false) .ret) .skip) (.seq (.reg [⟨(some 6), (.mv (.t 0)), none, []⟩, ⟨(some 7), (.call 70 [(.t 6)]), none, [0]⟩, ⟨(some 2), (.mv (.t 7)), none, [1, 1, 0, 1]⟩] false) .ret)))
theorem mcOk66 : (match Try.f66.body with | some c => compC Try.prog 8 c | none => none) = some mc66 := by kernel_rfl

theorem fc66 (s : Nat) (hs : s < 256) : FC Try.prog 66 [.int .u64 (s : Int)] [] (.int .i64 (sizeS s 8 : Int)) [] false := by
  refine fc_run (nt := 8) Try.func66 rfl rfl mcOk66 (Nat.le_of_ble_eq_true rfl) ?_
  delta mc66
  refine aw_seq ?_
  refine aw_reg ?_
  refine rs_mv rfl rfl ?_
  refine rs_nil fun _ => ?_
  refine th_n ?_
  refine aw_seq ?_
  refine aw_cond rfl (fun h => by cases h) (fun _ => ?_)
  refine aw_skip ?_
  refine th_n ?_
  refine aw_seq ?_
  refine aw_reg ?_
  refine rs_mv rfl rfl ?_
  refine rs_calln [] rfl rfl (fc70 s hs) (.cons (hv_same rfl) (.nil)) rfl ?_
  refine rs_mv rfl rfl ?_
  refine rs_nil fun _ => ?_
  refine th_n ?_
  refine aw_ret ?_
  exact ret_pure rfl rfl rfl (.inr rfl)

end Go.Proofs.Ytadjdnhnbkcakaa

/-! Walks: A4. -/
namespace Go.Proofs.Ytadjdnhnbkcakaa
open Go.RowKit

abbrev iv (n : Int) : AV := .int .i64 n
section
variable {P : Program} {N : Nat} {Z : List Nat} {F : Fr} {H : Hp} {ml : List MOper} {K : List Fp → Fr → Hp → Prop} {d : Nat} {g : Option (Nat × Bool)} {pre : List Nat}
theorem closed_iv : ∀ L : List Int, closedL (L.map iv) = true
  | [] => rfl
  | x :: L => by simp only [List.map_cons, closedL, closed_iv L, Bool.and_true]; rfl
theorem scoped_iv (D : List Nat) : ∀ L : List Int, scopedL D (L.map iv) = true
  | [] => rfl
  | x :: L => by simp only [List.map_cons, scopedL, scoped_iv D L, Bool.and_true]; rfl
theorem noRO_iv : ∀ L : List Int, noROL (L.map iv) = true
  | [] => rfl
  | x :: L => by simp only [List.map_cons, noROL, noRO_iv L, Bool.and_true]; rfl
theorem getD_getElem? {L : List Int} {k : Nat} (h : k < L.length) : (L.map iv)[k]? = some (iv (L.getD k 0)) := by
  simp [h]
/-- A number of an own array of numbers. -/
theorem rs_ld_l {L : List Int} {a o n e z k : Nat} {fl : Bool} {x : Arg} (hg : gOK F g = true) (hx : aarg F x = some (.ptr a 0 o)) (ha : get H a = some (.cells e z [L.map iv] fl)) (hk : o = k) (ho : k < L.length)
    (h : RS P N ml ((d, iv (L.getD k 0)) :: F) H (fun fps => K (([a], []) :: fps))) : RS P N (⟨some d, .ld false n x, g, pre⟩ :: ml) F H K :=
  rs_ld_p hg hx ha (el := L.map iv) rfl (by rw [hk]; exact getD_getElem? ho) h
theorem rs_st_l {L : List Int} {a o e z k : Nat} {v : Int} {fl : Bool} {x y : Arg} (hg : gOK F g = true) (hx : aarg F x = some (.ptr a 0 o)) (hy : aarg F y = some (iv v)) (ha : get H a = some (.cells e z [L.map iv] fl)) (hk : o = k) (ho : k < L.length)
    (h : RS P N ml F ((a, .cells e z [(L.set k v).map iv] fl) :: H) (fun fps => K (([], [a]) :: fps))) : RS P N (⟨none, .st 1 x y, g, pre⟩ :: ml) F H K :=
  rs_st (el := L.map iv) (fl' := fl) hg hx hy ha rfl rfl rfl (by simp; omega) (by subst hk; simp [setAt, List.map_set]) (by simp [closedL, closedV]) h
theorem length_setAt' (cs l : List AV) (o : Nat) : (setAt l o cs).length = l.length := length_setAt cs l o
theorem setAt_all {l cs : List AV} (h : cs.length = l.length) : setAt l 0 cs = cs := by
  apply List.ext_getElem?
  intro k
  rw [getElem?_setAt cs l 0 k (by omega)]
  split
  · simp
  · rw [List.getElem?_eq_none (by omega), List.getElem?_eq_none (by omega)]
theorem resVs_cell {a ty i e z n : Nat} {fl : Bool} {el : List AV} (h1 : get F a = some (.ptr i 0 0)) (h2 : get H i = some (.cells e z [el] fl)) (hg : aggP P ty = some true) (hz : sizeP P ty = some n) (hl : el.length = n) : resVs P F H [.cell a ty] = some [.agg el] := by
  subst hl
  simp [resVs, resV, h1, h2, hg, hz]
end
/-- The limits: six least values, six greatest, and how many. -/
def lowAt (x : List Int) (i : Nat) : Int := x.getD i 0
def highAt (x : List Int) (i : Nat) : Int := x.getD (6 + i) 0
def emptyS (x : List Int) (n : Nat) : Bool := (List.range n).any fun i => decide (x.getD i 0 > x.getD (6 + i) 0)
def wstep (s : Nat) (x : List Int) (r : Rd) : List Int :=
  if hasS s r.probe.toNat = true then x
  else (x.set r.of_.toNat (max (x.getD r.of_.toNat 0) r.lo)).set (6 + r.of_.toNat) (min (x.getD (6 + r.of_.toNat) 0) r.hi)
def withoutS (l : List Rd) (s : Nat) (x : List Int) : List Int := l.foldl (wstep s) x
theorem length_wstep (s : Nat) (x : List Int) (r : Rd) : (wstep s x r).length = x.length := by
  unfold wstep; split <;> simp
theorem length_fold (s : Nat) : ∀ (l : List Rd) (x : List Int), (l.foldl (wstep s) x).length = x.length
  | [], x => rfl
  | r :: l, x => by rw [List.foldl_cons, length_fold s l, length_wstep]
theorem fold_take {α β : Type} (f : α → β → α) (a : α) (l : List β) (k : Nat) (h : k < l.length) : (l.take (k + 1)).foldl f a = f ((l.take k).foldl f a) l[k] := by
  rw [List.take_succ_eq_append_getElem h, List.foldl_append]; rfl
theorem has_bits_u : ∀ s : Nat, s < 256 → ∀ p : Nat, p < 8 → decide (bits .and .u64 ((s : Int).fdiv (2 ^ min ((p : Int)).toNat 64)) 1 = 0) = !hasS s p := by decide +kernel
theorem has_bits_v (s : Nat) (hs : s < 256) (p : Int) (h0 : 0 ≤ p) (h8 : p < 8) : decide (bits .and .u64 ((s : Int).fdiv (2 ^ min p.toNat IntKind.u64.bits)) 1 = 0) = !hasS s p.toNat := by
  have := has_bits_u s hs p.toNat (by omega)
  rw [Int.toNat_natCast] at this
  exact this

def mc68 : MC := (.seq (.reg [⟨(some 1), (.box 92 13 (.t 0)), none, []⟩, ⟨(some 2), (.mv (.c (.bool false))), none, []⟩] false) (.seq (.seq (.reg [⟨(some 4), (.fa 12 (.t 1)), none, []⟩, ⟨(some 5), (.ld false 1 (.t 4)), none, [0]⟩, ⟨(some 6), (.mv (.c (.int .i64 0))), none, []⟩] false) (.block 0 (.loop (.seq (.reg [⟨(some 7), (.bin .lss (.t 6) (.t 5)), none, []⟩] false) (.seq (.cond (.t 7) .skip (.exit 0)) (.seq (.block 1 (.seq (.reg [⟨(some 8), (.mv (.t 6)), none, []⟩, ⟨(some 3), (.mv (.t 8)), none, [0, 0]⟩] false) (.seq (.reg [⟨(some 9), (.mv (.t 3)), none, []⟩, ⟨(some 10), (.fa 0 (.t 1)), none, []⟩, ⟨(some 11), (.ixarr 6 1 (.t 10) (.t 9)), none, [1, 0]⟩, ⟨(some 12), (.ld false 1 (.t 11)), none, [2]⟩, ⟨(some 13), (.mv (.t 3)), none, []⟩, ⟨(some 14), (.fa 6 (.t 1)), none, []⟩, ⟨(some 15), (.ixarr 6 1 (.t 14) (.t 13)), none, [5, 4]⟩, ⟨(some 16), (.ld false 1 (.t 15)), none, [6]⟩, ⟨(some 17), (.bin .gtr (.t 12) (.t 16)), none, [3, 7]⟩] true) (.cond (.t 17) (.seq (.reg [⟨(some 2), (.mv (.c (.bool true))), none, []⟩] false) .ret) .skip)))) (.reg [⟨(some 18), (.bin .add (.t 6) (.c (.int .i64 1))), none, []⟩, ⟨(some 6), (.mv (.t 18)), none, [0]⟩] false))))))) (.seq (.reg [⟨(some 2), (.mv (.c (.bool false))), none, []⟩] false) .ret)))
theorem mcOk68 : (match Try.f68.body with | some c => compC Try.prog 19 c | none => none) = some mc68 := by kernel_rfl

theorem fc68 (x : List Int) (n : Nat) (hx : x.length = 13) (hn : x.getD 12 0 = (n : Int)) (hn6 : n ≤ 6) : FC Try.prog 68 [.agg (x.map iv)] [] (.bool (emptyS x n)) [] false := by
  refine fc_run (nt := 19) Try.func68 rfl rfl mcOk68 (Nat.le_of_ble_eq_true rfl) ?_
  delta mc68
  refine aw_seq ?_
  refine aw_reg ?_
  refine rs_box (v := .agg (x.map iv)) rfl rfl rfl (by simp [hx]) rfl (closed_iv x) ?_
  refine rs_mv rfl rfl ?_
  refine rs_nil fun _ => ?_
  refine th_n ?_
  refine aw_seq ?_
  refine aw_seq ?_
  refine aw_reg ?_
  first | refine rs_fa_p rfl rfl ?_ | refine rs_fa_r rfl rfl rfl ?_
  refine rs_ld_l (k := 12) rfl rfl rfl rfl (by omega) ?_
  rw [hn]
  refine rs_mv rfl rfl ?_
  refine rs_nil fun _ => ?_
  refine th_n ?_
  refine aw_block ?_
  refine aw_fam (α := Nat) (fun k => n - k) (fun k => [(1, .ptr 1 0 0), (5, iv (n : Int)), (6, iv (((k) : Nat) : Int))]) (fun k => [(1, .cells 92 13 [x.map iv] true)]) (fun k => k ≤ n ∧ ∀ j, j < k → ¬ (x.getD j 0 > x.getD (6 + j) 0)) 0 (⟨by omega, fun j h => by omega⟩)
    (weak_to (.cons rfl (rc_same rfl (.inl rfl)) (.cons rfl (rc_same rfl (.inl rfl)) (.cons rfl (rc_same rfl (.inl rfl)) (.nil)))) (.keep (rfl) rfl (.nil)) (fun i h => by cases h)) ?_
  rintro k ⟨hk, hj⟩
  refine aw_seq ?_
  refine aw_reg ?_
  refine rs_lss rfl rfl rfl ?_
  refine rs_nil fun _ => ?_
  refine th_n ?_
  refine aw_seq ?_
  refine aw_cond rfl (fun h7 => ?_) (fun h7 => ?_)
  · first | replace h7 := of_decide_eq_true h7 | skip
    refine aw_skip ?_
    refine th_n ?_
    refine aw_seq ?_
    refine aw_block ?_
    refine aw_seq ?_
    refine aw_reg ?_
    refine rs_mv rfl rfl ?_
    refine rs_mv rfl rfl ?_
    refine rs_nil fun _ => ?_
    refine th_n ?_
    refine aw_seq ?_
    refine aw_draw hmix ?_
    refine rs_mv rfl rfl ?_
    first | refine rs_fa_p rfl rfl ?_ | refine rs_fa_r rfl rfl rfl ?_
    first | refine rs_ixarr_p rfl rfl rfl (by omega) (by omega) ?_ | refine rs_ixarr_r rfl rfl rfl (by omega) (by omega) rfl ?_
    refine rs_ld_l (k := k) rfl rfl rfl (by simp) (by omega) ?_
    refine rs_mv rfl rfl ?_
    first | refine rs_fa_p rfl rfl ?_ | refine rs_fa_r rfl rfl rfl ?_
    first | refine rs_ixarr_p rfl rfl rfl (by omega) (by omega) ?_ | refine rs_ixarr_r rfl rfl rfl (by omega) (by omega) rfl ?_
    refine rs_ld_l (k := 6 + k) rfl rfl rfl (by simp) (by omega) ?_
    refine rs_gtr rfl rfl rfl ?_
    refine rs_nil ⟨by kernel_rfl, fun _ => ?_⟩
    refine th_n ?_
    refine aw_cond rfl (fun h17 => ?_) (fun h17 => ?_)
    · first | replace h17 := of_decide_eq_true h17 | skip
      refine aw_seq ?_
      refine aw_reg ?_
      refine rs_mv rfl rfl ?_
      refine rs_nil fun _ => ?_
      refine th_n ?_
      refine aw_ret ?_
      refine in_r ?_
      refine th_r ?_
      refine th_r ?_
      refine in_r ?_
      refine th_r ?_
      first
        | exact ret_pure rfl (congrArg AV.bool (Eq.symm (List.any_eq_true.2 ⟨k, List.mem_range.2 (by omega), decide_eq_true h17⟩))) rfl (.inr rfl)
        | exact ret_pure rfl (congrArg AV.bool (Eq.symm (Bool.eq_false_iff.2 fun h => by
            obtain ⟨j, h1, h2⟩ := List.any_eq_true.1 h
            exact hj j (by have := List.mem_range.1 h1; omega) (of_decide_eq_true h2)))) rfl (.inr rfl)
    · first | replace h17 := of_decide_eq_false h17 | skip
      refine aw_skip ?_
      refine in_n ?_
      refine th_n ?_
      refine aw_reg ?_
      first | refine rs_add rfl rfl rfl (by omega) ?_ | refine rs_addw rfl rfl rfl rfl ?_
      refine rs_mv rfl rfl ?_
      refine rs_nil fun _ => ?_
      refine th_n ?_
      refine ⟨k + 1, ⟨by omega, fun j hj1 => ?_⟩, by omega, weak_to (.cons rfl (rc_same rfl (.inl rfl)) (.cons rfl (rc_same rfl (.inl rfl)) (.cons rfl (rc_same rfl (.inl rfl)) (.nil)))) (.keep (rfl) rfl (.nil)) (fun i h => by cases h)⟩
      by_cases e : j = k
      · subst e; omega
      · exact hj j (by omega)
  · first | replace h7 := of_decide_eq_false h7 | skip
    refine aw_exit ?_
    refine th_e ?_
    refine th_e ?_
    refine in_hit ?_
    refine th_n ?_
    refine aw_seq ?_
    refine aw_reg ?_
    refine rs_mv rfl rfl ?_
    refine rs_nil fun _ => ?_
    refine th_n ?_
    refine aw_ret ?_
    first
      | exact ret_pure rfl (congrArg AV.bool (Eq.symm (List.any_eq_true.2 ⟨k, List.mem_range.2 (by omega), decide_eq_true h17⟩))) rfl (.inr rfl)
      | exact ret_pure rfl (congrArg AV.bool (Eq.symm (Bool.eq_false_iff.2 fun h => by
          obtain ⟨j, h1, h2⟩ := List.any_eq_true.1 h
          exact hj j (by have := List.mem_range.1 h1; omega) (of_decide_eq_true h2)))) rfl (.inr rfl)

def mc67 : MC := (.seq (.reg [⟨(some 3), (.box 92 13 (.t 0)), none, []⟩, ⟨(some 6), (.alloc 92 13 [(.int .i64 0), (.int .i64 0), (.int .i64 0), (.int .i64 0), (.int .i64 0), (.int .i64 0), (.int .i64 0), (.int .i64 0), (.int .i64 0), (.int .i64 0), (.int .i64 0), (.int .i64 0), (.int .i64 0)]), none, []⟩] false) (.seq (.seq (.reg [⟨(some 9), (.mv (.t 1)), none, []⟩, ⟨(some 10), (.len (.t 9)), none, [0]⟩, ⟨(some 11), (.mv (.c (.int .i64 0))), none, []⟩] false) (.block 0 (.loop (.seq (.reg [⟨(some 12), (.bin .lss (.t 11) (.t 10)), none, []⟩] false) (.seq (.cond (.t 12) .skip (.exit 0)) (.seq (.block 1 (.seq (.reg [⟨(some 13), (.ixsl 4 (.t 9) (.t 11)), none, []⟩, ⟨(some 14), (.ld true 4 (.t 13)), none, [0]⟩, ⟨(some 8), (.alloc 50 4 [(.int .i64 0), (.int .i64 0), (.int .i64 0), (.int .i64 0)]), none, []⟩, ⟨none, (.st 4 (.t 8) (.t 14)), none, [2, 1, 0, 1, 2]⟩] false) (.seq (.reg [⟨(some 15), (.mv (.t 2)), none, []⟩, ⟨(some 16), (.fa 0 (.t 8)), none, []⟩, ⟨(some 17), (.ld false 1 (.t 16)), none, [1]⟩, ⟨(some 18), (.bin .shr (.t 15) (.t 17)), none, [0, 2]⟩, ⟨(some 19), (.bin .and (.t 18) (.c (.int .u64 1))), none, [3]⟩, ⟨(some 20), (.bin .eql (.t 19) (.c (.int .u64 0))), none, [4]⟩] false) (.cond (.t 20) (.reg [⟨(some 21), (.fa 1 (.t 8)), none, []⟩, ⟨(some 22), (.ld false 1 (.t 21)), none, [0]⟩, ⟨(some 23), (.fa 1 (.t 8)), none, []⟩, ⟨(some 24), (.ld false 1 (.t 23)), none, [2]⟩, ⟨(some 25), (.fa 1 (.t 8)), none, []⟩, ⟨(some 26), (.ld false 1 (.t 25)), none, [4]⟩, ⟨(some 27), (.fa 0 (.t 3)), none, []⟩, ⟨(some 28), (.ixarr 6 1 (.t 27) (.t 26)), none, [6, 5]⟩, ⟨(some 29), (.ld false 1 (.t 28)), none, [7]⟩, ⟨(some 30), (.fa 2 (.t 8)), none, []⟩, ⟨(some 31), (.ld false 1 (.t 30)), none, [9]⟩, ⟨(some 32), (.mx (.t 29) (.t 31)), none, [8, 10]⟩, ⟨(some 33), (.fa 1 (.t 8)), none, []⟩, ⟨(some 34), (.ld false 1 (.t 33)), none, [12]⟩, ⟨(some 35), (.fa 6 (.t 3)), none, []⟩, ⟨(some 36), (.ixarr 6 1 (.t 35) (.t 34)), none, [14, 13]⟩, ⟨(some 37), (.ld false 1 (.t 36)), none, [15]⟩, ⟨(some 38), (.fa 3 (.t 8)), none, []⟩, ⟨(some 39), (.ld false 1 (.t 38)), none, [17]⟩, ⟨(some 40), (.mn (.t 37) (.t 39)), none, [16, 18]⟩, ⟨(some 41), (.fa 0 (.t 3)), none, []⟩, ⟨(some 42), (.ixarr 6 1 (.t 41) (.t 22)), none, [20, 1, 0, 1, 4, 5, 6, 7, 8, 9, 10, 11, 14, 15, 16]⟩, ⟨none, (.st 1 (.t 42) (.t 32)), none, [21, 11, 0, 1, 4, 5, 6, 7, 8, 9, 10, 11, 14, 15, 16]⟩, ⟨(some 43), (.fa 6 (.t 3)), none, []⟩, ⟨(some 44), (.ixarr 6 1 (.t 43) (.t 24)), none, [23, 3, 0, 1, 2, 3, 4, 5, 6, 7, 8, 9, 10, 11, 12, 13, 14, 15, 16, 17, 18, 19, 20, 21, 22]⟩, ⟨none, (.st 1 (.t 44) (.t 40)), none, [24, 19, 22, 0, 1, 2, 3, 4, 5, 6, 7, 8, 9, 10, 11, 12, 13, 14, 15, 16, 17, 18, 19, 20, 21, 22]⟩] true) .skip)))) (.reg [⟨(some 45), (.bin .add (.t 11) (.c (.int .i64 1))), none, []⟩, ⟨(some 11), (.mv (.t 45)), none, [0]⟩] false))))))) (.seq (.reg [⟨(some 46), (.ld true 13 (.t 3)), none, []⟩, ⟨none, (.st 13 (.t 6) (.t 46)), none, [0, 0]⟩] false) .ret)))
theorem mcOk67 : (match Try.f67.body with | some c => compC Try.prog 47 c | none => none) = some mc67 := by kernel_rfl

theorem fc67 (x : List Int) (l : List Rd) (s : Nat) (hx : x.length = 13) (hs : s < 256) (hl : l.length ≤ 4611686018427387904) (hr : ∀ r ∈ l, 0 ≤ r.probe ∧ r.probe < 8 ∧ 0 ≤ r.of_ ∧ r.of_ < 6) : FC Try.prog 67 [.agg (x.map iv), .rs 4 (l.map cR), .int .u64 (s : Int)] [] (.agg ((withoutS l s x).map iv)) [] false := by
  refine fc_run (nt := 47) Try.func67 rfl rfl mcOk67 (Nat.le_of_ble_eq_true rfl) ?_
  delta mc67
  refine aw_seq ?_
  refine aw_reg ?_
  refine rs_box (v := .agg (x.map iv)) rfl rfl rfl (by simp [hx]) rfl (closed_iv x) ?_
  refine rs_alloc rfl rfl rfl ?_
  refine rs_nil fun _ => ?_
  refine th_n ?_
  refine aw_seq ?_
  refine aw_seq ?_
  refine aw_reg ?_
  refine rs_mv rfl rfl ?_
  first | refine rs_len_m rfl rfl ?_ | refine rs_len_s rfl rfl ?_ | refine rs_len_n rfl rfl ?_ | refine rs_len_r rfl rfl rfl ?_
  refine rs_mv rfl rfl ?_
  refine rs_nil fun _ => ?_
  refine th_n ?_
  refine aw_block ?_
  refine aw_fam (α := Nat) (fun k => l.length - k) (fun k => [(2, .int .u64 (s : Int)), (3, .ptr 3 0 0), (6, .ptr 6 0 0), (9, .rs 4 (l.map cR)), (10, iv (l.length : Int)), (11, iv (((k) : Nat) : Int))]) (fun k => [(3, .cells 92 13 [((l.take (k)).foldl (wstep s) x).map iv] true), (6, .cells 92 13 [[.int .i64 0, .int .i64 0, .int .i64 0, .int .i64 0, .int .i64 0, .int .i64 0, .int .i64 0, .int .i64 0, .int .i64 0, .int .i64 0, .int .i64 0, .int .i64 0, .int .i64 0]] true)]) (fun k => k ≤ l.length) 0 (by omega)
    (weak_to (.cons rfl (rc_same rfl (.inl rfl)) (.cons rfl (rc_same rfl (.inl rfl)) (.cons rfl (rc_same rfl (.inl rfl)) (.cons rfl (rc_same rfl (.inl rfl)) (.cons rfl (rc_same rfl (.inl rfl)) (.cons rfl (rc_same rfl (.inl rfl)) (.nil))))))) (.keep (rfl) rfl (.keep (rfl) rfl (.nil))) (fun i h => by cases h)) ?_
  intro k hk
  refine aw_seq ?_
  refine aw_reg ?_
  refine rs_lss rfl rfl rfl ?_
  refine rs_nil fun _ => ?_
  refine th_n ?_
  refine aw_seq ?_
  refine aw_cond rfl (fun h12 => ?_) (fun h12 => ?_)
  · first | replace h12 := of_decide_eq_true h12 | skip
    refine aw_skip ?_
    refine th_n ?_
    refine aw_seq ?_
    refine aw_block ?_
    refine aw_seq ?_
    refine aw_reg ?_
    have hkl : k < l.length := by omega
    have hk1 := hr l[k] (List.getElem_mem _)
    have hlen := length_fold s (l.take k) x
    first | refine rs_ix_m rfl rfl rfl (by omega) ?_ | refine rs_ix_sm rfl rfl rfl rfl (by omega) ?_
    first | refine rs_ld_pa rfl rfl rfl rfl (Nat.le_of_ble_eq_true rfl) rfl ?_ | refine rs_ld_ra rfl rfl (Nat.le_of_ble_eq_true rfl) rfl ?_ | refine rs_ld_ma rfl rfl rfl (by omega) (Nat.le_of_ble_eq_true rfl) rfl ?_
    refine rs_alloc rfl rfl rfl ?_
    refine rs_st rfl rfl rfl rfl rfl rfl rfl (Nat.le_of_ble_eq_true rfl) rfl rfl ?_
    refine rs_nil fun _ => ?_
    refine th_n ?_
    refine aw_seq ?_
    refine aw_reg ?_
    refine rs_mv rfl rfl ?_
    first | refine rs_fa_p rfl rfl ?_ | refine rs_fa_r rfl rfl rfl ?_
    first | refine rs_ld_r rfl rfl rfl ?_ | refine rs_ld_p rfl rfl rfl rfl rfl ?_ | refine rs_ld_m rfl rfl rfl (by omega) rfl ?_
    refine rs_shr rfl rfl rfl (hk1.1) rfl ?_
    refine rs_and rfl rfl rfl rfl ?_
    refine rs_eql rfl rfl rfl ?_
    rw [has_bits_v s hs _ hk1.1 hk1.2.1]
    refine rs_nil fun _ => ?_
    refine th_n ?_
    refine aw_cond rfl (fun h20 => ?_) (fun h20 => ?_)
    · first | replace h20 := of_decide_eq_true h20 | skip
      refine aw_draw hmix ?_
      first | refine rs_fa_p rfl rfl ?_ | refine rs_fa_r rfl rfl rfl ?_
      first | refine rs_ld_r rfl rfl rfl ?_ | refine rs_ld_p rfl rfl rfl rfl rfl ?_ | refine rs_ld_m rfl rfl rfl (by omega) rfl ?_
      first | refine rs_fa_p rfl rfl ?_ | refine rs_fa_r rfl rfl rfl ?_
      first | refine rs_ld_r rfl rfl rfl ?_ | refine rs_ld_p rfl rfl rfl rfl rfl ?_ | refine rs_ld_m rfl rfl rfl (by omega) rfl ?_
      first | refine rs_fa_p rfl rfl ?_ | refine rs_fa_r rfl rfl rfl ?_
      first | refine rs_ld_r rfl rfl rfl ?_ | refine rs_ld_p rfl rfl rfl rfl rfl ?_ | refine rs_ld_m rfl rfl rfl (by omega) rfl ?_
      first | refine rs_fa_p rfl rfl ?_ | refine rs_fa_r rfl rfl rfl ?_
      refine rs_ixarr_p rfl rfl rfl (by omega) (by omega) ?_
      refine rs_ld_l (k := l[k].of_.toNat) rfl rfl rfl (by simp) (by omega) ?_
      first | refine rs_fa_p rfl rfl ?_ | refine rs_fa_r rfl rfl rfl ?_
      first | refine rs_ld_r rfl rfl rfl ?_ | refine rs_ld_p rfl rfl rfl rfl rfl ?_ | refine rs_ld_m rfl rfl rfl (by omega) rfl ?_
      refine rs_mx rfl rfl rfl rfl ?_
      first | refine rs_fa_p rfl rfl ?_ | refine rs_fa_r rfl rfl rfl ?_
      first | refine rs_ld_r rfl rfl rfl ?_ | refine rs_ld_p rfl rfl rfl rfl rfl ?_ | refine rs_ld_m rfl rfl rfl (by omega) rfl ?_
      first | refine rs_fa_p rfl rfl ?_ | refine rs_fa_r rfl rfl rfl ?_
      refine rs_ixarr_p rfl rfl rfl (by omega) (by omega) ?_
      refine rs_ld_l (k := 6 + l[k].of_.toNat) rfl rfl rfl (by simp) (by omega) ?_
      first | refine rs_fa_p rfl rfl ?_ | refine rs_fa_r rfl rfl rfl ?_
      first | refine rs_ld_r rfl rfl rfl ?_ | refine rs_ld_p rfl rfl rfl rfl rfl ?_ | refine rs_ld_m rfl rfl rfl (by omega) rfl ?_
      refine rs_mn rfl rfl rfl rfl ?_
      first | refine rs_fa_p rfl rfl ?_ | refine rs_fa_r rfl rfl rfl ?_
      refine rs_ixarr_p rfl rfl rfl (by omega) (by omega) ?_
      refine rs_st_l (k := l[k].of_.toNat) rfl rfl rfl rfl (by simp) (by omega) ?_
      first | refine rs_fa_p rfl rfl ?_ | refine rs_fa_r rfl rfl rfl ?_
      refine rs_ixarr_p rfl rfl rfl (by omega) (by omega) ?_
      refine rs_st_l (k := 6 + l[k].of_.toNat) rfl rfl rfl rfl (by simp) (by simp; omega) ?_
      refine rs_nil ⟨by kernel_rfl, fun _ => ?_⟩
      refine in_n ?_
      refine th_n ?_
      refine aw_reg ?_
      first | refine rs_add rfl rfl rfl (by omega) ?_ | refine rs_addw rfl rfl rfl rfl ?_
      refine rs_mv rfl rfl ?_
      refine rs_nil fun _ => ?_
      refine th_n ?_
      refine ⟨k + 1, by omega, by omega, ?_⟩
      rw [Bool.not_eq_eq_eq_not] at h20
      have hst := fold_take (wstep s) x l k hkl
      first
        | exact weak_to (.cons rfl (rc_same rfl (.inl rfl)) (.cons rfl (rc_same rfl (.inl rfl)) (.cons rfl (rc_same rfl (.inl rfl)) (.cons rfl (rc_same rfl (.inl rfl)) (.cons rfl (rc_same rfl (.inl rfl)) (.cons rfl (rc_same rfl (.inl rfl)) (.nil))))))) (.keep ((by rw [hst, wstep, if_neg (by simp_all)]; rfl)) rfl (.keep (rfl) rfl (.nil))) (fun i h => by cases h)
        | exact weak_to (.cons rfl (rc_same rfl (.inl rfl)) (.cons rfl (rc_same rfl (.inl rfl)) (.cons rfl (rc_same rfl (.inl rfl)) (.cons rfl (rc_same rfl (.inl rfl)) (.cons rfl (rc_same rfl (.inl rfl)) (.cons rfl (rc_same rfl (.inl rfl)) (.nil))))))) (.keep ((by rw [hst, wstep, if_pos (by simp_all)]; rfl)) rfl (.keep (rfl) rfl (.nil))) (fun i h => by cases h)
    · first | replace h20 := of_decide_eq_false h20 | skip
      refine aw_skip ?_
      refine in_n ?_
      refine th_n ?_
      refine aw_reg ?_
      first | refine rs_add rfl rfl rfl (by omega) ?_ | refine rs_addw rfl rfl rfl rfl ?_
      refine rs_mv rfl rfl ?_
      refine rs_nil fun _ => ?_
      refine th_n ?_
      refine ⟨k + 1, by omega, by omega, ?_⟩
      rw [Bool.not_eq_eq_eq_not] at h20
      have hst := fold_take (wstep s) x l k hkl
      first
        | exact weak_to (.cons rfl (rc_same rfl (.inl rfl)) (.cons rfl (rc_same rfl (.inl rfl)) (.cons rfl (rc_same rfl (.inl rfl)) (.cons rfl (rc_same rfl (.inl rfl)) (.cons rfl (rc_same rfl (.inl rfl)) (.cons rfl (rc_same rfl (.inl rfl)) (.nil))))))) (.keep ((by rw [hst, wstep, if_neg (by simp_all)]; rfl)) rfl (.keep (rfl) rfl (.nil))) (fun i h => by cases h)
        | exact weak_to (.cons rfl (rc_same rfl (.inl rfl)) (.cons rfl (rc_same rfl (.inl rfl)) (.cons rfl (rc_same rfl (.inl rfl)) (.cons rfl (rc_same rfl (.inl rfl)) (.cons rfl (rc_same rfl (.inl rfl)) (.cons rfl (rc_same rfl (.inl rfl)) (.nil))))))) (.keep ((by rw [hst, wstep, if_pos (by simp_all)]; rfl)) rfl (.keep (rfl) rfl (.nil))) (fun i h => by cases h)
  · first | replace h12 := of_decide_eq_false h12 | skip
    have hfin : withoutS l s x = ((l.take k).foldl (wstep s) x) := by rw [List.take_of_length_le (by omega)]; rfl
    refine aw_exit ?_
    refine th_e ?_
    refine th_e ?_
    refine in_hit ?_
    refine th_n ?_
    refine aw_seq ?_
    refine aw_reg ?_
    refine rs_ld_pa (cs := (withoutS l s x).map iv) rfl rfl rfl rfl (by simp [length_fold, hx]) (by rw [hfin]; exact List.take_of_length_le (by simp [length_fold, hx])) ?_
    refine rs_st (els' := [(withoutS l s x).map iv]) (fl' := true) rfl rfl rfl rfl rfl rfl (by simp [withoutS, length_fold, hx]) (Nat.le_of_ble_eq_true rfl) (by show [setAt _ 0 _] = _; rw [setAt_all (by simp [withoutS, length_fold, hx])]) (by rw [closed_iv]; rfl) ?_
    refine rs_nil fun _ => ?_
    refine th_n ?_
    refine aw_ret ?_
    exact ret_pure (resVs_cell (n := 13) rfl rfl (by kernel_rfl) (by kernel_rfl) (by simp [withoutS, length_fold, hx])) rfl (scoped_iv _ _) (.inr (noRO_iv _))

end Go.Proofs.Ytadjdnhnbkcakaa

/-! Walks: A5. -/
namespace Go.Proofs.Ytadjdnhnbkcakaa
open Go.RowKit

def setL : List Int → Nat → List Int → List Int
  | l, _, [] => l
  | l, o, c :: cs => setL (l.set o c) (o + 1) cs
theorem length_setL : ∀ (cs l : List Int) (o : Nat), (setL l o cs).length = l.length
  | [], l, o => rfl
  | c :: cs, l, o => by rw [setL, length_setL]; simp
theorem setAt_iv : ∀ (cs L : List Int) (o : Nat), setAt (L.map iv) o (cs.map iv) = (setL L o cs).map iv
  | [], L, o => rfl
  | c :: cs, L, o => by
    show setAt ((L.map iv).set o (iv c)) (o + 1) (cs.map iv) = _
    rw [← List.map_set]; exact setAt_iv cs (L.set o c) (o + 1)
theorem flatten_ci : ∀ xs : List Int, (xs.map ci).flatten = xs.map iv
  | [] => rfl
  | x :: xs => by simp only [List.map_cons, List.flatten_cons, flatten_ci xs]; rfl
section
variable {P : Program} {N : Nat} {Z : List Nat} {F : Fr} {H : Hp} {ml : List MOper} {K : List Fp → Fr → Hp → Prop} {d : Nat} {g : Option (Nat × Bool)} {pre : List Nat}
theorem rs_cpy_l {i o n e z k : Nat} {x y : Arg} {L xs : List Int} (hg : gOK F g = true) (hx : aarg F x = some (.sa i 0 o n)) (hy : aarg F y = some (ints xs)) (hi : get H i = some (.cells e z [L.map iv] true)) (hk : o = k) (hn : xs.length ≤ n) (ho : k + xs.length ≤ L.length)
    (h : RS P N ml ((d, .int .i64 xs.length) :: F) ((i, .cells e z [(setL L k xs).map iv] true) :: H) (fun fps => K (([], [i]) :: fps))) : RS P N (⟨some d, .cpy x y, g, pre⟩ :: ml) F H K :=
  rs_cpy (m := xs.length) (fl' := true) (el := L.map iv) (rd := []) (news := xs.map ci) hg hx hy hi rfl rfl (by simp) (by simp) (by simp) hn (by subst hk; simpa using ho)
    (by subst hk; rw [flatten_ci, setAt_iv]; rfl) (by rw [flat_map (fun _ => rfl)]; rfl) h
theorem ret_own_n {rs : List ResultVar} {r : AV} {vs : List AV} {H' : Hp} (h : resVs P F H rs = some vs) (hr : RC H H' true (resOne vs) r) (hk : KeptHs H (keysOf H') H') (hz : ZL H H' Z) : RetQ P Z rs r H' true .normal F H :=
  ⟨.inl rfl, vs, h, hr, hk.keptH, hz.at_⟩
end
/-- The limits of quantities. -/
def ofS (lo hi : List Int) : List Int := setL (setL [0, 0, 0, 0, 0, 0, 0, 0, 0, 0, 0, 0, (lo.length : Int)] 0 lo) 6 hi
theorem length_ofS (lo hi : List Int) : (ofS lo hi).length = 13 := by simp [ofS, length_setL]

def mc50 : MC := (.seq (.reg [⟨(some 4), (.alloc 92 13 [(.int .i64 0), (.int .i64 0), (.int .i64 0), (.int .i64 0), (.int .i64 0), (.int .i64 0), (.int .i64 0), (.int .i64 0), (.int .i64 0), (.int .i64 0), (.int .i64 0), (.int .i64 0), (.int .i64 0)]), none, []⟩] false) (.seq (.reg [⟨(some 6), (.mv (.t 0)), none, []⟩, ⟨(some 7), (.len (.t 6)), none, [0]⟩, ⟨(some 8), (.build [(.int .i64 0), (.int .i64 0), (.int .i64 0), (.int .i64 0), (.int .i64 0), (.int .i64 0), (.int .i64 0), (.int .i64 0), (.int .i64 0), (.int .i64 0), (.int .i64 0), (.int .i64 0), (.int .i64 0)] [(12, (1, (.t 7)))]), none, [1]⟩, ⟨(some 5), (.alloc 92 13 [(.int .i64 0), (.int .i64 0), (.int .i64 0), (.int .i64 0), (.int .i64 0), (.int .i64 0), (.int .i64 0), (.int .i64 0), (.int .i64 0), (.int .i64 0), (.int .i64 0), (.int .i64 0), (.int .i64 0)]), none, []⟩, ⟨none, (.st 13 (.t 5) (.t 8)), none, [3, 2, 0, 1, 2, 3]⟩] false) (.seq (.reg [⟨(some 9), (.fa 0 (.t 5)), none, []⟩, ⟨(some 10), (.slarr 6 (.t 9) none none), none, [0]⟩, ⟨(some 11), (.mv (.t 0)), none, []⟩, ⟨(some 12), (.cpy (.t 10) (.t 11)), none, [1, 2]⟩] false) (.seq (.reg [⟨(some 13), (.fa 6 (.t 5)), none, []⟩, ⟨(some 14), (.slarr 6 (.t 13) none none), none, [0]⟩, ⟨(some 15), (.mv (.t 1)), none, []⟩, ⟨(some 16), (.cpy (.t 14) (.t 15)), none, [1, 2]⟩] false) (.seq (.reg [⟨(some 17), (.ld true 13 (.t 5)), none, []⟩, ⟨none, (.st 13 (.t 4) (.t 17)), none, [0, 0]⟩] false) .ret)))))
theorem mcOk50 : (match Try.f50.body with | some c => compC Try.prog 18 c | none => none) = some mc50 := by kernel_rfl

theorem fc50 (lo hi : List Int) (h1 : lo.length ≤ 6) (h2 : hi.length ≤ 6) : FC Try.prog 50 [ints lo, ints hi] [] (.agg ((ofS lo hi).map iv)) [] false := by
  refine fc_run (nt := 18) Try.func50 rfl rfl mcOk50 (Nat.le_of_ble_eq_true rfl) ?_
  delta mc50
  refine aw_seq ?_
  refine aw_reg ?_
  refine rs_alloc rfl rfl rfl ?_
  refine rs_nil fun _ => ?_
  refine th_n ?_
  refine aw_seq ?_
  refine aw_reg ?_
  refine rs_mv rfl rfl ?_
  first | refine rs_len_m rfl rfl ?_ | refine rs_len_s rfl rfl ?_ | refine rs_len_n rfl rfl ?_ | refine rs_len_r rfl rfl rfl ?_
  refine rs_build rfl rfl ?_
  refine rs_alloc rfl rfl rfl ?_
  refine rs_st rfl rfl rfl rfl rfl rfl rfl (Nat.le_of_ble_eq_true rfl) rfl rfl ?_
  refine rs_nil fun _ => ?_
  refine th_n ?_
  refine aw_seq ?_
  refine aw_reg ?_
  first | refine rs_fa_p rfl rfl ?_ | refine rs_fa_r rfl rfl rfl ?_
  refine rs_slarr (l := 0) (q := 6) rfl rfl rfl rfl (by decide) (.inl rfl) (by decide) (by decide) ?_
  refine rs_mv rfl rfl ?_
  refine rs_cpy_l (L := [0, 0, 0, 0, 0, 0, 0, 0, 0, 0, 0, 0, (lo.length : Int)]) (k := 0) rfl rfl rfl rfl rfl (by simpa using h1) (by simp; omega) ?_
  refine rs_nil fun _ => ?_
  refine th_n ?_
  refine aw_seq ?_
  refine aw_reg ?_
  first | refine rs_fa_p rfl rfl ?_ | refine rs_fa_r rfl rfl rfl ?_
  refine rs_slarr (l := 0) (q := 6) rfl rfl rfl rfl (by decide) (.inl rfl) (by decide) (by decide) ?_
  refine rs_mv rfl rfl ?_
  refine rs_cpy_l (L := setL [0, 0, 0, 0, 0, 0, 0, 0, 0, 0, 0, 0, (lo.length : Int)] 0 lo) (k := 6) rfl rfl rfl rfl rfl (by simpa using h2) (by simp [length_setL]; omega) ?_
  refine rs_nil fun _ => ?_
  refine th_n ?_
  refine aw_seq ?_
  refine aw_reg ?_
  refine rs_ld_pa (cs := (ofS lo hi).map iv) rfl rfl rfl rfl (by simp [length_setL]) (by show List.take 13 (List.drop 0 ((ofS lo hi).map iv)) = _; exact List.take_of_length_le (by simp [length_ofS])) ?_
  refine rs_st (els' := [(ofS lo hi).map iv]) (fl' := true) rfl rfl rfl rfl rfl rfl (by simp [length_ofS]) (Nat.le_of_ble_eq_true rfl) (by show [setAt _ 0 _] = _; rw [setAt_all (by simp [length_ofS])]) (by rw [closed_iv]; rfl) ?_
  refine rs_nil fun _ => ?_
  refine th_n ?_
  refine aw_ret ?_
  exact ret_pure (resVs_cell (n := 13) rfl rfl (by kernel_rfl) (by kernel_rfl) (by simp [length_ofS])) rfl (scoped_iv _ _) (.inr (noRO_iv _))

/-- The limits that a further set of liars leaves, up to the k-th. -/
def minK (a y : List Int) (k : Nat) : List Int := (List.range a.length).map fun i => if i < k then min (a.getD i 0) (y.getD i 0) else a.getD i 0
def maxK (b y : List Int) (k : Nat) : List Int := (List.range b.length).map fun i => if i < k then max (b.getD i 0) (y.getD (6 + i) 0) else b.getD i 0
theorem minK_0 (a y : List Int) : minK a y 0 = a := by
  apply List.ext_getElem (by simp [minK])
  intro i h1 h2
  simp [minK, h2]
theorem maxK_0 (a y : List Int) : maxK a y 0 = a := by
  apply List.ext_getElem (by simp [maxK])
  intro i h1 h2
  simp [maxK, h2]
theorem minK_set (a y : List Int) (k : Nat) (hk : k < a.length) : (minK a y k).set k (min ((minK a y k)[k]'(by simpa [minK] using hk)) (y.getD k 0)) = minK a y (k + 1) := by
  apply List.ext_getElem (by simp [minK])
  intro i h1 h2
  have hi : i < a.length := by simpa [minK] using h2
  rw [List.getElem_set]
  split
  · rename_i e; subst e; simp [minK, hi]
  · rename_i e
    simp only [minK, List.getElem_map, List.getElem_range]
    by_cases h : i < k
    · rw [if_pos h, if_pos (by omega)]
    · rw [if_neg h, if_neg (by omega)]
theorem maxK_set (a y : List Int) (k : Nat) (hk : k < a.length) : (maxK a y k).set k (max ((maxK a y k)[k]'(by simpa [maxK] using hk)) (y.getD (6 + k) 0)) = maxK a y (k + 1) := by
  apply List.ext_getElem (by simp [maxK])
  intro i h1 h2
  have hi : i < a.length := by simpa [maxK] using h2
  rw [List.getElem_set]
  split
  · rename_i e; subst e; simp [maxK, hi]
  · rename_i e
    simp only [maxK, List.getElem_map, List.getElem_range]
    by_cases h : i < k
    · rw [if_pos h, if_pos (by omega)]
    · rw [if_neg h, if_neg (by omega)]
abbrev hp51 (lo a b : List Int) (n : Nat) : Hp := [(1005, .cells 28 1 [[ints lo]] true), (12, .cells 28 1 [[.sl 2001 0 n]] false), (13, .cells 28 1 [[.sl 2002 0 n]] false), (2001, .cells 3 1 (a.map ci) true), (2002, .cells 3 1 (b.map ci) true)]

def mc51 : MC := (.seq (.reg [⟨(some 6), (.box 92 13 (.t 1)), none, []⟩] false) (.seq (.reg [⟨(some 8), (.ld false 1 (.t 2)), none, []⟩, ⟨(some 9), (.len (.t 8)), none, [0]⟩, ⟨(some 10), (.mv (.c (.int .i64 0))), none, []⟩] false) (.block 0 (.loop (.seq (.reg [⟨(some 11), (.bin .lss (.t 10) (.t 9)), none, []⟩] false) (.seq (.cond (.t 11) .skip (.exit 0)) (.seq (.block 1 (.seq (.reg [⟨(some 12), (.mv (.t 10)), none, []⟩, ⟨(some 7), (.mv (.t 12)), none, [0, 0]⟩] false) (.reg [⟨(some 13), (.ld false 1 (.t 3)), none, []⟩, ⟨(some 14), (.mv (.t 7)), none, []⟩, ⟨(some 15), (.ld false 1 (.t 4)), none, []⟩, ⟨(some 16), (.mv (.t 7)), none, []⟩, ⟨(some 17), (.ld false 1 (.t 3)), none, []⟩, ⟨(some 18), (.mv (.t 7)), none, []⟩, ⟨(some 19), (.ixsl 1 (.t 17) (.t 18)), none, [4, 5]⟩, ⟨(some 20), (.ld false 1 (.t 19)), none, [6]⟩, ⟨(some 21), (.mv (.t 7)), none, []⟩, ⟨(some 22), (.fa 0 (.t 6)), none, []⟩, ⟨(some 23), (.ixarr 6 1 (.t 22) (.t 21)), none, [9, 8]⟩, ⟨(some 24), (.ld false 1 (.t 23)), none, [10]⟩, ⟨(some 25), (.mn (.t 20) (.t 24)), none, [7, 11]⟩, ⟨(some 26), (.ld false 1 (.t 4)), none, []⟩, ⟨(some 27), (.mv (.t 7)), none, []⟩, ⟨(some 28), (.ixsl 1 (.t 26) (.t 27)), none, [13, 14]⟩, ⟨(some 29), (.ld false 1 (.t 28)), none, [15]⟩, ⟨(some 30), (.mv (.t 7)), none, []⟩, ⟨(some 31), (.fa 6 (.t 6)), none, []⟩, ⟨(some 32), (.ixarr 6 1 (.t 31) (.t 30)), none, [18, 17]⟩, ⟨(some 33), (.ld false 1 (.t 32)), none, [19]⟩, ⟨(some 34), (.mx (.t 29) (.t 33)), none, [16, 20]⟩, ⟨(some 35), (.ixsl 1 (.t 13) (.t 14)), none, [0, 1, 0, 1, 4, 5, 6, 7, 8, 9, 10, 11, 12, 16]⟩, ⟨none, (.st 1 (.t 35) (.t 25)), none, [22, 12, 0, 1, 4, 5, 6, 7, 8, 9, 10, 11, 12, 16]⟩, ⟨(some 36), (.ixsl 1 (.t 15) (.t 16)), none, [2, 3, 0, 1, 2, 3, 4, 5, 6, 7, 8, 9, 10, 11, 12, 13, 14, 15, 16, 17, 18, 19, 20, 21, 22, 23]⟩, ⟨none, (.st 1 (.t 36) (.t 34)), none, [24, 21, 23, 0, 1, 2, 3, 4, 5, 6, 7, 8, 9, 10, 11, 12, 13, 14, 15, 16, 17, 18, 19, 20, 21, 22, 23]⟩] true))) (.reg [⟨(some 37), (.bin .add (.t 10) (.c (.int .i64 1))), none, []⟩, ⟨(some 10), (.mv (.t 37)), none, [0]⟩] false))))))))
theorem mcOk51 : (match Try.f51.body with | some c => compC Try.prog 38 c | none => none) = some mc51 := by kernel_rfl

theorem fc51 (set : Int) (lo a b y : List Int) (n : Nat) (hn : lo.length = n) (ha : a.length = n) (hb : b.length = n) (hn6 : n ≤ 6) (hy : y.length = 13) : FC Try.prog 51 [.int .u64 set, .agg (y.map iv), .ptr 1005 0 0, .ptr 12 0 0, .ptr 13 0 0] (hp51 lo a b n) (.tup []) (hp51 lo (minK a y n) (maxK b y n) n) true := by
  have hla : ∀ k, (minK a y k).length = n := fun k => by simp [minK, ha]
  have hlb : ∀ k, (maxK b y k).length = n := fun k => by simp [maxK, hb]
  refine fc_run (nt := 38) Try.func51 rfl rfl mcOk51 (Nat.le_of_ble_eq_true rfl) ?_
  delta mc51
  refine aw_seq ?_
  refine aw_reg ?_
  refine rs_box (v := .agg (y.map iv)) rfl rfl rfl (by simp [hy]) rfl (closed_iv y) ?_
  refine rs_nil fun _ => ?_
  refine th_n ?_
  refine aw_seq ?_
  refine aw_reg ?_
  refine rs_ld_p rfl rfl rfl rfl rfl ?_
  first | refine rs_len_m rfl rfl ?_ | refine rs_len_s rfl rfl ?_ | refine rs_len_n rfl rfl ?_ | refine rs_len_r rfl rfl rfl ?_
  refine rs_mv rfl rfl ?_
  refine rs_nil fun _ => ?_
  refine th_n ?_
  refine aw_block ?_
  refine aw_fam (α := Nat) (fun k => n - k) (fun k => [(3, .ptr 12 0 0), (4, .ptr 13 0 0), (6, .ptr 6 0 0), (9, iv (lo.length : Int)), (10, iv (((k) : Nat) : Int))]) (fun k => [(1005, .cells 28 1 [[ints lo]] true), (12, .cells 28 1 [[.sl 2001 0 n]] false), (13, .cells 28 1 [[.sl 2002 0 n]] false), (2001, .cells 3 1 ((minK a y (k)).map ci) true), (2002, .cells 3 1 ((maxK b y (k)).map ci) true), (6, .cells 92 13 [y.map iv] true)]) (fun k => k ≤ n) 0 (by omega)
    (weak_to (.cons rfl (rc_same rfl (.inl rfl)) (.cons rfl (rc_same rfl (.inl rfl)) (.cons rfl (rc_same rfl (.inl rfl)) (.cons rfl (rc_same rfl (.inl rfl)) (.cons rfl (rc_same rfl (.inl rfl)) (.nil)))))) (.keep (rfl) rfl (.keep (rfl) rfl (.keep (rfl) rfl (.keep ((by rw [minK_0]; rfl)) rfl (.keep ((by rw [maxK_0]; rfl)) rfl (.keep (rfl) rfl (.nil))))))) (fun i h => by simp [keysOf] at h ⊢; omega)) ?_
  intro k hk
  refine aw_seq ?_
  refine aw_reg ?_
  refine rs_lss rfl rfl rfl ?_
  refine rs_nil fun _ => ?_
  refine th_n ?_
  refine aw_seq ?_
  refine aw_cond rfl (fun h11 => ?_) (fun h11 => ?_)
  · first | replace h11 := of_decide_eq_true h11 | skip
    refine aw_skip ?_
    refine th_n ?_
    refine aw_seq ?_
    refine aw_block ?_
    refine aw_seq ?_
    refine aw_reg ?_
    refine rs_mv rfl rfl ?_
    refine rs_mv rfl rfl ?_
    refine rs_nil fun _ => ?_
    refine th_n ?_
    refine aw_draw hmix ?_
    first | refine rs_ld_r rfl rfl rfl ?_ | refine rs_ld_p rfl rfl rfl rfl rfl ?_ | refine rs_ld_m rfl rfl rfl (by omega) rfl ?_
    refine rs_mv rfl rfl ?_
    first | refine rs_ld_r rfl rfl rfl ?_ | refine rs_ld_p rfl rfl rfl rfl rfl ?_ | refine rs_ld_m rfl rfl rfl (by omega) rfl ?_
    refine rs_mv rfl rfl ?_
    first | refine rs_ld_r rfl rfl rfl ?_ | refine rs_ld_p rfl rfl rfl rfl rfl ?_ | refine rs_ld_m rfl rfl rfl (by omega) rfl ?_
    refine rs_mv rfl rfl ?_
    refine rs_ix_sm (t := k) rfl rfl rfl rfl (by omega) ?_
    refine rs_ld_m rfl rfl rfl (by rw [hla]; omega) rfl ?_
    refine rs_mv rfl rfl ?_
    first | refine rs_fa_p rfl rfl ?_ | refine rs_fa_r rfl rfl rfl ?_
    refine rs_ixarr_p rfl rfl rfl (by omega) (by omega) ?_
    refine rs_ld_l (k := k) rfl rfl rfl (by simp) (by omega) ?_
    refine rs_mn rfl rfl rfl rfl ?_
    first | refine rs_ld_r rfl rfl rfl ?_ | refine rs_ld_p rfl rfl rfl rfl rfl ?_ | refine rs_ld_m rfl rfl rfl (by omega) rfl ?_
    refine rs_mv rfl rfl ?_
    refine rs_ix_sm (t := k) rfl rfl rfl rfl (by omega) ?_
    refine rs_ld_m rfl rfl rfl (by rw [hlb]; omega) rfl ?_
    refine rs_mv rfl rfl ?_
    first | refine rs_fa_p rfl rfl ?_ | refine rs_fa_r rfl rfl rfl ?_
    refine rs_ixarr_p rfl rfl rfl (by omega) (by omega) ?_
    refine rs_ld_l (k := 6 + k) rfl rfl rfl (by simp) (by omega) ?_
    refine rs_mx rfl rfl rfl rfl ?_
    refine rs_ix_sm (t := k) rfl rfl rfl rfl (by omega) ?_
    refine rs_st_m (fl' := true) rfl rfl rfl rfl (by rw [hla]; omega) rfl rfl (Nat.le_of_ble_eq_true rfl) rfl rfl ?_
    refine rs_ix_sm (t := k) rfl rfl rfl rfl (by omega) ?_
    refine rs_st_m (fl' := true) rfl rfl rfl rfl (by rw [hlb]; omega) rfl rfl (Nat.le_of_ble_eq_true rfl) rfl rfl ?_
    refine rs_nil ⟨by kernel_rfl, fun _ => ?_⟩
    refine in_n ?_
    refine th_n ?_
    refine aw_reg ?_
    first | refine rs_add rfl rfl rfl (by omega) ?_ | refine rs_addw rfl rfl rfl rfl ?_
    refine rs_mv rfl rfl ?_
    refine rs_nil fun _ => ?_
    refine th_n ?_
    refine ⟨k + 1, by omega, by omega, ?_⟩
    exact weak_to (.cons rfl (rc_same rfl (.inl rfl)) (.cons rfl (rc_same rfl (.inl rfl)) (.cons rfl (rc_same rfl (.inl rfl)) (.cons rfl (rc_same rfl (.inl rfl)) (.cons rfl (rc_same rfl (.inl rfl)) (.nil)))))) (.keep (rfl) rfl (.keep (rfl) rfl (.keep (rfl) rfl (.keep ((by rw [← minK_set a y k (by omega)]; rfl)) rfl (.keep ((by rw [← maxK_set b y k (by omega)]; rfl)) rfl (.keep (rfl) rfl (.nil))))))) (fun i h => by simp [keysOf] at h ⊢; omega)
  · first | replace h11 := of_decide_eq_false h11 | skip
    refine aw_exit ?_
    refine th_e ?_
    refine th_e ?_
    refine in_hit ?_
    obtain rfl : k = n := by omega
    exact ret_own_n rfl (rc_same rfl (.inl rfl)) (.keep (rfl) rfl (.keep (rfl) rfl (.keep (rfl) rfl (.keep (rfl) rfl (.keep (rfl) rfl (.nil)))))) (.cons rfl rfl rfl (.cons rfl rfl rfl (.cons rfl rfl rfl (.cons rfl rfl rfl (.cons rfl rfl rfl (.nil))))))

theorem and_u64 (a : Nat) (ha : a < 256) (b : Nat) (hb : b < 256) : bits .and .u64 (a : Int) (b : Int) = ((a &&& b : Nat) : Int) := by
  have h : a &&& b < 256 := Nat.lt_of_le_of_lt Nat.and_le_left ha
  unfold bits
  simp only [BitVec.toNat_and]
  rw [show (BitVec.ofInt IntKind.u64.bits (a : Int)).toNat = a by rw [BitVec.ofInt_natCast]; simp [IntKind.bits]; omega, show (BitVec.ofInt IntKind.u64.bits (b : Int)).toNat = b by rw [BitVec.ofInt_natCast]; simp [IntKind.bits]; omega, IntKind.wrap_u64]
  omega

def mc54 : MC := (.seq (.reg [⟨(some 4), (.box 92 13 (.t 1)), none, []⟩] false) (.reg [⟨(some 5), (.ld false 1 (.t 2)), none, []⟩, ⟨(some 6), (.mv (.t 0)), none, []⟩, ⟨(some 7), (.bin .and (.t 5) (.t 6)), none, [0, 1]⟩, ⟨none, (.st 1 (.t 2) (.t 7)), none, [2, 0, 1, 2]⟩] false))
theorem mcOk54 : (match Try.f54.body with | some c => compC Try.prog 8 c | none => none) = some mc54 := by kernel_rfl

theorem fc54 (set all : Nat) (hset : set < 256) (hall : all < 256) (y : List Int) (hy : y.length = 13) : FC Try.prog 54 [.int .u64 (set : Int), .agg (y.map iv), .ptr 1011 0 0] [(1011, .cells 94 1 [[.int .u64 (all : Int)]] true)] (.tup []) [(1011, .cells 94 1 [[.int .u64 ((all &&& set : Nat) : Int)]] true)] true := by
  have hand := and_u64 all hall set hset
  refine fc_run (nt := 8) Try.func54 rfl rfl mcOk54 (Nat.le_of_ble_eq_true rfl) ?_
  delta mc54
  refine aw_seq ?_
  refine aw_reg ?_
  refine rs_box (v := .agg (y.map iv)) rfl rfl rfl (by simp [hy]) rfl (closed_iv y) ?_
  refine rs_nil fun _ => ?_
  refine th_n ?_
  refine aw_reg ?_
  refine rs_ld_p rfl rfl rfl rfl rfl ?_
  refine rs_mv rfl rfl ?_
  refine rs_and rfl rfl rfl hand ?_
  refine rs_st rfl rfl rfl rfl rfl rfl rfl (Nat.le_of_ble_eq_true rfl) rfl rfl ?_
  refine rs_nil fun _ => ?_
  exact ret_own_n rfl (rc_same rfl (.inl rfl)) (.keep rfl rfl .nil) (.cons rfl rfl rfl .nil)

end Go.Proofs.Ytadjdnhnbkcakaa

/-! Walks: A6. -/
namespace Go.Proofs.Ytadjdnhnbkcakaa
open Go.RowKit

section
variable {P : Program} {N : Nat} {Z : List Nat} {F : Fr} {H : Hp} {ml : List MOper} {K : List Fp → Fr → Hp → Prop} {d : Nat} {g : Option (Nat × Bool)} {pre : List Nat}
theorem rs_callvo {fa : Arg} {xs : List Arg} {vs cs vs' : List AV} {f : FuncId} {dst : Option Nat} {r : AV} (Hs : Hp) {H' : Hp} (hg : gOK F g = true) (hf : aarg F fa = some (.fn (.func f) cs)) (hent : entered P f = true) (hv : aargs F xs = some vs) (hfc : FC P f vs' Hs r H' true)
    (hh : HVs H Hs [] true (vs ++ cs) vs') (hsub : SubH H Hs) (hsc : scopedHs Hs = true) (hnew : newOk H Hs H' = true) (hdom : domOk Hs H' = true)
    (h : RS P N ml (putF F dst r) (H' ++ H) (fun fps => K (([], keysOf H') :: fps))) : RS P N (⟨dst, .callv fa xs, g, pre⟩ :: ml) F H K :=
  rs_callv hg hf hent hv hfc hh hsub.at_ hsc (newOk_spec hnew) (domOk_spec hdom) h
end
/-- The sets of liars, one after the other, with what is carried along and how many explain the readings. -/
def exK {σ : Type} (l : List Rd) (x : List Int) (lies : Int) (m : Nat) (f : σ → Nat → List Int → σ) (s0 : σ) : Nat → σ × Nat
  | 0 => (s0, 0)
  | k + 1 => if (sizeS k 8 : Int) ≤ lies ∧ emptyS (withoutS l k x) m = false then (f (exK l x lies m f s0 k).1 k (withoutS l k x), (exK l x lies m f s0 k).2 + 1) else exK l x lies m f s0 k
section
variable {σ : Type} (l : List Rd) (x : List Int) (lies : Int) (m : Nat) (f : σ → Nat → List Int → σ) (s0 : σ) (k : Nat)
theorem exK_t (h1 : (sizeS k 8 : Int) ≤ lies) (h2 : emptyS (withoutS l k x) m = false) : exK l x lies m f s0 (k + 1) = (f (exK l x lies m f s0 k).1 k (withoutS l k x), (exK l x lies m f s0 k).2 + 1) := if_pos ⟨h1, h2⟩
theorem exK_f1 (h1 : lies < (sizeS k 8 : Int)) : exK l x lies m f s0 (k + 1) = exK l x lies m f s0 k := if_neg (fun h => by omega)
theorem exK_f2 (h2 : emptyS (withoutS l k x) m = true) : exK l x lies m f s0 (k + 1) = exK l x lies m f s0 k := if_neg (fun h => by rw [h2] at h; cases h.2)
theorem exK_le : (exK l x lies m f s0 k).2 ≤ k := by
  induction k with
  | zero => exact Nat.le_refl _
  | succ k ih =>
    unfold exK
    split
    · exact Nat.succ_le_succ ih
    · omega
theorem exK_inv (p : σ → Prop) (h0 : p s0) (hs : ∀ s k y, p s → k < 256 → p (f s k y)) (hk : k ≤ 256) : p (exK l x lies m f s0 k).1 := by
  induction k with
  | zero => exact h0
  | succ k ih =>
    unfold exK
    split
    · exact hs _ _ _ (ih (by omega)) (by omega)
    · exact ih (by omega)
end
def f51 (n : Nat) (s : List Int × List Int) (_ : Nat) (y : List Int) : List Int × List Int := (minK s.1 y n, maxK s.2 y n)
def f54 (all set : Nat) (_ : List Int) : Nat := all &&& set
theorem wstep_12 (s : Nat) (x : List Int) (r : Rd) (h : 0 ≤ r.of_ ∧ r.of_ < 6) : (wstep s x r).getD 12 0 = x.getD 12 0 := by
  unfold wstep
  split
  · rfl
  · simp only [List.getD_eq_getElem?_getD]
    rw [List.getElem?_set_ne (by omega), List.getElem?_set_ne (by omega)]
theorem without_12 (s : Nat) : ∀ (l : List Rd) (x : List Int), (∀ r ∈ l, 0 ≤ r.of_ ∧ r.of_ < 6) → (withoutS l s x).getD 12 0 = x.getD 12 0
  | [], x, _ => rfl
  | r :: l, x, h => by
    show (withoutS l s (wstep s x r)).getD 12 0 = _
    rw [without_12 s l _ (fun r hr => h r (by simp [hr])), wstep_12 s x r (h r (by simp))]
theorem length_without (l : List Rd) (s : Nat) (x : List Int) : (withoutS l s x).length = x.length := length_fold s l x

def mc49 : MC := (.seq (.reg [⟨(some 5), (.box 92 13 (.t 1)), none, []⟩, ⟨(some 8), (.mv (.c (.int .i64 0))), none, []⟩] false) (.seq (.reg [⟨(some 9), (.mv (.c (.int .i64 0))), none, []⟩] false) (.seq (.seq (.reg [⟨(some 12), (.mv (.c (.int .u64 0))), none, []⟩] false) (.block 0 (.loop (.seq (.reg [⟨(some 13), (.bin .lss (.t 12) (.c (.int .u64 256))), none, []⟩] false) (.seq (.cond (.t 13) .skip (.exit 0)) (.seq (.block 1 (.seq (.reg [⟨(some 14), (.mv (.t 12)), none, []⟩, ⟨(some 10), (.mv (.t 14)), none, [0, 0]⟩] false) (.seq (.seq (.reg [⟨(some 15), (.mv (.t 10)), none, []⟩, ⟨(some 16), (.call 66 [(.t 15)]), none, [0]⟩, ⟨(some 17), (.mv (.t 2)), none, []⟩, ⟨(some 18), (.bin .gtr (.t 16) (.t 17)), none, [1, 2]⟩] false) (.cond (.t 18) (.exit 1) .skip)) (.seq (.reg [⟨(some 19), (.ld true 13 (.t 5)), none, []⟩, ⟨(some 20), (.mv (.t 0)), none, []⟩, ⟨(some 21), (.mv (.t 10)), none, []⟩, ⟨(some 22), (.call 67 [(.t 19), (.t 20), (.t 21)]), none, [0, 1, 2]⟩, ⟨(some 11), (.alloc 92 13 [(.int .i64 0), (.int .i64 0), (.int .i64 0), (.int .i64 0), (.int .i64 0), (.int .i64 0), (.int .i64 0), (.int .i64 0), (.int .i64 0), (.int .i64 0), (.int .i64 0), (.int .i64 0), (.int .i64 0)]), none, []⟩, ⟨none, (.st 13 (.t 11) (.t 22)), none, [4, 3, 3, 0, 1, 2, 3, 4]⟩] false) (.seq (.reg [⟨(some 23), (.ld true 13 (.t 11)), none, []⟩, ⟨(some 24), (.call 68 [(.t 23)]), none, [0]⟩, ⟨(some 25), (.un .not (.t 24)), none, [1]⟩] false) (.cond (.t 25) (.seq (.reg [⟨(some 26), (.mv (.t 3)), none, []⟩, ⟨(some 27), (.mv (.t 10)), none, []⟩, ⟨(some 28), (.ld true 13 (.t 11)), none, []⟩, ⟨(some 29), (.callv (.t 26) [(.t 27), (.t 28)]), none, [0, 1, 2]⟩] false) (.reg [⟨(some 30), (.mv (.t 9)), none, []⟩, ⟨(some 31), (.bin .add (.t 30) (.c (.int .i64 1))), none, [0]⟩, ⟨(some 9), (.mv (.t 31)), none, [1, 0, 1]⟩] false)) .skip)))))) (.reg [⟨(some 32), (.bin .add (.t 12) (.c (.int .u64 1))), none, []⟩, ⟨(some 12), (.mv (.t 32)), none, [0]⟩] false))))))) (.seq (.reg [⟨(some 33), (.mv (.t 9)), none, []⟩, ⟨(some 8), (.mv (.t 33)), none, [0, 0]⟩] false) .ret))))
theorem mcOk49 : (match Try.f49.body with | some c => compC Try.prog 34 c | none => none) = some mc49 := by kernel_rfl

theorem fc49a (l : List Rd) (x : List Int) (lies : Int) (m : Nat) (hx : x.length = 13) (hm : x.getD 12 0 = (m : Int)) (hm6 : m ≤ 6) (hl : l.length ≤ 4611686018427387904) (hr : ∀ r ∈ l, 0 ≤ r.probe ∧ r.probe < 8 ∧ 0 ≤ r.of_ ∧ r.of_ < 6) (lo a b : List Int) (n : Nat) (hn : lo.length = n) (ha : a.length = n) (hb : b.length = n) (hn6 : n ≤ 6) : FC Try.prog 49 [.rs 4 (l.map cR), .agg (x.map iv), iv lies, .fn (.func 51) [.ptr 1005 0 0, .ptr 12 0 0, .ptr 13 0 0]] [(1005, .cells 28 1 [[ints lo]] true), (12, .cells 28 1 [[.sl 2001 0 n]] false), (13, .cells 28 1 [[.sl 2002 0 n]] false), (2001, .cells 3 1 ((a, b).1.map ci) true), (2002, .cells 3 1 ((a, b).2.map ci) true)] (iv ((exK l x lies m (f51 n) (a, b) (256)).2 : Int)) [(1005, .cells 28 1 [[ints lo]] true), (12, .cells 28 1 [[.sl 2001 0 n]] false), (13, .cells 28 1 [[.sl 2002 0 n]] false), (2001, .cells 3 1 ((exK l x lies m (f51 n) (a, b) (256)).1.1.map ci) true), (2002, .cells 3 1 ((exK l x lies m (f51 n) (a, b) (256)).1.2.map ci) true)] true := by
  refine fc_run (nt := 34) Try.func49 rfl rfl mcOk49 (Nat.le_of_ble_eq_true rfl) ?_
  delta mc49
  refine aw_seq ?_
  refine aw_reg ?_
  refine rs_box (v := .agg (x.map iv)) rfl rfl rfl (by simp [hx]) rfl (closed_iv x) ?_
  refine rs_mv rfl rfl ?_
  refine rs_nil fun _ => ?_
  refine th_n ?_
  refine aw_seq ?_
  refine aw_reg ?_
  refine rs_mv rfl rfl ?_
  refine rs_nil fun _ => ?_
  refine th_n ?_
  refine aw_seq ?_
  refine aw_seq ?_
  refine aw_reg ?_
  refine rs_mv rfl rfl ?_
  refine rs_nil fun _ => ?_
  refine th_n ?_
  refine aw_block ?_
  refine aw_fam (α := Nat) (fun k => 256 - k) (fun k => [(0, .rs 4 (l.map cR)), (2, iv lies), (3, .fn (.func 51) [.ptr 1005 0 0, .ptr 12 0 0, .ptr 13 0 0]), (5, .ptr 5 0 0), (9, iv ((exK l x lies m (f51 n) (a, b) (k)).2 : Int)), (12, .int .u64 (((k) : Nat) : Int))]) (fun k => [(5, .cells 92 13 [x.map iv] true), (1005, .cells 28 1 [[ints lo]] true), (12, .cells 28 1 [[.sl 2001 0 n]] false), (13, .cells 28 1 [[.sl 2002 0 n]] false), (2001, .cells 3 1 ((exK l x lies m (f51 n) (a, b) (k)).1.1.map ci) true), (2002, .cells 3 1 ((exK l x lies m (f51 n) (a, b) (k)).1.2.map ci) true)]) (fun k => k ≤ 256) 0 (by omega)
    (weak_to (.cons rfl (rc_same rfl (.inl rfl)) (.cons rfl (rc_same rfl (.inl rfl)) (.cons rfl (rc_same rfl (.inl rfl)) (.cons rfl (rc_same rfl (.inl rfl)) (.cons rfl (rc_same rfl (.inl rfl)) (.cons rfl (rc_same rfl (.inl rfl)) (.nil))))))) (.keep (rfl) rfl (.keep (rfl) rfl (.keep (rfl) rfl (.keep (rfl) rfl (.keep (rfl) rfl (.keep (rfl) rfl (.nil))))))) (fun i h => by simp [keysOf] at h ⊢; omega)) ?_
  intro k hk
  have hi51 := exK_inv l x lies m (f51 n) (a, b) k (fun s => s.1.length = n ∧ s.2.length = n) ⟨ha, hb⟩ (fun s k y h _ => ⟨by simp [f51, minK, h.1], by simp [f51, maxK, h.2]⟩) hk
  have hle := exK_le l x lies m (f51 n) (a, b) k
  refine aw_seq ?_
  refine aw_reg ?_
  refine rs_lss rfl rfl rfl ?_
  refine rs_nil fun _ => ?_
  refine th_n ?_
  refine aw_seq ?_
  refine aw_cond rfl (fun h13 => ?_) (fun h13 => ?_)
  · first | replace h13 := of_decide_eq_true h13 | skip
    refine aw_skip ?_
    refine th_n ?_
    refine aw_seq ?_
    refine aw_block ?_
    refine aw_seq ?_
    refine aw_reg ?_
    refine rs_mv rfl rfl ?_
    refine rs_mv rfl rfl ?_
    refine rs_nil fun _ => ?_
    refine th_n ?_
    refine aw_seq ?_
    refine aw_seq ?_
    refine aw_reg ?_
    refine rs_mv rfl rfl ?_
    refine rs_calln [] rfl rfl (fc66 k (by omega)) (.cons (hv_same rfl) (.nil)) rfl ?_
    refine rs_mv rfl rfl ?_
    refine rs_gtr rfl rfl rfl ?_
    refine rs_nil fun _ => ?_
    refine th_n ?_
    refine aw_cond rfl (fun h18 => ?_) (fun h18 => ?_)
    · first | replace h18 := of_decide_eq_true h18 | skip
      refine aw_exit ?_
      refine th_e ?_
      refine in_hit ?_
      refine th_n ?_
      refine aw_reg ?_
      first | refine rs_add rfl rfl rfl (by omega) ?_ | refine rs_addw rfl rfl rfl rfl ?_
      refine rs_mv rfl rfl ?_
      refine rs_nil fun _ => ?_
      refine th_n ?_
      first
        | (have hs := exK_f1 l x lies m (f51 n) (a, b) k (by omega); exact ⟨k + 1, by omega, by omega, weak_to (.cons rfl (rc_same rfl (.inl rfl)) (.cons rfl (rc_same rfl (.inl rfl)) (.cons rfl (rc_same rfl (.inl rfl)) (.cons rfl (rc_same rfl (.inl rfl)) (.cons rfl (rc_int (by simp [hs])) (.cons rfl (rc_int (by rw [IntKind.wrap_u64]; omega)) (.nil))))))) (.keep (rfl) rfl (.keep (rfl) rfl (.keep (rfl) rfl (.keep (rfl) rfl (.keep ((by rw [hs]; rfl)) rfl (.keep ((by rw [hs]; rfl)) rfl (.nil))))))) (fun i h => by simp [keysOf] at h ⊢; omega)⟩)
        | (have hs := exK_f2 l x lies m (f51 n) (a, b) k (by simpa using h25); exact ⟨k + 1, by omega, by omega, weak_to (.cons rfl (rc_same rfl (.inl rfl)) (.cons rfl (rc_same rfl (.inl rfl)) (.cons rfl (rc_same rfl (.inl rfl)) (.cons rfl (rc_same rfl (.inl rfl)) (.cons rfl (rc_int (by simp [hs])) (.cons rfl (rc_int (by rw [IntKind.wrap_u64]; omega)) (.nil))))))) (.keep (rfl) rfl (.keep (rfl) rfl (.keep (rfl) rfl (.keep (rfl) rfl (.keep ((by rw [hs]; rfl)) rfl (.keep ((by rw [hs]; rfl)) rfl (.nil))))))) (fun i h => by simp [keysOf] at h ⊢; omega)⟩)
        | (have hs := exK_t l x lies m (f51 n) (a, b) k (by omega) (by simpa using h25); exact ⟨k + 1, by omega, by omega, weak_to (.cons rfl (rc_same rfl (.inl rfl)) (.cons rfl (rc_same rfl (.inl rfl)) (.cons rfl (rc_same rfl (.inl rfl)) (.cons rfl (rc_same rfl (.inl rfl)) (.cons rfl (rc_int (by simp [hs])) (.cons rfl (rc_int (by rw [IntKind.wrap_u64]; omega)) (.nil))))))) (.keep (rfl) rfl (.keep (rfl) rfl (.keep (rfl) rfl (.keep (rfl) rfl (.keep ((by rw [hs]; rfl)) rfl (.keep ((by rw [hs]; rfl)) rfl (.nil))))))) (fun i h => by simp [keysOf] at h ⊢; omega)⟩)
    · first | replace h18 := of_decide_eq_false h18 | skip
      refine aw_skip ?_
      refine th_n ?_
      refine aw_seq ?_
      refine aw_reg ?_
      refine rs_ld_pa (cs := x.map iv) rfl rfl rfl rfl (by simp [hx]) (by exact List.take_of_length_le (by simp [hx])) ?_
      refine rs_mv rfl rfl ?_
      refine rs_mv rfl rfl ?_
      refine rs_calln [] rfl rfl (fc67 x l k hx (by omega) hl hr) (.cons (hv_same (scoped_iv _ _)) (.cons (hv_same rfl) (.cons (hv_same rfl) (.nil)))) rfl ?_
      refine rs_alloc rfl rfl rfl ?_
      refine rs_st (els' := [(withoutS l k x).map iv]) (fl' := true) rfl rfl rfl rfl rfl rfl (by simp [length_without, hx]) (Nat.le_of_ble_eq_true rfl) (by show [setAt _ 0 _] = _; rw [setAt_all (by simp [length_without, hx])]) (by rw [closed_iv]; rfl) ?_
      refine rs_nil fun _ => ?_
      refine th_n ?_
      refine aw_seq ?_
      refine aw_reg ?_
      refine rs_ld_pa (cs := (withoutS l k x).map iv) rfl rfl rfl rfl (by simp [length_without, hx]) (by exact List.take_of_length_le (by simp [length_without, hx])) ?_
      refine rs_calln [] rfl rfl (fc68 (withoutS l k x) m (by rw [length_without, hx]) (by rw [without_12 k l x (fun r h => ⟨(hr r h).2.2.1, (hr r h).2.2.2⟩), hm]) hm6) (.cons (hv_same (scoped_iv _ _)) (.nil)) rfl ?_
      refine rs_not rfl rfl ?_
      refine rs_nil fun _ => ?_
      refine th_n ?_
      refine aw_cond rfl (fun h25 => ?_) (fun h25 => ?_)
      · first | replace h25 := of_decide_eq_true h25 | skip
        refine aw_seq ?_
        refine aw_reg ?_
        refine rs_mv rfl rfl ?_
        refine rs_mv rfl rfl ?_
        refine rs_ld_pa (cs := (withoutS l k x).map iv) rfl rfl rfl rfl (by simp [length_without, hx]) (by exact List.take_of_length_le (by simp [length_without, hx])) ?_
        refine rs_callvo [(1005, .cells 28 1 [[ints lo]] true), (12, .cells 28 1 [[.sl 2001 0 n]] false), (13, .cells 28 1 [[.sl 2002 0 n]] false), (2001, .cells 3 1 ((exK l x lies m (f51 n) (a, b) (k)).1.1.map ci) true), (2002, .cells 3 1 ((exK l x lies m (f51 n) (a, b) (k)).1.2.map ci) true)] rfl rfl (by kernel_rfl) rfl (fc51 _ lo (exK l x lies m (f51 n) (a, b) (k)).1.1 (exK l x lies m (f51 n) (a, b) (k)).1.2 (withoutS l k x) n hn hi51.1 hi51.2 hn6 (by rw [length_without, hx])) (.cons (hv_same rfl) (.cons (hv_same (scoped_iv _ _)) (.cons (hv_same rfl) (.cons (hv_same rfl) (.cons (hv_same rfl) (.nil)))))) (.cons rfl (.cons rfl (.cons rfl (.cons rfl (.cons rfl (.nil)))))) rfl rfl rfl ?_
        refine rs_nil fun _ => ?_
        refine th_n ?_
        refine aw_reg ?_
        refine rs_mv rfl rfl ?_
        first | refine rs_add rfl rfl rfl (by omega) ?_ | refine rs_addw rfl rfl rfl rfl ?_
        refine rs_mv rfl rfl ?_
        refine rs_nil fun _ => ?_
        refine in_n ?_
        refine th_n ?_
        refine aw_reg ?_
        first | refine rs_add rfl rfl rfl (by omega) ?_ | refine rs_addw rfl rfl rfl rfl ?_
        refine rs_mv rfl rfl ?_
        refine rs_nil fun _ => ?_
        refine th_n ?_
        first
          | (have hs := exK_f1 l x lies m (f51 n) (a, b) k (by omega); exact ⟨k + 1, by omega, by omega, weak_to (.cons rfl (rc_same rfl (.inl rfl)) (.cons rfl (rc_same rfl (.inl rfl)) (.cons rfl (rc_same rfl (.inl rfl)) (.cons rfl (rc_same rfl (.inl rfl)) (.cons rfl (rc_int (by simp [hs])) (.cons rfl (rc_int (by rw [IntKind.wrap_u64]; omega)) (.nil))))))) (.keep (rfl) rfl (.keep (rfl) rfl (.keep (rfl) rfl (.keep (rfl) rfl (.keep ((by rw [hs]; rfl)) rfl (.keep ((by rw [hs]; rfl)) rfl (.nil))))))) (fun i h => by simp [keysOf] at h ⊢; omega)⟩)
          | (have hs := exK_f2 l x lies m (f51 n) (a, b) k (by simpa using h25); exact ⟨k + 1, by omega, by omega, weak_to (.cons rfl (rc_same rfl (.inl rfl)) (.cons rfl (rc_same rfl (.inl rfl)) (.cons rfl (rc_same rfl (.inl rfl)) (.cons rfl (rc_same rfl (.inl rfl)) (.cons rfl (rc_int (by simp [hs])) (.cons rfl (rc_int (by rw [IntKind.wrap_u64]; omega)) (.nil))))))) (.keep (rfl) rfl (.keep (rfl) rfl (.keep (rfl) rfl (.keep (rfl) rfl (.keep ((by rw [hs]; rfl)) rfl (.keep ((by rw [hs]; rfl)) rfl (.nil))))))) (fun i h => by simp [keysOf] at h ⊢; omega)⟩)
          | (have hs := exK_t l x lies m (f51 n) (a, b) k (by omega) (by simpa using h25); exact ⟨k + 1, by omega, by omega, weak_to (.cons rfl (rc_same rfl (.inl rfl)) (.cons rfl (rc_same rfl (.inl rfl)) (.cons rfl (rc_same rfl (.inl rfl)) (.cons rfl (rc_same rfl (.inl rfl)) (.cons rfl (rc_int (by simp [hs])) (.cons rfl (rc_int (by rw [IntKind.wrap_u64]; omega)) (.nil))))))) (.keep (rfl) rfl (.keep (rfl) rfl (.keep (rfl) rfl (.keep (rfl) rfl (.keep ((by rw [hs]; rfl)) rfl (.keep ((by rw [hs]; rfl)) rfl (.nil))))))) (fun i h => by simp [keysOf] at h ⊢; omega)⟩)
      · first | replace h25 := of_decide_eq_false h25 | skip
        refine aw_skip ?_
        refine in_n ?_
        refine th_n ?_
        refine aw_reg ?_
        first | refine rs_add rfl rfl rfl (by omega) ?_ | refine rs_addw rfl rfl rfl rfl ?_
        refine rs_mv rfl rfl ?_
        refine rs_nil fun _ => ?_
        refine th_n ?_
        first
          | (have hs := exK_f1 l x lies m (f51 n) (a, b) k (by omega); exact ⟨k + 1, by omega, by omega, weak_to (.cons rfl (rc_same rfl (.inl rfl)) (.cons rfl (rc_same rfl (.inl rfl)) (.cons rfl (rc_same rfl (.inl rfl)) (.cons rfl (rc_same rfl (.inl rfl)) (.cons rfl (rc_int (by simp [hs])) (.cons rfl (rc_int (by rw [IntKind.wrap_u64]; omega)) (.nil))))))) (.keep (rfl) rfl (.keep (rfl) rfl (.keep (rfl) rfl (.keep (rfl) rfl (.keep ((by rw [hs]; rfl)) rfl (.keep ((by rw [hs]; rfl)) rfl (.nil))))))) (fun i h => by simp [keysOf] at h ⊢; omega)⟩)
          | (have hs := exK_f2 l x lies m (f51 n) (a, b) k (by simpa using h25); exact ⟨k + 1, by omega, by omega, weak_to (.cons rfl (rc_same rfl (.inl rfl)) (.cons rfl (rc_same rfl (.inl rfl)) (.cons rfl (rc_same rfl (.inl rfl)) (.cons rfl (rc_same rfl (.inl rfl)) (.cons rfl (rc_int (by simp [hs])) (.cons rfl (rc_int (by rw [IntKind.wrap_u64]; omega)) (.nil))))))) (.keep (rfl) rfl (.keep (rfl) rfl (.keep (rfl) rfl (.keep (rfl) rfl (.keep ((by rw [hs]; rfl)) rfl (.keep ((by rw [hs]; rfl)) rfl (.nil))))))) (fun i h => by simp [keysOf] at h ⊢; omega)⟩)
          | (have hs := exK_t l x lies m (f51 n) (a, b) k (by omega) (by simpa using h25); exact ⟨k + 1, by omega, by omega, weak_to (.cons rfl (rc_same rfl (.inl rfl)) (.cons rfl (rc_same rfl (.inl rfl)) (.cons rfl (rc_same rfl (.inl rfl)) (.cons rfl (rc_same rfl (.inl rfl)) (.cons rfl (rc_int (by simp [hs])) (.cons rfl (rc_int (by rw [IntKind.wrap_u64]; omega)) (.nil))))))) (.keep (rfl) rfl (.keep (rfl) rfl (.keep (rfl) rfl (.keep (rfl) rfl (.keep ((by rw [hs]; rfl)) rfl (.keep ((by rw [hs]; rfl)) rfl (.nil))))))) (fun i h => by simp [keysOf] at h ⊢; omega)⟩)
  · first | replace h13 := of_decide_eq_false h13 | skip
    refine aw_exit ?_
    refine th_e ?_
    refine th_e ?_
    refine in_hit ?_
    refine th_n ?_
    refine aw_seq ?_
    refine aw_reg ?_
    refine rs_mv rfl rfl ?_
    refine rs_mv rfl rfl ?_
    refine rs_nil fun _ => ?_
    refine th_n ?_
    refine aw_ret ?_
    obtain rfl : k = 256 := by omega
    exact ret_own rfl (rc_same rfl (.inl rfl)) (.keep (rfl) rfl (.keep (rfl) rfl (.keep (rfl) rfl (.keep (rfl) rfl (.keep (rfl) rfl (.nil)))))) (.cons rfl rfl rfl (.cons rfl rfl rfl (.cons rfl rfl rfl (.cons rfl rfl rfl (.cons rfl rfl rfl (.nil))))))

theorem fc49b (l : List Rd) (x : List Int) (lies : Int) (m : Nat) (hx : x.length = 13) (hm : x.getD 12 0 = (m : Int)) (hm6 : m ≤ 6) (hl : l.length ≤ 4611686018427387904) (hr : ∀ r ∈ l, 0 ≤ r.probe ∧ r.probe < 8 ∧ 0 ≤ r.of_ ∧ r.of_ < 6) (all : Nat) (hall : all < 256) : FC Try.prog 49 [.rs 4 (l.map cR), .agg (x.map iv), iv lies, .fn (.func 54) [.ptr 1011 0 0]] [(1011, .cells 94 1 [[.int .u64 ((all : Nat) : Int)]] true)] (iv ((exK l x lies m f54 all (256)).2 : Int)) [(1011, .cells 94 1 [[.int .u64 (((exK l x lies m f54 all (256)).1 : Nat) : Int)]] true)] true := by
  refine fc_run (nt := 34) Try.func49 rfl rfl mcOk49 (Nat.le_of_ble_eq_true rfl) ?_
  delta mc49
  refine aw_seq ?_
  refine aw_reg ?_
  refine rs_box (v := .agg (x.map iv)) rfl rfl rfl (by simp [hx]) rfl (closed_iv x) ?_
  refine rs_mv rfl rfl ?_
  refine rs_nil fun _ => ?_
  refine th_n ?_
  refine aw_seq ?_
  refine aw_reg ?_
  refine rs_mv rfl rfl ?_
  refine rs_nil fun _ => ?_
  refine th_n ?_
  refine aw_seq ?_
  refine aw_seq ?_
  refine aw_reg ?_
  refine rs_mv rfl rfl ?_
  refine rs_nil fun _ => ?_
  refine th_n ?_
  refine aw_block ?_
  refine aw_fam (α := Nat) (fun k => 256 - k) (fun k => [(0, .rs 4 (l.map cR)), (2, iv lies), (3, .fn (.func 54) [.ptr 1011 0 0]), (5, .ptr 5 0 0), (9, iv ((exK l x lies m f54 all (k)).2 : Int)), (12, .int .u64 (((k) : Nat) : Int))]) (fun k => [(5, .cells 92 13 [x.map iv] true), (1011, .cells 94 1 [[.int .u64 (((exK l x lies m f54 all (k)).1 : Nat) : Int)]] true)]) (fun k => k ≤ 256) 0 (by omega)
    (weak_to (.cons rfl (rc_same rfl (.inl rfl)) (.cons rfl (rc_same rfl (.inl rfl)) (.cons rfl (rc_same rfl (.inl rfl)) (.cons rfl (rc_same rfl (.inl rfl)) (.cons rfl (rc_same rfl (.inl rfl)) (.cons rfl (rc_same rfl (.inl rfl)) (.nil))))))) (.keep (rfl) rfl (.keep (rfl) rfl (.nil))) (fun i h => by simp [keysOf] at h ⊢; omega)) ?_
  intro k hk
  have hi54 := exK_inv l x lies m f54 all k (fun s => s < 256) hall (fun s k y h _ => Nat.lt_of_le_of_lt Nat.and_le_left h) hk
  have hle := exK_le l x lies m f54 all k
  refine aw_seq ?_
  refine aw_reg ?_
  refine rs_lss rfl rfl rfl ?_
  refine rs_nil fun _ => ?_
  refine th_n ?_
  refine aw_seq ?_
  refine aw_cond rfl (fun h13 => ?_) (fun h13 => ?_)
  · first | replace h13 := of_decide_eq_true h13 | skip
    refine aw_skip ?_
    refine th_n ?_
    refine aw_seq ?_
    refine aw_block ?_
    refine aw_seq ?_
    refine aw_reg ?_
    refine rs_mv rfl rfl ?_
    refine rs_mv rfl rfl ?_
    refine rs_nil fun _ => ?_
    refine th_n ?_
    refine aw_seq ?_
    refine aw_seq ?_
    refine aw_reg ?_
    refine rs_mv rfl rfl ?_
    refine rs_calln [] rfl rfl (fc66 k (by omega)) (.cons (hv_same rfl) (.nil)) rfl ?_
    refine rs_mv rfl rfl ?_
    refine rs_gtr rfl rfl rfl ?_
    refine rs_nil fun _ => ?_
    refine th_n ?_
    refine aw_cond rfl (fun h18 => ?_) (fun h18 => ?_)
    · first | replace h18 := of_decide_eq_true h18 | skip
      refine aw_exit ?_
      refine th_e ?_
      refine in_hit ?_
      refine th_n ?_
      refine aw_reg ?_
      first | refine rs_add rfl rfl rfl (by omega) ?_ | refine rs_addw rfl rfl rfl rfl ?_
      refine rs_mv rfl rfl ?_
      refine rs_nil fun _ => ?_
      refine th_n ?_
      first
        | (have hs := exK_f1 l x lies m f54 all k (by omega); exact ⟨k + 1, by omega, by omega, weak_to (.cons rfl (rc_same rfl (.inl rfl)) (.cons rfl (rc_same rfl (.inl rfl)) (.cons rfl (rc_same rfl (.inl rfl)) (.cons rfl (rc_same rfl (.inl rfl)) (.cons rfl (rc_int (by simp [hs])) (.cons rfl (rc_int (by rw [IntKind.wrap_u64]; omega)) (.nil))))))) (.keep (rfl) rfl (.keep ((by rw [hs]; rfl)) rfl (.nil))) (fun i h => by simp [keysOf] at h ⊢; omega)⟩)
        | (have hs := exK_f2 l x lies m f54 all k (by simpa using h25); exact ⟨k + 1, by omega, by omega, weak_to (.cons rfl (rc_same rfl (.inl rfl)) (.cons rfl (rc_same rfl (.inl rfl)) (.cons rfl (rc_same rfl (.inl rfl)) (.cons rfl (rc_same rfl (.inl rfl)) (.cons rfl (rc_int (by simp [hs])) (.cons rfl (rc_int (by rw [IntKind.wrap_u64]; omega)) (.nil))))))) (.keep (rfl) rfl (.keep ((by rw [hs]; rfl)) rfl (.nil))) (fun i h => by simp [keysOf] at h ⊢; omega)⟩)
        | (have hs := exK_t l x lies m f54 all k (by omega) (by simpa using h25); exact ⟨k + 1, by omega, by omega, weak_to (.cons rfl (rc_same rfl (.inl rfl)) (.cons rfl (rc_same rfl (.inl rfl)) (.cons rfl (rc_same rfl (.inl rfl)) (.cons rfl (rc_same rfl (.inl rfl)) (.cons rfl (rc_int (by simp [hs])) (.cons rfl (rc_int (by rw [IntKind.wrap_u64]; omega)) (.nil))))))) (.keep (rfl) rfl (.keep ((by rw [hs]; rfl)) rfl (.nil))) (fun i h => by simp [keysOf] at h ⊢; omega)⟩)
    · first | replace h18 := of_decide_eq_false h18 | skip
      refine aw_skip ?_
      refine th_n ?_
      refine aw_seq ?_
      refine aw_reg ?_
      refine rs_ld_pa (cs := x.map iv) rfl rfl rfl rfl (by simp [hx]) (by exact List.take_of_length_le (by simp [hx])) ?_
      refine rs_mv rfl rfl ?_
      refine rs_mv rfl rfl ?_
      refine rs_calln [] rfl rfl (fc67 x l k hx (by omega) hl hr) (.cons (hv_same (scoped_iv _ _)) (.cons (hv_same rfl) (.cons (hv_same rfl) (.nil)))) rfl ?_
      refine rs_alloc rfl rfl rfl ?_
      refine rs_st (els' := [(withoutS l k x).map iv]) (fl' := true) rfl rfl rfl rfl rfl rfl (by simp [length_without, hx]) (Nat.le_of_ble_eq_true rfl) (by show [setAt _ 0 _] = _; rw [setAt_all (by simp [length_without, hx])]) (by rw [closed_iv]; rfl) ?_
      refine rs_nil fun _ => ?_
      refine th_n ?_
      refine aw_seq ?_
      refine aw_reg ?_
      refine rs_ld_pa (cs := (withoutS l k x).map iv) rfl rfl rfl rfl (by simp [length_without, hx]) (by exact List.take_of_length_le (by simp [length_without, hx])) ?_
      refine rs_calln [] rfl rfl (fc68 (withoutS l k x) m (by rw [length_without, hx]) (by rw [without_12 k l x (fun r h => ⟨(hr r h).2.2.1, (hr r h).2.2.2⟩), hm]) hm6) (.cons (hv_same (scoped_iv _ _)) (.nil)) rfl ?_
      refine rs_not rfl rfl ?_
      refine rs_nil fun _ => ?_
      refine th_n ?_
      refine aw_cond rfl (fun h25 => ?_) (fun h25 => ?_)
      · first | replace h25 := of_decide_eq_true h25 | skip
        refine aw_seq ?_
        refine aw_reg ?_
        refine rs_mv rfl rfl ?_
        refine rs_mv rfl rfl ?_
        refine rs_ld_pa (cs := (withoutS l k x).map iv) rfl rfl rfl rfl (by simp [length_without, hx]) (by exact List.take_of_length_le (by simp [length_without, hx])) ?_
        refine rs_callvo [(1011, .cells 94 1 [[.int .u64 (((exK l x lies m f54 all (k)).1 : Nat) : Int)]] true)] rfl rfl (by kernel_rfl) rfl (fc54 k (exK l x lies m f54 all (k)).1 (by omega) hi54 (withoutS l k x) (by rw [length_without, hx])) (.cons (hv_same rfl) (.cons (hv_same (scoped_iv _ _)) (.cons (hv_same rfl) (.nil)))) (.cons rfl (.nil)) rfl rfl rfl ?_
        refine rs_nil fun _ => ?_
        refine th_n ?_
        refine aw_reg ?_
        refine rs_mv rfl rfl ?_
        first | refine rs_add rfl rfl rfl (by omega) ?_ | refine rs_addw rfl rfl rfl rfl ?_
        refine rs_mv rfl rfl ?_
        refine rs_nil fun _ => ?_
        refine in_n ?_
        refine th_n ?_
        refine aw_reg ?_
        first | refine rs_add rfl rfl rfl (by omega) ?_ | refine rs_addw rfl rfl rfl rfl ?_
        refine rs_mv rfl rfl ?_
        refine rs_nil fun _ => ?_
        refine th_n ?_
        first
          | (have hs := exK_f1 l x lies m f54 all k (by omega); exact ⟨k + 1, by omega, by omega, weak_to (.cons rfl (rc_same rfl (.inl rfl)) (.cons rfl (rc_same rfl (.inl rfl)) (.cons rfl (rc_same rfl (.inl rfl)) (.cons rfl (rc_same rfl (.inl rfl)) (.cons rfl (rc_int (by simp [hs])) (.cons rfl (rc_int (by rw [IntKind.wrap_u64]; omega)) (.nil))))))) (.keep (rfl) rfl (.keep ((by rw [hs]; rfl)) rfl (.nil))) (fun i h => by simp [keysOf] at h ⊢; omega)⟩)
          | (have hs := exK_f2 l x lies m f54 all k (by simpa using h25); exact ⟨k + 1, by omega, by omega, weak_to (.cons rfl (rc_same rfl (.inl rfl)) (.cons rfl (rc_same rfl (.inl rfl)) (.cons rfl (rc_same rfl (.inl rfl)) (.cons rfl (rc_same rfl (.inl rfl)) (.cons rfl (rc_int (by simp [hs])) (.cons rfl (rc_int (by rw [IntKind.wrap_u64]; omega)) (.nil))))))) (.keep (rfl) rfl (.keep ((by rw [hs]; rfl)) rfl (.nil))) (fun i h => by simp [keysOf] at h ⊢; omega)⟩)
          | (have hs := exK_t l x lies m f54 all k (by omega) (by simpa using h25); exact ⟨k + 1, by omega, by omega, weak_to (.cons rfl (rc_same rfl (.inl rfl)) (.cons rfl (rc_same rfl (.inl rfl)) (.cons rfl (rc_same rfl (.inl rfl)) (.cons rfl (rc_same rfl (.inl rfl)) (.cons rfl (rc_int (by simp [hs])) (.cons rfl (rc_int (by rw [IntKind.wrap_u64]; omega)) (.nil))))))) (.keep (rfl) rfl (.keep ((by rw [hs]; rfl)) rfl (.nil))) (fun i h => by simp [keysOf] at h ⊢; omega)⟩)
      · first | replace h25 := of_decide_eq_false h25 | skip
        refine aw_skip ?_
        refine in_n ?_
        refine th_n ?_
        refine aw_reg ?_
        first | refine rs_add rfl rfl rfl (by omega) ?_ | refine rs_addw rfl rfl rfl rfl ?_
        refine rs_mv rfl rfl ?_
        refine rs_nil fun _ => ?_
        refine th_n ?_
        first
          | (have hs := exK_f1 l x lies m f54 all k (by omega); exact ⟨k + 1, by omega, by omega, weak_to (.cons rfl (rc_same rfl (.inl rfl)) (.cons rfl (rc_same rfl (.inl rfl)) (.cons rfl (rc_same rfl (.inl rfl)) (.cons rfl (rc_same rfl (.inl rfl)) (.cons rfl (rc_int (by simp [hs])) (.cons rfl (rc_int (by rw [IntKind.wrap_u64]; omega)) (.nil))))))) (.keep (rfl) rfl (.keep ((by rw [hs]; rfl)) rfl (.nil))) (fun i h => by simp [keysOf] at h ⊢; omega)⟩)
          | (have hs := exK_f2 l x lies m f54 all k (by simpa using h25); exact ⟨k + 1, by omega, by omega, weak_to (.cons rfl (rc_same rfl (.inl rfl)) (.cons rfl (rc_same rfl (.inl rfl)) (.cons rfl (rc_same rfl (.inl rfl)) (.cons rfl (rc_same rfl (.inl rfl)) (.cons rfl (rc_int (by simp [hs])) (.cons rfl (rc_int (by rw [IntKind.wrap_u64]; omega)) (.nil))))))) (.keep (rfl) rfl (.keep ((by rw [hs]; rfl)) rfl (.nil))) (fun i h => by simp [keysOf] at h ⊢; omega)⟩)
          | (have hs := exK_t l x lies m f54 all k (by omega) (by simpa using h25); exact ⟨k + 1, by omega, by omega, weak_to (.cons rfl (rc_same rfl (.inl rfl)) (.cons rfl (rc_same rfl (.inl rfl)) (.cons rfl (rc_same rfl (.inl rfl)) (.cons rfl (rc_same rfl (.inl rfl)) (.cons rfl (rc_int (by simp [hs])) (.cons rfl (rc_int (by rw [IntKind.wrap_u64]; omega)) (.nil))))))) (.keep (rfl) rfl (.keep ((by rw [hs]; rfl)) rfl (.nil))) (fun i h => by simp [keysOf] at h ⊢; omega)⟩)
  · first | replace h13 := of_decide_eq_false h13 | skip
    refine aw_exit ?_
    refine th_e ?_
    refine th_e ?_
    refine in_hit ?_
    refine th_n ?_
    refine aw_seq ?_
    refine aw_reg ?_
    refine rs_mv rfl rfl ?_
    refine rs_mv rfl rfl ?_
    refine rs_nil fun _ => ?_
    refine th_n ?_
    refine aw_ret ?_
    obtain rfl : k = 256 := by omega
    exact ret_own rfl (rc_same rfl (.inl rfl)) (.keep (rfl) rfl (.nil)) (.cons rfl rfl rfl (.nil))

end Go.Proofs.Ytadjdnhnbkcakaa

/-! Walks: A7. -/
namespace Go.Proofs.Ytadjdnhnbkcakaa
open Go.RowKit

/-- The least and the greatest values out of the limits. -/
def lowL (x : List Int) (n : Nat) : List Int := (List.range n).map fun i => x.getD i 0
def highL (x : List Int) (n : Nat) : List Int := (List.range n).map fun i => x.getD (6 + i) 0
theorem getD_setL : ∀ (cs l : List Int) (o i : Nat), o + cs.length ≤ l.length → (setL l o cs).getD i 0 = if o ≤ i ∧ i < o + cs.length then cs.getD (i - o) 0 else l.getD i 0
  | [], l, o, i, h => by simp [setL]; omega
  | c :: cs, l, o, i, h => by
    simp only [List.length_cons] at h
    rw [setL, getD_setL cs (l.set o c) (o + 1) i (by simp; omega)]
    by_cases h1 : i = o
    · subst h1
      rw [if_neg (by omega), if_pos (by simp)]
      simp [show i < l.length by omega]
    · by_cases h2 : o + 1 ≤ i ∧ i < o + 1 + cs.length
      · rw [if_pos h2, if_pos (by simp only [List.length_cons]; omega), show i - o = (i - (o + 1)) + 1 by omega]
        simp
      · rw [if_neg h2, if_neg (by simp only [List.length_cons]; omega)]
        simp only [List.getD_eq_getElem?_getD]
        rw [List.getElem?_set_ne (by omega)]
theorem lowL_of (lo hi : List Int) (n : Nat) (h1 : lo.length = n) (h2 : hi.length = n) (hn : n ≤ 6) : lowL (ofS lo hi) n = lo := by
  apply List.ext_getElem (by simp [lowL, h1])
  intro i h3 h4
  simp only [lowL, List.getElem_map, List.getElem_range, ofS]
  rw [getD_setL _ _ _ _ (by simp [length_setL]; omega), if_neg (by omega), getD_setL _ _ _ _ (by simp; omega), if_pos (by omega)]
  simp [h4]
theorem highL_of (lo hi : List Int) (n : Nat) (h1 : lo.length = n) (h2 : hi.length = n) (hn : n ≤ 6) : highL (ofS lo hi) n = hi := by
  apply List.ext_getElem (by simp [highL, h2])
  intro i h3 h4
  simp only [highL, List.getElem_map, List.getElem_range, ofS]
  rw [getD_setL _ _ _ _ (by simp [length_setL]; omega), if_pos (by omega)]
  simp [h4]
theorem ofS_12 (lo hi : List Int) (n : Nat) (h1 : lo.length = n) (h2 : hi.length = n) (hn : n ≤ 6) : (ofS lo hi).getD 12 0 = (n : Int) := by
  rw [ofS, getD_setL _ _ _ _ (by simp [length_setL]; omega), if_neg (by omega), getD_setL _ _ _ _ (by simp; omega), if_neg (by omega)]
  simp [h1]
theorem lowL_step (s : Nat) (x : List Int) (r : Rd) (n : Nat) (hx : x.length = 13) (hn : n ≤ 6) (h : 0 ≤ r.of_ ∧ r.of_ < n) (hh : hasS s r.probe.toNat = false) : (lowL x n).set r.of_.toNat (max ((lowL x n)[r.of_.toNat]'(by simp [lowL]; omega)) r.lo) = lowL (wstep s x r) n := by
  apply List.ext_getElem (by simp [lowL])
  intro i h1 h2
  have hi : i < n := by simpa [lowL] using h2
  rw [List.getElem_set]
  simp only [lowL, List.getElem_map, List.getElem_range, wstep, hh, Bool.false_eq_true, if_false, List.getD_eq_getElem?_getD]
  rw [List.getElem?_set_ne (by omega)]
  split
  · rename_i e; subst e; rw [List.getElem?_set_self (by omega)]; rfl
  · rename_i e; rw [List.getElem?_set_ne e]
theorem highL_step (s : Nat) (x : List Int) (r : Rd) (n : Nat) (hx : x.length = 13) (hn : n ≤ 6) (h : 0 ≤ r.of_ ∧ r.of_ < n) (hh : hasS s r.probe.toNat = false) : (highL x n).set r.of_.toNat (min ((highL x n)[r.of_.toNat]'(by simp [highL]; omega)) r.hi) = highL (wstep s x r) n := by
  apply List.ext_getElem (by simp [highL])
  intro i h1 h2
  have hi : i < n := by simpa [highL] using h2
  rw [List.getElem_set]
  simp only [highL, List.getElem_map, List.getElem_range, wstep, hh, Bool.false_eq_true, if_false, List.getD_eq_getElem?_getD]
  split
  · rename_i e; subst e; rw [List.getElem?_set_self (by simp; omega)]; rfl
  · rename_i e; rw [List.getElem?_set_ne (by omega), List.getElem?_set_ne (by omega)]
def lowR (x : List Int) (n : Nat) : List Int := if emptyS x n = true then [] else lowL x n
def highR (x : List Int) (n : Nat) : List Int := if emptyS x n = true then [] else highL x n
theorem has_bits_w (s : Nat) (hs : s < 256) (p : Int) (h0 : 0 ≤ p) (h8 : p < 8) : FC Try.prog 55 [.int .i64 (s : Int), .int .i64 p] [] (.bool (hasS s p.toNat)) [] false := by
  have := fc55 s p.toNat hs (by omega)
  rwa [Int.toNat_of_nonneg h0] at this

def mc52 : MC := (.seq (.reg [⟨(some 8), (.mv (.c .nils)), none, []⟩, ⟨(some 9), (.mv (.c .nils)), none, [0]⟩, ⟨(some 10), (.mv (.c (.bool false))), none, [1]⟩] false) (.seq (.reg [⟨(some 15), (.bslice 3 1 [(.int .i64 0)] 0 []), none, []⟩, ⟨(some 16), (.mv (.t 1)), none, []⟩, ⟨(some 17), (.app 3 1 8 [(.int .i64 0)] (.t 15) (.t 16)), none, [0, 1]⟩, ⟨(some 11), (.mv (.t 17)), none, [2, 2, 0, 1, 2]⟩] false) (.seq (.reg [⟨(some 18), (.bslice 3 1 [(.int .i64 0)] 0 []), none, []⟩, ⟨(some 19), (.mv (.t 2)), none, []⟩, ⟨(some 20), (.app 3 1 8 [(.int .i64 0)] (.t 18) (.t 19)), none, [0, 1]⟩, ⟨(some 12), (.mv (.t 20)), none, [2, 2, 0, 1, 2]⟩] false) (.seq (.seq (.reg [⟨(some 13), (.mv (.c (.int .i64 0))), none, []⟩] false) (.block 0 (.loop (.seq (.seq (.reg [⟨(some 21), (.mv (.t 13)), none, []⟩, ⟨(some 22), (.mv (.t 0)), none, []⟩, ⟨(some 23), (.len (.t 22)), none, [1]⟩, ⟨(some 24), (.bin .lss (.t 21) (.t 23)), none, [0, 2]⟩] false) (.cond (.t 24) .skip (.exit 0))) (.seq (.block 1 (.seq (.reg [⟨(some 27), (.mv (.t 3)), none, []⟩, ⟨(some 28), (.mv (.t 0)), none, []⟩, ⟨(some 29), (.mv (.t 13)), none, []⟩, ⟨(some 30), (.ixsl 4 (.t 28) (.t 29)), none, [1, 2]⟩, ⟨(some 31), (.fa 0 (.t 30)), none, [3]⟩, ⟨(some 32), (.ld false 1 (.t 31)), none, [4]⟩, ⟨(some 33), (.call 55 [(.t 27), (.t 32)]), none, [0, 5]⟩, ⟨(some 34), (.un .not (.t 33)), none, [6]⟩] false) (.cond (.t 34) (.seq (.reg [⟨(some 35), (.mv (.t 11)), none, []⟩, ⟨(some 36), (.mv (.t 0)), none, []⟩, ⟨(some 37), (.mv (.t 13)), none, []⟩, ⟨(some 38), (.ixsl 4 (.t 36) (.t 37)), none, [1, 2]⟩, ⟨(some 39), (.fa 1 (.t 38)), none, [3]⟩, ⟨(some 40), (.ld false 1 (.t 39)), none, [4]⟩, ⟨(some 41), (.mv (.t 11)), none, []⟩, ⟨(some 42), (.mv (.t 0)), none, []⟩, ⟨(some 43), (.mv (.t 13)), none, []⟩, ⟨(some 44), (.ixsl 4 (.t 42) (.t 43)), none, [7, 8]⟩, ⟨(some 45), (.fa 1 (.t 44)), none, [9]⟩, ⟨(some 46), (.ld false 1 (.t 45)), none, [10]⟩, ⟨(some 47), (.ixsl 1 (.t 41) (.t 46)), none, [6, 11]⟩, ⟨(some 48), (.ld false 1 (.t 47)), none, [12]⟩, ⟨(some 49), (.mv (.t 0)), none, []⟩, ⟨(some 50), (.mv (.t 13)), none, []⟩, ⟨(some 51), (.ixsl 4 (.t 49) (.t 50)), none, [14, 15]⟩, ⟨(some 52), (.fa 2 (.t 51)), none, [16]⟩, ⟨(some 53), (.ld false 1 (.t 52)), none, [17]⟩, ⟨(some 54), (.mx (.t 48) (.t 53)), none, [13, 18]⟩, ⟨(some 55), (.ixsl 1 (.t 35) (.t 40)), none, [0, 5, 0, 1, 2, 3, 4, 5, 6, 7, 8, 9, 10, 11, 12, 13, 14, 15, 16, 17, 18, 19]⟩, ⟨none, (.st 1 (.t 55) (.t 54)), none, [20, 19, 0, 1, 2, 3, 4, 5, 6, 7, 8, 9, 10, 11, 12, 13, 14, 15, 16, 17, 18, 19]⟩] true) (.reg [⟨(some 56), (.mv (.t 12)), none, []⟩, ⟨(some 57), (.mv (.t 0)), none, []⟩, ⟨(some 58), (.mv (.t 13)), none, []⟩, ⟨(some 59), (.ixsl 4 (.t 57) (.t 58)), none, [1, 2]⟩, ⟨(some 60), (.fa 1 (.t 59)), none, [3]⟩, ⟨(some 61), (.ld false 1 (.t 60)), none, [4]⟩, ⟨(some 62), (.mv (.t 12)), none, []⟩, ⟨(some 63), (.mv (.t 0)), none, []⟩, ⟨(some 64), (.mv (.t 13)), none, []⟩, ⟨(some 65), (.ixsl 4 (.t 63) (.t 64)), none, [7, 8]⟩, ⟨(some 66), (.fa 1 (.t 65)), none, [9]⟩, ⟨(some 67), (.ld false 1 (.t 66)), none, [10]⟩, ⟨(some 68), (.ixsl 1 (.t 62) (.t 67)), none, [6, 11]⟩, ⟨(some 69), (.ld false 1 (.t 68)), none, [12]⟩, ⟨(some 70), (.mv (.t 0)), none, []⟩, ⟨(some 71), (.mv (.t 13)), none, []⟩, ⟨(some 72), (.ixsl 4 (.t 70) (.t 71)), none, [14, 15]⟩, ⟨(some 73), (.fa 3 (.t 72)), none, [16]⟩, ⟨(some 74), (.ld false 1 (.t 73)), none, [17]⟩, ⟨(some 75), (.mn (.t 69) (.t 74)), none, [13, 18]⟩, ⟨(some 76), (.ixsl 1 (.t 56) (.t 61)), none, [0, 5, 0, 1, 2, 3, 4, 5, 6, 7, 8, 9, 10, 11, 12, 13, 14, 15, 16, 17, 18, 19]⟩, ⟨none, (.st 1 (.t 76) (.t 75)), none, [20, 19, 0, 1, 2, 3, 4, 5, 6, 7, 8, 9, 10, 11, 12, 13, 14, 15, 16, 17, 18, 19]⟩] true)) .skip))) (.reg [⟨(some 25), (.mv (.t 13)), none, []⟩, ⟨(some 26), (.bin .add (.t 25) (.c (.int .i64 1))), none, [0]⟩, ⟨(some 13), (.mv (.t 26)), none, [1, 0, 1]⟩] false)))))) (.seq (.seq (.reg [⟨(some 14), (.mv (.c (.int .i64 0))), none, []⟩] false) (.block 2 (.loop (.seq (.seq (.reg [⟨(some 77), (.mv (.t 14)), none, []⟩, ⟨(some 78), (.mv (.t 11)), none, []⟩, ⟨(some 79), (.len (.t 78)), none, [1]⟩, ⟨(some 80), (.bin .lss (.t 77) (.t 79)), none, [0, 2]⟩] false) (.cond (.t 80) .skip (.exit 2))) (.seq (.block 3 (.seq (.reg [⟨(some 83), (.mv (.t 11)), none, []⟩, ⟨(some 84), (.mv (.t 14)), none, []⟩, ⟨(some 85), (.ixsl 1 (.t 83) (.t 84)), none, [0, 1]⟩, ⟨(some 86), (.ld false 1 (.t 85)), none, [2]⟩, ⟨(some 87), (.mv (.t 12)), none, []⟩, ⟨(some 88), (.mv (.t 14)), none, []⟩, ⟨(some 89), (.ixsl 1 (.t 87) (.t 88)), none, [4, 5]⟩, ⟨(some 90), (.ld false 1 (.t 89)), none, [6]⟩, ⟨(some 91), (.bin .gtr (.t 86) (.t 90)), none, [3, 7]⟩] true) (.cond (.t 91) (.seq (.reg [⟨(some 8), (.mv (.c .nils)), none, []⟩, ⟨(some 9), (.mv (.c .nils)), none, [0, 0]⟩, ⟨(some 10), (.mv (.c (.bool false))), none, [1, 0, 1]⟩] false) .ret) .skip))) (.reg [⟨(some 81), (.mv (.t 14)), none, []⟩, ⟨(some 82), (.bin .add (.t 81) (.c (.int .i64 1))), none, [0]⟩, ⟨(some 14), (.mv (.t 82)), none, [1, 0, 1]⟩] false)))))) (.seq (.reg [⟨(some 92), (.mv (.t 11)), none, []⟩, ⟨(some 93), (.mv (.t 12)), none, []⟩, ⟨(some 8), (.mv (.t 92)), none, [0, 0]⟩, ⟨(some 9), (.mv (.t 93)), none, [1, 2, 0, 1, 2]⟩, ⟨(some 10), (.mv (.c (.bool true))), none, [3, 0, 1, 2, 3]⟩] false) .ret))))))
theorem mcOk52 : (match Try.f52.body with | some c => compC Try.prog 94 c | none => none) = some mc52 := by kernel_rfl

theorem fc52 (l : List Rd) (lo hi : List Int) (s n : Nat) (h1 : lo.length = n) (h2 : hi.length = n) (hn : n ≤ 6) (hs : s < 256) (hl : l.length ≤ 4611686018427387904) (hr : ∀ r ∈ l, 0 ≤ r.probe ∧ r.probe < 8 ∧ 0 ≤ r.of_ ∧ r.of_ < n) : FC Try.prog 52 [.rs 4 (l.map cR), ints lo, ints hi, .int .i64 (s : Int)] [] (.tup [.sl 17 0 (lowR (withoutS l s (ofS lo hi)) n).length, .sl 20 0 (highR (withoutS l s (ofS lo hi)) n).length, .bool (!emptyS (withoutS l s (ofS lo hi)) n)]) [(17, .cells 3 1 ((lowR (withoutS l s (ofS lo hi)) n).map ci) true), (20, .cells 3 1 ((highR (withoutS l s (ofS lo hi)) n).map ci) true)] false := by
  have hla : ∀ x, (lowL x n).length = n := fun x => by simp [lowL]
  have hlb : ∀ x, (highL x n).length = n := fun x => by simp [highL]
  refine fc_run (nt := 94) Try.func52 rfl rfl mcOk52 (Nat.le_of_ble_eq_true rfl) ?_
  delta mc52
  refine aw_seq ?_
  refine aw_reg ?_
  refine rs_mv rfl rfl ?_
  refine rs_mv rfl rfl ?_
  refine rs_mv rfl rfl ?_
  refine rs_nil fun _ => ?_
  refine th_n ?_
  refine aw_seq ?_
  refine aw_reg ?_
  refine rs_bslice rfl rfl rfl rfl rfl rfl ?_
  refine rs_mv rfl rfl ?_
  refine rs_app_e (ys := lo) (n := n) (f := ci) (rd := []) rfl rfl rfl rfl rfl rfl rfl (by simp) (fun _ => rfl) h1 (by omega) (by omega) flat_ci ?_
  refine rs_mv rfl rfl ?_
  refine rs_nil fun _ => ?_
  refine th_n ?_
  refine aw_seq ?_
  refine aw_reg ?_
  refine rs_bslice rfl rfl rfl rfl rfl rfl ?_
  refine rs_mv rfl rfl ?_
  refine rs_app_e (ys := hi) (n := n) (f := ci) (rd := []) rfl rfl rfl rfl rfl rfl rfl (by simp) (fun _ => rfl) h2 (by omega) (by omega) flat_ci ?_
  refine rs_mv rfl rfl ?_
  refine rs_nil fun _ => ?_
  refine th_n ?_
  refine aw_seq ?_
  refine aw_seq ?_
  refine aw_reg ?_
  refine rs_mv rfl rfl ?_
  refine rs_nil fun _ => ?_
  refine th_n ?_
  refine aw_block ?_
  refine aw_fam (α := Nat) (fun k => l.length - k) (fun k => [(0, .rs 4 (l.map cR)), (1, ints lo), (2, ints hi), (3, .int .i64 (s : Int)), (11, .sl 17 0 n), (12, .sl 20 0 n), (13, iv (((k) : Nat) : Int))]) (fun k => [(17, .cells 3 1 ((lowL ((l.take (k)).foldl (wstep s) (ofS lo hi)) n).map ci) true), (20, .cells 3 1 ((highL ((l.take (k)).foldl (wstep s) (ofS lo hi)) n).map ci) true)]) (fun k => k ≤ l.length) 0 (by omega)
    (weak_to (.cons rfl (rc_same rfl (.inl rfl)) (.cons rfl (rc_same rfl (.inl rfl)) (.cons rfl (rc_same rfl (.inl rfl)) (.cons rfl (rc_same rfl (.inl rfl)) (.cons rfl (rc_same rfl (.inl rfl)) (.cons rfl (rc_same rfl (.inl rfl)) (.cons rfl (rc_same rfl (.inl rfl)) (.nil)))))))) (.keep ((by (rw [show (l.take 0).foldl (wstep s) (ofS lo hi) = ofS lo hi from rfl, lowL_of lo hi n h1 h2 hn]) <;> rfl)) rfl (.keep ((by (rw [show (l.take 0).foldl (wstep s) (ofS lo hi) = ofS lo hi from rfl, highL_of lo hi n h1 h2 hn]) <;> rfl)) rfl (.nil))) (fun i h => by cases h)) ?_
  intro k hk
  refine aw_seq ?_
  refine aw_seq ?_
  refine aw_reg ?_
  refine rs_mv rfl rfl ?_
  refine rs_mv rfl rfl ?_
  first | refine rs_len_m rfl rfl ?_ | refine rs_len_s rfl rfl ?_ | refine rs_len_n rfl rfl ?_ | refine rs_len_r rfl rfl rfl ?_
  refine rs_lss rfl rfl rfl ?_
  refine rs_nil fun _ => ?_
  refine th_n ?_
  refine aw_cond rfl (fun h24 => ?_) (fun h24 => ?_)
  · first | replace h24 := of_decide_eq_true h24 | skip
    refine aw_skip ?_
    refine th_n ?_
    refine aw_seq ?_
    refine aw_block ?_
    refine aw_seq ?_
    refine aw_reg ?_
    have hkl : k < l.length := by omega
    have hk1 := hr l[k] (List.getElem_mem _)
    have hlen := length_fold s (l.take k) (ofS lo hi)
    rw [length_ofS] at hlen
    have hst := fold_take (wstep s) (ofS lo hi) l k hkl
    refine rs_mv rfl rfl ?_
    refine rs_mv rfl rfl ?_
    refine rs_mv rfl rfl ?_
    first | refine rs_ix_m rfl rfl rfl (by omega) ?_ | refine rs_ix_sm rfl rfl rfl rfl (by omega) ?_
    first | refine rs_fa_p rfl rfl ?_ | refine rs_fa_r rfl rfl rfl ?_
    first | refine rs_ld_r rfl rfl rfl ?_ | refine rs_ld_p rfl rfl rfl rfl rfl ?_ | refine rs_ld_m rfl rfl rfl (by omega) rfl ?_
    refine rs_calln [] rfl rfl (has_bits_w s hs _ hk1.1 hk1.2.1) (.cons (hv_same rfl) (.cons (hv_same rfl) (.nil))) rfl ?_
    refine rs_not rfl rfl ?_
    refine rs_nil fun _ => ?_
    refine th_n ?_
    refine aw_cond rfl (fun h34 => ?_) (fun h34 => ?_)
    · first | replace h34 := of_decide_eq_true h34 | skip
      refine aw_seq ?_
      refine aw_draw hmix ?_
      refine rs_mv rfl rfl ?_
      refine rs_mv rfl rfl ?_
      refine rs_mv rfl rfl ?_
      first | refine rs_ix_m rfl rfl rfl (by omega) ?_ | refine rs_ix_sm rfl rfl rfl rfl (by omega) ?_
      first | refine rs_fa_p rfl rfl ?_ | refine rs_fa_r rfl rfl rfl ?_
      first | refine rs_ld_r rfl rfl rfl ?_ | refine rs_ld_p rfl rfl rfl rfl rfl ?_ | refine rs_ld_m rfl rfl rfl (by omega) rfl ?_
      refine rs_mv rfl rfl ?_
      refine rs_mv rfl rfl ?_
      refine rs_mv rfl rfl ?_
      first | refine rs_ix_m rfl rfl rfl (by omega) ?_ | refine rs_ix_sm rfl rfl rfl rfl (by omega) ?_
      first | refine rs_fa_p rfl rfl ?_ | refine rs_fa_r rfl rfl rfl ?_
      first | refine rs_ld_r rfl rfl rfl ?_ | refine rs_ld_p rfl rfl rfl rfl rfl ?_ | refine rs_ld_m rfl rfl rfl (by omega) rfl ?_
      refine rs_ix_sm (t := l[k].of_.toNat) rfl rfl (congrArg (fun x => some (AV.int .i64 x)) (Int.toNat_of_nonneg hk1.2.2.1).symm) rfl (by omega) ?_
      refine rs_ld_m rfl rfl rfl (by rw [hla]; omega) rfl ?_
      refine rs_mv rfl rfl ?_
      refine rs_mv rfl rfl ?_
      first | refine rs_ix_m rfl rfl rfl (by omega) ?_ | refine rs_ix_sm rfl rfl rfl rfl (by omega) ?_
      first | refine rs_fa_p rfl rfl ?_ | refine rs_fa_r rfl rfl rfl ?_
      first | refine rs_ld_r rfl rfl rfl ?_ | refine rs_ld_p rfl rfl rfl rfl rfl ?_ | refine rs_ld_m rfl rfl rfl (by omega) rfl ?_
      refine rs_mx rfl rfl rfl rfl ?_
      refine rs_ix_sm (t := l[k].of_.toNat) rfl rfl (congrArg (fun x => some (AV.int .i64 x)) (Int.toNat_of_nonneg hk1.2.2.1).symm) rfl (by omega) ?_
      refine rs_st_m (fl' := true) rfl rfl rfl rfl (by rw [hla]; omega) rfl rfl (Nat.le_of_ble_eq_true rfl) rfl rfl ?_
      refine rs_nil ⟨by kernel_rfl, fun _ => ?_⟩
      refine th_n ?_
      refine aw_draw hmix ?_
      refine rs_mv rfl rfl ?_
      refine rs_mv rfl rfl ?_
      refine rs_mv rfl rfl ?_
      first | refine rs_ix_m rfl rfl rfl (by omega) ?_ | refine rs_ix_sm rfl rfl rfl rfl (by omega) ?_
      first | refine rs_fa_p rfl rfl ?_ | refine rs_fa_r rfl rfl rfl ?_
      first | refine rs_ld_r rfl rfl rfl ?_ | refine rs_ld_p rfl rfl rfl rfl rfl ?_ | refine rs_ld_m rfl rfl rfl (by omega) rfl ?_
      refine rs_mv rfl rfl ?_
      refine rs_mv rfl rfl ?_
      refine rs_mv rfl rfl ?_
      first | refine rs_ix_m rfl rfl rfl (by omega) ?_ | refine rs_ix_sm rfl rfl rfl rfl (by omega) ?_
      first | refine rs_fa_p rfl rfl ?_ | refine rs_fa_r rfl rfl rfl ?_
      first | refine rs_ld_r rfl rfl rfl ?_ | refine rs_ld_p rfl rfl rfl rfl rfl ?_ | refine rs_ld_m rfl rfl rfl (by omega) rfl ?_
      refine rs_ix_sm (t := l[k].of_.toNat) rfl rfl (congrArg (fun x => some (AV.int .i64 x)) (Int.toNat_of_nonneg hk1.2.2.1).symm) rfl (by omega) ?_
      refine rs_ld_m rfl rfl rfl (by rw [hlb]; omega) rfl ?_
      refine rs_mv rfl rfl ?_
      refine rs_mv rfl rfl ?_
      first | refine rs_ix_m rfl rfl rfl (by omega) ?_ | refine rs_ix_sm rfl rfl rfl rfl (by omega) ?_
      first | refine rs_fa_p rfl rfl ?_ | refine rs_fa_r rfl rfl rfl ?_
      first | refine rs_ld_r rfl rfl rfl ?_ | refine rs_ld_p rfl rfl rfl rfl rfl ?_ | refine rs_ld_m rfl rfl rfl (by omega) rfl ?_
      refine rs_mn rfl rfl rfl rfl ?_
      refine rs_ix_sm (t := l[k].of_.toNat) rfl rfl (congrArg (fun x => some (AV.int .i64 x)) (Int.toNat_of_nonneg hk1.2.2.1).symm) rfl (by omega) ?_
      refine rs_st_m (fl' := true) rfl rfl rfl rfl (by rw [hlb]; omega) rfl rfl (Nat.le_of_ble_eq_true rfl) rfl rfl ?_
      refine rs_nil ⟨by kernel_rfl, fun _ => ?_⟩
      refine in_n ?_
      refine th_n ?_
      refine aw_reg ?_
      refine rs_mv rfl rfl ?_
      first | refine rs_add rfl rfl rfl (by omega) ?_ | refine rs_addw rfl rfl rfl rfl ?_
      refine rs_mv rfl rfl ?_
      refine rs_nil fun _ => ?_
      refine th_n ?_
      refine ⟨k + 1, by omega, by omega, ?_⟩
      first
        | (have hh : hasS s l[k].probe.toNat = false := (by simpa using h34); exact weak_to (.cons rfl (rc_same rfl (.inl rfl)) (.cons rfl (rc_same rfl (.inl rfl)) (.cons rfl (rc_same rfl (.inl rfl)) (.cons rfl (rc_same rfl (.inl rfl)) (.cons rfl (rc_same rfl (.inl rfl)) (.cons rfl (rc_same rfl (.inl rfl)) (.cons rfl (rc_same rfl (.inl rfl)) (.nil)))))))) (.keep ((by (rw [hst, ← lowL_step s _ _ n hlen hn hk1.2.2 hh]) <;> rfl)) rfl (.keep ((by (rw [hst, ← highL_step s _ _ n hlen hn hk1.2.2 hh]) <;> rfl)) rfl (.nil))) (fun i h => by cases h))
        | (have hh : hasS s l[k].probe.toNat = true := (by simpa using h34); exact weak_to (.cons rfl (rc_same rfl (.inl rfl)) (.cons rfl (rc_same rfl (.inl rfl)) (.cons rfl (rc_same rfl (.inl rfl)) (.cons rfl (rc_same rfl (.inl rfl)) (.cons rfl (rc_same rfl (.inl rfl)) (.cons rfl (rc_same rfl (.inl rfl)) (.cons rfl (rc_same rfl (.inl rfl)) (.nil)))))))) (.keep ((by (rw [hst, wstep, if_pos hh]) <;> rfl)) rfl (.keep ((by (rw [hst, wstep, if_pos hh]) <;> rfl)) rfl (.nil))) (fun i h => by cases h))
    · first | replace h34 := of_decide_eq_false h34 | skip
      refine aw_skip ?_
      refine in_n ?_
      refine th_n ?_
      refine aw_reg ?_
      refine rs_mv rfl rfl ?_
      first | refine rs_add rfl rfl rfl (by omega) ?_ | refine rs_addw rfl rfl rfl rfl ?_
      refine rs_mv rfl rfl ?_
      refine rs_nil fun _ => ?_
      refine th_n ?_
      refine ⟨k + 1, by omega, by omega, ?_⟩
      first
        | (have hh : hasS s l[k].probe.toNat = false := (by simpa using h34); exact weak_to (.cons rfl (rc_same rfl (.inl rfl)) (.cons rfl (rc_same rfl (.inl rfl)) (.cons rfl (rc_same rfl (.inl rfl)) (.cons rfl (rc_same rfl (.inl rfl)) (.cons rfl (rc_same rfl (.inl rfl)) (.cons rfl (rc_same rfl (.inl rfl)) (.cons rfl (rc_same rfl (.inl rfl)) (.nil)))))))) (.keep ((by (rw [hst, ← lowL_step s _ _ n hlen hn hk1.2.2 hh]) <;> rfl)) rfl (.keep ((by (rw [hst, ← highL_step s _ _ n hlen hn hk1.2.2 hh]) <;> rfl)) rfl (.nil))) (fun i h => by cases h))
        | (have hh : hasS s l[k].probe.toNat = true := (by simpa using h34); exact weak_to (.cons rfl (rc_same rfl (.inl rfl)) (.cons rfl (rc_same rfl (.inl rfl)) (.cons rfl (rc_same rfl (.inl rfl)) (.cons rfl (rc_same rfl (.inl rfl)) (.cons rfl (rc_same rfl (.inl rfl)) (.cons rfl (rc_same rfl (.inl rfl)) (.cons rfl (rc_same rfl (.inl rfl)) (.nil)))))))) (.keep ((by (rw [hst, wstep, if_pos hh]) <;> rfl)) rfl (.keep ((by (rw [hst, wstep, if_pos hh]) <;> rfl)) rfl (.nil))) (fun i h => by cases h))
  · first | replace h24 := of_decide_eq_false h24 | skip
    refine aw_exit ?_
    refine th_e ?_
    refine th_e ?_
    refine in_hit ?_
    refine th_n ?_
    refine aw_seq ?_
    refine aw_seq ?_
    refine aw_reg ?_
    refine rs_mv rfl rfl ?_
    refine rs_nil fun _ => ?_
    refine th_n ?_
    refine aw_block ?_
    have hfin : withoutS l s (ofS lo hi) = (l.take k).foldl (wstep s) (ofS lo hi) := by (rw [List.take_of_length_le (by omega)]) <;> rfl
    refine aw_fam (α := Nat) (fun q => n - q) (fun q => [(11, .sl 17 0 n), (12, .sl 20 0 n), (14, iv (((q) : Nat) : Int))]) (fun q => [(17, .cells 3 1 ((lowL (withoutS l s (ofS lo hi)) n).map ci) true), (20, .cells 3 1 ((highL (withoutS l s (ofS lo hi)) n).map ci) true)]) (fun q => q ≤ n ∧ ∀ j, j < q → ¬ ((withoutS l s (ofS lo hi)).getD j 0 > (withoutS l s (ofS lo hi)).getD (6 + j) 0)) 0 (⟨by omega, fun j h => by omega⟩)
      (weak_to (.cons rfl (rc_same rfl (.inl rfl)) (.cons rfl (rc_same rfl (.inl rfl)) (.cons rfl (rc_same rfl (.inl rfl)) (.nil)))) (.keep ((by (rw [hfin]) <;> rfl)) rfl (.keep ((by (rw [hfin]) <;> rfl)) rfl (.nil))) (fun i h => by cases h)) ?_
    rintro q ⟨hq, hj⟩
    refine aw_seq ?_
    refine aw_seq ?_
    refine aw_reg ?_
    refine rs_mv rfl rfl ?_
    refine rs_mv rfl rfl ?_
    first | refine rs_len_m rfl rfl ?_ | refine rs_len_s rfl rfl ?_ | refine rs_len_n rfl rfl ?_ | refine rs_len_r rfl rfl rfl ?_
    refine rs_lss rfl rfl rfl ?_
    refine rs_nil fun _ => ?_
    refine th_n ?_
    refine aw_cond rfl (fun h80 => ?_) (fun h80 => ?_)
    · first | replace h80 := of_decide_eq_true h80 | skip
      refine aw_skip ?_
      refine th_n ?_
      refine aw_seq ?_
      refine aw_block ?_
      refine aw_seq ?_
      refine aw_draw hmix ?_
      refine rs_mv rfl rfl ?_
      refine rs_mv rfl rfl ?_
      refine rs_ix_sm (t := q) rfl rfl rfl rfl (by omega) ?_
      refine rs_ld_m rfl rfl rfl (by rw [hla]; omega) rfl ?_
      refine rs_mv rfl rfl ?_
      refine rs_mv rfl rfl ?_
      refine rs_ix_sm (t := q) rfl rfl rfl rfl (by omega) ?_
      refine rs_ld_m rfl rfl rfl (by rw [hlb]; omega) rfl ?_
      have ea : (lowL (withoutS l s (ofS lo hi)) n)[q]'(by rw [hla]; omega) = (withoutS l s (ofS lo hi)).getD q 0 := by simp [lowL]
      have eb : (highL (withoutS l s (ofS lo hi)) n)[q]'(by rw [hlb]; omega) = (withoutS l s (ofS lo hi)).getD (6 + q) 0 := by simp [highL]
      refine rs_gtr rfl rfl rfl ?_
      refine rs_nil ⟨by kernel_rfl, fun _ => ?_⟩
      refine th_n ?_
      refine aw_cond rfl (fun h91 => ?_) (fun h91 => ?_)
      · first | replace h91 := of_decide_eq_true h91 | skip
        refine aw_seq ?_
        refine aw_reg ?_
        refine rs_mv rfl rfl ?_
        refine rs_mv rfl rfl ?_
        refine rs_mv rfl rfl ?_
        refine rs_nil fun _ => ?_
        refine th_n ?_
        first | refine aw_weak (F0 := [(8, .nils), (9, .nils), (10, .bool false)]) (H0 := []) (weak_to (.cons rfl (rc_same rfl (.inl rfl)) (.cons rfl (rc_same rfl (.inl rfl)) (.cons rfl (rc_same rfl (.inl rfl)) (.nil)))) .nil (fun i h => by cases h)) ?_ | skip
        refine aw_ret ?_
        refine in_r ?_
        refine th_r ?_
        refine th_r ?_
        refine in_r ?_
        refine th_r ?_
        first
          | (have he : emptyS (withoutS l s (ofS lo hi)) n = true := List.any_eq_true.2 ⟨q, List.mem_range.2 (by omega), decide_eq_true (by rw [← ea, ← eb]; exact h91)⟩
             simp only [lowR, highR, he, if_true]
             exact ret_new rfl (rc_tup (.cons (rc_virt rfl rfl) (.cons (rc_virt rfl rfl) (.cons (rc_same rfl (.inr rfl)) .nil)))) (.virt rfl (.virt rfl .nil)))
          | (have he : emptyS (withoutS l s (ofS lo hi)) n = false := Bool.eq_false_iff.2 fun h => by
               obtain ⟨j, h1, h2⟩ := List.any_eq_true.1 h
               exact hj j (by have := List.mem_range.1 h1; omega) (of_decide_eq_true h2)
             simp only [lowR, highR, he, Bool.false_eq_true, if_false, hla, hlb]
             exact ret_new rfl (rc_same rfl (.inr rfl)) (.keep rfl rfl (noROE_map (fun _ => rfl) _) (.keep rfl rfl (noROE_map (fun _ => rfl) _) .nil)))
      · first | replace h91 := of_decide_eq_false h91 | skip
        refine aw_skip ?_
        refine in_n ?_
        refine th_n ?_
        refine aw_reg ?_
        refine rs_mv rfl rfl ?_
        first | refine rs_add rfl rfl rfl (by omega) ?_ | refine rs_addw rfl rfl rfl rfl ?_
        refine rs_mv rfl rfl ?_
        refine rs_nil fun _ => ?_
        refine th_n ?_
        refine ⟨q + 1, ⟨by omega, fun j hj1 => ?_⟩, by omega, weak_to (.cons rfl (rc_same rfl (.inl rfl)) (.cons rfl (rc_same rfl (.inl rfl)) (.cons rfl (rc_same rfl (.inl rfl)) (.nil)))) (.keep (rfl) rfl (.keep (rfl) rfl (.nil))) (fun i h => by cases h)⟩
        by_cases e : j = q
        · subst e; rw [← ea, ← eb]; omega
        · exact hj j (by omega)
    · first | replace h80 := of_decide_eq_false h80 | skip
      refine aw_exit ?_
      refine th_e ?_
      refine th_e ?_
      refine in_hit ?_
      refine th_n ?_
      refine aw_seq ?_
      refine aw_reg ?_
      refine rs_mv rfl rfl ?_
      refine rs_mv rfl rfl ?_
      refine rs_mv rfl rfl ?_
      refine rs_mv rfl rfl ?_
      refine rs_mv rfl rfl ?_
      refine rs_nil fun _ => ?_
      refine th_n ?_
      first | refine aw_weak (F0 := [(8, .nils), (9, .nils), (10, .bool false)]) (H0 := []) (weak_to (.cons rfl (rc_same rfl (.inl rfl)) (.cons rfl (rc_same rfl (.inl rfl)) (.cons rfl (rc_same rfl (.inl rfl)) (.nil)))) .nil (fun i h => by cases h)) ?_ | skip
      refine aw_ret ?_
      first
        | (have he : emptyS (withoutS l s (ofS lo hi)) n = true := List.any_eq_true.2 ⟨q, List.mem_range.2 (by omega), decide_eq_true (by rw [← ea, ← eb]; exact h91)⟩
           simp only [lowR, highR, he, if_true]
           exact ret_new rfl (rc_tup (.cons (rc_virt rfl rfl) (.cons (rc_virt rfl rfl) (.cons (rc_same rfl (.inr rfl)) .nil)))) (.virt rfl (.virt rfl .nil)))
        | (have he : emptyS (withoutS l s (ofS lo hi)) n = false := Bool.eq_false_iff.2 fun h => by
             obtain ⟨j, h1, h2⟩ := List.any_eq_true.1 h
             exact hj j (by have := List.mem_range.1 h1; omega) (of_decide_eq_true h2)
           simp only [lowR, highR, he, Bool.false_eq_true, if_false, hla, hlb]
           exact ret_new rfl (rc_same rfl (.inr rfl)) (.keep rfl rfl (noROE_map (fun _ => rfl) _) (.keep rfl rfl (noROE_map (fun _ => rfl) _) .nil)))

end Go.Proofs.Ytadjdnhnbkcakaa
