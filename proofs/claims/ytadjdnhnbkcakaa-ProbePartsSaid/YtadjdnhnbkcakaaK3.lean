/-
  Parts of the proof: A8 A9 A10 A11 A12 A13 A14 A15 A16.
-/
import Derived.Test.YtadjdnhnbkcakaaK2
set_option linter.unusedVariables false

/-! Walks: A8. -/
namespace Go.Proofs.Ytadjdnhnbkcakaa
open Go.RowKit

theorem renv_fn {σ : Nat → Nat} {f : Fn} {cs cs' : List AV} (h : RenVs σ cs cs') : RenV σ (.fn f cs) (.fn f cs') := .fn h.at_.1 h.at_.2
theorem renob_1 {σ : Nat → Nat} {e z : Nat} {v v' : AV} (h : RenV σ v v') : RenOb σ (.cells e z [[v]] false) (.cells e z [[v']] false) := by
  refine .cells (fl := false) rfl fun j el el' h1 h2 => ?_
  cases j with
  | zero =>
    simp at h1 h2; subst h1 h2
    refine ⟨rfl, fun o u u' h3 h4 => ?_⟩
    cases o with
    | zero => simp at h3 h4; subst h3 h4; exact h
    | succ o => simp at h3
  | succ j => simp at h1
theorem fc48r (i n : Nat) (xs : List Int) (hn : xs.length = n) (hx : xs.length ≤ 1000000) : FC Try.prog 48 [ints xs] [] (.sl i 0 n) [(i, .cells 3 1 (xs.map ci) true)] false := by
  subst hn
  exact fc_ren (swp 7 i) (swp_swp _ _) (fc48 xs hx) (.cons (.closed rfl) .nil) .nil (.sl (by simp [swp])) (.cons (by simp [swp]) .flat .nil)
theorem check_ok {l : List Rd} {lo hi : List Int} {lies : Int} (h : checkS l lo hi lies = 0) : l.length ≤ 40 ∧ hi.length = lo.length ∧ lo.length ≤ 6 ∧ (0 ≤ lies ∧ lies ≤ 3) ∧ (∀ r ∈ l, 0 ≤ r.probe ∧ r.probe < 8 ∧ 0 ≤ r.of_ ∧ r.of_ < lo.length) := by
  unfold checkS at h
  split at h
  · omega
  rename_i h1
  split at h
  · omega
  rename_i h2
  split at h
  · omega
  rename_i h3
  split at h
  · omega
  split at h
  · omega
  rename_i h5
  refine ⟨by omega, by omega, by omega, by omega, fun r hr => ?_⟩
  have : ¬ badR lo.length r := fun hb => h5 (List.any_eq_true.2 ⟨r, hr, decide_eq_true hb⟩)
  unfold badR at this
  omega
/-- What Narrow and Liars say. -/
def ex51 (l : List Rd) (lo hi : List Int) (lies : Int) : (List Int × List Int) × Nat := exK l (ofS lo hi) lies lo.length (f51 lo.length) (hi, lo) 256
def ex54 (l : List Rd) (lo hi : List Int) (lies : Int) : Nat × Nat := exK l (ofS lo hi) lies lo.length f54 255 256
def narrowE (l : List Rd) (lo hi : List Int) (lies : Int) : Int := if checkS l lo hi lies ≠ 0 then checkS l lo hi lies else if (ex51 l lo hi lies).2 = 0 then 21 else 0
def narrowA (l : List Rd) (lo hi : List Int) (lies : Int) : List Int := if checkS l lo hi lies ≠ 0 ∨ (ex51 l lo hi lies).2 = 0 then [] else (ex51 l lo hi lies).1.1
def narrowB (l : List Rd) (lo hi : List Int) (lies : Int) : List Int := if checkS l lo hi lies ≠ 0 ∨ (ex51 l lo hi lies).2 = 0 then [] else (ex51 l lo hi lies).1.2
def outK (all k : Nat) : List Int := ((List.range k).filter fun i => hasS all i).map Int.ofNat
def liarsE (l : List Rd) (lo hi : List Int) (lies : Int) : Int := if checkS l lo hi lies ≠ 0 then checkS l lo hi lies else if (ex54 l lo hi lies).2 = 0 then 21 else 0
def liarsL (l : List Rd) (lo hi : List Int) (lies : Int) : List Int := if checkS l lo hi lies ≠ 0 ∨ (ex54 l lo hi lies).2 = 0 then [] else outK (ex54 l lo hi lies).1 8
theorem outK_t (all k : Nat) (h : hasS all k = true) : outK all (k + 1) = outK all k ++ [(k : Int)] := by simp [outK, List.range_succ, h]
theorem outK_f (all k : Nat) (h : hasS all k = false) : outK all (k + 1) = outK all k := by simp [outK, List.range_succ, h]
theorem outK_le (all k : Nat) : (outK all k).length ≤ k := by
  have := List.length_filter_le (fun i => hasS all i) (List.range k)
  simpa [outK] using this
section
variable {l : List Rd} {lo hi : List Int} {lies : Int}
theorem narrow_1 (h : checkS l lo hi lies ≠ 0) : narrowE l lo hi lies = checkS l lo hi lies ∧ narrowA l lo hi lies = [] ∧ narrowB l lo hi lies = [] := ⟨if_pos h, if_pos (.inl h), if_pos (.inl h)⟩
theorem narrow_2 (h0 : checkS l lo hi lies = 0) (h : (ex51 l lo hi lies).2 = 0) : narrowE l lo hi lies = 21 ∧ narrowA l lo hi lies = [] ∧ narrowB l lo hi lies = [] := ⟨by rw [narrowE, if_neg (by omega), if_pos h], if_pos (.inr h), if_pos (.inr h)⟩
theorem narrow_3 (h0 : checkS l lo hi lies = 0) (h : (ex51 l lo hi lies).2 ≠ 0) : narrowE l lo hi lies = 0 ∧ narrowA l lo hi lies = (ex51 l lo hi lies).1.1 ∧ narrowB l lo hi lies = (ex51 l lo hi lies).1.2 := ⟨by rw [narrowE, if_neg (by omega), if_neg h], if_neg (by omega), if_neg (by omega)⟩
theorem liars_1 (h : checkS l lo hi lies ≠ 0) : liarsE l lo hi lies = checkS l lo hi lies ∧ liarsL l lo hi lies = [] := ⟨if_pos h, if_pos (.inl h)⟩
theorem liars_2 (h0 : checkS l lo hi lies = 0) (h : (ex54 l lo hi lies).2 = 0) : liarsE l lo hi lies = 21 ∧ liarsL l lo hi lies = [] := ⟨by rw [liarsE, if_neg (by omega), if_pos h], if_pos (.inr h)⟩
theorem liars_3 (h0 : checkS l lo hi lies = 0) (h : (ex54 l lo hi lies).2 ≠ 0) : liarsE l lo hi lies = 0 ∧ liarsL l lo hi lies = outK (ex54 l lo hi lies).1 8 := ⟨by rw [liarsE, if_neg (by omega), if_neg h], if_neg (by omega)⟩
theorem ex51_len (h2 : hi.length = lo.length) : (ex51 l lo hi lies).1.1.length = lo.length ∧ (ex51 l lo hi lies).1.2.length = lo.length :=
  exK_inv l (ofS lo hi) lies lo.length (f51 lo.length) (hi, lo) 256 (fun s => s.1.length = lo.length ∧ s.2.length = lo.length) ⟨h2, rfl⟩ (fun s k y h _ => ⟨by simp [f51, minK, h.1], by simp [f51, maxK, h.2]⟩) (Nat.le_refl _)
theorem ex54_lt : (ex54 l lo hi lies).1 < 256 :=
  exK_inv l (ofS lo hi) lies lo.length f54 255 256 (fun s => s < 256) (by decide) (fun s k y h _ => Nat.lt_of_le_of_lt Nat.and_le_left h) (Nat.le_refl _)
end
theorem fc49ar (l : List Rd) (lo hi : List Int) (lies : Int) (hl : l.length ≤ 40) (h2 : hi.length = lo.length) (h6 : lo.length ≤ 6) (hr : ∀ r ∈ l, 0 ≤ r.probe ∧ r.probe < 8 ∧ 0 ≤ r.of_ ∧ r.of_ < lo.length) :
    FC Try.prog 49 [.rs 4 (l.map cR), .agg ((ofS lo hi).map iv), iv lies, .fn (.func 51) [.ptr 5 0 0, .ptr 12 0 0, .ptr 13 0 0]]
      [(5, .cells 28 1 [[ints lo]] true), (12, .cells 28 1 [[.sl 2001 0 lo.length]] false), (13, .cells 28 1 [[.sl 2002 0 lo.length]] false), (2001, .cells 3 1 (hi.map ci) true), (2002, .cells 3 1 (lo.map ci) true)] (iv ((ex51 l lo hi lies).2 : Int))
      [(5, .cells 28 1 [[ints lo]] true), (12, .cells 28 1 [[.sl 2001 0 lo.length]] false), (13, .cells 28 1 [[.sl 2002 0 lo.length]] false), (2001, .cells 3 1 ((ex51 l lo hi lies).1.1.map ci) true), (2002, .cells 3 1 ((ex51 l lo hi lies).1.2.map ci) true)] true := by
  have h := fc49a l (ofS lo hi) lies lo.length (length_ofS lo hi) (ofS_12 lo hi _ rfl h2 h6) h6 (by omega) (fun r hr' => ⟨(hr r hr').1, (hr r hr').2.1, (hr r hr').2.2.1, by have := (hr r hr').2.2.2; omega⟩) lo hi lo lo.length rfl h2 rfl h6
  exact fc_ren (swp 1005 5) (swp_swp _ _) h (.cons (.closed rfl) (.cons (.closed (scoped_iv _ _)) (.cons (.closed rfl) (.cons (renv_fn (.cons (.ptr rfl) (.cons (.ptr rfl) (.cons (.ptr rfl) .nil)))) .nil))))
    (.cons rfl .flat (.cons rfl (renob_1 (.sl rfl)) (.cons rfl (renob_1 (.sl rfl)) (.cons rfl .flat (.cons rfl .flat .nil))))) (.closed rfl) (.cons rfl .flat (.cons rfl (renob_1 (.sl rfl)) (.cons rfl (renob_1 (.sl rfl)) (.cons rfl .flat (.cons rfl .flat .nil)))))
theorem fc49br (l : List Rd) (lo hi : List Int) (lies : Int) (hl : l.length ≤ 40) (h2 : hi.length = lo.length) (h6 : lo.length ≤ 6) (hr : ∀ r ∈ l, 0 ≤ r.probe ∧ r.probe < 8 ∧ 0 ≤ r.of_ ∧ r.of_ < lo.length) :
    FC Try.prog 49 [.rs 4 (l.map cR), .agg ((ofS lo hi).map iv), iv lies, .fn (.func 54) [.ptr 11 0 0]]
      [(11, .cells 94 1 [[.int .u64 ((255 : Nat) : Int)]] true)] (iv ((ex54 l lo hi lies).2 : Int)) [(11, .cells 94 1 [[.int .u64 (((ex54 l lo hi lies).1 : Nat) : Int)]] true)] true := by
  have h := fc49b l (ofS lo hi) lies lo.length (length_ofS lo hi) (ofS_12 lo hi _ rfl h2 h6) h6 (by omega) (fun r hr' => ⟨(hr r hr').1, (hr r hr').2.1, (hr r hr').2.2.1, by have := (hr r hr').2.2.2; omega⟩) 255 (by decide)
  exact fc_ren (swp 1011 11) (swp_swp _ _) h (.cons (.closed rfl) (.cons (.closed (scoped_iv _ _)) (.cons (.closed rfl) (.cons (renv_fn (.cons (.ptr rfl) .nil)) .nil)))) (.cons rfl .flat .nil) (.closed rfl) (.cons rfl .flat .nil)
theorem has_bits_u1 : ∀ s : Nat, s < 256 → ∀ p : Nat, p < 8 → decide (bits .and .u64 ((s : Int).fdiv (2 ^ min ((p : Int)).toNat 64)) 1 = 1) = hasS s p := by decide +kernel

def mc21 : MC := (.seq (.reg [⟨(some 5), (.box 28 1 (.t 1)), none, []⟩, ⟨(some 8), (.mv (.c .nils)), none, []⟩, ⟨(some 9), (.mv (.c .nils)), none, [1]⟩, ⟨(some 10), (.mv (.c (.int .i64 0))), none, [2]⟩] false) (.seq (.seq (.reg [⟨(some 15), (.mv (.t 0)), none, []⟩, ⟨(some 16), (.ld false 1 (.t 5)), none, []⟩, ⟨(some 17), (.mv (.t 2)), none, []⟩, ⟨(some 18), (.mv (.t 3)), none, []⟩, ⟨(some 19), (.call 19 [(.t 15), (.t 16), (.t 17), (.t 18)]), none, [0, 1, 2, 3]⟩, ⟨(some 11), (.mv (.t 19)), none, [4, 4, 0, 1, 2, 3, 4]⟩] false) (.seq (.reg [⟨(some 20), (.mv (.t 11)), none, []⟩, ⟨(some 21), (.bin .neq (.t 20) (.c (.int .i64 0))), none, [0]⟩] false) (.cond (.t 21) (.seq (.reg [⟨(some 22), (.mv (.t 11)), none, []⟩, ⟨(some 8), (.mv (.c .nils)), none, []⟩, ⟨(some 9), (.mv (.c .nils)), none, [1, 1]⟩, ⟨(some 10), (.mv (.t 22)), none, [0, 2, 0, 1, 2]⟩] false) .ret) .skip))) (.seq (.reg [⟨(some 23), (.mv (.t 2)), none, []⟩, ⟨(some 24), (.call 48 [(.t 23)]), none, [0]⟩, ⟨(some 25), (.ld false 1 (.t 5)), none, []⟩, ⟨(some 26), (.call 48 [(.t 25)]), none, [2, 1]⟩, ⟨(some 12), (.alloc 28 1 [.nils]), none, []⟩, ⟨(some 13), (.alloc 28 1 [.nils]), none, []⟩, ⟨none, (.st 1 (.t 12) (.t 24)), none, [4, 1, 3, 0, 1, 4, 5]⟩, ⟨none, (.st 1 (.t 13) (.t 26)), none, [5, 3, 6, 0, 1, 2, 3, 4, 5, 6]⟩] true) (.seq (.reg [⟨(some 27), (.mv (.t 0)), none, []⟩, ⟨(some 28), (.ld false 1 (.t 5)), none, []⟩, ⟨(some 29), (.mv (.t 2)), none, []⟩, ⟨(some 30), (.call 50 [(.t 28), (.t 29)]), none, [1, 2]⟩, ⟨(some 31), (.mv (.t 3)), none, []⟩, ⟨(some 32), (.mkfn (.func 51) [(.t 5), (.t 12), (.t 13)]), none, []⟩, ⟨(some 33), (.call 49 [(.t 27), (.t 30), (.t 31), (.t 32)]), none, [0, 3, 4, 5, 3]⟩, ⟨(some 14), (.mv (.t 33)), none, [6, 6, 0, 1, 2, 3, 4, 5, 6]⟩] false) (.seq (.seq (.reg [⟨(some 34), (.mv (.t 14)), none, []⟩, ⟨(some 35), (.bin .eql (.t 34) (.c (.int .i64 0))), none, [0]⟩] false) (.cond (.t 35) (.seq (.reg [⟨(some 8), (.mv (.c .nils)), none, []⟩, ⟨(some 9), (.mv (.c .nils)), none, [0, 0]⟩, ⟨(some 10), (.mv (.c (.int .i64 21))), none, [1, 0, 1]⟩] false) .ret) .skip)) (.seq (.reg [⟨(some 36), (.ld false 1 (.t 12)), none, []⟩, ⟨(some 37), (.ld false 1 (.t 13)), none, []⟩, ⟨(some 8), (.mv (.t 36)), none, [0, 0]⟩, ⟨(some 9), (.mv (.t 37)), none, [1, 2, 0, 1, 2]⟩, ⟨(some 10), (.mv (.c (.int .i64 0))), none, [3, 0, 1, 2, 3]⟩] true) .ret))))))
theorem mcOk21 : (match Try.f21.body with | some c => compC Try.prog 38 c | none => none) = some mc21 := by kernel_rfl

theorem fc21 (l : List Rd) (lo hi : List Int) (lies : Int) : FC Try.prog 21 [.rs 4 (l.map cR), ints lo, ints hi, .int .i64 lies] [] (.tup [.sl 2001 0 (narrowA l lo hi lies).length, .sl 2002 0 (narrowB l lo hi lies).length, iv (narrowE l lo hi lies)]) [(2001, .cells 3 1 ((narrowA l lo hi lies).map ci) true), (2002, .cells 3 1 ((narrowB l lo hi lies).map ci) true)] false := by
  refine fc_run (nt := 38) Try.func21 rfl rfl mcOk21 (Nat.le_of_ble_eq_true rfl) ?_
  delta mc21
  refine aw_seq ?_
  refine aw_reg ?_
  refine rs_box rfl rfl rfl rfl rfl rfl ?_
  refine rs_mv rfl rfl ?_
  refine rs_mv rfl rfl ?_
  refine rs_mv rfl rfl ?_
  refine rs_nil fun _ => ?_
  refine th_n ?_
  refine aw_seq ?_
  refine aw_seq ?_
  refine aw_reg ?_
  refine rs_mv rfl rfl ?_
  first | refine rs_ld_r rfl rfl rfl ?_ | refine rs_ld_p rfl rfl rfl rfl rfl ?_ | refine rs_ld_m rfl rfl rfl (by omega) rfl ?_
  refine rs_mv rfl rfl ?_
  refine rs_mv rfl rfl ?_
  refine rs_calln [] rfl rfl (fc19 l lo hi lies) (.cons (hv_same rfl) (.cons (hv_same rfl) (.cons (hv_same rfl) (.cons (hv_same rfl) (.nil))))) rfl ?_
  refine rs_mv rfl rfl ?_
  refine rs_nil fun _ => ?_
  refine th_n ?_
  refine aw_seq ?_
  refine aw_reg ?_
  refine rs_mv rfl rfl ?_
  refine rs_neq rfl rfl rfl ?_
  refine rs_nil fun _ => ?_
  refine th_n ?_
  refine aw_cond rfl (fun h21 => ?_) (fun h21 => ?_)
  · first | replace h21 := of_decide_eq_true h21 | skip
    refine aw_seq ?_
    refine aw_reg ?_
    refine rs_mv rfl rfl ?_
    refine rs_mv rfl rfl ?_
    refine rs_mv rfl rfl ?_
    refine rs_mv rfl rfl ?_
    refine rs_nil fun _ => ?_
    refine th_n ?_
    first | refine aw_weak (F0 := [(8, .nils), (9, .nils), (10, iv (checkS l lo hi lies))]) (H0 := []) (weak_to (.cons rfl (rc_same rfl (.inl rfl)) (.cons rfl (rc_same rfl (.inl rfl)) (.cons rfl (rc_same rfl (.inl rfl)) (.nil)))) .nil (fun i h => by cases h)) ?_ | refine aw_weak (F0 := [(8, .nils), (9, .nils), (10, iv 21)]) (H0 := []) (weak_to (.cons rfl (rc_same rfl (.inl rfl)) (.cons rfl (rc_same rfl (.inl rfl)) (.cons rfl (rc_same rfl (.inl rfl)) (.nil)))) .nil (fun i h => by cases h)) ?_ | skip
    refine aw_ret ?_
    refine th_r ?_
    first
      | (obtain ⟨e1, e2, e3⟩ := narrow_1 h21
         rw [e1, e2, e3]
         exact ret_new rfl (rc_tup (.cons (rc_virt rfl rfl) (.cons (rc_virt rfl rfl) (.cons (rc_same rfl (.inr rfl)) .nil)))) (.virt rfl (.virt rfl .nil)))
      | (obtain ⟨e1, e2, e3⟩ := narrow_2 (l := l) (lo := lo) (hi := hi) (lies := lies) (by omega) (by omega)
         rw [e1, e2, e3]
         exact ret_new rfl (rc_tup (.cons (rc_virt rfl rfl) (.cons (rc_virt rfl rfl) (.cons (rc_same rfl (.inr rfl)) .nil)))) (.virt rfl (.virt rfl .nil)))
      | (obtain ⟨e1, e2, e3⟩ := narrow_3 (l := l) (lo := lo) (hi := hi) (lies := lies) (by omega) (by omega)
         have e4 := ex51_len (l := l) (lies := lies) h2
         rw [e1, e2, e3, e4.1, e4.2]
         exact ret_new rfl (rc_same rfl (.inr rfl)) (.keep rfl rfl (noROE_map (fun _ => rfl) _) (.keep rfl rfl (noROE_map (fun _ => rfl) _) .nil)))
  · first | replace h21 := of_decide_eq_false h21 | skip
    refine aw_skip ?_
    refine th_n ?_
    refine aw_seq ?_
    refine aw_draw hmix ?_
    have h0 : checkS l lo hi lies = 0 := by omega
    obtain ⟨hl, h2, h6, hls, hr⟩ := check_ok h0
    refine rs_mv rfl rfl ?_
    refine rs_calln [] rfl rfl (fc48r 2001 lo.length hi h2 (by omega)) (.cons (hv_same rfl) (.nil)) rfl ?_
    first | refine rs_ld_r rfl rfl rfl ?_ | refine rs_ld_p rfl rfl rfl rfl rfl ?_ | refine rs_ld_m rfl rfl rfl (by omega) rfl ?_
    refine rs_calln [] rfl rfl (fc48r 2002 lo.length lo rfl (by omega)) (.cons (hv_same rfl) (.nil)) rfl ?_
    refine rs_alloc rfl rfl rfl ?_
    refine rs_alloc rfl rfl rfl ?_
    refine rs_st rfl rfl rfl rfl rfl rfl rfl (Nat.le_of_ble_eq_true rfl) rfl rfl ?_
    refine rs_st rfl rfl rfl rfl rfl rfl rfl (Nat.le_of_ble_eq_true rfl) rfl rfl ?_
    refine rs_nil ⟨by kernel_rfl, fun _ => ?_⟩
    refine th_n ?_
    refine aw_seq ?_
    refine aw_reg ?_
    refine rs_mv rfl rfl ?_
    first | refine rs_ld_r rfl rfl rfl ?_ | refine rs_ld_p rfl rfl rfl rfl rfl ?_ | refine rs_ld_m rfl rfl rfl (by omega) rfl ?_
    refine rs_mv rfl rfl ?_
    refine rs_calln [] rfl rfl (fc50 lo hi h6 (by omega)) (.cons (hv_same rfl) (.cons (hv_same rfl) (.nil))) rfl ?_
    refine rs_mv rfl rfl ?_
    refine rs_mkfn rfl rfl ?_
    refine rs_callo [(5, .cells 28 1 [[ints lo]] true), (12, .cells 28 1 [[.sl 2001 0 lo.length]] false), (13, .cells 28 1 [[.sl 2002 0 lo.length]] false), (2001, .cells 3 1 (hi.map ci) true), (2002, .cells 3 1 (lo.map ci) true)] rfl rfl (fc49ar l lo hi lies hl h2 h6 hr) (.cons (hv_same rfl) (.cons (hv_same (scoped_iv _ _)) (.cons (hv_same rfl) (.cons (hv_same rfl) (.nil))))) (.cons rfl (.cons rfl (.cons rfl (.cons rfl (.cons rfl (.nil)))))) rfl rfl rfl ?_
    refine rs_mv rfl rfl ?_
    refine rs_nil fun _ => ?_
    refine th_n ?_
    refine aw_seq ?_
    refine aw_seq ?_
    refine aw_reg ?_
    refine rs_mv rfl rfl ?_
    refine rs_eql rfl rfl rfl ?_
    refine rs_nil fun _ => ?_
    refine th_n ?_
    refine aw_cond rfl (fun h35 => ?_) (fun h35 => ?_)
    · first | replace h35 := of_decide_eq_true h35 | skip
      refine aw_seq ?_
      refine aw_reg ?_
      refine rs_mv rfl rfl ?_
      refine rs_mv rfl rfl ?_
      refine rs_mv rfl rfl ?_
      refine rs_nil fun _ => ?_
      refine th_n ?_
      first | refine aw_weak (F0 := [(8, .nils), (9, .nils), (10, iv (checkS l lo hi lies))]) (H0 := []) (weak_to (.cons rfl (rc_same rfl (.inl rfl)) (.cons rfl (rc_same rfl (.inl rfl)) (.cons rfl (rc_same rfl (.inl rfl)) (.nil)))) .nil (fun i h => by cases h)) ?_ | refine aw_weak (F0 := [(8, .nils), (9, .nils), (10, iv 21)]) (H0 := []) (weak_to (.cons rfl (rc_same rfl (.inl rfl)) (.cons rfl (rc_same rfl (.inl rfl)) (.cons rfl (rc_same rfl (.inl rfl)) (.nil)))) .nil (fun i h => by cases h)) ?_ | skip
      refine aw_ret ?_
      refine th_r ?_
      first
        | (obtain ⟨e1, e2, e3⟩ := narrow_1 h21
           rw [e1, e2, e3]
           exact ret_new rfl (rc_tup (.cons (rc_virt rfl rfl) (.cons (rc_virt rfl rfl) (.cons (rc_same rfl (.inr rfl)) .nil)))) (.virt rfl (.virt rfl .nil)))
        | (obtain ⟨e1, e2, e3⟩ := narrow_2 (l := l) (lo := lo) (hi := hi) (lies := lies) (by omega) (by omega)
           rw [e1, e2, e3]
           exact ret_new rfl (rc_tup (.cons (rc_virt rfl rfl) (.cons (rc_virt rfl rfl) (.cons (rc_same rfl (.inr rfl)) .nil)))) (.virt rfl (.virt rfl .nil)))
        | (obtain ⟨e1, e2, e3⟩ := narrow_3 (l := l) (lo := lo) (hi := hi) (lies := lies) (by omega) (by omega)
           have e4 := ex51_len (l := l) (lies := lies) h2
           rw [e1, e2, e3, e4.1, e4.2]
           exact ret_new rfl (rc_same rfl (.inr rfl)) (.keep rfl rfl (noROE_map (fun _ => rfl) _) (.keep rfl rfl (noROE_map (fun _ => rfl) _) .nil)))
    · first | replace h35 := of_decide_eq_false h35 | skip
      refine aw_skip ?_
      refine th_n ?_
      refine aw_seq ?_
      refine aw_draw hmix ?_
      first | refine rs_ld_r rfl rfl rfl ?_ | refine rs_ld_p rfl rfl rfl rfl rfl ?_ | refine rs_ld_m rfl rfl rfl (by omega) rfl ?_
      first | refine rs_ld_r rfl rfl rfl ?_ | refine rs_ld_p rfl rfl rfl rfl rfl ?_ | refine rs_ld_m rfl rfl rfl (by omega) rfl ?_
      refine rs_mv rfl rfl ?_
      refine rs_mv rfl rfl ?_
      refine rs_mv rfl rfl ?_
      refine rs_nil ⟨by kernel_rfl, fun _ => ?_⟩
      refine th_n ?_
      first | refine aw_weak (F0 := [(8, .nils), (9, .nils), (10, iv (checkS l lo hi lies))]) (H0 := []) (weak_to (.cons rfl (rc_same rfl (.inl rfl)) (.cons rfl (rc_same rfl (.inl rfl)) (.cons rfl (rc_same rfl (.inl rfl)) (.nil)))) .nil (fun i h => by cases h)) ?_ | refine aw_weak (F0 := [(8, .nils), (9, .nils), (10, iv 21)]) (H0 := []) (weak_to (.cons rfl (rc_same rfl (.inl rfl)) (.cons rfl (rc_same rfl (.inl rfl)) (.cons rfl (rc_same rfl (.inl rfl)) (.nil)))) .nil (fun i h => by cases h)) ?_ | skip
      refine aw_ret ?_
      first
        | (obtain ⟨e1, e2, e3⟩ := narrow_1 h21
           rw [e1, e2, e3]
           exact ret_new rfl (rc_tup (.cons (rc_virt rfl rfl) (.cons (rc_virt rfl rfl) (.cons (rc_same rfl (.inr rfl)) .nil)))) (.virt rfl (.virt rfl .nil)))
        | (obtain ⟨e1, e2, e3⟩ := narrow_2 (l := l) (lo := lo) (hi := hi) (lies := lies) (by omega) (by omega)
           rw [e1, e2, e3]
           exact ret_new rfl (rc_tup (.cons (rc_virt rfl rfl) (.cons (rc_virt rfl rfl) (.cons (rc_same rfl (.inr rfl)) .nil)))) (.virt rfl (.virt rfl .nil)))
        | (obtain ⟨e1, e2, e3⟩ := narrow_3 (l := l) (lo := lo) (hi := hi) (lies := lies) (by omega) (by omega)
           have e4 := ex51_len (l := l) (lies := lies) h2
           rw [e1, e2, e3, e4.1, e4.2]
           exact ret_new rfl (rc_same rfl (.inr rfl)) (.keep rfl rfl (noROE_map (fun _ => rfl) _) (.keep rfl rfl (noROE_map (fun _ => rfl) _) .nil)))

def mc24 : MC := (.seq (.reg [⟨(some 8), (.mv (.c .nils)), none, []⟩, ⟨(some 9), (.mv (.c (.int .i64 0))), none, [0]⟩] false) (.seq (.seq (.reg [⟨(some 14), (.mv (.t 0)), none, []⟩, ⟨(some 15), (.mv (.t 1)), none, []⟩, ⟨(some 16), (.mv (.t 2)), none, []⟩, ⟨(some 17), (.mv (.t 3)), none, []⟩, ⟨(some 18), (.call 19 [(.t 14), (.t 15), (.t 16), (.t 17)]), none, [0, 1, 2, 3]⟩, ⟨(some 10), (.mv (.t 18)), none, [4, 4, 0, 1, 2, 3, 4]⟩] false) (.seq (.reg [⟨(some 19), (.mv (.t 10)), none, []⟩, ⟨(some 20), (.bin .neq (.t 19) (.c (.int .i64 0))), none, [0]⟩] false) (.cond (.t 20) (.seq (.reg [⟨(some 21), (.mv (.t 10)), none, []⟩, ⟨(some 8), (.mv (.c .nils)), none, []⟩, ⟨(some 9), (.mv (.t 21)), none, [0, 1, 0, 1]⟩] false) .ret) .skip))) (.seq (.reg [⟨(some 11), (.alloc 94 1 [(.int .u64 0)]), none, []⟩, ⟨none, (.st 1 (.t 11) (.c (.int .u64 255))), none, [0, 0]⟩] false) (.seq (.seq (.reg [⟨(some 22), (.mv (.t 0)), none, []⟩, ⟨(some 23), (.mv (.t 1)), none, []⟩, ⟨(some 24), (.mv (.t 2)), none, []⟩, ⟨(some 25), (.call 50 [(.t 23), (.t 24)]), none, [1, 2]⟩, ⟨(some 26), (.mv (.t 3)), none, []⟩, ⟨(some 27), (.mkfn (.func 54) [(.t 11)]), none, []⟩, ⟨(some 28), (.call 49 [(.t 22), (.t 25), (.t 26), (.t 27)]), none, [0, 3, 4, 5, 3]⟩, ⟨(some 29), (.bin .eql (.t 28) (.c (.int .i64 0))), none, [6]⟩] false) (.cond (.t 29) (.seq (.reg [⟨(some 8), (.mv (.c .nils)), none, []⟩, ⟨(some 9), (.mv (.c (.int .i64 21))), none, [0, 0]⟩] false) .ret) .skip)) (.seq (.reg [⟨(some 12), (.mv (.c .nils)), none, []⟩] false) (.seq (.seq (.reg [⟨(some 30), (.mv (.c (.int .i64 0))), none, []⟩] false) (.block 0 (.loop (.seq (.reg [⟨(some 31), (.bin .lss (.t 30) (.c (.int .i64 8))), none, []⟩] false) (.seq (.cond (.t 31) .skip (.exit 0)) (.seq (.block 1 (.seq (.reg [⟨(some 32), (.mv (.t 30)), none, []⟩, ⟨(some 13), (.mv (.t 32)), none, [0, 0]⟩] false) (.seq (.reg [⟨(some 33), (.ld false 1 (.t 11)), none, []⟩, ⟨(some 34), (.mv (.t 13)), none, []⟩, ⟨(some 35), (.bin .shr (.t 33) (.t 34)), none, [0, 1]⟩, ⟨(some 36), (.bin .and (.t 35) (.c (.int .u64 1))), none, [2]⟩, ⟨(some 37), (.bin .eql (.t 36) (.c (.int .u64 1))), none, [3]⟩] false) (.cond (.t 37) (.reg [⟨(some 38), (.mv (.t 12)), none, []⟩, ⟨(some 39), (.mv (.t 13)), none, []⟩, ⟨(some 40), (.bslice 3 1 [(.int .i64 0)] 1 [(0, (.t 39))]), none, [1]⟩, ⟨(some 41), (.app 3 1 8 [(.int .i64 0)] (.t 38) (.t 40)), none, [0, 2]⟩, ⟨(some 12), (.mv (.t 41)), none, [3, 3, 0, 1, 2, 3]⟩] false) .skip)))) (.reg [⟨(some 42), (.bin .add (.t 30) (.c (.int .i64 1))), none, []⟩, ⟨(some 30), (.mv (.t 42)), none, [0]⟩] false))))))) (.seq (.reg [⟨(some 43), (.mv (.t 12)), none, []⟩, ⟨(some 8), (.mv (.t 43)), none, [0, 0]⟩, ⟨(some 9), (.mv (.c (.int .i64 0))), none, [1, 0, 1]⟩] false) .ret)))))))
theorem mcOk24 : (match Try.f24.body with | some c => compC Try.prog 44 c | none => none) = some mc24 := by kernel_rfl

theorem fc24 (l : List Rd) (lo hi : List Int) (lies : Int) : FC Try.prog 24 [.rs 4 (l.map cR), ints lo, ints hi, .int .i64 lies] [] (.tup [.sl 1012 0 (liarsL l lo hi lies).length, iv (liarsE l lo hi lies)]) [(1012, .cells 3 1 ((liarsL l lo hi lies).map ci) true)] false := by
  refine fc_run (nt := 44) Try.func24 rfl rfl mcOk24 (Nat.le_of_ble_eq_true rfl) ?_
  delta mc24
  refine aw_seq ?_
  refine aw_reg ?_
  refine rs_mv rfl rfl ?_
  refine rs_mv rfl rfl ?_
  refine rs_nil fun _ => ?_
  refine th_n ?_
  refine aw_seq ?_
  refine aw_seq ?_
  refine aw_reg ?_
  refine rs_mv rfl rfl ?_
  refine rs_mv rfl rfl ?_
  refine rs_mv rfl rfl ?_
  refine rs_mv rfl rfl ?_
  refine rs_calln [] rfl rfl (fc19 l lo hi lies) (.cons (hv_same rfl) (.cons (hv_same rfl) (.cons (hv_same rfl) (.cons (hv_same rfl) (.nil))))) rfl ?_
  refine rs_mv rfl rfl ?_
  refine rs_nil fun _ => ?_
  refine th_n ?_
  refine aw_seq ?_
  refine aw_reg ?_
  refine rs_mv rfl rfl ?_
  refine rs_neq rfl rfl rfl ?_
  refine rs_nil fun _ => ?_
  refine th_n ?_
  refine aw_cond rfl (fun h20 => ?_) (fun h20 => ?_)
  · first | replace h20 := of_decide_eq_true h20 | skip
    refine aw_seq ?_
    refine aw_reg ?_
    refine rs_mv rfl rfl ?_
    refine rs_mv rfl rfl ?_
    refine rs_mv rfl rfl ?_
    refine rs_nil fun _ => ?_
    refine th_n ?_
    refine aw_ret ?_
    refine th_r ?_
    first
      | (obtain ⟨e1, e2⟩ := liars_1 h20
         rw [e1, e2]
         exact ret_new rfl (rc_tup (.cons (rc_virt rfl rfl) (.cons (rc_same rfl (.inr rfl)) .nil))) (.virt rfl .nil))
      | (obtain ⟨e1, e2⟩ := liars_2 (l := l) (lo := lo) (hi := hi) (lies := lies) (by omega) (by omega)
         rw [e1, e2]
         exact ret_new rfl (rc_tup (.cons (rc_virt rfl rfl) (.cons (rc_same rfl (.inr rfl)) .nil))) (.virt rfl .nil))
      | (obtain ⟨e1, e2⟩ := liars_3 (l := l) (lo := lo) (hi := hi) (lies := lies) (by omega) (by omega)
         obtain rfl : k = 8 := by omega
         rw [e1, e2]
         exact ret_new rfl (rc_same rfl (.inr rfl)) (.keep rfl rfl (noROE_map (fun _ => rfl) _) .nil))
  · first | replace h20 := of_decide_eq_false h20 | skip
    refine aw_skip ?_
    refine th_n ?_
    refine aw_seq ?_
    refine aw_reg ?_
    have h0 : checkS l lo hi lies = 0 := by omega
    obtain ⟨hl, h2, h6, hls, hr⟩ := check_ok h0
    refine rs_alloc rfl rfl rfl ?_
    refine rs_st rfl rfl rfl rfl rfl rfl rfl (Nat.le_of_ble_eq_true rfl) rfl rfl ?_
    refine rs_nil fun _ => ?_
    refine th_n ?_
    refine aw_seq ?_
    refine aw_seq ?_
    refine aw_reg ?_
    refine rs_mv rfl rfl ?_
    refine rs_mv rfl rfl ?_
    refine rs_mv rfl rfl ?_
    refine rs_calln [] rfl rfl (fc50 lo hi h6 (by omega)) (.cons (hv_same rfl) (.cons (hv_same rfl) (.nil))) rfl ?_
    refine rs_mv rfl rfl ?_
    refine rs_mkfn rfl rfl ?_
    refine rs_callo [(11, .cells 94 1 [[.int .u64 ((255 : Nat) : Int)]] true)] rfl rfl (fc49br l lo hi lies hl h2 h6 hr) (.cons (hv_same rfl) (.cons (hv_same (scoped_iv _ _)) (.cons (hv_same rfl) (.cons (hv_same rfl) (.nil))))) (.cons rfl (.nil)) rfl rfl rfl ?_
    refine rs_eql rfl rfl rfl ?_
    refine rs_nil fun _ => ?_
    refine th_n ?_
    refine aw_cond rfl (fun h29 => ?_) (fun h29 => ?_)
    · first | replace h29 := of_decide_eq_true h29 | skip
      refine aw_seq ?_
      refine aw_reg ?_
      refine rs_mv rfl rfl ?_
      refine rs_mv rfl rfl ?_
      refine rs_nil fun _ => ?_
      refine th_n ?_
      refine aw_ret ?_
      refine th_r ?_
      first
        | (obtain ⟨e1, e2⟩ := liars_1 h20
           rw [e1, e2]
           exact ret_new rfl (rc_tup (.cons (rc_virt rfl rfl) (.cons (rc_same rfl (.inr rfl)) .nil))) (.virt rfl .nil))
        | (obtain ⟨e1, e2⟩ := liars_2 (l := l) (lo := lo) (hi := hi) (lies := lies) (by omega) (by omega)
           rw [e1, e2]
           exact ret_new rfl (rc_tup (.cons (rc_virt rfl rfl) (.cons (rc_same rfl (.inr rfl)) .nil))) (.virt rfl .nil))
        | (obtain ⟨e1, e2⟩ := liars_3 (l := l) (lo := lo) (hi := hi) (lies := lies) (by omega) (by omega)
           obtain rfl : k = 8 := by omega
           rw [e1, e2]
           exact ret_new rfl (rc_same rfl (.inr rfl)) (.keep rfl rfl (noROE_map (fun _ => rfl) _) .nil))
    · first | replace h29 := of_decide_eq_false h29 | skip
      refine aw_skip ?_
      refine th_n ?_
      refine aw_seq ?_
      refine aw_reg ?_
      refine rs_mv rfl rfl ?_
      refine rs_nil fun _ => ?_
      refine th_n ?_
      refine aw_seq ?_
      refine aw_seq ?_
      refine aw_reg ?_
      refine rs_mv rfl rfl ?_
      refine rs_nil fun _ => ?_
      refine th_n ?_
      refine aw_block ?_
      refine aw_fam (α := Nat) (fun k => 8 - k) (fun k => [(11, .ptr 11 0 0), (12, .sl 1012 0 (outK (ex54 l lo hi lies).1 (k)).length), (30, iv (((k) : Nat) : Int))]) (fun k => [(11, .cells 94 1 [[.int .u64 (((ex54 l lo hi lies).1 : Nat) : Int)]] true), (1012, .cells 3 1 ((outK (ex54 l lo hi lies).1 (k)).map ci) true)]) (fun k => k ≤ 8) 0 (by omega)
        (weak_to (.cons rfl (rc_same rfl (.inl rfl)) (.cons rfl (rc_virt rfl rfl) (.cons rfl (rc_same rfl (.inl rfl)) (.nil)))) (.keep (rfl) rfl (.virt rfl (.nil))) (fun i h => by cases h)) ?_
      intro k hk
      have hol := outK_le (ex54 l lo hi lies).1 k
      refine aw_seq ?_
      refine aw_reg ?_
      
      refine rs_lss rfl rfl rfl ?_
      refine rs_nil fun _ => ?_
      refine th_n ?_
      refine aw_seq ?_
      refine aw_cond rfl (fun h31 => ?_) (fun h31 => ?_)
      · first | replace h31 := of_decide_eq_true h31 | skip
        refine aw_skip ?_
        refine th_n ?_
        refine aw_seq ?_
        refine aw_block ?_
        refine aw_seq ?_
        refine aw_reg ?_
        refine rs_mv rfl rfl ?_
        refine rs_mv rfl rfl ?_
        refine rs_nil fun _ => ?_
        refine th_n ?_
        refine aw_seq ?_
        refine aw_reg ?_
        first | refine rs_ld_r rfl rfl rfl ?_ | refine rs_ld_p rfl rfl rfl rfl rfl ?_ | refine rs_ld_m rfl rfl rfl (by omega) rfl ?_
        refine rs_mv rfl rfl ?_
        refine rs_shr rfl rfl rfl (by omega) rfl ?_
        refine rs_and rfl rfl rfl rfl ?_
        refine rs_eql rfl rfl rfl ?_
        rw [show decide (bits .and .u64 ((((ex54 l lo hi lies).1 : Nat) : Int).fdiv (2 ^ min ((k : Nat) : Int).toNat IntKind.u64.bits)) 1 = 1) = hasS (ex54 l lo hi lies).1 k from has_bits_u1 _ ex54_lt k (by omega)]
        refine rs_nil fun _ => ?_
        refine th_n ?_
        refine aw_cond rfl (fun h37 => ?_) (fun h37 => ?_)
        · first | replace h37 := of_decide_eq_true h37 | skip
          refine aw_reg ?_
          refine rs_mv rfl rfl ?_
          refine rs_mv rfl rfl ?_
          refine rs_bslice rfl rfl rfl rfl rfl rfl ?_
          refine rs_app_m (y := (k : Int)) rfl rfl rfl rfl (by rfl) rfl rfl rfl (by decide) rfl (by omega) (by omega) rfl ?_
          refine rs_mv rfl rfl ?_
          refine rs_nil fun _ => ?_
          refine in_n ?_
          refine th_n ?_
          refine aw_reg ?_
          first | refine rs_add rfl rfl rfl (by omega) ?_ | refine rs_addw rfl rfl rfl rfl ?_
          refine rs_mv rfl rfl ?_
          refine rs_nil fun _ => ?_
          refine th_n ?_
          refine ⟨k + 1, by omega, by omega, ?_⟩
          first
            | (have ho := outK_t (ex54 l lo hi lies).1 k h37; exact weak_to_ren (i := 41) (i' := 1012) (F1 := [(11, .ptr 11 0 0), (12, .sl 41 0 (outK (ex54 l lo hi lies).1 (k + 1)).length), (30, iv (((k + 1) : Nat) : Int))]) (H1 := [(11, .cells 94 1 [[.int .u64 (((ex54 l lo hi lies).1 : Nat) : Int)]] true), (41, .cells 3 1 ((outK (ex54 l lo hi lies).1 (k + 1)).map ci) true)]) (.cons rfl (rc_same rfl (.inl rfl)) (.cons rfl (rc_eq (by rw [ho]; simp) rfl) (.cons rfl (rc_same rfl (.inl rfl)) (.nil)))) (.keep (rfl) rfl (.keep ((by (rw [ho]) <;> rfl)) rfl (.nil))) (fun i h => by cases h) rfl rfl (.cons rfl (.same _) (.cons rfl (.sl _ _) (.cons rfl (.same _) (.nil)))) (.cons rfl (rc_same rfl (.inl rfl)) (.cons rfl (rc_same rfl (.inl rfl)) (.cons rfl (rc_same rfl (.inl rfl)) (.nil)))) (.keep (rfl) rfl (.keep (rfl) rfl (.nil))) (fun i h => by cases h))
            | (have ho := outK_f (ex54 l lo hi lies).1 k h37; exact weak_to (.cons rfl (rc_same rfl (.inl rfl)) (.cons rfl (rc_eq (by rw [ho]) rfl) (.cons rfl (rc_same rfl (.inl rfl)) (.nil)))) (.keep (rfl) rfl (.keep ((by (rw [ho]) <;> rfl)) rfl (.nil))) (fun i h => by cases h))
        · first | replace h37 := of_decide_eq_false h37 | skip
          refine aw_skip ?_
          refine in_n ?_
          refine th_n ?_
          refine aw_reg ?_
          first | refine rs_add rfl rfl rfl (by omega) ?_ | refine rs_addw rfl rfl rfl rfl ?_
          refine rs_mv rfl rfl ?_
          refine rs_nil fun _ => ?_
          refine th_n ?_
          refine ⟨k + 1, by omega, by omega, ?_⟩
          first
            | (have ho := outK_t (ex54 l lo hi lies).1 k h37; exact weak_to_ren (i := 41) (i' := 1012) (F1 := [(11, .ptr 11 0 0), (12, .sl 41 0 (outK (ex54 l lo hi lies).1 (k + 1)).length), (30, iv (((k + 1) : Nat) : Int))]) (H1 := [(11, .cells 94 1 [[.int .u64 (((ex54 l lo hi lies).1 : Nat) : Int)]] true), (41, .cells 3 1 ((outK (ex54 l lo hi lies).1 (k + 1)).map ci) true)]) (.cons rfl (rc_same rfl (.inl rfl)) (.cons rfl (rc_eq (by rw [ho]; simp) rfl) (.cons rfl (rc_same rfl (.inl rfl)) (.nil)))) (.keep (rfl) rfl (.keep ((by (rw [ho]) <;> rfl)) rfl (.nil))) (fun i h => by cases h) rfl rfl (.cons rfl (.same _) (.cons rfl (.sl _ _) (.cons rfl (.same _) (.nil)))) (.cons rfl (rc_same rfl (.inl rfl)) (.cons rfl (rc_same rfl (.inl rfl)) (.cons rfl (rc_same rfl (.inl rfl)) (.nil)))) (.keep (rfl) rfl (.keep (rfl) rfl (.nil))) (fun i h => by cases h))
            | (have ho := outK_f (ex54 l lo hi lies).1 k h37; exact weak_to (.cons rfl (rc_same rfl (.inl rfl)) (.cons rfl (rc_eq (by rw [ho]) rfl) (.cons rfl (rc_same rfl (.inl rfl)) (.nil)))) (.keep (rfl) rfl (.keep ((by (rw [ho]) <;> rfl)) rfl (.nil))) (fun i h => by cases h))
      · first | replace h31 := of_decide_eq_false h31 | skip
        refine aw_exit ?_
        refine th_e ?_
        refine th_e ?_
        refine in_hit ?_
        refine th_n ?_
        refine aw_seq ?_
        refine aw_reg ?_
        refine rs_mv rfl rfl ?_
        refine rs_mv rfl rfl ?_
        refine rs_mv rfl rfl ?_
        refine rs_nil fun _ => ?_
        refine th_n ?_
        refine aw_ret ?_
        first
          | (obtain ⟨e1, e2⟩ := liars_1 h20
             rw [e1, e2]
             exact ret_new rfl (rc_tup (.cons (rc_virt rfl rfl) (.cons (rc_same rfl (.inr rfl)) .nil))) (.virt rfl .nil))
          | (obtain ⟨e1, e2⟩ := liars_2 (l := l) (lo := lo) (hi := hi) (lies := lies) (by omega) (by omega)
             rw [e1, e2]
             exact ret_new rfl (rc_tup (.cons (rc_virt rfl rfl) (.cons (rc_same rfl (.inr rfl)) .nil))) (.virt rfl .nil))
          | (obtain ⟨e1, e2⟩ := liars_3 (l := l) (lo := lo) (hi := hi) (lies := lies) (by omega) (by omega)
             obtain rfl : k = 8 := by omega
             rw [e1, e2]
             exact ret_new rfl (rc_same rfl (.inr rfl)) (.keep rfl rfl (noROE_map (fun _ => rfl) _) .nil))

end Go.Proofs.Ytadjdnhnbkcakaa

/-! Walks: A9. -/
namespace Go.Proofs.Ytadjdnhnbkcakaa
open Go.RowKit

theorem and_i64 (a : Nat) (ha : a < 256) (b : Nat) (hb : b < 256) : bits .and .i64 (a : Int) (b : Int) = ((a &&& b : Nat) : Int) := by
  have h : a &&& b < 256 := Nat.lt_of_le_of_lt Nat.and_le_left ha
  unfold bits
  simp only [BitVec.toNat_and]
  rw [show (BitVec.ofInt IntKind.i64.bits (a : Int)).toNat = a by rw [BitVec.ofInt_natCast]; simp [IntKind.bits]; omega, show (BitVec.ofInt IntKind.i64.bits (b : Int)).toNat = b by rw [BitVec.ofInt_natCast]; simp [IntKind.bits]; omega, IntKind.wrap_i64]
  omega

def mc22 : MC := (.seq (.reg [⟨(some 8), (.mv (.c .nils)), none, []⟩, ⟨(some 9), (.mv (.c .nils)), none, [0]⟩, ⟨(some 10), (.mv (.c (.int .i64 0))), none, [1]⟩] false) (.seq (.reg [⟨(some 20), (.mv (.t 0)), none, []⟩, ⟨(some 21), (.mv (.t 1)), none, []⟩, ⟨(some 22), (.mv (.t 2)), none, []⟩, ⟨(some 23), (.mv (.t 3)), none, []⟩, ⟨(some 24), (.call 20 [(.t 20), (.t 21), (.t 22), (.t 23)]), none, [0, 1, 2, 3]⟩, ⟨(some 11), (.mv (.t 24)), none, [4, 4, 0, 1, 2, 3, 4]⟩] false) (.seq (.seq (.reg [⟨(some 25), (.mv (.t 11)), none, []⟩, ⟨(some 26), (.bin .neq (.t 25) (.c (.int .i64 0))), none, [0]⟩] false) (.cond (.t 26) (.seq (.reg [⟨(some 27), (.mv (.t 11)), none, []⟩, ⟨(some 8), (.mv (.c .nils)), none, []⟩, ⟨(some 9), (.mv (.c .nils)), none, [1, 1]⟩, ⟨(some 10), (.mv (.t 27)), none, [0, 2, 0, 1, 2]⟩] false) .ret) .skip)) (.seq (.reg [⟨(some 28), (.bslice 3 1 [(.int .i64 0)] 0 []), none, []⟩, ⟨(some 29), (.mv (.t 2)), none, []⟩, ⟨(some 30), (.app 3 1 8 [(.int .i64 0)] (.t 28) (.t 29)), none, [0, 1]⟩, ⟨(some 12), (.mv (.t 30)), none, [2, 2, 0, 1, 2]⟩] false) (.seq (.reg [⟨(some 31), (.bslice 3 1 [(.int .i64 0)] 0 []), none, []⟩, ⟨(some 32), (.mv (.t 1)), none, []⟩, ⟨(some 33), (.app 3 1 8 [(.int .i64 0)] (.t 31) (.t 32)), none, [0, 1]⟩, ⟨(some 13), (.mv (.t 33)), none, [2, 2, 0, 1, 2]⟩] false) (.seq (.reg [⟨(some 14), (.mv (.c (.bool false))), none, []⟩] false) (.seq (.seq (.reg [⟨(some 15), (.mv (.c (.int .i64 0))), none, []⟩] false) (.block 0 (.loop (.seq (.seq (.reg [⟨(some 34), (.mv (.t 15)), none, []⟩, ⟨(some 35), (.bin .lss (.t 34) (.c (.int .i64 256))), none, [0]⟩] false) (.cond (.t 35) .skip (.exit 0))) (.seq (.block 1 (.seq (.reg [⟨(some 39), (.mv (.t 0)), none, []⟩, ⟨(some 40), (.mv (.t 1)), none, []⟩, ⟨(some 41), (.mv (.t 2)), none, []⟩, ⟨(some 42), (.mv (.t 15)), none, []⟩, ⟨(some 43), (.call 52 [(.t 39), (.t 40), (.t 41), (.t 42)]), none, [0, 1, 2, 3]⟩, ⟨(some 38), (.mv (.t 43)), none, [4]⟩, ⟨(some 44), (.ext (.t 38) 0), none, [5]⟩, ⟨(some 45), (.ext (.t 38) 1), none, [5]⟩, ⟨(some 46), (.ext (.t 38) 2), none, [5]⟩, ⟨(some 16), (.mv (.t 44)), none, [6, 4, 0, 1, 2, 3, 4, 5, 6]⟩, ⟨(some 17), (.mv (.t 45)), none, [7, 9, 0, 1, 2, 3, 4, 5, 6, 7, 9]⟩, ⟨(some 18), (.mv (.t 46)), none, [8, 10, 0, 1, 2, 3, 4, 5, 6, 7, 8, 9, 10]⟩] false) (.seq (.seq (.reg [⟨(some 47), (.mv (.t 15)), none, []⟩, ⟨(some 48), (.call 53 [(.t 47)]), none, [0]⟩, ⟨(some 49), (.mv (.t 3)), none, []⟩, ⟨(some 50), (.bin .gtr (.t 48) (.t 49)), none, [1, 2]⟩, ⟨(some 51), (.mv (.t 50)), none, [3, 1]⟩, ⟨(some 52), (.mv (.t 18)), (some (51, false)), [4]⟩, ⟨(some 53), (.un .not (.t 52)), (some (51, false)), [5, 4]⟩, ⟨(some 54), (.pick (.t 51) (.c (.bool true)) (.t 53)), none, [4, 6]⟩] false) (.cond (.t 54) (.exit 1) .skip)) (.seq (.reg [⟨(some 14), (.mv (.c (.bool true))), none, []⟩] false) (.seq (.reg [⟨(some 19), (.mv (.c (.int .i64 0))), none, []⟩] false) (.block 2 (.loop (.seq (.seq (.reg [⟨(some 55), (.mv (.t 19)), none, []⟩, ⟨(some 56), (.mv (.t 1)), none, []⟩, ⟨(some 57), (.len (.t 56)), none, [1]⟩, ⟨(some 58), (.bin .lss (.t 55) (.t 57)), none, [0, 2]⟩] false) (.cond (.t 58) .skip (.exit 2))) (.seq (.block 3 (.seq (.reg [⟨(some 61), (.mv (.t 12)), none, []⟩, ⟨(some 62), (.mv (.t 19)), none, []⟩, ⟨(some 63), (.mv (.t 12)), none, []⟩, ⟨(some 64), (.mv (.t 19)), none, []⟩, ⟨(some 65), (.ixsl 1 (.t 63) (.t 64)), none, [2, 3]⟩, ⟨(some 66), (.ld false 1 (.t 65)), none, [4]⟩, ⟨(some 67), (.mv (.t 16)), none, []⟩, ⟨(some 68), (.mv (.t 19)), none, []⟩, ⟨(some 69), (.ixsl 1 (.t 67) (.t 68)), none, [6, 7]⟩, ⟨(some 70), (.ld false 1 (.t 69)), none, [8]⟩, ⟨(some 71), (.mn (.t 66) (.t 70)), none, [5, 9]⟩, ⟨(some 72), (.ixsl 1 (.t 61) (.t 62)), none, [0, 1, 0, 1, 2, 3, 4, 5, 6, 7, 8, 9, 10]⟩, ⟨none, (.st 1 (.t 72) (.t 71)), none, [11, 10, 0, 1, 2, 3, 4, 5, 6, 7, 8, 9, 10]⟩] true) (.reg [⟨(some 73), (.mv (.t 13)), none, []⟩, ⟨(some 74), (.mv (.t 19)), none, []⟩, ⟨(some 75), (.mv (.t 13)), none, []⟩, ⟨(some 76), (.mv (.t 19)), none, []⟩, ⟨(some 77), (.ixsl 1 (.t 75) (.t 76)), none, [2, 3]⟩, ⟨(some 78), (.ld false 1 (.t 77)), none, [4]⟩, ⟨(some 79), (.mv (.t 17)), none, []⟩, ⟨(some 80), (.mv (.t 19)), none, []⟩, ⟨(some 81), (.ixsl 1 (.t 79) (.t 80)), none, [6, 7]⟩, ⟨(some 82), (.ld false 1 (.t 81)), none, [8]⟩, ⟨(some 83), (.mx (.t 78) (.t 82)), none, [5, 9]⟩, ⟨(some 84), (.ixsl 1 (.t 73) (.t 74)), none, [0, 1, 0, 1, 2, 3, 4, 5, 6, 7, 8, 9, 10]⟩, ⟨none, (.st 1 (.t 84) (.t 83)), none, [11, 10, 0, 1, 2, 3, 4, 5, 6, 7, 8, 9, 10]⟩] true))) (.reg [⟨(some 59), (.mv (.t 19)), none, []⟩, ⟨(some 60), (.bin .add (.t 59) (.c (.int .i64 1))), none, [0]⟩, ⟨(some 19), (.mv (.t 60)), none, [1, 0, 1]⟩] false)))))))))) (.reg [⟨(some 36), (.mv (.t 15)), none, []⟩, ⟨(some 37), (.bin .add (.t 36) (.c (.int .i64 1))), none, [0]⟩, ⟨(some 15), (.mv (.t 37)), none, [1, 0, 1]⟩] false)))))) (.seq (.seq (.reg [⟨(some 85), (.mv (.t 14)), none, []⟩, ⟨(some 86), (.un .not (.t 85)), none, [0]⟩] false) (.cond (.t 86) (.seq (.reg [⟨(some 8), (.mv (.c .nils)), none, []⟩, ⟨(some 9), (.mv (.c .nils)), none, [0, 0]⟩, ⟨(some 10), (.mv (.c (.int .i64 21))), none, [1, 0, 1]⟩] false) .ret) .skip)) (.seq (.reg [⟨(some 87), (.mv (.t 12)), none, []⟩, ⟨(some 88), (.mv (.t 13)), none, []⟩, ⟨(some 8), (.mv (.t 87)), none, [0, 0]⟩, ⟨(some 9), (.mv (.t 88)), none, [1, 2, 0, 1, 2]⟩, ⟨(some 10), (.mv (.c (.int .i64 0))), none, [3, 0, 1, 2, 3]⟩] false) .ret)))))))))
theorem mcOk22 : (match Try.f22.body with | some c => compC Try.prog 89 c | none => none) = some mc22 := by kernel_rfl

theorem fc22 (l : List Rd) (lo hi : List Int) (lies : Int) : FC Try.prog 22 [.rs 4 (l.map cR), ints lo, ints hi, .int .i64 lies] [] (.tup [.sl 30 0 (narrowA l lo hi lies).length, .sl 33 0 (narrowB l lo hi lies).length, iv (narrowE l lo hi lies)]) [(30, .cells 3 1 ((narrowA l lo hi lies).map ci) true), (33, .cells 3 1 ((narrowB l lo hi lies).map ci) true)] false := by
  refine fc_run (nt := 89) Try.func22 rfl rfl mcOk22 (Nat.le_of_ble_eq_true rfl) ?_
  delta mc22
  refine aw_seq ?_
  refine aw_reg ?_
  refine rs_mv rfl rfl ?_
  refine rs_mv rfl rfl ?_
  refine rs_mv rfl rfl ?_
  refine rs_nil fun _ => ?_
  refine th_n ?_
  refine aw_seq ?_
  refine aw_reg ?_
  refine rs_mv rfl rfl ?_
  refine rs_mv rfl rfl ?_
  refine rs_mv rfl rfl ?_
  refine rs_mv rfl rfl ?_
  refine rs_calln [] rfl rfl (fc20 l lo hi lies) (.cons (hv_same rfl) (.cons (hv_same rfl) (.cons (hv_same rfl) (.cons (hv_same rfl) (.nil))))) rfl ?_
  refine rs_mv rfl rfl ?_
  refine rs_nil fun _ => ?_
  refine th_n ?_
  refine aw_seq ?_
  refine aw_seq ?_
  refine aw_reg ?_
  refine rs_mv rfl rfl ?_
  refine rs_neq rfl rfl rfl ?_
  refine rs_nil fun _ => ?_
  refine th_n ?_
  refine aw_cond rfl (fun h26 => ?_) (fun h26 => ?_)
  · first | replace h26 := of_decide_eq_true h26 | skip
    refine aw_seq ?_
    refine aw_reg ?_
    refine rs_mv rfl rfl ?_
    refine rs_mv rfl rfl ?_
    refine rs_mv rfl rfl ?_
    refine rs_mv rfl rfl ?_
    refine rs_nil fun _ => ?_
    refine th_n ?_
    first | refine aw_weak (F0 := [(8, .nils), (9, .nils), (10, iv (checkS l lo hi lies))]) (H0 := []) (weak_to (.cons rfl (rc_same rfl (.inl rfl)) (.cons rfl (rc_same rfl (.inl rfl)) (.cons rfl (rc_same rfl (.inl rfl)) (.nil)))) .nil (fun i h => by cases h)) ?_ | refine aw_weak (F0 := [(8, .nils), (9, .nils), (10, iv 21)]) (H0 := []) (weak_to (.cons rfl (rc_same rfl (.inl rfl)) (.cons rfl (rc_same rfl (.inl rfl)) (.cons rfl (rc_same rfl (.inl rfl)) (.nil)))) .nil (fun i h => by cases h)) ?_ | skip
    refine aw_ret ?_
    refine th_r ?_
    first
      | (obtain ⟨e1, e2, e3⟩ := narrow_1 h26
         rw [e1, e2, e3]
         exact ret_new rfl (rc_tup (.cons (rc_virt rfl rfl) (.cons (rc_virt rfl rfl) (.cons (rc_same rfl (.inr rfl)) .nil)))) (.virt rfl (.virt rfl .nil)))
      | (obtain rfl : k = 256 := by omega
         have hcnt : (ex51 l lo hi lies).2 = 0 := by simpa [ex51] using h86
         obtain ⟨e1, e2, e3⟩ := narrow_2 (l := l) (lo := lo) (hi := hi) (lies := lies) h0 hcnt
         rw [e1, e2, e3]
         exact ret_new rfl (rc_tup (.cons (rc_virt rfl rfl) (.cons (rc_virt rfl rfl) (.cons (rc_same rfl (.inr rfl)) .nil)))) (.virt rfl (.virt rfl .nil)))
      | (obtain rfl : k = 256 := by omega
         have hcnt : (ex51 l lo hi lies).2 ≠ 0 := by simpa [ex51] using h86
         obtain ⟨e1, e2, e3⟩ := narrow_3 (l := l) (lo := lo) (hi := hi) (lies := lies) h0 hcnt
         have e4 := ex51_len (l := l) (lies := lies) h2
         rw [e1, e2, e3, e4.1, e4.2]
         exact ret_new rfl (rc_same rfl (.inr rfl)) (.keep rfl rfl (noROE_map (fun _ => rfl) _) (.keep rfl rfl (noROE_map (fun _ => rfl) _) .nil)))
  · first | replace h26 := of_decide_eq_false h26 | skip
    refine aw_skip ?_
    refine th_n ?_
    refine aw_seq ?_
    refine aw_reg ?_
    have h0 : checkS l lo hi lies = 0 := by omega
    obtain ⟨hl, h2, h6, hls, hr⟩ := check_ok h0
    refine rs_bslice rfl rfl rfl rfl rfl rfl ?_
    refine rs_mv rfl rfl ?_
    refine rs_app_e (ys := hi) (n := lo.length) (f := ci) (rd := []) rfl rfl rfl rfl rfl rfl rfl (by simp) (fun _ => rfl) h2 (by omega) (by omega) flat_ci ?_
    refine rs_mv rfl rfl ?_
    refine rs_nil fun _ => ?_
    refine th_n ?_
    refine aw_seq ?_
    refine aw_reg ?_
    refine rs_bslice rfl rfl rfl rfl rfl rfl ?_
    refine rs_mv rfl rfl ?_
    refine rs_app_e (ys := lo) (n := lo.length) (f := ci) (rd := []) rfl rfl rfl rfl rfl rfl rfl (by simp) (fun _ => rfl) rfl (by omega) (by omega) flat_ci ?_
    refine rs_mv rfl rfl ?_
    refine rs_nil fun _ => ?_
    refine th_n ?_
    refine aw_seq ?_
    refine aw_reg ?_
    refine rs_mv rfl rfl ?_
    refine rs_nil fun _ => ?_
    refine th_n ?_
    refine aw_seq ?_
    refine aw_seq ?_
    refine aw_reg ?_
    refine rs_mv rfl rfl ?_
    refine rs_nil fun _ => ?_
    refine th_n ?_
    refine aw_block ?_
    refine aw_fam (α := Nat) (fun k => 256 - k) (fun k => [(0, .rs 4 (l.map cR)), (1, ints lo), (2, ints hi), (3, .int .i64 lies), (12, .sl 30 0 lo.length), (13, .sl 33 0 lo.length), (14, .bool (decide ((exK l (ofS lo hi) lies lo.length (f51 lo.length) (hi, lo) (k)).2 ≠ 0))), (15, iv (((k) : Nat) : Int))]) (fun k => [(30, .cells 3 1 ((exK l (ofS lo hi) lies lo.length (f51 lo.length) (hi, lo) (k)).1.1.map ci) true), (33, .cells 3 1 ((exK l (ofS lo hi) lies lo.length (f51 lo.length) (hi, lo) (k)).1.2.map ci) true)]) (fun k => k ≤ 256) 0 (by omega)
      (weak_to (.cons rfl (rc_same rfl (.inl rfl)) (.cons rfl (rc_same rfl (.inl rfl)) (.cons rfl (rc_same rfl (.inl rfl)) (.cons rfl (rc_same rfl (.inl rfl)) (.cons rfl (rc_same rfl (.inl rfl)) (.cons rfl (rc_same rfl (.inl rfl)) (.cons rfl (rc_same rfl (.inl rfl)) (.cons rfl (rc_same rfl (.inl rfl)) (.nil))))))))) (.keep (rfl) rfl (.keep (rfl) rfl (.nil))) (fun i h => by cases h)) ?_
    intro k hk
    have hi51 := exK_inv l (ofS lo hi) lies lo.length (f51 lo.length) (hi, lo) k (fun s => s.1.length = lo.length ∧ s.2.length = lo.length) ⟨h2, rfl⟩ (fun s k y h _ => ⟨by simp [f51, minK, h.1], by simp [f51, maxK, h.2]⟩) hk
    have hlc : (lowL (withoutS l k (ofS lo hi)) lo.length).length = lo.length := by simp [lowL]
    have hld : (highL (withoutS l k (ofS lo hi)) lo.length).length = lo.length := by simp [highL]
    refine aw_seq ?_
    refine aw_seq ?_
    refine aw_reg ?_
    refine rs_mv rfl rfl ?_
    refine rs_lss rfl rfl rfl ?_
    refine rs_nil fun _ => ?_
    refine th_n ?_
    refine aw_cond rfl (fun h35 => ?_) (fun h35 => ?_)
    · first | replace h35 := of_decide_eq_true h35 | skip
      refine aw_skip ?_
      refine th_n ?_
      refine aw_seq ?_
      refine aw_block ?_
      refine aw_seq ?_
      refine aw_reg ?_
      refine rs_mv rfl rfl ?_
      refine rs_mv rfl rfl ?_
      refine rs_mv rfl rfl ?_
      refine rs_mv rfl rfl ?_
      refine rs_calln [] rfl rfl (fc52 l lo hi k lo.length rfl h2 h6 (by omega) (by omega) hr) (.cons (hv_same rfl) (.cons (hv_same rfl) (.cons (hv_same rfl) (.cons (hv_same rfl) (.nil))))) rfl ?_
      refine rs_mv rfl rfl ?_
      refine rs_ext rfl rfl rfl ?_
      refine rs_ext rfl rfl rfl ?_
      refine rs_ext rfl rfl rfl ?_
      refine rs_mv rfl rfl ?_
      refine rs_mv rfl rfl ?_
      refine rs_mv rfl rfl ?_
      refine rs_nil fun _ => ?_
      refine th_n ?_
      refine aw_seq ?_
      refine aw_seq ?_
      refine aw_reg ?_
      refine rs_mv rfl rfl ?_
      refine rs_calln [] rfl rfl (fc53 k (by omega)) (.cons (hv_same rfl) (.nil)) rfl ?_
      refine rs_mv rfl rfl ?_
      refine rs_cmp rfl rfl rfl rfl (fun h50 => ?_) (fun h50 => ?_)
      · skip
        refine rs_mv rfl rfl ?_
        refine rs_skip rfl ?_
        refine rs_skip rfl ?_
        refine rs_pick rfl rfl rfl ?_
        refine rs_nil fun _ => ?_
        refine th_n ?_
        refine aw_cond rfl (fun _ => ?_) (fun h => by cases h)
        refine aw_exit ?_
        refine th_e ?_
        refine in_hit ?_
        refine th_n ?_
        refine aw_reg ?_
        refine rs_mv rfl rfl ?_
        first | refine rs_add rfl rfl rfl (by omega) ?_ | refine rs_addw rfl rfl rfl rfl ?_
        refine rs_mv rfl rfl ?_
        refine rs_nil fun _ => ?_
        refine th_n ?_
        first
          | (have hs := exK_f1 l (ofS lo hi) lies lo.length (f51 lo.length) (hi, lo) k (by omega); exact ⟨k + 1, by omega, by omega, weak_to (.cons rfl (rc_same rfl (.inl rfl)) (.cons rfl (rc_same rfl (.inl rfl)) (.cons rfl (rc_same rfl (.inl rfl)) (.cons rfl (rc_same rfl (.inl rfl)) (.cons rfl (rc_same rfl (.inl rfl)) (.cons rfl (rc_same rfl (.inl rfl)) (.cons rfl (rc_eq (by (rw [hs]) <;> simp) rfl) (.cons rfl (rc_same rfl (.inl rfl)) (.nil))))))))) (.keep ((by (rw [hs]) <;> rfl)) rfl (.keep ((by (rw [hs]) <;> rfl)) rfl (.nil))) (fun i h => by cases h)⟩)
          | (have hs := exK_f2 l (ofS lo hi) lies lo.length (f51 lo.length) (hi, lo) k (by simpa using h54); exact ⟨k + 1, by omega, by omega, weak_to (.cons rfl (rc_same rfl (.inl rfl)) (.cons rfl (rc_same rfl (.inl rfl)) (.cons rfl (rc_same rfl (.inl rfl)) (.cons rfl (rc_same rfl (.inl rfl)) (.cons rfl (rc_same rfl (.inl rfl)) (.cons rfl (rc_same rfl (.inl rfl)) (.cons rfl (rc_eq (by (rw [hs]) <;> simp) rfl) (.cons rfl (rc_same rfl (.inl rfl)) (.nil))))))))) (.keep ((by (rw [hs]) <;> rfl)) rfl (.keep ((by (rw [hs]) <;> rfl)) rfl (.nil))) (fun i h => by cases h)⟩)
          | (obtain rfl : q = lo.length := by omega
             have hs := exK_t l (ofS lo hi) lies lo.length (f51 lo.length) (hi, lo) k (by omega) (by simpa using h54)
             exact ⟨k + 1, by omega, by omega, weak_to (.cons rfl (rc_same rfl (.inl rfl)) (.cons rfl (rc_same rfl (.inl rfl)) (.cons rfl (rc_same rfl (.inl rfl)) (.cons rfl (rc_same rfl (.inl rfl)) (.cons rfl (rc_same rfl (.inl rfl)) (.cons rfl (rc_same rfl (.inl rfl)) (.cons rfl (rc_eq (by (rw [hs]) <;> simp) rfl) (.cons rfl (rc_same rfl (.inl rfl)) (.nil))))))))) (.keep ((by (rw [hs]) <;> rfl)) rfl (.keep ((by (rw [hs]) <;> rfl)) rfl (.nil))) (fun i h => by cases h)⟩)
      · skip
        refine rs_mv rfl rfl ?_
        refine rs_mv rfl rfl ?_
        refine rs_not rfl rfl ?_
        refine rs_pick rfl rfl rfl ?_
        refine rs_nil fun _ => ?_
        refine th_n ?_
        refine aw_cond rfl (fun h54 => ?_) (fun h54 => ?_)
        · first | replace h54 := of_decide_eq_true h54 | skip
          refine aw_exit ?_
          refine th_e ?_
          refine in_hit ?_
          refine th_n ?_
          refine aw_reg ?_
          refine rs_mv rfl rfl ?_
          first | refine rs_add rfl rfl rfl (by omega) ?_ | refine rs_addw rfl rfl rfl rfl ?_
          refine rs_mv rfl rfl ?_
          refine rs_nil fun _ => ?_
          refine th_n ?_
          first
            | (have hs := exK_f1 l (ofS lo hi) lies lo.length (f51 lo.length) (hi, lo) k (by omega); exact ⟨k + 1, by omega, by omega, weak_to (.cons rfl (rc_same rfl (.inl rfl)) (.cons rfl (rc_same rfl (.inl rfl)) (.cons rfl (rc_same rfl (.inl rfl)) (.cons rfl (rc_same rfl (.inl rfl)) (.cons rfl (rc_same rfl (.inl rfl)) (.cons rfl (rc_same rfl (.inl rfl)) (.cons rfl (rc_eq (by (rw [hs]) <;> simp) rfl) (.cons rfl (rc_same rfl (.inl rfl)) (.nil))))))))) (.keep ((by (rw [hs]) <;> rfl)) rfl (.keep ((by (rw [hs]) <;> rfl)) rfl (.nil))) (fun i h => by cases h)⟩)
            | (have hs := exK_f2 l (ofS lo hi) lies lo.length (f51 lo.length) (hi, lo) k (by simpa using h54); exact ⟨k + 1, by omega, by omega, weak_to (.cons rfl (rc_same rfl (.inl rfl)) (.cons rfl (rc_same rfl (.inl rfl)) (.cons rfl (rc_same rfl (.inl rfl)) (.cons rfl (rc_same rfl (.inl rfl)) (.cons rfl (rc_same rfl (.inl rfl)) (.cons rfl (rc_same rfl (.inl rfl)) (.cons rfl (rc_eq (by (rw [hs]) <;> simp) rfl) (.cons rfl (rc_same rfl (.inl rfl)) (.nil))))))))) (.keep ((by (rw [hs]) <;> rfl)) rfl (.keep ((by (rw [hs]) <;> rfl)) rfl (.nil))) (fun i h => by cases h)⟩)
            | (obtain rfl : q = lo.length := by omega
               have hs := exK_t l (ofS lo hi) lies lo.length (f51 lo.length) (hi, lo) k (by omega) (by simpa using h54)
               exact ⟨k + 1, by omega, by omega, weak_to (.cons rfl (rc_same rfl (.inl rfl)) (.cons rfl (rc_same rfl (.inl rfl)) (.cons rfl (rc_same rfl (.inl rfl)) (.cons rfl (rc_same rfl (.inl rfl)) (.cons rfl (rc_same rfl (.inl rfl)) (.cons rfl (rc_same rfl (.inl rfl)) (.cons rfl (rc_eq (by (rw [hs]) <;> simp) rfl) (.cons rfl (rc_same rfl (.inl rfl)) (.nil))))))))) (.keep ((by (rw [hs]) <;> rfl)) rfl (.keep ((by (rw [hs]) <;> rfl)) rfl (.nil))) (fun i h => by cases h)⟩)
        · first | replace h54 := of_decide_eq_false h54 | skip
          refine aw_skip ?_
          refine th_n ?_
          refine aw_seq ?_
          refine aw_reg ?_
          refine rs_mv rfl rfl ?_
          refine rs_nil fun _ => ?_
          refine th_n ?_
          refine aw_seq ?_
          refine aw_reg ?_
          refine rs_mv rfl rfl ?_
          refine rs_nil fun _ => ?_
          refine th_n ?_
          refine aw_block ?_
          have hem : emptyS (withoutS l k (ofS lo hi)) lo.length = false := by simpa using h54
          have hlow : lowR (withoutS l k (ofS lo hi)) lo.length = lowL (withoutS l k (ofS lo hi)) lo.length := by simp [lowR, hem]
          have hhigh : highR (withoutS l k (ofS lo hi)) lo.length = highL (withoutS l k (ofS lo hi)) lo.length := by simp [highR, hem]
          refine aw_fam (α := Nat) (fun q => lo.length - q) (fun q => [(0, .rs 4 (l.map cR)), (1, ints lo), (2, ints hi), (3, .int .i64 lies), (12, .sl 30 0 lo.length), (13, .sl 33 0 lo.length), (14, .bool true), (15, iv (k : Int)), (16, .sl 17 0 lo.length), (17, .sl 20 0 lo.length), (19, iv (((q) : Nat) : Int))]) (fun q => [(30, .cells 3 1 ((minK (exK l (ofS lo hi) lies lo.length (f51 lo.length) (hi, lo) (k)).1.1 (withoutS l k (ofS lo hi)) (q)).map ci) true), (33, .cells 3 1 ((maxK (exK l (ofS lo hi) lies lo.length (f51 lo.length) (hi, lo) (k)).1.2 (withoutS l k (ofS lo hi)) (q)).map ci) true), (17, .cells 3 1 ((lowL (withoutS l k (ofS lo hi)) lo.length).map ci) true), (20, .cells 3 1 ((highL (withoutS l k (ofS lo hi)) lo.length).map ci) true)]) (fun q => q ≤ lo.length) 0 (by omega)
            (weak_to (.cons rfl (rc_same rfl (.inl rfl)) (.cons rfl (rc_same rfl (.inl rfl)) (.cons rfl (rc_same rfl (.inl rfl)) (.cons rfl (rc_same rfl (.inl rfl)) (.cons rfl (rc_same rfl (.inl rfl)) (.cons rfl (rc_same rfl (.inl rfl)) (.cons rfl (rc_same rfl (.inl rfl)) (.cons rfl (rc_same rfl (.inl rfl)) (.cons rfl (rc_eq (by rw [hlow, hlc]) rfl) (.cons rfl (rc_eq (by rw [hhigh, hld]) rfl) (.cons rfl (rc_same rfl (.inl rfl)) (.nil)))))))))))) (.keep ((by (rw [minK_0]) <;> rfl)) rfl (.keep ((by (rw [maxK_0]) <;> rfl)) rfl (.keep ((by (rw [← hlow]) <;> rfl)) rfl (.keep ((by (rw [← hhigh]) <;> rfl)) rfl (.nil))))) (fun i h => by cases h)) ?_
          intro q hq
          have hla : (minK (exK l (ofS lo hi) lies lo.length (f51 lo.length) (hi, lo) (k)).1.1 (withoutS l k (ofS lo hi)) q).length = lo.length := by simp [minK, hi51.1]
          have hlb : (maxK (exK l (ofS lo hi) lies lo.length (f51 lo.length) (hi, lo) (k)).1.2 (withoutS l k (ofS lo hi)) q).length = lo.length := by simp [maxK, hi51.2]
          refine aw_seq ?_
          refine aw_seq ?_
          refine aw_reg ?_
          refine rs_mv rfl rfl ?_
          refine rs_mv rfl rfl ?_
          first | refine rs_len_m rfl rfl ?_ | refine rs_len_s rfl rfl ?_ | refine rs_len_n rfl rfl ?_ | refine rs_len_r rfl rfl rfl ?_
          refine rs_lss rfl rfl rfl ?_
          refine rs_nil fun _ => ?_
          refine th_n ?_
          refine aw_cond rfl (fun h58 => ?_) (fun h58 => ?_)
          · first | replace h58 := of_decide_eq_true h58 | skip
            refine aw_skip ?_
            refine th_n ?_
            refine aw_seq ?_
            refine aw_block ?_
            refine aw_seq ?_
            refine aw_draw hmix ?_
            refine rs_mv rfl rfl ?_
            refine rs_mv rfl rfl ?_
            refine rs_mv rfl rfl ?_
            refine rs_mv rfl rfl ?_
            have ea : (lowL (withoutS l k (ofS lo hi)) lo.length)[q]'(by rw [hlc]; omega) = (withoutS l k (ofS lo hi)).getD q 0 := by simp [lowL]
            have eb : (highL (withoutS l k (ofS lo hi)) lo.length)[q]'(by rw [hld]; omega) = (withoutS l k (ofS lo hi)).getD (6 + q) 0 := by simp [highL]
            refine rs_ix_sm (t := q) rfl rfl rfl rfl (by omega) ?_
            refine rs_ld_m rfl rfl rfl (by rw [hla]; omega) rfl ?_
            refine rs_mv rfl rfl ?_
            refine rs_mv rfl rfl ?_
            refine rs_ix_sm (t := q) rfl rfl rfl rfl (by omega) ?_
            refine rs_ld_m rfl rfl rfl (by rw [hlc]; omega) rfl ?_
            refine rs_mn rfl rfl rfl rfl ?_
            refine rs_ix_sm (t := q) rfl rfl rfl rfl (by omega) ?_
            refine rs_st_m (fl' := true) rfl rfl rfl rfl (by rw [hla]; omega) rfl rfl (Nat.le_of_ble_eq_true rfl) rfl rfl ?_
            refine rs_nil ⟨by kernel_rfl, fun _ => ?_⟩
            refine th_n ?_
            refine aw_draw hmix ?_
            refine rs_mv rfl rfl ?_
            refine rs_mv rfl rfl ?_
            refine rs_mv rfl rfl ?_
            refine rs_mv rfl rfl ?_
            refine rs_ix_sm (t := q) rfl rfl rfl rfl (by omega) ?_
            refine rs_ld_m rfl rfl rfl (by rw [hlb]; omega) rfl ?_
            refine rs_mv rfl rfl ?_
            refine rs_mv rfl rfl ?_
            refine rs_ix_sm (t := q) rfl rfl rfl rfl (by omega) ?_
            refine rs_ld_m rfl rfl rfl (by rw [hld]; omega) rfl ?_
            refine rs_mx rfl rfl rfl rfl ?_
            refine rs_ix_sm (t := q) rfl rfl rfl rfl (by omega) ?_
            refine rs_st_m (fl' := true) rfl rfl rfl rfl (by rw [hlb]; omega) rfl rfl (Nat.le_of_ble_eq_true rfl) rfl rfl ?_
            refine rs_nil ⟨by kernel_rfl, fun _ => ?_⟩
            refine in_n ?_
            refine th_n ?_
            refine aw_reg ?_
            refine rs_mv rfl rfl ?_
            first | refine rs_add rfl rfl rfl (by omega) ?_ | refine rs_addw rfl rfl rfl rfl ?_
            refine rs_mv rfl rfl ?_
            refine rs_nil fun _ => ?_
            refine th_n ?_
            refine ⟨q + 1, by omega, by omega, ?_⟩
            exact weak_to (.cons rfl (rc_same rfl (.inl rfl)) (.cons rfl (rc_same rfl (.inl rfl)) (.cons rfl (rc_same rfl (.inl rfl)) (.cons rfl (rc_same rfl (.inl rfl)) (.cons rfl (rc_same rfl (.inl rfl)) (.cons rfl (rc_same rfl (.inl rfl)) (.cons rfl (rc_same rfl (.inl rfl)) (.cons rfl (rc_same rfl (.inl rfl)) (.cons rfl (rc_same rfl (.inl rfl)) (.cons rfl (rc_same rfl (.inl rfl)) (.cons rfl (rc_same rfl (.inl rfl)) (.nil)))))))))))) (.keep ((by (rw [← minK_set _ _ q (by omega), ← ea]) <;> rfl)) rfl (.keep ((by (rw [← maxK_set _ _ q (by omega), ← eb]) <;> rfl)) rfl (.keep (rfl) rfl (.keep (rfl) rfl (.nil))))) (fun i h => by cases h)
          · first | replace h58 := of_decide_eq_false h58 | skip
            refine aw_exit ?_
            refine th_e ?_
            refine th_e ?_
            refine in_hit ?_
            refine in_n ?_
            refine th_n ?_
            refine aw_reg ?_
            refine rs_mv rfl rfl ?_
            first | refine rs_add rfl rfl rfl (by omega) ?_ | refine rs_addw rfl rfl rfl rfl ?_
            refine rs_mv rfl rfl ?_
            refine rs_nil fun _ => ?_
            refine th_n ?_
            first
              | (have hs := exK_f1 l (ofS lo hi) lies lo.length (f51 lo.length) (hi, lo) k (by omega); exact ⟨k + 1, by omega, by omega, weak_to (.cons rfl (rc_same rfl (.inl rfl)) (.cons rfl (rc_same rfl (.inl rfl)) (.cons rfl (rc_same rfl (.inl rfl)) (.cons rfl (rc_same rfl (.inl rfl)) (.cons rfl (rc_same rfl (.inl rfl)) (.cons rfl (rc_same rfl (.inl rfl)) (.cons rfl (rc_eq (by (rw [hs]) <;> simp) rfl) (.cons rfl (rc_same rfl (.inl rfl)) (.nil))))))))) (.keep ((by (rw [hs]) <;> rfl)) rfl (.keep ((by (rw [hs]) <;> rfl)) rfl (.nil))) (fun i h => by cases h)⟩)
              | (have hs := exK_f2 l (ofS lo hi) lies lo.length (f51 lo.length) (hi, lo) k (by simpa using h54); exact ⟨k + 1, by omega, by omega, weak_to (.cons rfl (rc_same rfl (.inl rfl)) (.cons rfl (rc_same rfl (.inl rfl)) (.cons rfl (rc_same rfl (.inl rfl)) (.cons rfl (rc_same rfl (.inl rfl)) (.cons rfl (rc_same rfl (.inl rfl)) (.cons rfl (rc_same rfl (.inl rfl)) (.cons rfl (rc_eq (by (rw [hs]) <;> simp) rfl) (.cons rfl (rc_same rfl (.inl rfl)) (.nil))))))))) (.keep ((by (rw [hs]) <;> rfl)) rfl (.keep ((by (rw [hs]) <;> rfl)) rfl (.nil))) (fun i h => by cases h)⟩)
              | (obtain rfl : q = lo.length := by omega
                 have hs := exK_t l (ofS lo hi) lies lo.length (f51 lo.length) (hi, lo) k (by omega) (by simpa using h54)
                 exact ⟨k + 1, by omega, by omega, weak_to (.cons rfl (rc_same rfl (.inl rfl)) (.cons rfl (rc_same rfl (.inl rfl)) (.cons rfl (rc_same rfl (.inl rfl)) (.cons rfl (rc_same rfl (.inl rfl)) (.cons rfl (rc_same rfl (.inl rfl)) (.cons rfl (rc_same rfl (.inl rfl)) (.cons rfl (rc_eq (by (rw [hs]) <;> simp) rfl) (.cons rfl (rc_same rfl (.inl rfl)) (.nil))))))))) (.keep ((by (rw [hs]) <;> rfl)) rfl (.keep ((by (rw [hs]) <;> rfl)) rfl (.nil))) (fun i h => by cases h)⟩)
    · first | replace h35 := of_decide_eq_false h35 | skip
      refine aw_exit ?_
      refine th_e ?_
      refine th_e ?_
      refine in_hit ?_
      refine th_n ?_
      refine aw_seq ?_
      refine aw_seq ?_
      refine aw_reg ?_
      refine rs_mv rfl rfl ?_
      refine rs_not rfl rfl ?_
      refine rs_nil fun _ => ?_
      refine th_n ?_
      refine aw_cond rfl (fun h86 => ?_) (fun h86 => ?_)
      · first | replace h86 := of_decide_eq_true h86 | skip
        refine aw_seq ?_
        refine aw_reg ?_
        refine rs_mv rfl rfl ?_
        refine rs_mv rfl rfl ?_
        refine rs_mv rfl rfl ?_
        refine rs_nil fun _ => ?_
        refine th_n ?_
        first | refine aw_weak (F0 := [(8, .nils), (9, .nils), (10, iv (checkS l lo hi lies))]) (H0 := []) (weak_to (.cons rfl (rc_same rfl (.inl rfl)) (.cons rfl (rc_same rfl (.inl rfl)) (.cons rfl (rc_same rfl (.inl rfl)) (.nil)))) .nil (fun i h => by cases h)) ?_ | refine aw_weak (F0 := [(8, .nils), (9, .nils), (10, iv 21)]) (H0 := []) (weak_to (.cons rfl (rc_same rfl (.inl rfl)) (.cons rfl (rc_same rfl (.inl rfl)) (.cons rfl (rc_same rfl (.inl rfl)) (.nil)))) .nil (fun i h => by cases h)) ?_ | skip
        refine aw_ret ?_
        refine th_r ?_
        first
          | (obtain ⟨e1, e2, e3⟩ := narrow_1 h26
             rw [e1, e2, e3]
             exact ret_new rfl (rc_tup (.cons (rc_virt rfl rfl) (.cons (rc_virt rfl rfl) (.cons (rc_same rfl (.inr rfl)) .nil)))) (.virt rfl (.virt rfl .nil)))
          | (obtain rfl : k = 256 := by omega
             have hcnt : (ex51 l lo hi lies).2 = 0 := by simpa [ex51] using h86
             obtain ⟨e1, e2, e3⟩ := narrow_2 (l := l) (lo := lo) (hi := hi) (lies := lies) h0 hcnt
             rw [e1, e2, e3]
             exact ret_new rfl (rc_tup (.cons (rc_virt rfl rfl) (.cons (rc_virt rfl rfl) (.cons (rc_same rfl (.inr rfl)) .nil)))) (.virt rfl (.virt rfl .nil)))
          | (obtain rfl : k = 256 := by omega
             have hcnt : (ex51 l lo hi lies).2 ≠ 0 := by simpa [ex51] using h86
             obtain ⟨e1, e2, e3⟩ := narrow_3 (l := l) (lo := lo) (hi := hi) (lies := lies) h0 hcnt
             have e4 := ex51_len (l := l) (lies := lies) h2
             rw [e1, e2, e3, e4.1, e4.2]
             exact ret_new rfl (rc_same rfl (.inr rfl)) (.keep rfl rfl (noROE_map (fun _ => rfl) _) (.keep rfl rfl (noROE_map (fun _ => rfl) _) .nil)))
      · first | replace h86 := of_decide_eq_false h86 | skip
        refine aw_skip ?_
        refine th_n ?_
        refine aw_seq ?_
        refine aw_reg ?_
        refine rs_mv rfl rfl ?_
        refine rs_mv rfl rfl ?_
        refine rs_mv rfl rfl ?_
        refine rs_mv rfl rfl ?_
        refine rs_mv rfl rfl ?_
        refine rs_nil fun _ => ?_
        refine th_n ?_
        first | refine aw_weak (F0 := [(8, .nils), (9, .nils), (10, iv (checkS l lo hi lies))]) (H0 := []) (weak_to (.cons rfl (rc_same rfl (.inl rfl)) (.cons rfl (rc_same rfl (.inl rfl)) (.cons rfl (rc_same rfl (.inl rfl)) (.nil)))) .nil (fun i h => by cases h)) ?_ | refine aw_weak (F0 := [(8, .nils), (9, .nils), (10, iv 21)]) (H0 := []) (weak_to (.cons rfl (rc_same rfl (.inl rfl)) (.cons rfl (rc_same rfl (.inl rfl)) (.cons rfl (rc_same rfl (.inl rfl)) (.nil)))) .nil (fun i h => by cases h)) ?_ | skip
        refine aw_ret ?_
        first
          | (obtain ⟨e1, e2, e3⟩ := narrow_1 h26
             rw [e1, e2, e3]
             exact ret_new rfl (rc_tup (.cons (rc_virt rfl rfl) (.cons (rc_virt rfl rfl) (.cons (rc_same rfl (.inr rfl)) .nil)))) (.virt rfl (.virt rfl .nil)))
          | (obtain rfl : k = 256 := by omega
             have hcnt : (ex51 l lo hi lies).2 = 0 := by simpa [ex51] using h86
             obtain ⟨e1, e2, e3⟩ := narrow_2 (l := l) (lo := lo) (hi := hi) (lies := lies) h0 hcnt
             rw [e1, e2, e3]
             exact ret_new rfl (rc_tup (.cons (rc_virt rfl rfl) (.cons (rc_virt rfl rfl) (.cons (rc_same rfl (.inr rfl)) .nil)))) (.virt rfl (.virt rfl .nil)))
          | (obtain rfl : k = 256 := by omega
             have hcnt : (ex51 l lo hi lies).2 ≠ 0 := by simpa [ex51] using h86
             obtain ⟨e1, e2, e3⟩ := narrow_3 (l := l) (lo := lo) (hi := hi) (lies := lies) h0 hcnt
             have e4 := ex51_len (l := l) (lies := lies) h2
             rw [e1, e2, e3, e4.1, e4.2]
             exact ret_new rfl (rc_same rfl (.inr rfl)) (.keep rfl rfl (noROE_map (fun _ => rfl) _) (.keep rfl rfl (noROE_map (fun _ => rfl) _) .nil)))

def mc25 : MC := (.seq (.reg [⟨(some 8), (.mv (.c .nils)), none, []⟩, ⟨(some 9), (.mv (.c (.int .i64 0))), none, [0]⟩] false) (.seq (.reg [⟨(some 19), (.mv (.t 0)), none, []⟩, ⟨(some 20), (.mv (.t 1)), none, []⟩, ⟨(some 21), (.mv (.t 2)), none, []⟩, ⟨(some 22), (.mv (.t 3)), none, []⟩, ⟨(some 23), (.call 20 [(.t 19), (.t 20), (.t 21), (.t 22)]), none, [0, 1, 2, 3]⟩, ⟨(some 10), (.mv (.t 23)), none, [4, 4, 0, 1, 2, 3, 4]⟩] false) (.seq (.seq (.reg [⟨(some 24), (.mv (.t 10)), none, []⟩, ⟨(some 25), (.bin .neq (.t 24) (.c (.int .i64 0))), none, [0]⟩] false) (.cond (.t 25) (.seq (.reg [⟨(some 26), (.mv (.t 10)), none, []⟩, ⟨(some 8), (.mv (.c .nils)), none, []⟩, ⟨(some 9), (.mv (.t 26)), none, [0, 1, 0, 1]⟩] false) .ret) .skip)) (.seq (.reg [⟨(some 11), (.mv (.c (.int .i64 255))), none, []⟩] false) (.seq (.reg [⟨(some 12), (.mv (.c (.bool false))), none, []⟩] false) (.seq (.seq (.reg [⟨(some 13), (.mv (.c (.int .i64 0))), none, []⟩] false) (.block 0 (.loop (.seq (.seq (.reg [⟨(some 27), (.mv (.t 13)), none, []⟩, ⟨(some 28), (.bin .lss (.t 27) (.c (.int .i64 256))), none, [0]⟩] false) (.cond (.t 28) .skip (.exit 0))) (.seq (.block 1 (.seq (.reg [⟨(some 32), (.mv (.t 0)), none, []⟩, ⟨(some 33), (.mv (.t 1)), none, []⟩, ⟨(some 34), (.mv (.t 2)), none, []⟩, ⟨(some 35), (.mv (.t 13)), none, []⟩, ⟨(some 36), (.call 52 [(.t 32), (.t 33), (.t 34), (.t 35)]), none, [0, 1, 2, 3]⟩, ⟨(some 31), (.mv (.t 36)), none, [4]⟩, ⟨(some 37), (.ext (.t 31) 0), none, [5]⟩, ⟨(some 38), (.ext (.t 31) 1), none, [5]⟩, ⟨(some 39), (.ext (.t 31) 2), none, [5]⟩, ⟨(some 14), (.mv (.t 37)), none, [6, 4, 0, 1, 2, 3, 4, 5, 6]⟩, ⟨(some 15), (.mv (.t 38)), none, [7, 9, 0, 1, 2, 3, 4, 5, 6, 7, 9]⟩, ⟨(some 16), (.mv (.t 39)), none, [8, 10, 0, 1, 2, 3, 4, 5, 6, 7, 8, 9, 10]⟩] false) (.seq (.reg [⟨(some 40), (.mv (.t 13)), none, []⟩, ⟨(some 41), (.call 53 [(.t 40)]), none, [0]⟩, ⟨(some 42), (.mv (.t 3)), none, []⟩, ⟨(some 43), (.bin .leq (.t 41) (.t 42)), none, [1, 2]⟩, ⟨(some 44), (.mv (.t 43)), none, [3, 1]⟩, ⟨(some 45), (.mv (.t 16)), (some (44, true)), [4]⟩, ⟨(some 46), (.pick (.t 44) (.t 45) (.c (.bool false))), none, [4, 5]⟩] false) (.cond (.t 46) (.seq (.reg [⟨(some 12), (.mv (.c (.bool true))), none, []⟩] false) (.reg [⟨(some 47), (.mv (.t 11)), none, []⟩, ⟨(some 48), (.mv (.t 13)), none, []⟩, ⟨(some 49), (.bin .and (.t 47) (.t 48)), none, [0, 1]⟩, ⟨(some 11), (.mv (.t 49)), none, [2, 0, 1, 2]⟩] false)) .skip)))) (.reg [⟨(some 29), (.mv (.t 13)), none, []⟩, ⟨(some 30), (.bin .add (.t 29) (.c (.int .i64 1))), none, [0]⟩, ⟨(some 13), (.mv (.t 30)), none, [1, 0, 1]⟩] false)))))) (.seq (.seq (.reg [⟨(some 50), (.mv (.t 12)), none, []⟩, ⟨(some 51), (.un .not (.t 50)), none, [0]⟩] false) (.cond (.t 51) (.seq (.reg [⟨(some 8), (.mv (.c .nils)), none, []⟩, ⟨(some 9), (.mv (.c (.int .i64 21))), none, [0, 0]⟩] false) .ret) .skip)) (.seq (.reg [⟨(some 17), (.mv (.c .nils)), none, []⟩] false) (.seq (.seq (.reg [⟨(some 18), (.mv (.c (.int .i64 0))), none, []⟩] false) (.block 2 (.loop (.seq (.seq (.reg [⟨(some 52), (.mv (.t 18)), none, []⟩, ⟨(some 53), (.bin .lss (.t 52) (.c (.int .i64 8))), none, [0]⟩] false) (.cond (.t 53) .skip (.exit 2))) (.seq (.block 3 (.seq (.reg [⟨(some 56), (.mv (.t 11)), none, []⟩, ⟨(some 57), (.mv (.t 18)), none, []⟩, ⟨(some 58), (.call 55 [(.t 56), (.t 57)]), none, [0, 1]⟩] false) (.cond (.t 58) (.reg [⟨(some 59), (.mv (.t 17)), none, []⟩, ⟨(some 60), (.mv (.t 18)), none, []⟩, ⟨(some 61), (.bslice 3 1 [(.int .i64 0)] 1 [(0, (.t 60))]), none, [1]⟩, ⟨(some 62), (.app 3 1 8 [(.int .i64 0)] (.t 59) (.t 61)), none, [0, 2]⟩, ⟨(some 17), (.mv (.t 62)), none, [3, 3, 0, 1, 2, 3]⟩] false) .skip))) (.reg [⟨(some 54), (.mv (.t 18)), none, []⟩, ⟨(some 55), (.bin .add (.t 54) (.c (.int .i64 1))), none, [0]⟩, ⟨(some 18), (.mv (.t 55)), none, [1, 0, 1]⟩] false)))))) (.seq (.reg [⟨(some 63), (.mv (.t 17)), none, []⟩, ⟨(some 8), (.mv (.t 63)), none, [0, 0]⟩, ⟨(some 9), (.mv (.c (.int .i64 0))), none, [1, 0, 1]⟩] false) .ret))))))))))
theorem mcOk25 : (match Try.f25.body with | some c => compC Try.prog 64 c | none => none) = some mc25 := by kernel_rfl

theorem fc25 (l : List Rd) (lo hi : List Int) (lies : Int) : FC Try.prog 25 [.rs 4 (l.map cR), ints lo, ints hi, .int .i64 lies] [] (.tup [.sl 1012 0 (liarsL l lo hi lies).length, iv (liarsE l lo hi lies)]) [(1012, .cells 3 1 ((liarsL l lo hi lies).map ci) true)] false := by
  refine fc_run (nt := 64) Try.func25 rfl rfl mcOk25 (Nat.le_of_ble_eq_true rfl) ?_
  delta mc25
  refine aw_seq ?_
  refine aw_reg ?_
  refine rs_mv rfl rfl ?_
  refine rs_mv rfl rfl ?_
  refine rs_nil fun _ => ?_
  refine th_n ?_
  refine aw_seq ?_
  refine aw_reg ?_
  refine rs_mv rfl rfl ?_
  refine rs_mv rfl rfl ?_
  refine rs_mv rfl rfl ?_
  refine rs_mv rfl rfl ?_
  refine rs_calln [] rfl rfl (fc20 l lo hi lies) (.cons (hv_same rfl) (.cons (hv_same rfl) (.cons (hv_same rfl) (.cons (hv_same rfl) (.nil))))) rfl ?_
  refine rs_mv rfl rfl ?_
  refine rs_nil fun _ => ?_
  refine th_n ?_
  refine aw_seq ?_
  refine aw_seq ?_
  refine aw_reg ?_
  refine rs_mv rfl rfl ?_
  refine rs_neq rfl rfl rfl ?_
  refine rs_nil fun _ => ?_
  refine th_n ?_
  refine aw_cond rfl (fun h25 => ?_) (fun h25 => ?_)
  · first | replace h25 := of_decide_eq_true h25 | skip
    refine aw_seq ?_
    refine aw_reg ?_
    refine rs_mv rfl rfl ?_
    refine rs_mv rfl rfl ?_
    refine rs_mv rfl rfl ?_
    refine rs_nil fun _ => ?_
    refine th_n ?_
    refine aw_ret ?_
    refine th_r ?_
    first
      | (obtain ⟨e1, e2⟩ := liars_1 h25
         rw [e1, e2]
         exact ret_new rfl (rc_tup (.cons (rc_virt rfl rfl) (.cons (rc_same rfl (.inr rfl)) .nil))) (.virt rfl .nil))
      | (have hcnt : (ex54 l lo hi lies).2 = 0 := by
           obtain rfl : k = 256 := by omega
           simpa [ex54] using h51
         obtain ⟨e1, e2⟩ := liars_2 (l := l) (lo := lo) (hi := hi) (lies := lies) h0 hcnt
         rw [e1, e2]
         exact ret_new rfl (rc_tup (.cons (rc_virt rfl rfl) (.cons (rc_same rfl (.inr rfl)) .nil))) (.virt rfl .nil))
      | (obtain ⟨e1, e2⟩ := liars_3 (l := l) (lo := lo) (hi := hi) (lies := lies) h0 hcnt
         obtain rfl : q = 8 := by omega
         rw [e1, e2]
         exact ret_new rfl (rc_same rfl (.inr rfl)) (.keep rfl rfl (noROE_map (fun _ => rfl) _) .nil))
  · first | replace h25 := of_decide_eq_false h25 | skip
    refine aw_skip ?_
    refine th_n ?_
    refine aw_seq ?_
    refine aw_reg ?_
    
    refine rs_mv rfl rfl ?_
    refine rs_nil fun _ => ?_
    refine th_n ?_
    refine aw_seq ?_
    refine aw_reg ?_
    refine rs_mv rfl rfl ?_
    refine rs_nil fun _ => ?_
    refine th_n ?_
    refine aw_seq ?_
    refine aw_seq ?_
    refine aw_reg ?_
    refine rs_mv rfl rfl ?_
    refine rs_nil fun _ => ?_
    refine th_n ?_
    refine aw_block ?_
    have h0 : checkS l lo hi lies = 0 := by omega
    obtain ⟨hl, h2, h6, hls, hr⟩ := check_ok h0
    refine aw_fam (α := Nat) (fun k => 256 - k) (fun k => [(0, .rs 4 (l.map cR)), (1, ints lo), (2, ints hi), (3, .int .i64 lies), (11, iv (((exK l (ofS lo hi) lies lo.length f54 255 (k)).1 : Nat) : Int)), (12, .bool (decide ((exK l (ofS lo hi) lies lo.length f54 255 (k)).2 ≠ 0))), (13, iv (((k) : Nat) : Int))]) (fun k => []) (fun k => k ≤ 256) 0 (by omega)
      (weak_to (.cons rfl (rc_same rfl (.inl rfl)) (.cons rfl (rc_same rfl (.inl rfl)) (.cons rfl (rc_same rfl (.inl rfl)) (.cons rfl (rc_same rfl (.inl rfl)) (.cons rfl (rc_same rfl (.inl rfl)) (.cons rfl (rc_same rfl (.inl rfl)) (.cons rfl (rc_same rfl (.inl rfl)) (.nil)))))))) (.nil) (fun i h => by cases h)) ?_
    intro k hk
    have hi54 := exK_inv l (ofS lo hi) lies lo.length f54 255 k (fun s => s < 256) (by decide) (fun s k y h _ => Nat.lt_of_le_of_lt Nat.and_le_left h) hk
    refine aw_seq ?_
    refine aw_seq ?_
    refine aw_reg ?_
    
    refine rs_mv rfl rfl ?_
    refine rs_lss rfl rfl rfl ?_
    refine rs_nil fun _ => ?_
    refine th_n ?_
    refine aw_cond rfl (fun h28 => ?_) (fun h28 => ?_)
    · first | replace h28 := of_decide_eq_true h28 | skip
      refine aw_skip ?_
      refine th_n ?_
      refine aw_seq ?_
      refine aw_block ?_
      refine aw_seq ?_
      refine aw_reg ?_
      refine rs_mv rfl rfl ?_
      refine rs_mv rfl rfl ?_
      refine rs_mv rfl rfl ?_
      refine rs_mv rfl rfl ?_
      refine rs_calln [] rfl rfl (fc52 l lo hi k lo.length rfl h2 h6 (by omega) (by omega) hr) (.cons (hv_same rfl) (.cons (hv_same rfl) (.cons (hv_same rfl) (.cons (hv_same rfl) (.nil))))) rfl ?_
      refine rs_mv rfl rfl ?_
      refine rs_ext rfl rfl rfl ?_
      refine rs_ext rfl rfl rfl ?_
      refine rs_ext rfl rfl rfl ?_
      refine rs_mv rfl rfl ?_
      refine rs_mv rfl rfl ?_
      refine rs_mv rfl rfl ?_
      refine rs_nil fun _ => ?_
      refine th_n ?_
      refine aw_seq ?_
      refine aw_reg ?_
      refine rs_mv rfl rfl ?_
      refine rs_calln [] rfl rfl (fc53 k (by omega)) (.cons (hv_same rfl) (.nil)) rfl ?_
      refine rs_mv rfl rfl ?_
      refine rs_cmp rfl rfl rfl rfl (fun h43 => ?_) (fun h43 => ?_)
      · skip
        refine rs_mv rfl rfl ?_
        refine rs_mv rfl rfl ?_
        refine rs_pick rfl rfl rfl ?_
        refine rs_nil fun _ => ?_
        refine th_n ?_
        refine aw_cond rfl (fun h46 => ?_) (fun h46 => ?_)
        · first | replace h46 := of_decide_eq_true h46 | skip
          refine aw_seq ?_
          refine aw_reg ?_
          refine rs_mv rfl rfl ?_
          refine rs_nil fun _ => ?_
          refine th_n ?_
          refine aw_reg ?_
          refine rs_mv rfl rfl ?_
          refine rs_mv rfl rfl ?_
          refine rs_and rfl rfl rfl (and_i64 _ hi54 k (by omega)) ?_
          
          refine rs_mv rfl rfl ?_
          refine rs_nil fun _ => ?_
          refine in_n ?_
          refine th_n ?_
          refine aw_reg ?_
          refine rs_mv rfl rfl ?_
          first | refine rs_add rfl rfl rfl (by omega) ?_ | refine rs_addw rfl rfl rfl rfl ?_
          refine rs_mv rfl rfl ?_
          refine rs_nil fun _ => ?_
          refine th_n ?_
          first
            | (have hs := exK_f1 l (ofS lo hi) lies lo.length f54 255 k (by omega); exact ⟨k + 1, by omega, by omega, weak_to (.cons rfl (rc_same rfl (.inl rfl)) (.cons rfl (rc_same rfl (.inl rfl)) (.cons rfl (rc_same rfl (.inl rfl)) (.cons rfl (rc_same rfl (.inl rfl)) (.cons rfl (rc_int (by (rw [hs]) <;> rfl)) (.cons rfl (rc_eq (by (rw [hs]) <;> simp) rfl) (.cons rfl (rc_same rfl (.inl rfl)) (.nil)))))))) (.nil) (fun i h => by cases h)⟩)
            | (have hs := exK_f2 l (ofS lo hi) lies lo.length f54 255 k (by simpa using h46); exact ⟨k + 1, by omega, by omega, weak_to (.cons rfl (rc_same rfl (.inl rfl)) (.cons rfl (rc_same rfl (.inl rfl)) (.cons rfl (rc_same rfl (.inl rfl)) (.cons rfl (rc_same rfl (.inl rfl)) (.cons rfl (rc_int (by (rw [hs]) <;> rfl)) (.cons rfl (rc_eq (by (rw [hs]) <;> simp) rfl) (.cons rfl (rc_same rfl (.inl rfl)) (.nil)))))))) (.nil) (fun i h => by cases h)⟩)
            | (have hs := exK_t l (ofS lo hi) lies lo.length f54 255 k (by omega) (by simpa using h46); exact ⟨k + 1, by omega, by omega, weak_to (.cons rfl (rc_same rfl (.inl rfl)) (.cons rfl (rc_same rfl (.inl rfl)) (.cons rfl (rc_same rfl (.inl rfl)) (.cons rfl (rc_same rfl (.inl rfl)) (.cons rfl (rc_int (by (rw [hs]) <;> rfl)) (.cons rfl (rc_eq (by (rw [hs]) <;> simp) rfl) (.cons rfl (rc_same rfl (.inl rfl)) (.nil)))))))) (.nil) (fun i h => by cases h)⟩)
        · first | replace h46 := of_decide_eq_false h46 | skip
          refine aw_skip ?_
          refine in_n ?_
          refine th_n ?_
          refine aw_reg ?_
          refine rs_mv rfl rfl ?_
          first | refine rs_add rfl rfl rfl (by omega) ?_ | refine rs_addw rfl rfl rfl rfl ?_
          refine rs_mv rfl rfl ?_
          refine rs_nil fun _ => ?_
          refine th_n ?_
          first
            | (have hs := exK_f1 l (ofS lo hi) lies lo.length f54 255 k (by omega); exact ⟨k + 1, by omega, by omega, weak_to (.cons rfl (rc_same rfl (.inl rfl)) (.cons rfl (rc_same rfl (.inl rfl)) (.cons rfl (rc_same rfl (.inl rfl)) (.cons rfl (rc_same rfl (.inl rfl)) (.cons rfl (rc_int (by (rw [hs]) <;> rfl)) (.cons rfl (rc_eq (by (rw [hs]) <;> simp) rfl) (.cons rfl (rc_same rfl (.inl rfl)) (.nil)))))))) (.nil) (fun i h => by cases h)⟩)
            | (have hs := exK_f2 l (ofS lo hi) lies lo.length f54 255 k (by simpa using h46); exact ⟨k + 1, by omega, by omega, weak_to (.cons rfl (rc_same rfl (.inl rfl)) (.cons rfl (rc_same rfl (.inl rfl)) (.cons rfl (rc_same rfl (.inl rfl)) (.cons rfl (rc_same rfl (.inl rfl)) (.cons rfl (rc_int (by (rw [hs]) <;> rfl)) (.cons rfl (rc_eq (by (rw [hs]) <;> simp) rfl) (.cons rfl (rc_same rfl (.inl rfl)) (.nil)))))))) (.nil) (fun i h => by cases h)⟩)
            | (have hs := exK_t l (ofS lo hi) lies lo.length f54 255 k (by omega) (by simpa using h46); exact ⟨k + 1, by omega, by omega, weak_to (.cons rfl (rc_same rfl (.inl rfl)) (.cons rfl (rc_same rfl (.inl rfl)) (.cons rfl (rc_same rfl (.inl rfl)) (.cons rfl (rc_same rfl (.inl rfl)) (.cons rfl (rc_int (by (rw [hs]) <;> rfl)) (.cons rfl (rc_eq (by (rw [hs]) <;> simp) rfl) (.cons rfl (rc_same rfl (.inl rfl)) (.nil)))))))) (.nil) (fun i h => by cases h)⟩)
      · skip
        refine rs_mv rfl rfl ?_
        refine rs_skip rfl ?_
        refine rs_pick rfl rfl rfl ?_
        refine rs_nil fun _ => ?_
        refine th_n ?_
        refine aw_cond rfl (fun h => by cases h) (fun _ => ?_)
        refine aw_skip ?_
        refine in_n ?_
        refine th_n ?_
        refine aw_reg ?_
        refine rs_mv rfl rfl ?_
        first | refine rs_add rfl rfl rfl (by omega) ?_ | refine rs_addw rfl rfl rfl rfl ?_
        refine rs_mv rfl rfl ?_
        refine rs_nil fun _ => ?_
        refine th_n ?_
        first
          | (have hs := exK_f1 l (ofS lo hi) lies lo.length f54 255 k (by omega); exact ⟨k + 1, by omega, by omega, weak_to (.cons rfl (rc_same rfl (.inl rfl)) (.cons rfl (rc_same rfl (.inl rfl)) (.cons rfl (rc_same rfl (.inl rfl)) (.cons rfl (rc_same rfl (.inl rfl)) (.cons rfl (rc_int (by (rw [hs]) <;> rfl)) (.cons rfl (rc_eq (by (rw [hs]) <;> simp) rfl) (.cons rfl (rc_same rfl (.inl rfl)) (.nil)))))))) (.nil) (fun i h => by cases h)⟩)
          | (have hs := exK_f2 l (ofS lo hi) lies lo.length f54 255 k (by simpa using h46); exact ⟨k + 1, by omega, by omega, weak_to (.cons rfl (rc_same rfl (.inl rfl)) (.cons rfl (rc_same rfl (.inl rfl)) (.cons rfl (rc_same rfl (.inl rfl)) (.cons rfl (rc_same rfl (.inl rfl)) (.cons rfl (rc_int (by (rw [hs]) <;> rfl)) (.cons rfl (rc_eq (by (rw [hs]) <;> simp) rfl) (.cons rfl (rc_same rfl (.inl rfl)) (.nil)))))))) (.nil) (fun i h => by cases h)⟩)
          | (have hs := exK_t l (ofS lo hi) lies lo.length f54 255 k (by omega) (by simpa using h46); exact ⟨k + 1, by omega, by omega, weak_to (.cons rfl (rc_same rfl (.inl rfl)) (.cons rfl (rc_same rfl (.inl rfl)) (.cons rfl (rc_same rfl (.inl rfl)) (.cons rfl (rc_same rfl (.inl rfl)) (.cons rfl (rc_int (by (rw [hs]) <;> rfl)) (.cons rfl (rc_eq (by (rw [hs]) <;> simp) rfl) (.cons rfl (rc_same rfl (.inl rfl)) (.nil)))))))) (.nil) (fun i h => by cases h)⟩)
    · first | replace h28 := of_decide_eq_false h28 | skip
      refine aw_exit ?_
      refine th_e ?_
      refine th_e ?_
      refine in_hit ?_
      refine th_n ?_
      refine aw_seq ?_
      refine aw_seq ?_
      refine aw_reg ?_
      refine rs_mv rfl rfl ?_
      refine rs_not rfl rfl ?_
      refine rs_nil fun _ => ?_
      refine th_n ?_
      refine aw_cond rfl (fun h51 => ?_) (fun h51 => ?_)
      · first | replace h51 := of_decide_eq_true h51 | skip
        
        refine aw_seq ?_
        refine aw_reg ?_
        refine rs_mv rfl rfl ?_
        refine rs_mv rfl rfl ?_
        refine rs_nil fun _ => ?_
        refine th_n ?_
        refine aw_ret ?_
        refine th_r ?_
        first
          | (obtain ⟨e1, e2⟩ := liars_1 h25
             rw [e1, e2]
             exact ret_new rfl (rc_tup (.cons (rc_virt rfl rfl) (.cons (rc_same rfl (.inr rfl)) .nil))) (.virt rfl .nil))
          | (have hcnt : (ex54 l lo hi lies).2 = 0 := by
               obtain rfl : k = 256 := by omega
               simpa [ex54] using h51
             obtain ⟨e1, e2⟩ := liars_2 (l := l) (lo := lo) (hi := hi) (lies := lies) h0 hcnt
             rw [e1, e2]
             exact ret_new rfl (rc_tup (.cons (rc_virt rfl rfl) (.cons (rc_same rfl (.inr rfl)) .nil))) (.virt rfl .nil))
          | (obtain ⟨e1, e2⟩ := liars_3 (l := l) (lo := lo) (hi := hi) (lies := lies) h0 hcnt
             obtain rfl : q = 8 := by omega
             rw [e1, e2]
             exact ret_new rfl (rc_same rfl (.inr rfl)) (.keep rfl rfl (noROE_map (fun _ => rfl) _) .nil))
      · first | replace h51 := of_decide_eq_false h51 | skip
        obtain rfl : k = 256 := by omega
        have hcnt : (ex54 l lo hi lies).2 ≠ 0 := by simpa [ex54] using h51
        refine aw_skip ?_
        refine th_n ?_
        refine aw_seq ?_
        refine aw_reg ?_
        refine rs_mv rfl rfl ?_
        refine rs_nil fun _ => ?_
        refine th_n ?_
        refine aw_seq ?_
        refine aw_seq ?_
        refine aw_reg ?_
        refine rs_mv rfl rfl ?_
        refine rs_nil fun _ => ?_
        refine th_n ?_
        refine aw_block ?_
        refine aw_fam (α := Nat) (fun q => 8 - q) (fun q => [(11, iv (((ex54 l lo hi lies).1 : Nat) : Int)), (17, .sl 1012 0 (outK (ex54 l lo hi lies).1 (q)).length), (18, iv (((q) : Nat) : Int))]) (fun q => [(1012, .cells 3 1 ((outK (ex54 l lo hi lies).1 (q)).map ci) true)]) (fun q => q ≤ 8) 0 (by omega)
          (weak_to (.cons rfl (rc_same rfl (.inl rfl)) (.cons rfl (rc_virt rfl rfl) (.cons rfl (rc_same rfl (.inl rfl)) (.nil)))) (.virt rfl (.nil)) (fun i h => by cases h)) ?_
        intro q hq
        have hol := outK_le (ex54 l lo hi lies).1 q
        refine aw_seq ?_
        refine aw_seq ?_
        refine aw_reg ?_
        refine rs_mv rfl rfl ?_
        refine rs_lss rfl rfl rfl ?_
        refine rs_nil fun _ => ?_
        refine th_n ?_
        refine aw_cond rfl (fun h53 => ?_) (fun h53 => ?_)
        · first | replace h53 := of_decide_eq_true h53 | skip
          refine aw_skip ?_
          refine th_n ?_
          refine aw_seq ?_
          refine aw_block ?_
          refine aw_seq ?_
          refine aw_reg ?_
          refine rs_mv rfl rfl ?_
          refine rs_mv rfl rfl ?_
          refine rs_calln [] rfl rfl (fc55 (ex54 l lo hi lies).1 q ex54_lt (by omega)) (.cons (hv_same rfl) (.cons (hv_same rfl) (.nil))) rfl ?_
          refine rs_nil fun _ => ?_
          refine th_n ?_
          refine aw_cond rfl (fun h58 => ?_) (fun h58 => ?_)
          · first | replace h58 := of_decide_eq_true h58 | skip
            refine aw_reg ?_
            refine rs_mv rfl rfl ?_
            refine rs_mv rfl rfl ?_
            refine rs_bslice rfl rfl rfl rfl rfl rfl ?_
            refine rs_app_m (y := (q : Int)) rfl rfl rfl rfl (by rfl) rfl rfl rfl (by decide) rfl (by omega) (by omega) rfl ?_
            refine rs_mv rfl rfl ?_
            refine rs_nil fun _ => ?_
            refine in_n ?_
            refine th_n ?_
            refine aw_reg ?_
            refine rs_mv rfl rfl ?_
            first | refine rs_add rfl rfl rfl (by omega) ?_ | refine rs_addw rfl rfl rfl rfl ?_
            refine rs_mv rfl rfl ?_
            refine rs_nil fun _ => ?_
            refine th_n ?_
            refine ⟨q + 1, by omega, by omega, ?_⟩
            first
              | (have ho := outK_t (ex54 l lo hi lies).1 q h58; exact weak_to_ren (i := 62) (i' := 1012) (F1 := [(11, iv (((ex54 l lo hi lies).1 : Nat) : Int)), (17, .sl 62 0 (outK (ex54 l lo hi lies).1 (q + 1)).length), (18, iv (((q + 1) : Nat) : Int))]) (H1 := [(62, .cells 3 1 ((outK (ex54 l lo hi lies).1 (q + 1)).map ci) true)]) (.cons rfl (rc_same rfl (.inl rfl)) (.cons rfl (rc_eq (by rw [ho]; simp) rfl) (.cons rfl (rc_same rfl (.inl rfl)) (.nil)))) (.keep ((by (rw [ho]) <;> rfl)) rfl (.nil)) (fun i h => by cases h) rfl rfl (.cons rfl (.same _) (.cons rfl (.sl _ _) (.cons rfl (.same _) (.nil)))) (.cons rfl (rc_same rfl (.inl rfl)) (.cons rfl (rc_same rfl (.inl rfl)) (.cons rfl (rc_same rfl (.inl rfl)) (.nil)))) (.keep (rfl) rfl (.nil)) (fun i h => by cases h))
              | (have ho := outK_f (ex54 l lo hi lies).1 q h58; exact weak_to (.cons rfl (rc_same rfl (.inl rfl)) (.cons rfl (rc_eq (by rw [ho]) rfl) (.cons rfl (rc_same rfl (.inl rfl)) (.nil)))) (.keep ((by (rw [ho]) <;> rfl)) rfl (.nil)) (fun i h => by cases h))
          · first | replace h58 := of_decide_eq_false h58 | skip
            refine aw_skip ?_
            refine in_n ?_
            refine th_n ?_
            refine aw_reg ?_
            refine rs_mv rfl rfl ?_
            first | refine rs_add rfl rfl rfl (by omega) ?_ | refine rs_addw rfl rfl rfl rfl ?_
            refine rs_mv rfl rfl ?_
            refine rs_nil fun _ => ?_
            refine th_n ?_
            refine ⟨q + 1, by omega, by omega, ?_⟩
            first
              | (have ho := outK_t (ex54 l lo hi lies).1 q h58; exact weak_to_ren (i := 62) (i' := 1012) (F1 := [(11, iv (((ex54 l lo hi lies).1 : Nat) : Int)), (17, .sl 62 0 (outK (ex54 l lo hi lies).1 (q + 1)).length), (18, iv (((q + 1) : Nat) : Int))]) (H1 := [(62, .cells 3 1 ((outK (ex54 l lo hi lies).1 (q + 1)).map ci) true)]) (.cons rfl (rc_same rfl (.inl rfl)) (.cons rfl (rc_eq (by rw [ho]; simp) rfl) (.cons rfl (rc_same rfl (.inl rfl)) (.nil)))) (.keep ((by (rw [ho]) <;> rfl)) rfl (.nil)) (fun i h => by cases h) rfl rfl (.cons rfl (.same _) (.cons rfl (.sl _ _) (.cons rfl (.same _) (.nil)))) (.cons rfl (rc_same rfl (.inl rfl)) (.cons rfl (rc_same rfl (.inl rfl)) (.cons rfl (rc_same rfl (.inl rfl)) (.nil)))) (.keep (rfl) rfl (.nil)) (fun i h => by cases h))
              | (have ho := outK_f (ex54 l lo hi lies).1 q h58; exact weak_to (.cons rfl (rc_same rfl (.inl rfl)) (.cons rfl (rc_eq (by rw [ho]) rfl) (.cons rfl (rc_same rfl (.inl rfl)) (.nil)))) (.keep ((by (rw [ho]) <;> rfl)) rfl (.nil)) (fun i h => by cases h))
        · first | replace h53 := of_decide_eq_false h53 | skip
          refine aw_exit ?_
          refine th_e ?_
          refine th_e ?_
          refine in_hit ?_
          refine th_n ?_
          refine aw_seq ?_
          refine aw_reg ?_
          refine rs_mv rfl rfl ?_
          refine rs_mv rfl rfl ?_
          refine rs_mv rfl rfl ?_
          refine rs_nil fun _ => ?_
          refine th_n ?_
          refine aw_ret ?_
          first
            | (obtain ⟨e1, e2⟩ := liars_1 h25
               rw [e1, e2]
               exact ret_new rfl (rc_tup (.cons (rc_virt rfl rfl) (.cons (rc_same rfl (.inr rfl)) .nil))) (.virt rfl .nil))
            | (have hcnt : (ex54 l lo hi lies).2 = 0 := by
                 obtain rfl : k = 256 := by omega
                 simpa [ex54] using h51
               obtain ⟨e1, e2⟩ := liars_2 (l := l) (lo := lo) (hi := hi) (lies := lies) h0 hcnt
               rw [e1, e2]
               exact ret_new rfl (rc_tup (.cons (rc_virt rfl rfl) (.cons (rc_same rfl (.inr rfl)) .nil))) (.virt rfl .nil))
            | (obtain ⟨e1, e2⟩ := liars_3 (l := l) (lo := lo) (hi := hi) (lies := lies) h0 hcnt
               obtain rfl : q = 8 := by omega
               rw [e1, e2]
               exact ret_new rfl (rc_same rfl (.inr rfl)) (.keep rfl rfl (noROE_map (fun _ => rfl) _) .nil))

end Go.Proofs.Ytadjdnhnbkcakaa

/-! Walks: A10. -/
namespace Go.Proofs.Ytadjdnhnbkcakaa
open Go.RowKit

/-- A reading that values contradict. -/
def isWrong (v : List Int) (r : Rd) : Prop := 0 ≤ r.of_ ∧ r.of_ < (v.length : Int) ∧ (v.getD r.of_.toNat 0 < r.lo ∨ v.getD r.of_.toNat 0 > r.hi)
instance (v : List Int) (r : Rd) : Decidable (isWrong v r) := by unfold isWrong; infer_instance
def addW (v : List Int) (ks : List Int) (r : Rd) : List Int := if isWrong v r then addK ks r.probe else ks
def wrongS (l : List Rd) (v : List Int) : List Int := l.foldl (addW v) []
def agreeS (l : List Rd) (v : List Int) (lies : Int) : Bool := decide (((wrongS l v).length : Int) ≤ lies)
theorem addK_len (ks : List Int) (n : Int) : (addK ks n).length ≤ ks.length + 1 := by unfold addK; split <;> simp
theorem addW_len (v ks : List Int) (r : Rd) : (addW v ks r).length ≤ ks.length + 1 := by
  unfold addW
  split
  · exact addK_len _ _
  · omega
theorem wrong_len (v : List Int) : ∀ (l : List Rd) (ks : List Int), (l.foldl (addW v) ks).length ≤ ks.length + l.length
  | [], ks => by simp
  | r :: l, ks => by
    have h1 := wrong_len v l (addW v ks r)
    have h2 := addW_len v ks r
    simp only [List.foldl_cons, List.length_cons]
    omega
theorem wrong_at {v : List Int} {t : Int} (h0 : 0 ≤ t) (h1 : t < (v.length : Int)) : v[t.toNat]'(by omega) = v.getD t.toNat 0 := by
  simp [show t.toNat < v.length by omega]

def mc26 : MC := (.seq (.reg [⟨(some 6), (.mv (.c (.bool false))), none, []⟩] false) (.seq (.reg [⟨(some 10), .mkmap, none, []⟩, ⟨(some 7), (.mv (.t 10)), none, [0, 0]⟩] false) (.seq (.seq (.reg [⟨(some 11), (.mv (.t 0)), none, []⟩, ⟨(some 12), (.len (.t 11)), none, [0]⟩, ⟨(some 13), (.mv (.c (.int .i64 0))), none, []⟩] false) (.block 0 (.loop (.seq (.reg [⟨(some 14), (.bin .lss (.t 13) (.t 12)), none, []⟩] false) (.seq (.cond (.t 14) .skip (.exit 0)) (.seq (.block 1 (.seq (.reg [⟨(some 15), (.ixsl 4 (.t 11) (.t 13)), none, []⟩, ⟨(some 16), (.ld true 4 (.t 15)), none, [0]⟩, ⟨(some 9), (.alloc 50 4 [(.int .i64 0), (.int .i64 0), (.int .i64 0), (.int .i64 0)]), none, []⟩, ⟨none, (.st 4 (.t 9) (.t 16)), none, [2, 1, 0, 1, 2]⟩] false) (.seq (.reg [⟨(some 17), (.fa 1 (.t 9)), none, []⟩, ⟨(some 18), (.ld false 1 (.t 17)), none, [0]⟩, ⟨(some 19), (.bin .geq (.t 18) (.c (.int .i64 0))), none, [1]⟩, ⟨(some 20), (.mv (.t 19)), none, [2]⟩, ⟨(some 21), (.fa 1 (.t 9)), (some (20, true)), [3]⟩, ⟨(some 22), (.ld false 1 (.t 21)), (some (20, true)), [4, 3]⟩, ⟨(some 23), (.mv (.t 1)), (some (20, true)), [3]⟩, ⟨(some 24), (.len (.t 23)), (some (20, true)), [6, 3]⟩, ⟨(some 25), (.bin .lss (.t 22) (.t 24)), (some (20, true)), [5, 7, 3]⟩, ⟨(some 26), (.pick (.t 20) (.t 25) (.c (.bool false))), none, [3, 8]⟩, ⟨(some 27), (.mv (.t 26)), none, [9, 3]⟩, ⟨(some 28), (.mv (.t 1)), (some (27, true)), [10]⟩, ⟨(some 29), (.fa 1 (.t 9)), (some (27, true)), [10]⟩, ⟨(some 30), (.ld false 1 (.t 29)), (some (27, true)), [12, 10]⟩, ⟨(some 31), (.ixsl 1 (.t 28) (.t 30)), (some (27, true)), [11, 13, 10]⟩, ⟨(some 32), (.ld false 1 (.t 31)), (some (27, true)), [14, 10]⟩, ⟨(some 33), (.fa 2 (.t 9)), (some (27, true)), [10]⟩, ⟨(some 34), (.ld false 1 (.t 33)), (some (27, true)), [16, 10]⟩, ⟨(some 35), (.bin .lss (.t 32) (.t 34)), (some (27, true)), [15, 17, 10]⟩, ⟨(some 36), (.mv (.t 35)), (some (27, true)), [18, 10, 10]⟩, ⟨(some 37), (.mv (.t 1)), (some (36, false)), [19]⟩, ⟨(some 38), (.fa 1 (.t 9)), (some (36, false)), [19]⟩, ⟨(some 39), (.ld false 1 (.t 38)), (some (36, false)), [21, 19]⟩, ⟨(some 40), (.ixsl 1 (.t 37) (.t 39)), (some (36, false)), [20, 22, 19]⟩, ⟨(some 41), (.ld false 1 (.t 40)), (some (36, false)), [23, 19]⟩, ⟨(some 42), (.fa 3 (.t 9)), (some (36, false)), [19]⟩, ⟨(some 43), (.ld false 1 (.t 42)), (some (36, false)), [25, 19]⟩, ⟨(some 44), (.bin .gtr (.t 41) (.t 43)), (some (36, false)), [24, 26, 19]⟩, ⟨(some 45), (.pick (.t 36) (.c (.bool true)) (.t 44)), (some (27, true)), [19, 27, 10]⟩, ⟨(some 46), (.pick (.t 27) (.t 45) (.c (.bool false))), none, [10, 28]⟩] true) (.cond (.t 46) (.reg [⟨(some 47), (.mv (.t 7)), none, []⟩, ⟨(some 48), (.fa 0 (.t 9)), none, []⟩, ⟨(some 49), (.ld false 1 (.t 48)), none, [1]⟩, ⟨none, (.mapadd (.t 47) (.t 49) (.c (.bool true))), none, [0, 2, 0, 1, 2]⟩] false) .skip)))) (.reg [⟨(some 50), (.bin .add (.t 13) (.c (.int .i64 1))), none, []⟩, ⟨(some 13), (.mv (.t 50)), none, [0]⟩] false))))))) (.seq (.reg [⟨(some 51), (.mv (.t 7)), none, []⟩, ⟨(some 52), (.lenm (.t 51)), none, [0]⟩, ⟨(some 53), (.mv (.t 2)), none, []⟩, ⟨(some 54), (.bin .leq (.t 52) (.t 53)), none, [1, 2]⟩, ⟨(some 6), (.mv (.t 54)), none, [3, 1, 0, 1, 2, 3]⟩] false) .ret))))
theorem mcOk26 : (match Try.f26.body with | some c => compC Try.prog 55 c | none => none) = some mc26 := by kernel_rfl

theorem fc26 (l : List Rd) (v : List Int) (lies : Int) (hl : l.length ≤ 4611686018427387904) : FC Try.prog 26 [.rs 4 (l.map cR), ints v, iv lies] [] (.bool (agreeS l v lies)) [] false := by
  refine fc_run (nt := 55) Try.func26 rfl rfl mcOk26 (Nat.le_of_ble_eq_true rfl) ?_
  delta mc26
  refine aw_seq ?_
  refine aw_reg ?_
  refine rs_mv rfl rfl ?_
  refine rs_nil fun _ => ?_
  refine th_n ?_
  refine aw_seq ?_
  refine aw_reg ?_
  refine rs_mkmap rfl rfl ?_
  refine rs_mv rfl rfl ?_
  refine rs_nil fun _ => ?_
  refine th_n ?_
  refine aw_seq ?_
  refine aw_seq ?_
  refine aw_reg ?_
  refine rs_mv rfl rfl ?_
  first | refine rs_len_m rfl rfl ?_ | refine rs_len_s rfl rfl ?_ | refine rs_len_n rfl rfl ?_ | refine rs_len_r rfl rfl rfl ?_
  refine rs_mv rfl rfl ?_
  refine rs_nil fun _ => ?_
  refine th_n ?_
  refine aw_block ?_
  refine aw_fam (α := Nat) (fun k => l.length - k) (fun k => [(1, ints v), (2, iv lies), (7, .mp 10), (11, .rs 4 (l.map cR)), (12, iv (l.length : Int)), (13, iv (((k) : Nat) : Int))]) (fun k => [(10, .mset ((l.take (k)).foldl (addW v) []))]) (fun k => k ≤ l.length) 0 (by omega)
    (weak_to (.cons rfl (rc_same rfl (.inl rfl)) (.cons rfl (rc_same rfl (.inl rfl)) (.cons rfl (rc_same rfl (.inl rfl)) (.cons rfl (rc_same rfl (.inl rfl)) (.cons rfl (rc_same rfl (.inl rfl)) (.cons rfl (rc_same rfl (.inl rfl)) (.nil))))))) (.keep (rfl) rfl (.nil)) (fun i h => by cases h)) ?_
  intro k hk
  refine aw_seq ?_
  refine aw_reg ?_
  refine rs_lss rfl rfl rfl ?_
  refine rs_nil fun _ => ?_
  refine th_n ?_
  refine aw_seq ?_
  refine aw_cond rfl (fun h14 => ?_) (fun h14 => ?_)
  · first | replace h14 := of_decide_eq_true h14 | skip
    refine aw_skip ?_
    refine th_n ?_
    refine aw_seq ?_
    refine aw_block ?_
    refine aw_seq ?_
    refine aw_reg ?_
    have hkl : k < l.length := by omega
    have hst := fold_take (addW v) [] l k hkl
    first | refine rs_ix_m rfl rfl rfl (by omega) ?_ | refine rs_ix_sm rfl rfl rfl rfl (by omega) ?_
    first | refine rs_ld_pa rfl rfl rfl rfl (Nat.le_of_ble_eq_true rfl) rfl ?_ | refine rs_ld_ra rfl rfl (Nat.le_of_ble_eq_true rfl) rfl ?_ | refine rs_ld_ma rfl rfl rfl (by omega) (Nat.le_of_ble_eq_true rfl) rfl ?_
    refine rs_alloc rfl rfl rfl ?_
    refine rs_st rfl rfl rfl rfl rfl rfl rfl (Nat.le_of_ble_eq_true rfl) rfl rfl ?_
    refine rs_nil fun _ => ?_
    refine th_n ?_
    refine aw_seq ?_
    refine aw_draw hmix ?_
    first | refine rs_fa_p rfl rfl ?_ | refine rs_fa_r rfl rfl rfl ?_
    first | refine rs_ld_r rfl rfl rfl ?_ | refine rs_ld_p rfl rfl rfl rfl rfl ?_ | refine rs_ld_m rfl rfl rfl (by omega) rfl ?_
    refine rs_cmp rfl rfl rfl rfl (fun h19 => ?_) (fun h19 => ?_)
    · skip
      refine rs_mv rfl rfl ?_
      first | refine rs_fa_p rfl rfl ?_ | refine rs_fa_r rfl rfl rfl ?_
      first | refine rs_ld_r rfl rfl rfl ?_ | refine rs_ld_p rfl rfl rfl rfl rfl ?_ | refine rs_ld_m rfl rfl rfl (by omega) rfl ?_
      refine rs_mv rfl rfl ?_
      first | refine rs_len_m rfl rfl ?_ | refine rs_len_s rfl rfl ?_ | refine rs_len_n rfl rfl ?_ | refine rs_len_r rfl rfl rfl ?_
      refine rs_cmp rfl rfl rfl rfl (fun h25 => ?_) (fun h25 => ?_)
      · skip
        refine rs_pick rfl rfl rfl ?_
        refine rs_mv rfl rfl ?_
        refine rs_mv rfl rfl ?_
        first | refine rs_fa_p rfl rfl ?_ | refine rs_fa_r rfl rfl rfl ?_
        first | refine rs_ld_r rfl rfl rfl ?_ | refine rs_ld_p rfl rfl rfl rfl rfl ?_ | refine rs_ld_m rfl rfl rfl (by omega) rfl ?_
        refine rs_ix_mi rfl rfl rfl (by omega) (by omega) ?_
        first | refine rs_ld_r rfl rfl rfl ?_ | refine rs_ld_p rfl rfl rfl rfl rfl ?_ | refine rs_ld_m rfl rfl rfl (by omega) rfl ?_
        first | refine rs_fa_p rfl rfl ?_ | refine rs_fa_r rfl rfl rfl ?_
        first | refine rs_ld_r rfl rfl rfl ?_ | refine rs_ld_p rfl rfl rfl rfl rfl ?_ | refine rs_ld_m rfl rfl rfl (by omega) rfl ?_
        refine rs_cmp rfl rfl rfl rfl (fun h35 => ?_) (fun h35 => ?_)
        · skip
          refine rs_mv rfl rfl ?_
          refine rs_skip rfl ?_
          refine rs_skip rfl ?_
          refine rs_skip rfl ?_
          refine rs_skip rfl ?_
          refine rs_skip rfl ?_
          refine rs_skip rfl ?_
          refine rs_skip rfl ?_
          refine rs_skip rfl ?_
          refine rs_pick rfl rfl rfl ?_
          refine rs_pick rfl rfl rfl ?_
          refine rs_nil ⟨by kernel_rfl, fun _ => ?_⟩
          refine th_n ?_
          refine aw_cond rfl (fun _ => ?_) (fun h => by cases h)
          refine aw_reg ?_
          refine rs_mv rfl rfl ?_
          first | refine rs_fa_p rfl rfl ?_ | refine rs_fa_r rfl rfl rfl ?_
          first | refine rs_ld_r rfl rfl rfl ?_ | refine rs_ld_p rfl rfl rfl rfl rfl ?_ | refine rs_ld_m rfl rfl rfl (by omega) rfl ?_
          refine rs_mapadd rfl rfl rfl rfl rfl ?_
          refine rs_nil fun _ => ?_
          refine in_n ?_
          refine th_n ?_
          refine aw_reg ?_
          first | refine rs_add rfl rfl rfl (by omega) ?_ | refine rs_addw rfl rfl rfl rfl ?_
          refine rs_mv rfl rfl ?_
          refine rs_nil fun _ => ?_
          refine th_n ?_
          refine ⟨k + 1, by omega, by omega, ?_⟩
          first
            | exact weak_to (.cons rfl (rc_same rfl (.inl rfl)) (.cons rfl (rc_same rfl (.inl rfl)) (.cons rfl (rc_same rfl (.inl rfl)) (.cons rfl (rc_same rfl (.inl rfl)) (.cons rfl (rc_same rfl (.inl rfl)) (.cons rfl (rc_same rfl (.inl rfl)) (.nil))))))) (.keep ((by (rw [hst, addW, if_pos (show isWrong v l[k] from ⟨by omega, by omega, by rw [← wrong_at (by omega) (by omega)]; omega⟩)]) <;> rfl)) rfl (.nil)) (fun i h => by cases h)
            | exact weak_to (.cons rfl (rc_same rfl (.inl rfl)) (.cons rfl (rc_same rfl (.inl rfl)) (.cons rfl (rc_same rfl (.inl rfl)) (.cons rfl (rc_same rfl (.inl rfl)) (.cons rfl (rc_same rfl (.inl rfl)) (.cons rfl (rc_same rfl (.inl rfl)) (.nil))))))) (.keep ((by (rw [hst, addW, if_neg (show ¬ isWrong v l[k] from fun h => by obtain ⟨a1, a2, a3⟩ := h; first | omega | (rw [← wrong_at a1 a2] at a3; omega))]) <;> rfl)) rfl (.nil)) (fun i h => by cases h)
        · skip
          refine rs_mv rfl rfl ?_
          refine rs_mv rfl rfl ?_
          first | refine rs_fa_p rfl rfl ?_ | refine rs_fa_r rfl rfl rfl ?_
          first | refine rs_ld_r rfl rfl rfl ?_ | refine rs_ld_p rfl rfl rfl rfl rfl ?_ | refine rs_ld_m rfl rfl rfl (by omega) rfl ?_
          refine rs_ix_mi rfl rfl rfl (by omega) (by omega) ?_
          first | refine rs_ld_r rfl rfl rfl ?_ | refine rs_ld_p rfl rfl rfl rfl rfl ?_ | refine rs_ld_m rfl rfl rfl (by omega) rfl ?_
          first | refine rs_fa_p rfl rfl ?_ | refine rs_fa_r rfl rfl rfl ?_
          first | refine rs_ld_r rfl rfl rfl ?_ | refine rs_ld_p rfl rfl rfl rfl rfl ?_ | refine rs_ld_m rfl rfl rfl (by omega) rfl ?_
          refine rs_cmp rfl rfl rfl rfl (fun h44 => ?_) (fun h44 => ?_)
          · skip
            refine rs_pick rfl rfl rfl ?_
            refine rs_pick rfl rfl rfl ?_
            refine rs_nil ⟨by kernel_rfl, fun _ => ?_⟩
            refine th_n ?_
            refine aw_cond rfl (fun _ => ?_) (fun h => by cases h)
            refine aw_reg ?_
            refine rs_mv rfl rfl ?_
            first | refine rs_fa_p rfl rfl ?_ | refine rs_fa_r rfl rfl rfl ?_
            first | refine rs_ld_r rfl rfl rfl ?_ | refine rs_ld_p rfl rfl rfl rfl rfl ?_ | refine rs_ld_m rfl rfl rfl (by omega) rfl ?_
            refine rs_mapadd rfl rfl rfl rfl rfl ?_
            refine rs_nil fun _ => ?_
            refine in_n ?_
            refine th_n ?_
            refine aw_reg ?_
            first | refine rs_add rfl rfl rfl (by omega) ?_ | refine rs_addw rfl rfl rfl rfl ?_
            refine rs_mv rfl rfl ?_
            refine rs_nil fun _ => ?_
            refine th_n ?_
            refine ⟨k + 1, by omega, by omega, ?_⟩
            first
              | exact weak_to (.cons rfl (rc_same rfl (.inl rfl)) (.cons rfl (rc_same rfl (.inl rfl)) (.cons rfl (rc_same rfl (.inl rfl)) (.cons rfl (rc_same rfl (.inl rfl)) (.cons rfl (rc_same rfl (.inl rfl)) (.cons rfl (rc_same rfl (.inl rfl)) (.nil))))))) (.keep ((by (rw [hst, addW, if_pos (show isWrong v l[k] from ⟨by omega, by omega, by rw [← wrong_at (by omega) (by omega)]; omega⟩)]) <;> rfl)) rfl (.nil)) (fun i h => by cases h)
              | exact weak_to (.cons rfl (rc_same rfl (.inl rfl)) (.cons rfl (rc_same rfl (.inl rfl)) (.cons rfl (rc_same rfl (.inl rfl)) (.cons rfl (rc_same rfl (.inl rfl)) (.cons rfl (rc_same rfl (.inl rfl)) (.cons rfl (rc_same rfl (.inl rfl)) (.nil))))))) (.keep ((by (rw [hst, addW, if_neg (show ¬ isWrong v l[k] from fun h => by obtain ⟨a1, a2, a3⟩ := h; first | omega | (rw [← wrong_at a1 a2] at a3; omega))]) <;> rfl)) rfl (.nil)) (fun i h => by cases h)
          · skip
            refine rs_pick rfl rfl rfl ?_
            refine rs_pick rfl rfl rfl ?_
            refine rs_nil ⟨by kernel_rfl, fun _ => ?_⟩
            refine th_n ?_
            refine aw_cond rfl (fun h => by cases h) (fun _ => ?_)
            refine aw_skip ?_
            refine in_n ?_
            refine th_n ?_
            refine aw_reg ?_
            first | refine rs_add rfl rfl rfl (by omega) ?_ | refine rs_addw rfl rfl rfl rfl ?_
            refine rs_mv rfl rfl ?_
            refine rs_nil fun _ => ?_
            refine th_n ?_
            refine ⟨k + 1, by omega, by omega, ?_⟩
            first
              | exact weak_to (.cons rfl (rc_same rfl (.inl rfl)) (.cons rfl (rc_same rfl (.inl rfl)) (.cons rfl (rc_same rfl (.inl rfl)) (.cons rfl (rc_same rfl (.inl rfl)) (.cons rfl (rc_same rfl (.inl rfl)) (.cons rfl (rc_same rfl (.inl rfl)) (.nil))))))) (.keep ((by (rw [hst, addW, if_pos (show isWrong v l[k] from ⟨by omega, by omega, by rw [← wrong_at (by omega) (by omega)]; omega⟩)]) <;> rfl)) rfl (.nil)) (fun i h => by cases h)
              | exact weak_to (.cons rfl (rc_same rfl (.inl rfl)) (.cons rfl (rc_same rfl (.inl rfl)) (.cons rfl (rc_same rfl (.inl rfl)) (.cons rfl (rc_same rfl (.inl rfl)) (.cons rfl (rc_same rfl (.inl rfl)) (.cons rfl (rc_same rfl (.inl rfl)) (.nil))))))) (.keep ((by (rw [hst, addW, if_neg (show ¬ isWrong v l[k] from fun h => by obtain ⟨a1, a2, a3⟩ := h; first | omega | (rw [← wrong_at a1 a2] at a3; omega))]) <;> rfl)) rfl (.nil)) (fun i h => by cases h)
      · skip
        refine rs_pick rfl rfl rfl ?_
        refine rs_mv rfl rfl ?_
        refine rs_skip rfl ?_
        refine rs_skip rfl ?_
        refine rs_skip rfl ?_
        refine rs_skip rfl ?_
        refine rs_skip rfl ?_
        refine rs_skip rfl ?_
        refine rs_skip rfl ?_
        refine rs_skip rfl ?_
        refine rs_skip rfl ?_
        refine rs_skip rfl ?_
        refine rs_skip rfl ?_
        refine rs_skip rfl ?_
        refine rs_skip rfl ?_
        refine rs_skip rfl ?_
        refine rs_skip rfl ?_
        refine rs_skip rfl ?_
        refine rs_skip rfl ?_
        refine rs_skip rfl ?_
        refine rs_pick rfl rfl rfl ?_
        refine rs_nil ⟨by kernel_rfl, fun _ => ?_⟩
        refine th_n ?_
        refine aw_cond rfl (fun h => by cases h) (fun _ => ?_)
        refine aw_skip ?_
        refine in_n ?_
        refine th_n ?_
        refine aw_reg ?_
        first | refine rs_add rfl rfl rfl (by omega) ?_ | refine rs_addw rfl rfl rfl rfl ?_
        refine rs_mv rfl rfl ?_
        refine rs_nil fun _ => ?_
        refine th_n ?_
        refine ⟨k + 1, by omega, by omega, ?_⟩
        first
          | exact weak_to (.cons rfl (rc_same rfl (.inl rfl)) (.cons rfl (rc_same rfl (.inl rfl)) (.cons rfl (rc_same rfl (.inl rfl)) (.cons rfl (rc_same rfl (.inl rfl)) (.cons rfl (rc_same rfl (.inl rfl)) (.cons rfl (rc_same rfl (.inl rfl)) (.nil))))))) (.keep ((by (rw [hst, addW, if_pos (show isWrong v l[k] from ⟨by omega, by omega, by rw [← wrong_at (by omega) (by omega)]; omega⟩)]) <;> rfl)) rfl (.nil)) (fun i h => by cases h)
          | exact weak_to (.cons rfl (rc_same rfl (.inl rfl)) (.cons rfl (rc_same rfl (.inl rfl)) (.cons rfl (rc_same rfl (.inl rfl)) (.cons rfl (rc_same rfl (.inl rfl)) (.cons rfl (rc_same rfl (.inl rfl)) (.cons rfl (rc_same rfl (.inl rfl)) (.nil))))))) (.keep ((by (rw [hst, addW, if_neg (show ¬ isWrong v l[k] from fun h => by obtain ⟨a1, a2, a3⟩ := h; first | omega | (rw [← wrong_at a1 a2] at a3; omega))]) <;> rfl)) rfl (.nil)) (fun i h => by cases h)
    · skip
      refine rs_mv rfl rfl ?_
      refine rs_skip rfl ?_
      refine rs_skip rfl ?_
      refine rs_skip rfl ?_
      refine rs_skip rfl ?_
      refine rs_skip rfl ?_
      refine rs_pick rfl rfl rfl ?_
      refine rs_mv rfl rfl ?_
      refine rs_skip rfl ?_
      refine rs_skip rfl ?_
      refine rs_skip rfl ?_
      refine rs_skip rfl ?_
      refine rs_skip rfl ?_
      refine rs_skip rfl ?_
      refine rs_skip rfl ?_
      refine rs_skip rfl ?_
      refine rs_skip rfl ?_
      refine rs_skip rfl ?_
      refine rs_skip rfl ?_
      refine rs_skip rfl ?_
      refine rs_skip rfl ?_
      refine rs_skip rfl ?_
      refine rs_skip rfl ?_
      refine rs_skip rfl ?_
      refine rs_skip rfl ?_
      refine rs_skip rfl ?_
      refine rs_pick rfl rfl rfl ?_
      refine rs_nil ⟨by kernel_rfl, fun _ => ?_⟩
      refine th_n ?_
      refine aw_cond rfl (fun h => by cases h) (fun _ => ?_)
      refine aw_skip ?_
      refine in_n ?_
      refine th_n ?_
      refine aw_reg ?_
      first | refine rs_add rfl rfl rfl (by omega) ?_ | refine rs_addw rfl rfl rfl rfl ?_
      refine rs_mv rfl rfl ?_
      refine rs_nil fun _ => ?_
      refine th_n ?_
      refine ⟨k + 1, by omega, by omega, ?_⟩
      first
        | exact weak_to (.cons rfl (rc_same rfl (.inl rfl)) (.cons rfl (rc_same rfl (.inl rfl)) (.cons rfl (rc_same rfl (.inl rfl)) (.cons rfl (rc_same rfl (.inl rfl)) (.cons rfl (rc_same rfl (.inl rfl)) (.cons rfl (rc_same rfl (.inl rfl)) (.nil))))))) (.keep ((by (rw [hst, addW, if_pos (show isWrong v l[k] from ⟨by omega, by omega, by rw [← wrong_at (by omega) (by omega)]; omega⟩)]) <;> rfl)) rfl (.nil)) (fun i h => by cases h)
        | exact weak_to (.cons rfl (rc_same rfl (.inl rfl)) (.cons rfl (rc_same rfl (.inl rfl)) (.cons rfl (rc_same rfl (.inl rfl)) (.cons rfl (rc_same rfl (.inl rfl)) (.cons rfl (rc_same rfl (.inl rfl)) (.cons rfl (rc_same rfl (.inl rfl)) (.nil))))))) (.keep ((by (rw [hst, addW, if_neg (show ¬ isWrong v l[k] from fun h => by obtain ⟨a1, a2, a3⟩ := h; first | omega | (rw [← wrong_at a1 a2] at a3; omega))]) <;> rfl)) rfl (.nil)) (fun i h => by cases h)
  · first | replace h14 := of_decide_eq_false h14 | skip
    refine aw_exit ?_
    refine th_e ?_
    refine th_e ?_
    refine in_hit ?_
    refine th_n ?_
    refine aw_seq ?_
    refine aw_reg ?_
    refine rs_mv rfl rfl ?_
    refine rs_lenm rfl rfl rfl ?_
    refine rs_mv rfl rfl ?_
    refine rs_leq rfl rfl rfl ?_
    refine rs_mv rfl rfl ?_
    refine rs_nil fun _ => ?_
    refine th_n ?_
    refine aw_ret ?_
    have hfin : wrongS l v = (l.take k).foldl (addW v) [] := by (rw [List.take_of_length_le (by omega)]) <;> rfl
    exact ret_pure rfl (by rw [agreeS, hfin]; rfl) rfl (.inr rfl)

end Go.Proofs.Ytadjdnhnbkcakaa

/-! Walks: A11. -/
namespace Go.Proofs.Ytadjdnhnbkcakaa
open Go.RowKit

theorem contains_succ (W : List Int) (q : Nat) (p : Int) (h : q < W.length) : (W.take (q + 1)).contains p = ((W.take q).contains p || decide (W[q] = p)) := by
  rw [List.take_succ_eq_append_getElem h]
  simp only [List.contains_eq_mem, List.mem_append, List.mem_singleton]
  by_cases h1 : p ∈ W.take q
  · simp [h1]
  · by_cases h2 : W[q] = p
    · simp [h2]
    · simp [h1, h2, Ne.symm h2]
theorem wrongK_le (v : List Int) (l : List Rd) (k : Nat) : ((l.take k).foldl (addW v) []).length ≤ k := by
  have := wrong_len v (l.take k) []
  have h2 : (l.take k).length ≤ k := by simp; omega
  simp only [List.length_nil] at this
  omega

def mc27 : MC := (.seq (.reg [⟨(some 6), (.mv (.c (.bool false))), none, []⟩] false) (.seq (.reg [⟨(some 7), (.mv (.c .nils)), none, []⟩] false) (.seq (.seq (.reg [⟨(some 8), (.mv (.c (.int .i64 0))), none, []⟩] false) (.block 0 (.loop (.seq (.seq (.reg [⟨(some 12), (.mv (.t 8)), none, []⟩, ⟨(some 13), (.mv (.t 0)), none, []⟩, ⟨(some 14), (.len (.t 13)), none, [1]⟩, ⟨(some 15), (.bin .lss (.t 12) (.t 14)), none, [0, 2]⟩] false) (.cond (.t 15) .skip (.exit 0))) (.seq (.block 1 (.seq (.reg [⟨(some 18), (.mv (.t 0)), none, []⟩, ⟨(some 19), (.mv (.t 8)), none, []⟩, ⟨(some 20), (.ixsl 4 (.t 18) (.t 19)), none, [0, 1]⟩, ⟨(some 21), (.ld true 4 (.t 20)), none, [2]⟩, ⟨(some 9), (.alloc 50 4 [(.int .i64 0), (.int .i64 0), (.int .i64 0), (.int .i64 0)]), none, []⟩, ⟨none, (.st 4 (.t 9) (.t 21)), none, [4, 3, 0, 1, 2, 3, 4]⟩] false) (.seq (.seq (.reg [⟨(some 22), (.fa 1 (.t 9)), none, []⟩, ⟨(some 23), (.ld false 1 (.t 22)), none, [0]⟩, ⟨(some 24), (.bin .lss (.t 23) (.c (.int .i64 0))), none, [1]⟩, ⟨(some 25), (.mv (.t 24)), none, [2]⟩, ⟨(some 26), (.fa 1 (.t 9)), (some (25, false)), [3]⟩, ⟨(some 27), (.ld false 1 (.t 26)), (some (25, false)), [4, 3]⟩, ⟨(some 28), (.mv (.t 1)), (some (25, false)), [3]⟩, ⟨(some 29), (.len (.t 28)), (some (25, false)), [6, 3]⟩, ⟨(some 30), (.bin .geq (.t 27) (.t 29)), (some (25, false)), [5, 7, 3]⟩, ⟨(some 31), (.pick (.t 25) (.c (.bool true)) (.t 30)), none, [3, 8]⟩, ⟨(some 32), (.mv (.t 31)), none, [9, 3]⟩, ⟨(some 33), (.mv (.t 1)), (some (32, false)), [10]⟩, ⟨(some 34), (.fa 1 (.t 9)), (some (32, false)), [10]⟩, ⟨(some 35), (.ld false 1 (.t 34)), (some (32, false)), [12, 10]⟩, ⟨(some 36), (.ixsl 1 (.t 33) (.t 35)), (some (32, false)), [11, 13, 10]⟩, ⟨(some 37), (.ld false 1 (.t 36)), (some (32, false)), [14, 10]⟩, ⟨(some 38), (.fa 2 (.t 9)), (some (32, false)), [10]⟩, ⟨(some 39), (.ld false 1 (.t 38)), (some (32, false)), [16, 10]⟩, ⟨(some 40), (.bin .geq (.t 37) (.t 39)), (some (32, false)), [15, 17, 10]⟩, ⟨(some 41), (.mv (.t 40)), (some (32, false)), [18, 10, 10]⟩, ⟨(some 42), (.mv (.t 1)), (some (41, true)), [19]⟩, ⟨(some 43), (.fa 1 (.t 9)), (some (41, true)), [19]⟩, ⟨(some 44), (.ld false 1 (.t 43)), (some (41, true)), [21, 19]⟩, ⟨(some 45), (.ixsl 1 (.t 42) (.t 44)), (some (41, true)), [20, 22, 19]⟩, ⟨(some 46), (.ld false 1 (.t 45)), (some (41, true)), [23, 19]⟩, ⟨(some 47), (.fa 3 (.t 9)), (some (41, true)), [19]⟩, ⟨(some 48), (.ld false 1 (.t 47)), (some (41, true)), [25, 19]⟩, ⟨(some 49), (.bin .leq (.t 46) (.t 48)), (some (41, true)), [24, 26, 19]⟩, ⟨(some 50), (.pick (.t 41) (.t 49) (.c (.bool false))), (some (32, false)), [19, 27, 10]⟩, ⟨(some 51), (.pick (.t 32) (.c (.bool true)) (.t 50)), none, [10, 28]⟩] true) (.cond (.t 51) (.exit 1) .skip)) (.seq (.reg [⟨(some 10), (.mv (.c (.bool false))), none, []⟩] false) (.seq (.seq (.reg [⟨(some 11), (.mv (.c (.int .i64 0))), none, []⟩] false) (.block 2 (.loop (.seq (.seq (.reg [⟨(some 52), (.mv (.t 11)), none, []⟩, ⟨(some 53), (.mv (.t 7)), none, []⟩, ⟨(some 54), (.len (.t 53)), none, [1]⟩, ⟨(some 55), (.bin .lss (.t 52) (.t 54)), none, [0, 2]⟩] false) (.cond (.t 55) .skip (.exit 2))) (.seq (.block 3 (.reg [⟨(some 58), (.mv (.t 10)), none, []⟩, ⟨(some 59), (.mv (.t 58)), none, [0]⟩, ⟨(some 60), (.mv (.t 7)), (some (59, false)), [1]⟩, ⟨(some 61), (.mv (.t 11)), (some (59, false)), [1]⟩, ⟨(some 62), (.ixsl 1 (.t 60) (.t 61)), (some (59, false)), [2, 3, 1]⟩, ⟨(some 63), (.ld false 1 (.t 62)), (some (59, false)), [4, 1]⟩, ⟨(some 64), (.fa 0 (.t 9)), (some (59, false)), [1]⟩, ⟨(some 65), (.ld false 1 (.t 64)), (some (59, false)), [6, 1]⟩, ⟨(some 66), (.bin .eql (.t 63) (.t 65)), (some (59, false)), [5, 7, 1]⟩, ⟨(some 67), (.pick (.t 59) (.c (.bool true)) (.t 66)), none, [1, 8]⟩, ⟨(some 10), (.mv (.t 67)), none, [9, 1, 0, 1, 2, 3, 4, 5, 6, 7, 8, 9]⟩] true)) (.reg [⟨(some 56), (.mv (.t 11)), none, []⟩, ⟨(some 57), (.bin .add (.t 56) (.c (.int .i64 1))), none, [0]⟩, ⟨(some 11), (.mv (.t 57)), none, [1, 0, 1]⟩] false)))))) (.seq (.reg [⟨(some 68), (.mv (.t 10)), none, []⟩, ⟨(some 69), (.un .not (.t 68)), none, [0]⟩] false) (.cond (.t 69) (.reg [⟨(some 70), (.mv (.t 7)), none, []⟩, ⟨(some 71), (.fa 0 (.t 9)), none, []⟩, ⟨(some 72), (.ld false 1 (.t 71)), none, [1]⟩, ⟨(some 73), (.bslice 3 1 [(.int .i64 0)] 1 [(0, (.t 72))]), none, [2]⟩, ⟨(some 74), (.app 3 1 8 [(.int .i64 0)] (.t 70) (.t 73)), none, [0, 3]⟩, ⟨(some 7), (.mv (.t 74)), none, [4, 4, 0, 1, 2, 3, 4]⟩] false) .skip))))))) (.reg [⟨(some 16), (.mv (.t 8)), none, []⟩, ⟨(some 17), (.bin .add (.t 16) (.c (.int .i64 1))), none, [0]⟩, ⟨(some 8), (.mv (.t 17)), none, [1, 0, 1]⟩] false)))))) (.seq (.reg [⟨(some 75), (.mv (.t 7)), none, []⟩, ⟨(some 76), (.len (.t 75)), none, [0]⟩, ⟨(some 77), (.mv (.t 2)), none, []⟩, ⟨(some 78), (.bin .leq (.t 76) (.t 77)), none, [1, 2]⟩, ⟨(some 6), (.mv (.t 78)), none, [3, 0, 1, 2, 3]⟩] false) .ret))))
theorem mcOk27 : (match Try.f27.body with | some c => compC Try.prog 79 c | none => none) = some mc27 := by kernel_rfl

theorem fc27 (l : List Rd) (v : List Int) (lies : Int) (hl : l.length ≤ 1000000) : FC Try.prog 27 [.rs 4 (l.map cR), ints v, iv lies] [] (.bool (agreeS l v lies)) [] false := by
  refine fc_run (nt := 79) Try.func27 rfl rfl mcOk27 (Nat.le_of_ble_eq_true rfl) ?_
  delta mc27
  refine aw_seq ?_
  refine aw_reg ?_
  refine rs_mv rfl rfl ?_
  refine rs_nil fun _ => ?_
  refine th_n ?_
  refine aw_seq ?_
  refine aw_reg ?_
  refine rs_mv rfl rfl ?_
  refine rs_nil fun _ => ?_
  refine th_n ?_
  refine aw_seq ?_
  refine aw_seq ?_
  refine aw_reg ?_
  refine rs_mv rfl rfl ?_
  refine rs_nil fun _ => ?_
  refine th_n ?_
  refine aw_block ?_
  refine aw_fam (α := Nat) (fun k => l.length - k) (fun k => [(0, .rs 4 (l.map cR)), (1, ints v), (2, iv lies), (7, .sl 1074 0 ((l.take (k)).foldl (addW v) []).length), (8, iv (((k) : Nat) : Int))]) (fun k => [(1074, .cells 3 1 (((l.take (k)).foldl (addW v) []).map ci) true)]) (fun k => k ≤ l.length) 0 (by omega)
    (weak_to (.cons rfl (rc_same rfl (.inl rfl)) (.cons rfl (rc_same rfl (.inl rfl)) (.cons rfl (rc_same rfl (.inl rfl)) (.cons rfl (rc_virt rfl rfl) (.cons rfl (rc_same rfl (.inl rfl)) (.nil)))))) (.virt rfl (.nil)) (fun i h => by cases h)) ?_
  intro k hk
  have hwl := wrongK_le v l k
  refine aw_seq ?_
  refine aw_seq ?_
  refine aw_reg ?_
  refine rs_mv rfl rfl ?_
  refine rs_mv rfl rfl ?_
  first | refine rs_len_m rfl rfl ?_ | refine rs_len_s rfl rfl ?_ | refine rs_len_n rfl rfl ?_ | refine rs_len_r rfl rfl rfl ?_
  refine rs_lss rfl rfl rfl ?_
  refine rs_nil fun _ => ?_
  refine th_n ?_
  refine aw_cond rfl (fun h15 => ?_) (fun h15 => ?_)
  · first | replace h15 := of_decide_eq_true h15 | skip
    refine aw_skip ?_
    refine th_n ?_
    refine aw_seq ?_
    refine aw_block ?_
    refine aw_seq ?_
    refine aw_reg ?_
    have hkl : k < l.length := by omega
    have hst := fold_take (addW v) [] l k hkl
    refine rs_mv rfl rfl ?_
    refine rs_mv rfl rfl ?_
    first | refine rs_ix_m rfl rfl rfl (by omega) ?_ | refine rs_ix_sm rfl rfl rfl rfl (by omega) ?_
    first | refine rs_ld_pa rfl rfl rfl rfl (Nat.le_of_ble_eq_true rfl) rfl ?_ | refine rs_ld_ra rfl rfl (Nat.le_of_ble_eq_true rfl) rfl ?_ | refine rs_ld_ma rfl rfl rfl (by omega) (Nat.le_of_ble_eq_true rfl) rfl ?_
    refine rs_alloc rfl rfl rfl ?_
    refine rs_st rfl rfl rfl rfl rfl rfl rfl (Nat.le_of_ble_eq_true rfl) rfl rfl ?_
    refine rs_nil fun _ => ?_
    refine th_n ?_
    refine aw_seq ?_
    refine aw_seq ?_
    refine aw_draw hmix ?_
    first | refine rs_fa_p rfl rfl ?_ | refine rs_fa_r rfl rfl rfl ?_
    first | refine rs_ld_r rfl rfl rfl ?_ | refine rs_ld_p rfl rfl rfl rfl rfl ?_ | refine rs_ld_m rfl rfl rfl (by omega) rfl ?_
    refine rs_cmp rfl rfl rfl rfl (fun h24 => ?_) (fun h24 => ?_)
    · skip
      refine rs_mv rfl rfl ?_
      refine rs_skip rfl ?_
      refine rs_skip rfl ?_
      refine rs_skip rfl ?_
      refine rs_skip rfl ?_
      refine rs_skip rfl ?_
      refine rs_pick rfl rfl rfl ?_
      refine rs_mv rfl rfl ?_
      refine rs_skip rfl ?_
      refine rs_skip rfl ?_
      refine rs_skip rfl ?_
      refine rs_skip rfl ?_
      refine rs_skip rfl ?_
      refine rs_skip rfl ?_
      refine rs_skip rfl ?_
      refine rs_skip rfl ?_
      refine rs_skip rfl ?_
      refine rs_skip rfl ?_
      refine rs_skip rfl ?_
      refine rs_skip rfl ?_
      refine rs_skip rfl ?_
      refine rs_skip rfl ?_
      refine rs_skip rfl ?_
      refine rs_skip rfl ?_
      refine rs_skip rfl ?_
      refine rs_skip rfl ?_
      refine rs_pick rfl rfl rfl ?_
      refine rs_nil ⟨by kernel_rfl, fun _ => ?_⟩
      refine th_n ?_
      refine aw_cond rfl (fun _ => ?_) (fun h => by cases h)
      refine aw_exit ?_
      refine th_e ?_
      refine in_hit ?_
      refine th_n ?_
      refine aw_reg ?_
      refine rs_mv rfl rfl ?_
      first | refine rs_add rfl rfl rfl (by omega) ?_ | refine rs_addw rfl rfl rfl rfl ?_
      refine rs_mv rfl rfl ?_
      refine rs_nil fun _ => ?_
      refine th_n ?_
      refine ⟨k + 1, by omega, by omega, ?_⟩
      first
        | (have hs : ((l.take (k + 1)).foldl (addW v) []) = ((l.take (k)).foldl (addW v) []) := (by rw [hst, addW, if_neg (show ¬ isWrong v l[k] from fun h => by obtain ⟨a1, a2, a3⟩ := h; first | omega | (rw [← wrong_at a1 a2] at a3; omega))]); exact weak_to (.cons rfl (rc_same rfl (.inl rfl)) (.cons rfl (rc_same rfl (.inl rfl)) (.cons rfl (rc_same rfl (.inl rfl)) (.cons rfl (rc_eq (by rw [hs]) rfl) (.cons rfl (rc_same rfl (.inl rfl)) (.nil)))))) (.keep ((by (rw [hs]) <;> rfl)) rfl (.nil)) (fun i h => by cases h))
        | (obtain rfl : q = ((l.take (k)).foldl (addW v) []).length := by omega
           rw [List.take_length] at h69
           have hs : ((l.take (k + 1)).foldl (addW v) []) = ((l.take (k)).foldl (addW v) []) := (by rw [hst, addW, if_pos (show isWrong v l[k] from ⟨by omega, by omega, by rw [← wrong_at (by omega) (by omega)]; omega⟩), addK, if_pos (by simpa using h69)]); exact weak_to (.cons rfl (rc_same rfl (.inl rfl)) (.cons rfl (rc_same rfl (.inl rfl)) (.cons rfl (rc_same rfl (.inl rfl)) (.cons rfl (rc_eq (by rw [hs]) rfl) (.cons rfl (rc_same rfl (.inl rfl)) (.nil)))))) (.keep ((by (rw [hs]) <;> rfl)) rfl (.nil)) (fun i h => by cases h))
        | (obtain rfl : q = ((l.take (k)).foldl (addW v) []).length := by omega
           rw [List.take_length] at h69
           have hs : ((l.take (k + 1)).foldl (addW v) []) = ((l.take (k)).foldl (addW v) []) ++ [l[k].probe] := (by rw [hst, addW, if_pos (show isWrong v l[k] from ⟨by omega, by omega, by rw [← wrong_at (by omega) (by omega)]; omega⟩), addK, if_neg (by simpa using h69)]); exact weak_to_ren (i := 74) (i' := 1074) (F1 := [(0, .rs 4 (l.map cR)), (1, ints v), (2, iv lies), (7, .sl 74 0 ((l.take (k + 1)).foldl (addW v) []).length), (8, iv (((k + 1) : Nat) : Int))]) (H1 := [(74, .cells 3 1 (((l.take (k + 1)).foldl (addW v) []).map ci) true)]) (.cons rfl (rc_same rfl (.inl rfl)) (.cons rfl (rc_same rfl (.inl rfl)) (.cons rfl (rc_same rfl (.inl rfl)) (.cons rfl (rc_eq (by rw [hs]; simp) rfl) (.cons rfl (rc_same rfl (.inl rfl)) (.nil)))))) (.keep ((by (rw [hs]) <;> rfl)) rfl (.nil)) (fun i h => by cases h) rfl rfl (.cons rfl (.same _) (.cons rfl (.same _) (.cons rfl (.same _) (.cons rfl (.sl _ _) (.cons rfl (.same _) (.nil)))))) (.cons rfl (rc_same rfl (.inl rfl)) (.cons rfl (rc_same rfl (.inl rfl)) (.cons rfl (rc_same rfl (.inl rfl)) (.cons rfl (rc_same rfl (.inl rfl)) (.cons rfl (rc_same rfl (.inl rfl)) (.nil)))))) (.keep (rfl) rfl (.nil)) (fun i h => by cases h))
    · skip
      refine rs_mv rfl rfl ?_
      first | refine rs_fa_p rfl rfl ?_ | refine rs_fa_r rfl rfl rfl ?_
      first | refine rs_ld_r rfl rfl rfl ?_ | refine rs_ld_p rfl rfl rfl rfl rfl ?_ | refine rs_ld_m rfl rfl rfl (by omega) rfl ?_
      refine rs_mv rfl rfl ?_
      first | refine rs_len_m rfl rfl ?_ | refine rs_len_s rfl rfl ?_ | refine rs_len_n rfl rfl ?_ | refine rs_len_r rfl rfl rfl ?_
      refine rs_cmp rfl rfl rfl rfl (fun h30 => ?_) (fun h30 => ?_)
      · skip
        refine rs_pick rfl rfl rfl ?_
        refine rs_mv rfl rfl ?_
        refine rs_skip rfl ?_
        refine rs_skip rfl ?_
        refine rs_skip rfl ?_
        refine rs_skip rfl ?_
        refine rs_skip rfl ?_
        refine rs_skip rfl ?_
        refine rs_skip rfl ?_
        refine rs_skip rfl ?_
        refine rs_skip rfl ?_
        refine rs_skip rfl ?_
        refine rs_skip rfl ?_
        refine rs_skip rfl ?_
        refine rs_skip rfl ?_
        refine rs_skip rfl ?_
        refine rs_skip rfl ?_
        refine rs_skip rfl ?_
        refine rs_skip rfl ?_
        refine rs_skip rfl ?_
        refine rs_pick rfl rfl rfl ?_
        refine rs_nil ⟨by kernel_rfl, fun _ => ?_⟩
        refine th_n ?_
        refine aw_cond rfl (fun _ => ?_) (fun h => by cases h)
        refine aw_exit ?_
        refine th_e ?_
        refine in_hit ?_
        refine th_n ?_
        refine aw_reg ?_
        refine rs_mv rfl rfl ?_
        first | refine rs_add rfl rfl rfl (by omega) ?_ | refine rs_addw rfl rfl rfl rfl ?_
        refine rs_mv rfl rfl ?_
        refine rs_nil fun _ => ?_
        refine th_n ?_
        refine ⟨k + 1, by omega, by omega, ?_⟩
        first
          | (have hs : ((l.take (k + 1)).foldl (addW v) []) = ((l.take (k)).foldl (addW v) []) := (by rw [hst, addW, if_neg (show ¬ isWrong v l[k] from fun h => by obtain ⟨a1, a2, a3⟩ := h; first | omega | (rw [← wrong_at a1 a2] at a3; omega))]); exact weak_to (.cons rfl (rc_same rfl (.inl rfl)) (.cons rfl (rc_same rfl (.inl rfl)) (.cons rfl (rc_same rfl (.inl rfl)) (.cons rfl (rc_eq (by rw [hs]) rfl) (.cons rfl (rc_same rfl (.inl rfl)) (.nil)))))) (.keep ((by (rw [hs]) <;> rfl)) rfl (.nil)) (fun i h => by cases h))
          | (obtain rfl : q = ((l.take (k)).foldl (addW v) []).length := by omega
             rw [List.take_length] at h69
             have hs : ((l.take (k + 1)).foldl (addW v) []) = ((l.take (k)).foldl (addW v) []) := (by rw [hst, addW, if_pos (show isWrong v l[k] from ⟨by omega, by omega, by rw [← wrong_at (by omega) (by omega)]; omega⟩), addK, if_pos (by simpa using h69)]); exact weak_to (.cons rfl (rc_same rfl (.inl rfl)) (.cons rfl (rc_same rfl (.inl rfl)) (.cons rfl (rc_same rfl (.inl rfl)) (.cons rfl (rc_eq (by rw [hs]) rfl) (.cons rfl (rc_same rfl (.inl rfl)) (.nil)))))) (.keep ((by (rw [hs]) <;> rfl)) rfl (.nil)) (fun i h => by cases h))
          | (obtain rfl : q = ((l.take (k)).foldl (addW v) []).length := by omega
             rw [List.take_length] at h69
             have hs : ((l.take (k + 1)).foldl (addW v) []) = ((l.take (k)).foldl (addW v) []) ++ [l[k].probe] := (by rw [hst, addW, if_pos (show isWrong v l[k] from ⟨by omega, by omega, by rw [← wrong_at (by omega) (by omega)]; omega⟩), addK, if_neg (by simpa using h69)]); exact weak_to_ren (i := 74) (i' := 1074) (F1 := [(0, .rs 4 (l.map cR)), (1, ints v), (2, iv lies), (7, .sl 74 0 ((l.take (k + 1)).foldl (addW v) []).length), (8, iv (((k + 1) : Nat) : Int))]) (H1 := [(74, .cells 3 1 (((l.take (k + 1)).foldl (addW v) []).map ci) true)]) (.cons rfl (rc_same rfl (.inl rfl)) (.cons rfl (rc_same rfl (.inl rfl)) (.cons rfl (rc_same rfl (.inl rfl)) (.cons rfl (rc_eq (by rw [hs]; simp) rfl) (.cons rfl (rc_same rfl (.inl rfl)) (.nil)))))) (.keep ((by (rw [hs]) <;> rfl)) rfl (.nil)) (fun i h => by cases h) rfl rfl (.cons rfl (.same _) (.cons rfl (.same _) (.cons rfl (.same _) (.cons rfl (.sl _ _) (.cons rfl (.same _) (.nil)))))) (.cons rfl (rc_same rfl (.inl rfl)) (.cons rfl (rc_same rfl (.inl rfl)) (.cons rfl (rc_same rfl (.inl rfl)) (.cons rfl (rc_same rfl (.inl rfl)) (.cons rfl (rc_same rfl (.inl rfl)) (.nil)))))) (.keep (rfl) rfl (.nil)) (fun i h => by cases h))
      · skip
        refine rs_pick rfl rfl rfl ?_
        refine rs_mv rfl rfl ?_
        refine rs_mv rfl rfl ?_
        first | refine rs_fa_p rfl rfl ?_ | refine rs_fa_r rfl rfl rfl ?_
        first | refine rs_ld_r rfl rfl rfl ?_ | refine rs_ld_p rfl rfl rfl rfl rfl ?_ | refine rs_ld_m rfl rfl rfl (by omega) rfl ?_
        refine rs_ix_mi rfl rfl rfl (by omega) (by omega) ?_
        first | refine rs_ld_r rfl rfl rfl ?_ | refine rs_ld_p rfl rfl rfl rfl rfl ?_ | refine rs_ld_m rfl rfl rfl (by omega) rfl ?_
        first | refine rs_fa_p rfl rfl ?_ | refine rs_fa_r rfl rfl rfl ?_
        first | refine rs_ld_r rfl rfl rfl ?_ | refine rs_ld_p rfl rfl rfl rfl rfl ?_ | refine rs_ld_m rfl rfl rfl (by omega) rfl ?_
        refine rs_cmp rfl rfl rfl rfl (fun h40 => ?_) (fun h40 => ?_)
        · skip
          refine rs_mv rfl rfl ?_
          refine rs_mv rfl rfl ?_
          first | refine rs_fa_p rfl rfl ?_ | refine rs_fa_r rfl rfl rfl ?_
          first | refine rs_ld_r rfl rfl rfl ?_ | refine rs_ld_p rfl rfl rfl rfl rfl ?_ | refine rs_ld_m rfl rfl rfl (by omega) rfl ?_
          refine rs_ix_mi rfl rfl rfl (by omega) (by omega) ?_
          first | refine rs_ld_r rfl rfl rfl ?_ | refine rs_ld_p rfl rfl rfl rfl rfl ?_ | refine rs_ld_m rfl rfl rfl (by omega) rfl ?_
          first | refine rs_fa_p rfl rfl ?_ | refine rs_fa_r rfl rfl rfl ?_
          first | refine rs_ld_r rfl rfl rfl ?_ | refine rs_ld_p rfl rfl rfl rfl rfl ?_ | refine rs_ld_m rfl rfl rfl (by omega) rfl ?_
          refine rs_cmp rfl rfl rfl rfl (fun h49 => ?_) (fun h49 => ?_)
          · skip
            refine rs_pick rfl rfl rfl ?_
            refine rs_pick rfl rfl rfl ?_
            refine rs_nil ⟨by kernel_rfl, fun _ => ?_⟩
            refine th_n ?_
            refine aw_cond rfl (fun _ => ?_) (fun h => by cases h)
            refine aw_exit ?_
            refine th_e ?_
            refine in_hit ?_
            refine th_n ?_
            refine aw_reg ?_
            refine rs_mv rfl rfl ?_
            first | refine rs_add rfl rfl rfl (by omega) ?_ | refine rs_addw rfl rfl rfl rfl ?_
            refine rs_mv rfl rfl ?_
            refine rs_nil fun _ => ?_
            refine th_n ?_
            refine ⟨k + 1, by omega, by omega, ?_⟩
            first
              | (have hs : ((l.take (k + 1)).foldl (addW v) []) = ((l.take (k)).foldl (addW v) []) := (by rw [hst, addW, if_neg (show ¬ isWrong v l[k] from fun h => by obtain ⟨a1, a2, a3⟩ := h; first | omega | (rw [← wrong_at a1 a2] at a3; omega))]); exact weak_to (.cons rfl (rc_same rfl (.inl rfl)) (.cons rfl (rc_same rfl (.inl rfl)) (.cons rfl (rc_same rfl (.inl rfl)) (.cons rfl (rc_eq (by rw [hs]) rfl) (.cons rfl (rc_same rfl (.inl rfl)) (.nil)))))) (.keep ((by (rw [hs]) <;> rfl)) rfl (.nil)) (fun i h => by cases h))
              | (obtain rfl : q = ((l.take (k)).foldl (addW v) []).length := by omega
                 rw [List.take_length] at h69
                 have hs : ((l.take (k + 1)).foldl (addW v) []) = ((l.take (k)).foldl (addW v) []) := (by rw [hst, addW, if_pos (show isWrong v l[k] from ⟨by omega, by omega, by rw [← wrong_at (by omega) (by omega)]; omega⟩), addK, if_pos (by simpa using h69)]); exact weak_to (.cons rfl (rc_same rfl (.inl rfl)) (.cons rfl (rc_same rfl (.inl rfl)) (.cons rfl (rc_same rfl (.inl rfl)) (.cons rfl (rc_eq (by rw [hs]) rfl) (.cons rfl (rc_same rfl (.inl rfl)) (.nil)))))) (.keep ((by (rw [hs]) <;> rfl)) rfl (.nil)) (fun i h => by cases h))
              | (obtain rfl : q = ((l.take (k)).foldl (addW v) []).length := by omega
                 rw [List.take_length] at h69
                 have hs : ((l.take (k + 1)).foldl (addW v) []) = ((l.take (k)).foldl (addW v) []) ++ [l[k].probe] := (by rw [hst, addW, if_pos (show isWrong v l[k] from ⟨by omega, by omega, by rw [← wrong_at (by omega) (by omega)]; omega⟩), addK, if_neg (by simpa using h69)]); exact weak_to_ren (i := 74) (i' := 1074) (F1 := [(0, .rs 4 (l.map cR)), (1, ints v), (2, iv lies), (7, .sl 74 0 ((l.take (k + 1)).foldl (addW v) []).length), (8, iv (((k + 1) : Nat) : Int))]) (H1 := [(74, .cells 3 1 (((l.take (k + 1)).foldl (addW v) []).map ci) true)]) (.cons rfl (rc_same rfl (.inl rfl)) (.cons rfl (rc_same rfl (.inl rfl)) (.cons rfl (rc_same rfl (.inl rfl)) (.cons rfl (rc_eq (by rw [hs]; simp) rfl) (.cons rfl (rc_same rfl (.inl rfl)) (.nil)))))) (.keep ((by (rw [hs]) <;> rfl)) rfl (.nil)) (fun i h => by cases h) rfl rfl (.cons rfl (.same _) (.cons rfl (.same _) (.cons rfl (.same _) (.cons rfl (.sl _ _) (.cons rfl (.same _) (.nil)))))) (.cons rfl (rc_same rfl (.inl rfl)) (.cons rfl (rc_same rfl (.inl rfl)) (.cons rfl (rc_same rfl (.inl rfl)) (.cons rfl (rc_same rfl (.inl rfl)) (.cons rfl (rc_same rfl (.inl rfl)) (.nil)))))) (.keep (rfl) rfl (.nil)) (fun i h => by cases h))
          · skip
            refine rs_pick rfl rfl rfl ?_
            refine rs_pick rfl rfl rfl ?_
            refine rs_nil ⟨by kernel_rfl, fun _ => ?_⟩
            refine th_n ?_
            refine aw_cond rfl (fun h => by cases h) (fun _ => ?_)
            refine aw_skip ?_
            refine th_n ?_
            refine aw_seq ?_
            refine aw_reg ?_
            refine rs_mv rfl rfl ?_
            refine rs_nil fun _ => ?_
            refine th_n ?_
            refine aw_seq ?_
            refine aw_seq ?_
            refine aw_reg ?_
            refine rs_mv rfl rfl ?_
            refine rs_nil fun _ => ?_
            refine th_n ?_
            refine aw_block ?_
            refine aw_fam (α := Nat) (fun q => ((l.take (k)).foldl (addW v) []).length - q) (fun q => [(0, .rs 4 (l.map cR)), (1, ints v), (2, iv lies), (7, .sl 1074 0 ((l.take (k)).foldl (addW v) []).length), (8, iv (k : Int)), (9, .ptr 9 0 0), (10, .bool ((((l.take (k)).foldl (addW v) []).take (q)).contains l[k].probe)), (11, iv (((q) : Nat) : Int))]) (fun q => [(1074, .cells 3 1 (((l.take (k)).foldl (addW v) []).map ci) true), (9, .cells 50 4 [cR l[k]] true)]) (fun q => q ≤ ((l.take (k)).foldl (addW v) []).length) 0 (by omega)
              (weak_to (.cons rfl (rc_same rfl (.inl rfl)) (.cons rfl (rc_same rfl (.inl rfl)) (.cons rfl (rc_same rfl (.inl rfl)) (.cons rfl (rc_same rfl (.inl rfl)) (.cons rfl (rc_same rfl (.inl rfl)) (.cons rfl (rc_same rfl (.inl rfl)) (.cons rfl (rc_eq (by simp) rfl) (.cons rfl (rc_same rfl (.inl rfl)) (.nil))))))))) (.keep (rfl) rfl (.keep (rfl) rfl (.nil))) (fun i h => by cases h)) ?_
            intro q hq
            refine aw_seq ?_
            refine aw_seq ?_
            refine aw_reg ?_
            refine rs_mv rfl rfl ?_
            refine rs_mv rfl rfl ?_
            first | refine rs_len_m rfl rfl ?_ | refine rs_len_s rfl rfl ?_ | refine rs_len_n rfl rfl ?_ | refine rs_len_r rfl rfl rfl ?_
            refine rs_lss rfl rfl rfl ?_
            refine rs_nil fun _ => ?_
            refine th_n ?_
            refine aw_cond rfl (fun h55 => ?_) (fun h55 => ?_)
            · first | replace h55 := of_decide_eq_true h55 | skip
              refine aw_skip ?_
              refine th_n ?_
              refine aw_seq ?_
              refine aw_block ?_
              refine aw_draw hmix ?_
              refine rs_mv rfl rfl ?_
              cases h58 : ((((l.take (k)).foldl (addW v) []).take (q)).contains l[k].probe)
              · skip
                refine rs_mv rfl rfl ?_
                refine rs_mv rfl rfl ?_
                refine rs_mv rfl rfl ?_
                refine rs_ix_sm (t := q) rfl rfl rfl rfl (by omega) ?_
                refine rs_ld_m rfl rfl rfl (by omega) rfl ?_
                first | refine rs_fa_p rfl rfl ?_ | refine rs_fa_r rfl rfl rfl ?_
                first | refine rs_ld_r rfl rfl rfl ?_ | refine rs_ld_p rfl rfl rfl rfl rfl ?_ | refine rs_ld_m rfl rfl rfl (by omega) rfl ?_
                refine rs_cmp rfl rfl rfl rfl (fun h66 => ?_) (fun h66 => ?_)
                · skip
                  refine rs_pick rfl rfl rfl ?_
                  refine rs_mv rfl rfl ?_
                  refine rs_nil ⟨by kernel_rfl, fun _ => ?_⟩
                  refine in_n ?_
                  refine th_n ?_
                  refine aw_reg ?_
                  refine rs_mv rfl rfl ?_
                  first | refine rs_add rfl rfl rfl (by omega) ?_ | refine rs_addw rfl rfl rfl rfl ?_
                  refine rs_mv rfl rfl ?_
                  refine rs_nil fun _ => ?_
                  refine th_n ?_
                  refine ⟨q + 1, by omega, by omega, ?_⟩
                  have hcs := contains_succ ((l.take (k)).foldl (addW v) []) q l[k].probe (by omega)
                  first
                    | exact weak_to (.cons rfl (rc_same rfl (.inl rfl)) (.cons rfl (rc_same rfl (.inl rfl)) (.cons rfl (rc_same rfl (.inl rfl)) (.cons rfl (rc_same rfl (.inl rfl)) (.cons rfl (rc_same rfl (.inl rfl)) (.cons rfl (rc_same rfl (.inl rfl)) (.cons rfl (rc_eq (by rw [hcs, h58, decide_eq_true h66]; rfl) rfl) (.cons rfl (rc_same rfl (.inl rfl)) (.nil))))))))) (.keep (rfl) rfl (.keep (rfl) rfl (.nil))) (fun i h => by cases h)
                    | exact weak_to (.cons rfl (rc_same rfl (.inl rfl)) (.cons rfl (rc_same rfl (.inl rfl)) (.cons rfl (rc_same rfl (.inl rfl)) (.cons rfl (rc_same rfl (.inl rfl)) (.cons rfl (rc_same rfl (.inl rfl)) (.cons rfl (rc_same rfl (.inl rfl)) (.cons rfl (rc_eq (by rw [hcs, h58, decide_eq_false h66]; rfl) rfl) (.cons rfl (rc_same rfl (.inl rfl)) (.nil))))))))) (.keep (rfl) rfl (.keep (rfl) rfl (.nil))) (fun i h => by cases h)
                    | exact weak_to (.cons rfl (rc_same rfl (.inl rfl)) (.cons rfl (rc_same rfl (.inl rfl)) (.cons rfl (rc_same rfl (.inl rfl)) (.cons rfl (rc_same rfl (.inl rfl)) (.cons rfl (rc_same rfl (.inl rfl)) (.cons rfl (rc_same rfl (.inl rfl)) (.cons rfl (rc_eq (by rw [hcs, h58]; rfl) rfl) (.cons rfl (rc_same rfl (.inl rfl)) (.nil))))))))) (.keep (rfl) rfl (.keep (rfl) rfl (.nil))) (fun i h => by cases h)
                · skip
                  refine rs_pick rfl rfl rfl ?_
                  refine rs_mv rfl rfl ?_
                  refine rs_nil ⟨by kernel_rfl, fun _ => ?_⟩
                  refine in_n ?_
                  refine th_n ?_
                  refine aw_reg ?_
                  refine rs_mv rfl rfl ?_
                  first | refine rs_add rfl rfl rfl (by omega) ?_ | refine rs_addw rfl rfl rfl rfl ?_
                  refine rs_mv rfl rfl ?_
                  refine rs_nil fun _ => ?_
                  refine th_n ?_
                  refine ⟨q + 1, by omega, by omega, ?_⟩
                  have hcs := contains_succ ((l.take (k)).foldl (addW v) []) q l[k].probe (by omega)
                  first
                    | exact weak_to (.cons rfl (rc_same rfl (.inl rfl)) (.cons rfl (rc_same rfl (.inl rfl)) (.cons rfl (rc_same rfl (.inl rfl)) (.cons rfl (rc_same rfl (.inl rfl)) (.cons rfl (rc_same rfl (.inl rfl)) (.cons rfl (rc_same rfl (.inl rfl)) (.cons rfl (rc_eq (by rw [hcs, h58, decide_eq_true h66]; rfl) rfl) (.cons rfl (rc_same rfl (.inl rfl)) (.nil))))))))) (.keep (rfl) rfl (.keep (rfl) rfl (.nil))) (fun i h => by cases h)
                    | exact weak_to (.cons rfl (rc_same rfl (.inl rfl)) (.cons rfl (rc_same rfl (.inl rfl)) (.cons rfl (rc_same rfl (.inl rfl)) (.cons rfl (rc_same rfl (.inl rfl)) (.cons rfl (rc_same rfl (.inl rfl)) (.cons rfl (rc_same rfl (.inl rfl)) (.cons rfl (rc_eq (by rw [hcs, h58, decide_eq_false h66]; rfl) rfl) (.cons rfl (rc_same rfl (.inl rfl)) (.nil))))))))) (.keep (rfl) rfl (.keep (rfl) rfl (.nil))) (fun i h => by cases h)
                    | exact weak_to (.cons rfl (rc_same rfl (.inl rfl)) (.cons rfl (rc_same rfl (.inl rfl)) (.cons rfl (rc_same rfl (.inl rfl)) (.cons rfl (rc_same rfl (.inl rfl)) (.cons rfl (rc_same rfl (.inl rfl)) (.cons rfl (rc_same rfl (.inl rfl)) (.cons rfl (rc_eq (by rw [hcs, h58]; rfl) rfl) (.cons rfl (rc_same rfl (.inl rfl)) (.nil))))))))) (.keep (rfl) rfl (.keep (rfl) rfl (.nil))) (fun i h => by cases h)
              · skip
                refine rs_mv rfl rfl ?_
                refine rs_skip rfl ?_
                refine rs_skip rfl ?_
                refine rs_skip rfl ?_
                refine rs_skip rfl ?_
                refine rs_skip rfl ?_
                refine rs_skip rfl ?_
                refine rs_skip rfl ?_
                refine rs_pick rfl rfl rfl ?_
                refine rs_mv rfl rfl ?_
                refine rs_nil ⟨by kernel_rfl, fun _ => ?_⟩
                refine in_n ?_
                refine th_n ?_
                refine aw_reg ?_
                refine rs_mv rfl rfl ?_
                first | refine rs_add rfl rfl rfl (by omega) ?_ | refine rs_addw rfl rfl rfl rfl ?_
                refine rs_mv rfl rfl ?_
                refine rs_nil fun _ => ?_
                refine th_n ?_
                refine ⟨q + 1, by omega, by omega, ?_⟩
                have hcs := contains_succ ((l.take (k)).foldl (addW v) []) q l[k].probe (by omega)
                first
                  | exact weak_to (.cons rfl (rc_same rfl (.inl rfl)) (.cons rfl (rc_same rfl (.inl rfl)) (.cons rfl (rc_same rfl (.inl rfl)) (.cons rfl (rc_same rfl (.inl rfl)) (.cons rfl (rc_same rfl (.inl rfl)) (.cons rfl (rc_same rfl (.inl rfl)) (.cons rfl (rc_eq (by rw [hcs, h58, decide_eq_true h66]; rfl) rfl) (.cons rfl (rc_same rfl (.inl rfl)) (.nil))))))))) (.keep (rfl) rfl (.keep (rfl) rfl (.nil))) (fun i h => by cases h)
                  | exact weak_to (.cons rfl (rc_same rfl (.inl rfl)) (.cons rfl (rc_same rfl (.inl rfl)) (.cons rfl (rc_same rfl (.inl rfl)) (.cons rfl (rc_same rfl (.inl rfl)) (.cons rfl (rc_same rfl (.inl rfl)) (.cons rfl (rc_same rfl (.inl rfl)) (.cons rfl (rc_eq (by rw [hcs, h58, decide_eq_false h66]; rfl) rfl) (.cons rfl (rc_same rfl (.inl rfl)) (.nil))))))))) (.keep (rfl) rfl (.keep (rfl) rfl (.nil))) (fun i h => by cases h)
                  | exact weak_to (.cons rfl (rc_same rfl (.inl rfl)) (.cons rfl (rc_same rfl (.inl rfl)) (.cons rfl (rc_same rfl (.inl rfl)) (.cons rfl (rc_same rfl (.inl rfl)) (.cons rfl (rc_same rfl (.inl rfl)) (.cons rfl (rc_same rfl (.inl rfl)) (.cons rfl (rc_eq (by rw [hcs, h58]; rfl) rfl) (.cons rfl (rc_same rfl (.inl rfl)) (.nil))))))))) (.keep (rfl) rfl (.keep (rfl) rfl (.nil))) (fun i h => by cases h)
            · first | replace h55 := of_decide_eq_false h55 | skip
              refine aw_exit ?_
              refine th_e ?_
              refine th_e ?_
              refine in_hit ?_
              refine th_n ?_
              refine aw_seq ?_
              refine aw_reg ?_
              refine rs_mv rfl rfl ?_
              refine rs_not rfl rfl ?_
              refine rs_nil fun _ => ?_
              refine th_n ?_
              refine aw_cond rfl (fun h69 => ?_) (fun h69 => ?_)
              · first | replace h69 := of_decide_eq_true h69 | skip
                refine aw_reg ?_
                refine rs_mv rfl rfl ?_
                first | refine rs_fa_p rfl rfl ?_ | refine rs_fa_r rfl rfl rfl ?_
                first | refine rs_ld_r rfl rfl rfl ?_ | refine rs_ld_p rfl rfl rfl rfl rfl ?_ | refine rs_ld_m rfl rfl rfl (by omega) rfl ?_
                refine rs_bslice rfl rfl rfl rfl rfl rfl ?_
                refine rs_app_m (y := l[k].probe) rfl rfl rfl rfl rfl rfl rfl rfl (by decide) rfl (by omega) (by omega) rfl ?_
                refine rs_mv rfl rfl ?_
                refine rs_nil fun _ => ?_
                refine in_n ?_
                refine th_n ?_
                refine aw_reg ?_
                refine rs_mv rfl rfl ?_
                first | refine rs_add rfl rfl rfl (by omega) ?_ | refine rs_addw rfl rfl rfl rfl ?_
                refine rs_mv rfl rfl ?_
                refine rs_nil fun _ => ?_
                refine th_n ?_
                refine ⟨k + 1, by omega, by omega, ?_⟩
                first
                  | (have hs : ((l.take (k + 1)).foldl (addW v) []) = ((l.take (k)).foldl (addW v) []) := (by rw [hst, addW, if_neg (show ¬ isWrong v l[k] from fun h => by obtain ⟨a1, a2, a3⟩ := h; first | omega | (rw [← wrong_at a1 a2] at a3; omega))]); exact weak_to (.cons rfl (rc_same rfl (.inl rfl)) (.cons rfl (rc_same rfl (.inl rfl)) (.cons rfl (rc_same rfl (.inl rfl)) (.cons rfl (rc_eq (by rw [hs]) rfl) (.cons rfl (rc_same rfl (.inl rfl)) (.nil)))))) (.keep ((by (rw [hs]) <;> rfl)) rfl (.nil)) (fun i h => by cases h))
                  | (obtain rfl : q = ((l.take (k)).foldl (addW v) []).length := by omega
                     rw [List.take_length] at h69
                     have hs : ((l.take (k + 1)).foldl (addW v) []) = ((l.take (k)).foldl (addW v) []) := (by rw [hst, addW, if_pos (show isWrong v l[k] from ⟨by omega, by omega, by rw [← wrong_at (by omega) (by omega)]; omega⟩), addK, if_pos (by simpa using h69)]); exact weak_to (.cons rfl (rc_same rfl (.inl rfl)) (.cons rfl (rc_same rfl (.inl rfl)) (.cons rfl (rc_same rfl (.inl rfl)) (.cons rfl (rc_eq (by rw [hs]) rfl) (.cons rfl (rc_same rfl (.inl rfl)) (.nil)))))) (.keep ((by (rw [hs]) <;> rfl)) rfl (.nil)) (fun i h => by cases h))
                  | (obtain rfl : q = ((l.take (k)).foldl (addW v) []).length := by omega
                     rw [List.take_length] at h69
                     have hs : ((l.take (k + 1)).foldl (addW v) []) = ((l.take (k)).foldl (addW v) []) ++ [l[k].probe] := (by rw [hst, addW, if_pos (show isWrong v l[k] from ⟨by omega, by omega, by rw [← wrong_at (by omega) (by omega)]; omega⟩), addK, if_neg (by simpa using h69)]); exact weak_to_ren (i := 74) (i' := 1074) (F1 := [(0, .rs 4 (l.map cR)), (1, ints v), (2, iv lies), (7, .sl 74 0 ((l.take (k + 1)).foldl (addW v) []).length), (8, iv (((k + 1) : Nat) : Int))]) (H1 := [(74, .cells 3 1 (((l.take (k + 1)).foldl (addW v) []).map ci) true)]) (.cons rfl (rc_same rfl (.inl rfl)) (.cons rfl (rc_same rfl (.inl rfl)) (.cons rfl (rc_same rfl (.inl rfl)) (.cons rfl (rc_eq (by rw [hs]; simp) rfl) (.cons rfl (rc_same rfl (.inl rfl)) (.nil)))))) (.keep ((by (rw [hs]) <;> rfl)) rfl (.nil)) (fun i h => by cases h) rfl rfl (.cons rfl (.same _) (.cons rfl (.same _) (.cons rfl (.same _) (.cons rfl (.sl _ _) (.cons rfl (.same _) (.nil)))))) (.cons rfl (rc_same rfl (.inl rfl)) (.cons rfl (rc_same rfl (.inl rfl)) (.cons rfl (rc_same rfl (.inl rfl)) (.cons rfl (rc_same rfl (.inl rfl)) (.cons rfl (rc_same rfl (.inl rfl)) (.nil)))))) (.keep (rfl) rfl (.nil)) (fun i h => by cases h))
              · first | replace h69 := of_decide_eq_false h69 | skip
                refine aw_skip ?_
                refine in_n ?_
                refine th_n ?_
                refine aw_reg ?_
                refine rs_mv rfl rfl ?_
                first | refine rs_add rfl rfl rfl (by omega) ?_ | refine rs_addw rfl rfl rfl rfl ?_
                refine rs_mv rfl rfl ?_
                refine rs_nil fun _ => ?_
                refine th_n ?_
                refine ⟨k + 1, by omega, by omega, ?_⟩
                first
                  | (have hs : ((l.take (k + 1)).foldl (addW v) []) = ((l.take (k)).foldl (addW v) []) := (by rw [hst, addW, if_neg (show ¬ isWrong v l[k] from fun h => by obtain ⟨a1, a2, a3⟩ := h; first | omega | (rw [← wrong_at a1 a2] at a3; omega))]); exact weak_to (.cons rfl (rc_same rfl (.inl rfl)) (.cons rfl (rc_same rfl (.inl rfl)) (.cons rfl (rc_same rfl (.inl rfl)) (.cons rfl (rc_eq (by rw [hs]) rfl) (.cons rfl (rc_same rfl (.inl rfl)) (.nil)))))) (.keep ((by (rw [hs]) <;> rfl)) rfl (.nil)) (fun i h => by cases h))
                  | (obtain rfl : q = ((l.take (k)).foldl (addW v) []).length := by omega
                     rw [List.take_length] at h69
                     have hs : ((l.take (k + 1)).foldl (addW v) []) = ((l.take (k)).foldl (addW v) []) := (by rw [hst, addW, if_pos (show isWrong v l[k] from ⟨by omega, by omega, by rw [← wrong_at (by omega) (by omega)]; omega⟩), addK, if_pos (by simpa using h69)]); exact weak_to (.cons rfl (rc_same rfl (.inl rfl)) (.cons rfl (rc_same rfl (.inl rfl)) (.cons rfl (rc_same rfl (.inl rfl)) (.cons rfl (rc_eq (by rw [hs]) rfl) (.cons rfl (rc_same rfl (.inl rfl)) (.nil)))))) (.keep ((by (rw [hs]) <;> rfl)) rfl (.nil)) (fun i h => by cases h))
                  | (obtain rfl : q = ((l.take (k)).foldl (addW v) []).length := by omega
                     rw [List.take_length] at h69
                     have hs : ((l.take (k + 1)).foldl (addW v) []) = ((l.take (k)).foldl (addW v) []) ++ [l[k].probe] := (by rw [hst, addW, if_pos (show isWrong v l[k] from ⟨by omega, by omega, by rw [← wrong_at (by omega) (by omega)]; omega⟩), addK, if_neg (by simpa using h69)]); exact weak_to_ren (i := 74) (i' := 1074) (F1 := [(0, .rs 4 (l.map cR)), (1, ints v), (2, iv lies), (7, .sl 74 0 ((l.take (k + 1)).foldl (addW v) []).length), (8, iv (((k + 1) : Nat) : Int))]) (H1 := [(74, .cells 3 1 (((l.take (k + 1)).foldl (addW v) []).map ci) true)]) (.cons rfl (rc_same rfl (.inl rfl)) (.cons rfl (rc_same rfl (.inl rfl)) (.cons rfl (rc_same rfl (.inl rfl)) (.cons rfl (rc_eq (by rw [hs]; simp) rfl) (.cons rfl (rc_same rfl (.inl rfl)) (.nil)))))) (.keep ((by (rw [hs]) <;> rfl)) rfl (.nil)) (fun i h => by cases h) rfl rfl (.cons rfl (.same _) (.cons rfl (.same _) (.cons rfl (.same _) (.cons rfl (.sl _ _) (.cons rfl (.same _) (.nil)))))) (.cons rfl (rc_same rfl (.inl rfl)) (.cons rfl (rc_same rfl (.inl rfl)) (.cons rfl (rc_same rfl (.inl rfl)) (.cons rfl (rc_same rfl (.inl rfl)) (.cons rfl (rc_same rfl (.inl rfl)) (.nil)))))) (.keep (rfl) rfl (.nil)) (fun i h => by cases h))
        · skip
          refine rs_mv rfl rfl ?_
          refine rs_skip rfl ?_
          refine rs_skip rfl ?_
          refine rs_skip rfl ?_
          refine rs_skip rfl ?_
          refine rs_skip rfl ?_
          refine rs_skip rfl ?_
          refine rs_skip rfl ?_
          refine rs_skip rfl ?_
          refine rs_pick rfl rfl rfl ?_
          refine rs_pick rfl rfl rfl ?_
          refine rs_nil ⟨by kernel_rfl, fun _ => ?_⟩
          refine th_n ?_
          refine aw_cond rfl (fun h => by cases h) (fun _ => ?_)
          refine aw_skip ?_
          refine th_n ?_
          refine aw_seq ?_
          refine aw_reg ?_
          refine rs_mv rfl rfl ?_
          refine rs_nil fun _ => ?_
          refine th_n ?_
          refine aw_seq ?_
          refine aw_seq ?_
          refine aw_reg ?_
          refine rs_mv rfl rfl ?_
          refine rs_nil fun _ => ?_
          refine th_n ?_
          refine aw_block ?_
          refine aw_fam (α := Nat) (fun q => ((l.take (k)).foldl (addW v) []).length - q) (fun q => [(0, .rs 4 (l.map cR)), (1, ints v), (2, iv lies), (7, .sl 1074 0 ((l.take (k)).foldl (addW v) []).length), (8, iv (k : Int)), (9, .ptr 9 0 0), (10, .bool ((((l.take (k)).foldl (addW v) []).take (q)).contains l[k].probe)), (11, iv (((q) : Nat) : Int))]) (fun q => [(1074, .cells 3 1 (((l.take (k)).foldl (addW v) []).map ci) true), (9, .cells 50 4 [cR l[k]] true)]) (fun q => q ≤ ((l.take (k)).foldl (addW v) []).length) 0 (by omega)
            (weak_to (.cons rfl (rc_same rfl (.inl rfl)) (.cons rfl (rc_same rfl (.inl rfl)) (.cons rfl (rc_same rfl (.inl rfl)) (.cons rfl (rc_same rfl (.inl rfl)) (.cons rfl (rc_same rfl (.inl rfl)) (.cons rfl (rc_same rfl (.inl rfl)) (.cons rfl (rc_eq (by simp) rfl) (.cons rfl (rc_same rfl (.inl rfl)) (.nil))))))))) (.keep (rfl) rfl (.keep (rfl) rfl (.nil))) (fun i h => by cases h)) ?_
          intro q hq
          refine aw_seq ?_
          refine aw_seq ?_
          refine aw_reg ?_
          refine rs_mv rfl rfl ?_
          refine rs_mv rfl rfl ?_
          first | refine rs_len_m rfl rfl ?_ | refine rs_len_s rfl rfl ?_ | refine rs_len_n rfl rfl ?_ | refine rs_len_r rfl rfl rfl ?_
          refine rs_lss rfl rfl rfl ?_
          refine rs_nil fun _ => ?_
          refine th_n ?_
          refine aw_cond rfl (fun h55 => ?_) (fun h55 => ?_)
          · first | replace h55 := of_decide_eq_true h55 | skip
            refine aw_skip ?_
            refine th_n ?_
            refine aw_seq ?_
            refine aw_block ?_
            refine aw_draw hmix ?_
            refine rs_mv rfl rfl ?_
            cases h58 : ((((l.take (k)).foldl (addW v) []).take (q)).contains l[k].probe)
            · skip
              refine rs_mv rfl rfl ?_
              refine rs_mv rfl rfl ?_
              refine rs_mv rfl rfl ?_
              refine rs_ix_sm (t := q) rfl rfl rfl rfl (by omega) ?_
              refine rs_ld_m rfl rfl rfl (by omega) rfl ?_
              first | refine rs_fa_p rfl rfl ?_ | refine rs_fa_r rfl rfl rfl ?_
              first | refine rs_ld_r rfl rfl rfl ?_ | refine rs_ld_p rfl rfl rfl rfl rfl ?_ | refine rs_ld_m rfl rfl rfl (by omega) rfl ?_
              refine rs_cmp rfl rfl rfl rfl (fun h66 => ?_) (fun h66 => ?_)
              · skip
                refine rs_pick rfl rfl rfl ?_
                refine rs_mv rfl rfl ?_
                refine rs_nil ⟨by kernel_rfl, fun _ => ?_⟩
                refine in_n ?_
                refine th_n ?_
                refine aw_reg ?_
                refine rs_mv rfl rfl ?_
                first | refine rs_add rfl rfl rfl (by omega) ?_ | refine rs_addw rfl rfl rfl rfl ?_
                refine rs_mv rfl rfl ?_
                refine rs_nil fun _ => ?_
                refine th_n ?_
                refine ⟨q + 1, by omega, by omega, ?_⟩
                have hcs := contains_succ ((l.take (k)).foldl (addW v) []) q l[k].probe (by omega)
                first
                  | exact weak_to (.cons rfl (rc_same rfl (.inl rfl)) (.cons rfl (rc_same rfl (.inl rfl)) (.cons rfl (rc_same rfl (.inl rfl)) (.cons rfl (rc_same rfl (.inl rfl)) (.cons rfl (rc_same rfl (.inl rfl)) (.cons rfl (rc_same rfl (.inl rfl)) (.cons rfl (rc_eq (by rw [hcs, h58, decide_eq_true h66]; rfl) rfl) (.cons rfl (rc_same rfl (.inl rfl)) (.nil))))))))) (.keep (rfl) rfl (.keep (rfl) rfl (.nil))) (fun i h => by cases h)
                  | exact weak_to (.cons rfl (rc_same rfl (.inl rfl)) (.cons rfl (rc_same rfl (.inl rfl)) (.cons rfl (rc_same rfl (.inl rfl)) (.cons rfl (rc_same rfl (.inl rfl)) (.cons rfl (rc_same rfl (.inl rfl)) (.cons rfl (rc_same rfl (.inl rfl)) (.cons rfl (rc_eq (by rw [hcs, h58, decide_eq_false h66]; rfl) rfl) (.cons rfl (rc_same rfl (.inl rfl)) (.nil))))))))) (.keep (rfl) rfl (.keep (rfl) rfl (.nil))) (fun i h => by cases h)
                  | exact weak_to (.cons rfl (rc_same rfl (.inl rfl)) (.cons rfl (rc_same rfl (.inl rfl)) (.cons rfl (rc_same rfl (.inl rfl)) (.cons rfl (rc_same rfl (.inl rfl)) (.cons rfl (rc_same rfl (.inl rfl)) (.cons rfl (rc_same rfl (.inl rfl)) (.cons rfl (rc_eq (by rw [hcs, h58]; rfl) rfl) (.cons rfl (rc_same rfl (.inl rfl)) (.nil))))))))) (.keep (rfl) rfl (.keep (rfl) rfl (.nil))) (fun i h => by cases h)
              · skip
                refine rs_pick rfl rfl rfl ?_
                refine rs_mv rfl rfl ?_
                refine rs_nil ⟨by kernel_rfl, fun _ => ?_⟩
                refine in_n ?_
                refine th_n ?_
                refine aw_reg ?_
                refine rs_mv rfl rfl ?_
                first | refine rs_add rfl rfl rfl (by omega) ?_ | refine rs_addw rfl rfl rfl rfl ?_
                refine rs_mv rfl rfl ?_
                refine rs_nil fun _ => ?_
                refine th_n ?_
                refine ⟨q + 1, by omega, by omega, ?_⟩
                have hcs := contains_succ ((l.take (k)).foldl (addW v) []) q l[k].probe (by omega)
                first
                  | exact weak_to (.cons rfl (rc_same rfl (.inl rfl)) (.cons rfl (rc_same rfl (.inl rfl)) (.cons rfl (rc_same rfl (.inl rfl)) (.cons rfl (rc_same rfl (.inl rfl)) (.cons rfl (rc_same rfl (.inl rfl)) (.cons rfl (rc_same rfl (.inl rfl)) (.cons rfl (rc_eq (by rw [hcs, h58, decide_eq_true h66]; rfl) rfl) (.cons rfl (rc_same rfl (.inl rfl)) (.nil))))))))) (.keep (rfl) rfl (.keep (rfl) rfl (.nil))) (fun i h => by cases h)
                  | exact weak_to (.cons rfl (rc_same rfl (.inl rfl)) (.cons rfl (rc_same rfl (.inl rfl)) (.cons rfl (rc_same rfl (.inl rfl)) (.cons rfl (rc_same rfl (.inl rfl)) (.cons rfl (rc_same rfl (.inl rfl)) (.cons rfl (rc_same rfl (.inl rfl)) (.cons rfl (rc_eq (by rw [hcs, h58, decide_eq_false h66]; rfl) rfl) (.cons rfl (rc_same rfl (.inl rfl)) (.nil))))))))) (.keep (rfl) rfl (.keep (rfl) rfl (.nil))) (fun i h => by cases h)
                  | exact weak_to (.cons rfl (rc_same rfl (.inl rfl)) (.cons rfl (rc_same rfl (.inl rfl)) (.cons rfl (rc_same rfl (.inl rfl)) (.cons rfl (rc_same rfl (.inl rfl)) (.cons rfl (rc_same rfl (.inl rfl)) (.cons rfl (rc_same rfl (.inl rfl)) (.cons rfl (rc_eq (by rw [hcs, h58]; rfl) rfl) (.cons rfl (rc_same rfl (.inl rfl)) (.nil))))))))) (.keep (rfl) rfl (.keep (rfl) rfl (.nil))) (fun i h => by cases h)
            · skip
              refine rs_mv rfl rfl ?_
              refine rs_skip rfl ?_
              refine rs_skip rfl ?_
              refine rs_skip rfl ?_
              refine rs_skip rfl ?_
              refine rs_skip rfl ?_
              refine rs_skip rfl ?_
              refine rs_skip rfl ?_
              refine rs_pick rfl rfl rfl ?_
              refine rs_mv rfl rfl ?_
              refine rs_nil ⟨by kernel_rfl, fun _ => ?_⟩
              refine in_n ?_
              refine th_n ?_
              refine aw_reg ?_
              refine rs_mv rfl rfl ?_
              first | refine rs_add rfl rfl rfl (by omega) ?_ | refine rs_addw rfl rfl rfl rfl ?_
              refine rs_mv rfl rfl ?_
              refine rs_nil fun _ => ?_
              refine th_n ?_
              refine ⟨q + 1, by omega, by omega, ?_⟩
              have hcs := contains_succ ((l.take (k)).foldl (addW v) []) q l[k].probe (by omega)
              first
                | exact weak_to (.cons rfl (rc_same rfl (.inl rfl)) (.cons rfl (rc_same rfl (.inl rfl)) (.cons rfl (rc_same rfl (.inl rfl)) (.cons rfl (rc_same rfl (.inl rfl)) (.cons rfl (rc_same rfl (.inl rfl)) (.cons rfl (rc_same rfl (.inl rfl)) (.cons rfl (rc_eq (by rw [hcs, h58, decide_eq_true h66]; rfl) rfl) (.cons rfl (rc_same rfl (.inl rfl)) (.nil))))))))) (.keep (rfl) rfl (.keep (rfl) rfl (.nil))) (fun i h => by cases h)
                | exact weak_to (.cons rfl (rc_same rfl (.inl rfl)) (.cons rfl (rc_same rfl (.inl rfl)) (.cons rfl (rc_same rfl (.inl rfl)) (.cons rfl (rc_same rfl (.inl rfl)) (.cons rfl (rc_same rfl (.inl rfl)) (.cons rfl (rc_same rfl (.inl rfl)) (.cons rfl (rc_eq (by rw [hcs, h58, decide_eq_false h66]; rfl) rfl) (.cons rfl (rc_same rfl (.inl rfl)) (.nil))))))))) (.keep (rfl) rfl (.keep (rfl) rfl (.nil))) (fun i h => by cases h)
                | exact weak_to (.cons rfl (rc_same rfl (.inl rfl)) (.cons rfl (rc_same rfl (.inl rfl)) (.cons rfl (rc_same rfl (.inl rfl)) (.cons rfl (rc_same rfl (.inl rfl)) (.cons rfl (rc_same rfl (.inl rfl)) (.cons rfl (rc_same rfl (.inl rfl)) (.cons rfl (rc_eq (by rw [hcs, h58]; rfl) rfl) (.cons rfl (rc_same rfl (.inl rfl)) (.nil))))))))) (.keep (rfl) rfl (.keep (rfl) rfl (.nil))) (fun i h => by cases h)
          · first | replace h55 := of_decide_eq_false h55 | skip
            refine aw_exit ?_
            refine th_e ?_
            refine th_e ?_
            refine in_hit ?_
            refine th_n ?_
            refine aw_seq ?_
            refine aw_reg ?_
            refine rs_mv rfl rfl ?_
            refine rs_not rfl rfl ?_
            refine rs_nil fun _ => ?_
            refine th_n ?_
            refine aw_cond rfl (fun h69 => ?_) (fun h69 => ?_)
            · first | replace h69 := of_decide_eq_true h69 | skip
              refine aw_reg ?_
              refine rs_mv rfl rfl ?_
              first | refine rs_fa_p rfl rfl ?_ | refine rs_fa_r rfl rfl rfl ?_
              first | refine rs_ld_r rfl rfl rfl ?_ | refine rs_ld_p rfl rfl rfl rfl rfl ?_ | refine rs_ld_m rfl rfl rfl (by omega) rfl ?_
              refine rs_bslice rfl rfl rfl rfl rfl rfl ?_
              refine rs_app_m (y := l[k].probe) rfl rfl rfl rfl rfl rfl rfl rfl (by decide) rfl (by omega) (by omega) rfl ?_
              refine rs_mv rfl rfl ?_
              refine rs_nil fun _ => ?_
              refine in_n ?_
              refine th_n ?_
              refine aw_reg ?_
              refine rs_mv rfl rfl ?_
              first | refine rs_add rfl rfl rfl (by omega) ?_ | refine rs_addw rfl rfl rfl rfl ?_
              refine rs_mv rfl rfl ?_
              refine rs_nil fun _ => ?_
              refine th_n ?_
              refine ⟨k + 1, by omega, by omega, ?_⟩
              first
                | (have hs : ((l.take (k + 1)).foldl (addW v) []) = ((l.take (k)).foldl (addW v) []) := (by rw [hst, addW, if_neg (show ¬ isWrong v l[k] from fun h => by obtain ⟨a1, a2, a3⟩ := h; first | omega | (rw [← wrong_at a1 a2] at a3; omega))]); exact weak_to (.cons rfl (rc_same rfl (.inl rfl)) (.cons rfl (rc_same rfl (.inl rfl)) (.cons rfl (rc_same rfl (.inl rfl)) (.cons rfl (rc_eq (by rw [hs]) rfl) (.cons rfl (rc_same rfl (.inl rfl)) (.nil)))))) (.keep ((by (rw [hs]) <;> rfl)) rfl (.nil)) (fun i h => by cases h))
                | (obtain rfl : q = ((l.take (k)).foldl (addW v) []).length := by omega
                   rw [List.take_length] at h69
                   have hs : ((l.take (k + 1)).foldl (addW v) []) = ((l.take (k)).foldl (addW v) []) := (by rw [hst, addW, if_pos (show isWrong v l[k] from ⟨by omega, by omega, by rw [← wrong_at (by omega) (by omega)]; omega⟩), addK, if_pos (by simpa using h69)]); exact weak_to (.cons rfl (rc_same rfl (.inl rfl)) (.cons rfl (rc_same rfl (.inl rfl)) (.cons rfl (rc_same rfl (.inl rfl)) (.cons rfl (rc_eq (by rw [hs]) rfl) (.cons rfl (rc_same rfl (.inl rfl)) (.nil)))))) (.keep ((by (rw [hs]) <;> rfl)) rfl (.nil)) (fun i h => by cases h))
                | (obtain rfl : q = ((l.take (k)).foldl (addW v) []).length := by omega
                   rw [List.take_length] at h69
                   have hs : ((l.take (k + 1)).foldl (addW v) []) = ((l.take (k)).foldl (addW v) []) ++ [l[k].probe] := (by rw [hst, addW, if_pos (show isWrong v l[k] from ⟨by omega, by omega, by rw [← wrong_at (by omega) (by omega)]; omega⟩), addK, if_neg (by simpa using h69)]); exact weak_to_ren (i := 74) (i' := 1074) (F1 := [(0, .rs 4 (l.map cR)), (1, ints v), (2, iv lies), (7, .sl 74 0 ((l.take (k + 1)).foldl (addW v) []).length), (8, iv (((k + 1) : Nat) : Int))]) (H1 := [(74, .cells 3 1 (((l.take (k + 1)).foldl (addW v) []).map ci) true)]) (.cons rfl (rc_same rfl (.inl rfl)) (.cons rfl (rc_same rfl (.inl rfl)) (.cons rfl (rc_same rfl (.inl rfl)) (.cons rfl (rc_eq (by rw [hs]; simp) rfl) (.cons rfl (rc_same rfl (.inl rfl)) (.nil)))))) (.keep ((by (rw [hs]) <;> rfl)) rfl (.nil)) (fun i h => by cases h) rfl rfl (.cons rfl (.same _) (.cons rfl (.same _) (.cons rfl (.same _) (.cons rfl (.sl _ _) (.cons rfl (.same _) (.nil)))))) (.cons rfl (rc_same rfl (.inl rfl)) (.cons rfl (rc_same rfl (.inl rfl)) (.cons rfl (rc_same rfl (.inl rfl)) (.cons rfl (rc_same rfl (.inl rfl)) (.cons rfl (rc_same rfl (.inl rfl)) (.nil)))))) (.keep (rfl) rfl (.nil)) (fun i h => by cases h))
            · first | replace h69 := of_decide_eq_false h69 | skip
              refine aw_skip ?_
              refine in_n ?_
              refine th_n ?_
              refine aw_reg ?_
              refine rs_mv rfl rfl ?_
              first | refine rs_add rfl rfl rfl (by omega) ?_ | refine rs_addw rfl rfl rfl rfl ?_
              refine rs_mv rfl rfl ?_
              refine rs_nil fun _ => ?_
              refine th_n ?_
              refine ⟨k + 1, by omega, by omega, ?_⟩
              first
                | (have hs : ((l.take (k + 1)).foldl (addW v) []) = ((l.take (k)).foldl (addW v) []) := (by rw [hst, addW, if_neg (show ¬ isWrong v l[k] from fun h => by obtain ⟨a1, a2, a3⟩ := h; first | omega | (rw [← wrong_at a1 a2] at a3; omega))]); exact weak_to (.cons rfl (rc_same rfl (.inl rfl)) (.cons rfl (rc_same rfl (.inl rfl)) (.cons rfl (rc_same rfl (.inl rfl)) (.cons rfl (rc_eq (by rw [hs]) rfl) (.cons rfl (rc_same rfl (.inl rfl)) (.nil)))))) (.keep ((by (rw [hs]) <;> rfl)) rfl (.nil)) (fun i h => by cases h))
                | (obtain rfl : q = ((l.take (k)).foldl (addW v) []).length := by omega
                   rw [List.take_length] at h69
                   have hs : ((l.take (k + 1)).foldl (addW v) []) = ((l.take (k)).foldl (addW v) []) := (by rw [hst, addW, if_pos (show isWrong v l[k] from ⟨by omega, by omega, by rw [← wrong_at (by omega) (by omega)]; omega⟩), addK, if_pos (by simpa using h69)]); exact weak_to (.cons rfl (rc_same rfl (.inl rfl)) (.cons rfl (rc_same rfl (.inl rfl)) (.cons rfl (rc_same rfl (.inl rfl)) (.cons rfl (rc_eq (by rw [hs]) rfl) (.cons rfl (rc_same rfl (.inl rfl)) (.nil)))))) (.keep ((by (rw [hs]) <;> rfl)) rfl (.nil)) (fun i h => by cases h))
                | (obtain rfl : q = ((l.take (k)).foldl (addW v) []).length := by omega
                   rw [List.take_length] at h69
                   have hs : ((l.take (k + 1)).foldl (addW v) []) = ((l.take (k)).foldl (addW v) []) ++ [l[k].probe] := (by rw [hst, addW, if_pos (show isWrong v l[k] from ⟨by omega, by omega, by rw [← wrong_at (by omega) (by omega)]; omega⟩), addK, if_neg (by simpa using h69)]); exact weak_to_ren (i := 74) (i' := 1074) (F1 := [(0, .rs 4 (l.map cR)), (1, ints v), (2, iv lies), (7, .sl 74 0 ((l.take (k + 1)).foldl (addW v) []).length), (8, iv (((k + 1) : Nat) : Int))]) (H1 := [(74, .cells 3 1 (((l.take (k + 1)).foldl (addW v) []).map ci) true)]) (.cons rfl (rc_same rfl (.inl rfl)) (.cons rfl (rc_same rfl (.inl rfl)) (.cons rfl (rc_same rfl (.inl rfl)) (.cons rfl (rc_eq (by rw [hs]; simp) rfl) (.cons rfl (rc_same rfl (.inl rfl)) (.nil)))))) (.keep ((by (rw [hs]) <;> rfl)) rfl (.nil)) (fun i h => by cases h) rfl rfl (.cons rfl (.same _) (.cons rfl (.same _) (.cons rfl (.same _) (.cons rfl (.sl _ _) (.cons rfl (.same _) (.nil)))))) (.cons rfl (rc_same rfl (.inl rfl)) (.cons rfl (rc_same rfl (.inl rfl)) (.cons rfl (rc_same rfl (.inl rfl)) (.cons rfl (rc_same rfl (.inl rfl)) (.cons rfl (rc_same rfl (.inl rfl)) (.nil)))))) (.keep (rfl) rfl (.nil)) (fun i h => by cases h))
  · first | replace h15 := of_decide_eq_false h15 | skip
    refine aw_exit ?_
    refine th_e ?_
    refine th_e ?_
    refine in_hit ?_
    refine th_n ?_
    refine aw_seq ?_
    refine aw_reg ?_
    refine rs_mv rfl rfl ?_
    first | refine rs_len_m rfl rfl ?_ | refine rs_len_s rfl rfl ?_ | refine rs_len_n rfl rfl ?_ | refine rs_len_r rfl rfl rfl ?_
    refine rs_mv rfl rfl ?_
    refine rs_leq rfl rfl rfl ?_
    refine rs_mv rfl rfl ?_
    refine rs_nil fun _ => ?_
    refine th_n ?_
    refine aw_ret ?_
    have hfin : wrongS l v = (l.take k).foldl (addW v) [] := by (rw [List.take_of_length_le (by omega)]) <;> rfl
    exact ret_pure rfl (by rw [agreeS, hfin]; rfl) rfl (.inr rfl)

end Go.Proofs.Ytadjdnhnbkcakaa

/-! Walks: A12. -/
namespace Go.Proofs.Ytadjdnhnbkcakaa
open Go.RowKit

theorem fz21 (l : List Rd) (lo hi : List Int) (lies : Int) : FC Try.prog 21 [.rs 4 (l.map cR), ints lo, ints hi, .int .i64 lies] [] (.tup [ints (narrowA l lo hi lies), ints (narrowB l lo hi lies), iv (narrowE l lo hi lies)]) [] false :=
  fc_frozen (fc21 l lo hi lies) (rc_tup (.cons (rc_frz rfl rfl rfl (fun _ => rfl)) (.cons (rc_frz rfl rfl rfl (fun _ => rfl)) (.cons (rc_same rfl (.inr rfl)) .nil))))
theorem fz22 (l : List Rd) (lo hi : List Int) (lies : Int) : FC Try.prog 22 [.rs 4 (l.map cR), ints lo, ints hi, .int .i64 lies] [] (.tup [ints (narrowA l lo hi lies), ints (narrowB l lo hi lies), iv (narrowE l lo hi lies)]) [] false :=
  fc_frozen (fc22 l lo hi lies) (rc_tup (.cons (rc_frz rfl rfl rfl (fun _ => rfl)) (.cons (rc_frz rfl rfl rfl (fun _ => rfl)) (.cons (rc_same rfl (.inr rfl)) .nil))))
theorem fz24 (l : List Rd) (lo hi : List Int) (lies : Int) : FC Try.prog 24 [.rs 4 (l.map cR), ints lo, ints hi, .int .i64 lies] [] (.tup [ints (liarsL l lo hi lies), iv (liarsE l lo hi lies)]) [] false :=
  fc_frozen (fc24 l lo hi lies) (rc_tup (.cons (rc_frz rfl rfl rfl (fun _ => rfl)) (.cons (rc_same rfl (.inr rfl)) .nil)))
theorem fz25 (l : List Rd) (lo hi : List Int) (lies : Int) : FC Try.prog 25 [.rs 4 (l.map cR), ints lo, ints hi, .int .i64 lies] [] (.tup [ints (liarsL l lo hi lies), iv (liarsE l lo hi lies)]) [] false :=
  fc_frozen (fc25 l lo hi lies) (rc_tup (.cons (rc_frz rfl rfl rfl (fun _ => rfl)) (.cons (rc_same rfl (.inr rfl)) .nil)))
theorem fz29 (ls : List (List Int)) (q : Int) (hq : q ≤ 4611686018427387904) (hls : ∀ L ∈ ls, L.length ≤ 4611686018427387904) : FC Try.prog 29 [.rs 1 (ls.map cL), .int .i64 q] [] (.rs 4 ((readS ls q).map cR)) [] false :=
  fc_frozen (fc29 ls q hq hls) (rc_frz rfl rfl rfl (fun _ => rfl))

def mc18 : MC := (.seq (.reg [⟨(some 4), (.mv (.c .nils)), none, []⟩] false) (.seq (.reg [⟨(some 5), (.mv (.t 0)), none, []⟩, ⟨(some 6), (.mv (.t 0)), none, []⟩, ⟨(some 7), (.len (.t 6)), none, [1]⟩, ⟨(some 8), (.mv (.t 1)), none, []⟩, ⟨(some 9), (.mn (.t 7) (.t 8)), none, [2, 3]⟩, ⟨(some 10), (.slc 1 (.t 5) none (some (.t 9))), none, [0, 4]⟩, ⟨(some 4), (.mv (.t 10)), none, [5, 0, 1, 2, 3, 4, 5]⟩] false) .ret))
theorem mcOk18 : (match Try.f18.body with | some c => compC Try.prog 11 c | none => none) = some mc18 := by kernel_rfl

theorem fc18 (xs : List Int) (n : Nat) : FC Try.prog 18 [ints xs, .int .i64 (n : Int)] [] (ints (xs.take n)) [] true := by
  refine fc_run (nt := 11) Try.func18 rfl rfl mcOk18 (Nat.le_of_ble_eq_true rfl) ?_
  delta mc18
  refine aw_seq ?_
  refine aw_reg ?_
  refine rs_mv rfl rfl ?_
  refine rs_nil fun _ => ?_
  refine th_n ?_
  refine aw_seq ?_
  refine aw_reg ?_
  refine rs_mv rfl rfl ?_
  refine rs_mv rfl rfl ?_
  first | refine rs_len_m rfl rfl ?_ | refine rs_len_s rfl rfl ?_ | refine rs_len_n rfl rfl ?_ | refine rs_len_r rfl rfl rfl ?_
  refine rs_mv rfl rfl ?_
  refine rs_mn rfl rfl rfl rfl ?_
  refine rs_slc_r (l := 0) (q := min (xs.length : Int) (n : Int)) (els' := (xs.take n).map ci) rfl rfl rfl rfl rfl (by omega) (by omega) (by simp; omega) (by rw [show (min (xs.length : Int) (n : Int)).toNat = min xs.length n by omega]; simp [List.take_eq_take_min, Nat.min_comm]) ?_
  refine rs_mv rfl rfl ?_
  refine rs_nil fun _ => ?_
  refine th_n ?_
  refine aw_ret ?_
  exact ret_pure rfl rfl rfl (.inl rfl)

def mc46 : MC := (.seq (.reg [⟨(some 6), (.alloc 50 4 [(.int .i64 0), (.int .i64 0), (.int .i64 0), (.int .i64 0)]), none, []⟩] false) (.seq (.reg [⟨(some 7), (.mv (.t 0)), none, []⟩, ⟨(some 8), (.mv (.t 1)), none, []⟩, ⟨(some 9), (.mv (.t 2)), none, []⟩, ⟨(some 10), (.build [(.int .i64 0), (.int .i64 0), (.int .i64 0), (.int .i64 0)] [(0, (1, (.t 7))), (2, (1, (.t 8))), (3, (1, (.t 9)))]), none, [0, 1, 2]⟩, ⟨none, (.st 4 (.t 6) (.t 10)), none, [3, 0, 1, 2, 3]⟩] false) .ret))
theorem mcOk46 : (match Try.f46.body with | some c => compC Try.prog 11 c | none => none) = some mc46 := by kernel_rfl

theorem fc46 (w lo hi : Int) : FC Try.prog 46 [iv w, iv lo, iv hi] [] (.agg (cR ⟨w, 0, lo, hi⟩)) [] false := by
  refine fc_run (nt := 11) Try.func46 rfl rfl mcOk46 (Nat.le_of_ble_eq_true rfl) ?_
  delta mc46
  refine aw_seq ?_
  refine aw_reg ?_
  refine rs_alloc rfl rfl rfl ?_
  refine rs_nil fun _ => ?_
  refine th_n ?_
  refine aw_seq ?_
  refine aw_reg ?_
  refine rs_mv rfl rfl ?_
  refine rs_mv rfl rfl ?_
  refine rs_mv rfl rfl ?_
  refine rs_build rfl rfl ?_
  refine rs_st rfl rfl rfl rfl rfl rfl rfl (Nat.le_of_ble_eq_true rfl) rfl rfl ?_
  refine rs_nil fun _ => ?_
  refine th_n ?_
  refine aw_ret ?_
  exact ret_pure (resVs_cell (n := 4) rfl rfl (by kernel_rfl) (by kernel_rfl) rfl) rfl rfl (.inr rfl)

end Go.Proofs.Ytadjdnhnbkcakaa

/-! Walks: A13. -/
namespace Go.Proofs.Ytadjdnhnbkcakaa
open Go.RowKit

def pickN (x t : Int) : Int := if t = 0 then x else if t = 1 then -1 else if t = 2 then 8 else if t = 3 then 7 else if t = 4 then 1048576 else 6
theorem pick_at (x t : Int) (h0 : 0 ≤ t) (h1 : t < 6) : ([ci x, ci (-1), ci 8, ci 7, ci 1048576, ci 6] : List (List AV))[0 + t.toNat]? = some (ci (pickN x t)) := by
  obtain rfl | rfl | rfl | rfl | rfl | rfl : t = 0 ∨ t = 1 ∨ t = 2 ∨ t = 3 ∨ t = 4 ∨ t = 5 := by omega
  all_goals rfl
/-- Readings of which one is changed. -/
def oddS (l : List Rd) (q0 q1 q2 : Int) : List Rd :=
  if h : l.length = 0 then [⟨0, 0, 1, 0⟩]
  else
    have hi : (modS q1 l.length).toNat < l.length := by have := modS_range q1 l.length (by omega); omega
    let i := (modS q1 l.length).toNat
    let n := pickN q2 (modS q2 6)
    let t := modS q0 5
    if t = 0 then l.set i { l[i] with probe := n }
    else if t = 1 then l.set i { l[i] with of_ := n }
    else if t = 2 then l.set i { l[i] with lo := n }
    else if t = 3 then l.set i { l[i] with hi := n }
    else l ++ List.replicate (41 - l.length) l[i]

def mc17 : MC := (.seq (.reg [⟨(some 3), (.box 26 3 (.t 1)), none, []⟩, ⟨(some 4), (.mv (.c .nils)), none, []⟩] false) (.seq (.reg [⟨(some 8), (.bslice 50 4 [(.int .i64 0), (.int .i64 0), (.int .i64 0), (.int .i64 0)] 0 []), none, []⟩, ⟨(some 9), (.mv (.t 0)), none, []⟩, ⟨(some 10), (.app 50 4 32 [(.int .i64 0), (.int .i64 0), (.int .i64 0), (.int .i64 0)] (.t 8) (.t 9)), none, [0, 1]⟩, ⟨(some 5), (.mv (.t 10)), none, [2, 2, 0, 1, 2]⟩] false) (.seq (.seq (.reg [⟨(some 11), (.mv (.t 5)), none, []⟩, ⟨(some 12), (.len (.t 11)), none, [0]⟩, ⟨(some 13), (.bin .eql (.t 12) (.c (.int .i64 0))), none, [1]⟩] false) (.cond (.t 13) (.seq (.reg [⟨(some 14), (.build [(.int .i64 0), (.int .i64 0), (.int .i64 0), (.int .i64 0)] [(2, (1, (.c (.int .i64 1))))]), none, []⟩, ⟨(some 15), (.bslice 50 4 [(.int .i64 0), (.int .i64 0), (.int .i64 0), (.int .i64 0)] 1 [(0, (.t 14))]), none, [0]⟩, ⟨(some 4), (.mv (.t 15)), none, [1, 0, 1]⟩] false) .ret) .skip)) (.seq (.reg [⟨(some 16), (.mv (.t 5)), none, []⟩, ⟨(some 17), (.ixarr 3 1 (.t 3) (.c (.int .i64 1))), none, []⟩, ⟨(some 18), (.ld false 1 (.t 17)), none, [1]⟩, ⟨(some 19), (.mv (.t 5)), none, []⟩, ⟨(some 20), (.len (.t 19)), none, [3]⟩, ⟨(some 21), (.call 30 [(.t 18), (.t 20)]), none, [2, 4]⟩, ⟨(some 22), (.ixsl 4 (.t 16) (.t 21)), none, [0, 5]⟩, ⟨(some 6), (.mv (.t 22)), none, [6, 5, 0, 1, 2, 3, 4, 5, 6]⟩] false) (.seq (.reg [⟨(some 23), (.ixarr 3 1 (.t 3) (.c (.int .i64 2))), none, []⟩, ⟨(some 24), (.ld false 1 (.t 23)), none, [0]⟩, ⟨(some 25), (.bslice 3 1 [(.int .i64 0)] 6 [(0, (.t 24)), (1, (.c (.int .i64 (-1)))), (2, (.c (.int .i64 8))), (3, (.c (.int .i64 7))), (4, (.c (.int .i64 1048576))), (5, (.c (.int .i64 6)))]), none, [1]⟩, ⟨(some 26), (.ixarr 3 1 (.t 3) (.c (.int .i64 2))), none, []⟩, ⟨(some 27), (.ld false 1 (.t 26)), none, [3]⟩, ⟨(some 28), (.call 30 [(.t 27), (.c (.int .i64 6))]), none, [4]⟩, ⟨(some 29), (.ixsl 1 (.t 25) (.t 28)), none, [2, 5]⟩, ⟨(some 30), (.ld false 1 (.t 29)), none, [6]⟩, ⟨(some 7), (.mv (.t 30)), none, [7, 5, 0, 1, 2, 3, 4, 5, 6, 7]⟩] true) (.seq (.seq (.reg [⟨(some 31), (.ixarr 3 1 (.t 3) (.c (.int .i64 0))), none, []⟩, ⟨(some 32), (.ld false 1 (.t 31)), none, [0]⟩, ⟨(some 33), (.call 30 [(.t 32), (.c (.int .i64 5))]), none, [1]⟩] false) (.block 0 (.seq (.reg [⟨(some 35), (.bin .eql (.t 33) (.c (.int .i64 0))), none, []⟩, ⟨(some 34), (.mv (.t 35)), none, [0]⟩] false) (.cond (.t 34) (.reg [⟨(some 36), (.mv (.t 6)), none, []⟩, ⟨(some 37), (.mv (.t 7)), none, []⟩, ⟨(some 38), (.nilc (.t 36)), none, [0, 0, 1]⟩, ⟨(some 39), (.fa 0 (.t 38)), none, [2, 0, 1]⟩, ⟨none, (.st 1 (.t 39) (.t 37)), none, [3, 1, 0, 1]⟩] false) (.seq (.reg [⟨(some 41), (.bin .eql (.t 33) (.c (.int .i64 1))), none, []⟩, ⟨(some 40), (.mv (.t 41)), none, [0]⟩] false) (.cond (.t 40) (.reg [⟨(some 42), (.mv (.t 6)), none, []⟩, ⟨(some 43), (.mv (.t 7)), none, []⟩, ⟨(some 44), (.nilc (.t 42)), none, [0, 0, 1]⟩, ⟨(some 45), (.fa 1 (.t 44)), none, [2, 0, 1]⟩, ⟨none, (.st 1 (.t 45) (.t 43)), none, [3, 1, 0, 1]⟩] false) (.seq (.reg [⟨(some 47), (.bin .eql (.t 33) (.c (.int .i64 2))), none, []⟩, ⟨(some 46), (.mv (.t 47)), none, [0]⟩] false) (.cond (.t 46) (.reg [⟨(some 48), (.mv (.t 6)), none, []⟩, ⟨(some 49), (.mv (.t 7)), none, []⟩, ⟨(some 50), (.nilc (.t 48)), none, [0, 0, 1]⟩, ⟨(some 51), (.fa 2 (.t 50)), none, [2, 0, 1]⟩, ⟨none, (.st 1 (.t 51) (.t 49)), none, [3, 1, 0, 1]⟩] false) (.seq (.reg [⟨(some 53), (.bin .eql (.t 33) (.c (.int .i64 3))), none, []⟩, ⟨(some 52), (.mv (.t 53)), none, [0]⟩] false) (.cond (.t 52) (.reg [⟨(some 54), (.mv (.t 6)), none, []⟩, ⟨(some 55), (.mv (.t 7)), none, []⟩, ⟨(some 56), (.nilc (.t 54)), none, [0, 0, 1]⟩, ⟨(some 57), (.fa 3 (.t 56)), none, [2, 0, 1]⟩, ⟨none, (.st 1 (.t 57) (.t 55)), none, [3, 1, 0, 1]⟩] false) (.seq (.reg [⟨(some 59), (.bin .eql (.t 33) (.c (.int .i64 4))), none, []⟩, ⟨(some 58), (.mv (.t 59)), none, [0]⟩] false) (.cond (.t 58) (.block 1 (.loop (.seq (.seq (.reg [⟨(some 60), (.mv (.t 5)), none, []⟩, ⟨(some 61), (.len (.t 60)), none, [0]⟩, ⟨(some 62), (.bin .leq (.t 61) (.c (.int .i64 40))), none, [1]⟩] false) (.cond (.t 62) .skip (.exit 1))) (.block 2 (.reg [⟨(some 63), (.mv (.t 5)), none, []⟩, ⟨(some 64), (.mv (.t 5)), none, []⟩, ⟨(some 65), (.ixarr 3 1 (.t 3) (.c (.int .i64 1))), none, []⟩, ⟨(some 66), (.ld false 1 (.t 65)), none, [2]⟩, ⟨(some 67), (.mv (.t 0)), none, []⟩, ⟨(some 68), (.len (.t 67)), none, [4]⟩, ⟨(some 69), (.call 30 [(.t 66), (.t 68)]), none, [3, 5]⟩, ⟨(some 70), (.ixsl 4 (.t 64) (.t 69)), none, [1, 6]⟩, ⟨(some 71), (.ld true 4 (.t 70)), none, [7]⟩, ⟨(some 72), (.bslice 50 4 [(.int .i64 0), (.int .i64 0), (.int .i64 0), (.int .i64 0)] 1 [(0, (.t 71))]), none, [8]⟩, ⟨(some 73), (.app 50 4 32 [(.int .i64 0), (.int .i64 0), (.int .i64 0), (.int .i64 0)] (.t 63) (.t 72)), none, [0, 9, 6]⟩, ⟨(some 5), (.mv (.t 73)), none, [10, 10, 0, 1, 2, 3, 4, 5, 6, 7, 8, 9, 10]⟩] false))))) .skip)))))))))))) (.seq (.reg [⟨(some 74), (.mv (.t 5)), none, []⟩, ⟨(some 4), (.mv (.t 74)), none, [0, 0]⟩] false) .ret)))))))
theorem mcOk17 : (match Try.f17.body with | some c => compC Try.prog 75 c | none => none) = some mc17 := by kernel_rfl

theorem fc17 (l : List Rd) (q0 q1 q2 : Int) (hl : l.length ≤ 1000000) : FC Try.prog 17 [.rs 4 (l.map cR), .agg [iv q0, iv q1, iv q2]] [] (.rs 4 ((oddS l q0 q1 q2).map cR)) [] false := by
  refine fc_run (nt := 75) Try.func17 rfl rfl mcOk17 (Nat.le_of_ble_eq_true rfl) ?_
  delta mc17
  refine aw_seq ?_
  refine aw_reg ?_
  refine rs_box rfl rfl rfl rfl rfl rfl ?_
  refine rs_mv rfl rfl ?_
  refine rs_nil fun _ => ?_
  refine th_n ?_
  refine aw_seq ?_
  refine aw_reg ?_
  refine rs_bslice rfl rfl rfl rfl rfl rfl ?_
  refine rs_mv rfl rfl ?_
  refine rs_app_e (ys := l) (n := l.length) (f := cR) (rd := []) rfl rfl rfl rfl rfl rfl rfl (by simp) (fun _ => rfl) rfl (by omega) (by omega) (fun _ => rfl) ?_
  refine rs_mv rfl rfl ?_
  refine rs_nil fun _ => ?_
  refine th_n ?_
  refine aw_seq ?_
  refine aw_seq ?_
  refine aw_reg ?_
  refine rs_mv rfl rfl ?_
  first | refine rs_len_m rfl rfl ?_ | refine rs_len_s rfl rfl ?_ | refine rs_len_n rfl rfl ?_ | refine rs_len_r rfl rfl rfl ?_
  refine rs_eql rfl rfl rfl ?_
  refine rs_nil fun _ => ?_
  refine th_n ?_
  refine aw_cond rfl (fun h13 => ?_) (fun h13 => ?_)
  · first | replace h13 := of_decide_eq_true h13 | skip
    refine aw_seq ?_
    refine aw_reg ?_
    refine rs_build rfl rfl ?_
    refine rs_bslice rfl rfl rfl rfl rfl rfl ?_
    refine rs_mv rfl rfl ?_
    refine rs_nil fun _ => ?_
    refine th_n ?_
    refine aw_ret ?_
    refine th_r ?_
    first
      | (exfalso; omega)
      | (have hz : l.length = 0 := by omega
         have e : oddS l q0 q1 q2 = [⟨0, 0, 1, 0⟩] := by rw [oddS, dif_pos hz]
         rw [e]
         exact ret_new rfl (rc_frz (f := cR) (xs := [(⟨0, 0, 1, 0⟩ : Rd)]) rfl rfl rfl (fun _ => rfl)) .nil)
      | (have e : oddS l q0 q1 q2 = l ++ List.replicate k (l[(modS q1 (l.length : Int)).toNat]'hii) := by
           rw [oddS, dif_neg hne]
           simp only
           rw [if_neg (by omega), if_neg (by omega), if_neg (by omega), if_neg (by omega)]
           congr 2
           omega
         rw [e]
         exact ret_new rfl (rc_frz rfl rfl (by simp) (fun _ => rfl)) .nil)
      | (rw [oddS, dif_neg hne]
         simp only
         first | rw [if_pos (by omega)] | rw [if_neg (by omega), if_pos (by omega)] | rw [if_neg (by omega), if_neg (by omega), if_pos (by omega)] | rw [if_neg (by omega), if_neg (by omega), if_neg (by omega), if_pos (by omega)]
         simp only [Nat.zero_add]
         exact ret_new rfl (rc_frz rfl rfl (by simp) (fun _ => rfl)) .nil)
  · first | replace h13 := of_decide_eq_false h13 | skip
    refine aw_skip ?_
    refine th_n ?_
    refine aw_seq ?_
    refine aw_reg ?_
    have hne : l.length ≠ 0 := by omega
    have hq1 := modS_range q1 (l.length : Int) (by omega)
    have hq2 := modS_range q2 6 (by omega)
    have hq0 := modS_range q0 5 (by omega)
    have hii : (modS q1 (l.length : Int)).toNat < l.length := by omega
    refine rs_mv rfl rfl ?_
    refine rs_ixarr_p rfl rfl rfl (by decide) (by decide) ?_
    first | refine rs_ld_r rfl rfl rfl ?_ | refine rs_ld_p rfl rfl rfl rfl rfl ?_ | refine rs_ld_m rfl rfl rfl (by omega) rfl ?_
    refine rs_mv rfl rfl ?_
    first | refine rs_len_m rfl rfl ?_ | refine rs_len_s rfl rfl ?_ | refine rs_len_n rfl rfl ?_ | refine rs_len_r rfl rfl rfl ?_
    refine rs_calln [] rfl rfl (fc30 q1 (l.length : Int) (by omega)) (.cons (hv_same rfl) (.cons (hv_same rfl) (.nil))) rfl ?_
    refine rs_ix_s rfl rfl rfl rfl (by omega) (by omega) ?_
    refine rs_mv rfl rfl ?_
    refine rs_nil fun _ => ?_
    refine th_n ?_
    refine aw_seq ?_
    refine aw_draw hmix ?_
    refine rs_ixarr_p rfl rfl rfl (by decide) (by decide) ?_
    first | refine rs_ld_r rfl rfl rfl ?_ | refine rs_ld_p rfl rfl rfl rfl rfl ?_ | refine rs_ld_m rfl rfl rfl (by omega) rfl ?_
    refine rs_bslice rfl rfl rfl rfl rfl rfl ?_
    refine rs_ixarr_p rfl rfl rfl (by decide) (by decide) ?_
    first | refine rs_ld_r rfl rfl rfl ?_ | refine rs_ld_p rfl rfl rfl rfl rfl ?_ | refine rs_ld_m rfl rfl rfl (by omega) rfl ?_
    refine rs_calln [] rfl rfl (fc30 q2 6 (by omega)) (.cons (hv_same rfl) (.cons (hv_same rfl) (.nil))) rfl ?_
    refine rs_ix_s rfl rfl rfl rfl (by omega) (by omega) ?_
    refine rs_ld_p rfl rfl rfl (el := ci (pickN q2 (modS q2 6))) (pick_at q2 _ hq2.1 hq2.2) rfl ?_
    refine rs_mv rfl rfl ?_
    refine rs_nil ⟨by kernel_rfl, fun _ => ?_⟩
    refine th_n ?_
    refine aw_seq ?_
    refine aw_seq ?_
    refine aw_reg ?_
    refine rs_ixarr_p rfl rfl rfl (by decide) (by decide) ?_
    first | refine rs_ld_r rfl rfl rfl ?_ | refine rs_ld_p rfl rfl rfl rfl rfl ?_ | refine rs_ld_m rfl rfl rfl (by omega) rfl ?_
    refine rs_calln [] rfl rfl (fc30 q0 5 (by omega)) (.cons (hv_same rfl) (.cons (hv_same rfl) (.nil))) rfl ?_
    refine rs_nil fun _ => ?_
    refine th_n ?_
    refine aw_block ?_
    refine aw_seq ?_
    refine aw_reg ?_
    refine rs_eql rfl rfl rfl ?_
    refine rs_mv rfl rfl ?_
    refine rs_nil fun _ => ?_
    refine th_n ?_
    refine aw_cond rfl (fun h34 => ?_) (fun h34 => ?_)
    · first | replace h34 := of_decide_eq_true h34 | skip
      refine aw_reg ?_
      refine rs_mv rfl rfl ?_
      refine rs_mv rfl rfl ?_
      first | refine rs_nilc_p rfl rfl ?_ | refine rs_nilc_r rfl rfl ?_
      first | refine rs_fa_p rfl rfl ?_ | refine rs_fa_r rfl rfl rfl ?_
      refine rs_st_m (t := 0 + (modS q1 (l.length : Int)).toNat) (v := { l[0 + (modS q1 (l.length : Int)).toNat]'(by omega) with probe := pickN q2 (modS q2 6) }) (fl' := true) rfl rfl rfl rfl (by omega) rfl rfl (Nat.le_of_ble_eq_true rfl) rfl rfl ?_
      refine rs_nil fun _ => ?_
      refine in_n ?_
      refine th_n ?_
      refine aw_seq ?_
      refine aw_reg ?_
      refine rs_mv rfl rfl ?_
      refine rs_mv rfl rfl ?_
      refine rs_nil fun _ => ?_
      refine th_n ?_
      refine aw_ret ?_
      first
        | (exfalso; omega)
        | (have hz : l.length = 0 := by omega
           have e : oddS l q0 q1 q2 = [⟨0, 0, 1, 0⟩] := by rw [oddS, dif_pos hz]
           rw [e]
           exact ret_new rfl (rc_frz (f := cR) (xs := [(⟨0, 0, 1, 0⟩ : Rd)]) rfl rfl rfl (fun _ => rfl)) .nil)
        | (have e : oddS l q0 q1 q2 = l ++ List.replicate k (l[(modS q1 (l.length : Int)).toNat]'hii) := by
             rw [oddS, dif_neg hne]
             simp only
             rw [if_neg (by omega), if_neg (by omega), if_neg (by omega), if_neg (by omega)]
             congr 2
             omega
           rw [e]
           exact ret_new rfl (rc_frz rfl rfl (by simp) (fun _ => rfl)) .nil)
        | (rw [oddS, dif_neg hne]
           simp only
           first | rw [if_pos (by omega)] | rw [if_neg (by omega), if_pos (by omega)] | rw [if_neg (by omega), if_neg (by omega), if_pos (by omega)] | rw [if_neg (by omega), if_neg (by omega), if_neg (by omega), if_pos (by omega)]
           simp only [Nat.zero_add]
           exact ret_new rfl (rc_frz rfl rfl (by simp) (fun _ => rfl)) .nil)
    · first | replace h34 := of_decide_eq_false h34 | skip
      refine aw_seq ?_
      refine aw_reg ?_
      refine rs_eql rfl rfl rfl ?_
      refine rs_mv rfl rfl ?_
      refine rs_nil fun _ => ?_
      refine th_n ?_
      refine aw_cond rfl (fun h40 => ?_) (fun h40 => ?_)
      · first | replace h40 := of_decide_eq_true h40 | skip
        refine aw_reg ?_
        refine rs_mv rfl rfl ?_
        refine rs_mv rfl rfl ?_
        first | refine rs_nilc_p rfl rfl ?_ | refine rs_nilc_r rfl rfl ?_
        first | refine rs_fa_p rfl rfl ?_ | refine rs_fa_r rfl rfl rfl ?_
        refine rs_st_m (t := 0 + (modS q1 (l.length : Int)).toNat) (v := { l[0 + (modS q1 (l.length : Int)).toNat]'(by omega) with of_ := pickN q2 (modS q2 6) }) (fl' := true) rfl rfl rfl rfl (by omega) rfl rfl (Nat.le_of_ble_eq_true rfl) rfl rfl ?_
        refine rs_nil fun _ => ?_
        refine in_n ?_
        refine th_n ?_
        refine aw_seq ?_
        refine aw_reg ?_
        refine rs_mv rfl rfl ?_
        refine rs_mv rfl rfl ?_
        refine rs_nil fun _ => ?_
        refine th_n ?_
        refine aw_ret ?_
        first
          | (exfalso; omega)
          | (have hz : l.length = 0 := by omega
             have e : oddS l q0 q1 q2 = [⟨0, 0, 1, 0⟩] := by rw [oddS, dif_pos hz]
             rw [e]
             exact ret_new rfl (rc_frz (f := cR) (xs := [(⟨0, 0, 1, 0⟩ : Rd)]) rfl rfl rfl (fun _ => rfl)) .nil)
          | (have e : oddS l q0 q1 q2 = l ++ List.replicate k (l[(modS q1 (l.length : Int)).toNat]'hii) := by
               rw [oddS, dif_neg hne]
               simp only
               rw [if_neg (by omega), if_neg (by omega), if_neg (by omega), if_neg (by omega)]
               congr 2
               omega
             rw [e]
             exact ret_new rfl (rc_frz rfl rfl (by simp) (fun _ => rfl)) .nil)
          | (rw [oddS, dif_neg hne]
             simp only
             first | rw [if_pos (by omega)] | rw [if_neg (by omega), if_pos (by omega)] | rw [if_neg (by omega), if_neg (by omega), if_pos (by omega)] | rw [if_neg (by omega), if_neg (by omega), if_neg (by omega), if_pos (by omega)]
             simp only [Nat.zero_add]
             exact ret_new rfl (rc_frz rfl rfl (by simp) (fun _ => rfl)) .nil)
      · first | replace h40 := of_decide_eq_false h40 | skip
        refine aw_seq ?_
        refine aw_reg ?_
        refine rs_eql rfl rfl rfl ?_
        refine rs_mv rfl rfl ?_
        refine rs_nil fun _ => ?_
        refine th_n ?_
        refine aw_cond rfl (fun h46 => ?_) (fun h46 => ?_)
        · first | replace h46 := of_decide_eq_true h46 | skip
          refine aw_reg ?_
          refine rs_mv rfl rfl ?_
          refine rs_mv rfl rfl ?_
          first | refine rs_nilc_p rfl rfl ?_ | refine rs_nilc_r rfl rfl ?_
          first | refine rs_fa_p rfl rfl ?_ | refine rs_fa_r rfl rfl rfl ?_
          refine rs_st_m (t := 0 + (modS q1 (l.length : Int)).toNat) (v := { l[0 + (modS q1 (l.length : Int)).toNat]'(by omega) with lo := pickN q2 (modS q2 6) }) (fl' := true) rfl rfl rfl rfl (by omega) rfl rfl (Nat.le_of_ble_eq_true rfl) rfl rfl ?_
          refine rs_nil fun _ => ?_
          refine in_n ?_
          refine th_n ?_
          refine aw_seq ?_
          refine aw_reg ?_
          refine rs_mv rfl rfl ?_
          refine rs_mv rfl rfl ?_
          refine rs_nil fun _ => ?_
          refine th_n ?_
          refine aw_ret ?_
          first
            | (exfalso; omega)
            | (have hz : l.length = 0 := by omega
               have e : oddS l q0 q1 q2 = [⟨0, 0, 1, 0⟩] := by rw [oddS, dif_pos hz]
               rw [e]
               exact ret_new rfl (rc_frz (f := cR) (xs := [(⟨0, 0, 1, 0⟩ : Rd)]) rfl rfl rfl (fun _ => rfl)) .nil)
            | (have e : oddS l q0 q1 q2 = l ++ List.replicate k (l[(modS q1 (l.length : Int)).toNat]'hii) := by
                 rw [oddS, dif_neg hne]
                 simp only
                 rw [if_neg (by omega), if_neg (by omega), if_neg (by omega), if_neg (by omega)]
                 congr 2
                 omega
               rw [e]
               exact ret_new rfl (rc_frz rfl rfl (by simp) (fun _ => rfl)) .nil)
            | (rw [oddS, dif_neg hne]
               simp only
               first | rw [if_pos (by omega)] | rw [if_neg (by omega), if_pos (by omega)] | rw [if_neg (by omega), if_neg (by omega), if_pos (by omega)] | rw [if_neg (by omega), if_neg (by omega), if_neg (by omega), if_pos (by omega)]
               simp only [Nat.zero_add]
               exact ret_new rfl (rc_frz rfl rfl (by simp) (fun _ => rfl)) .nil)
        · first | replace h46 := of_decide_eq_false h46 | skip
          refine aw_seq ?_
          refine aw_reg ?_
          refine rs_eql rfl rfl rfl ?_
          refine rs_mv rfl rfl ?_
          refine rs_nil fun _ => ?_
          refine th_n ?_
          refine aw_cond rfl (fun h52 => ?_) (fun h52 => ?_)
          · first | replace h52 := of_decide_eq_true h52 | skip
            refine aw_reg ?_
            refine rs_mv rfl rfl ?_
            refine rs_mv rfl rfl ?_
            first | refine rs_nilc_p rfl rfl ?_ | refine rs_nilc_r rfl rfl ?_
            first | refine rs_fa_p rfl rfl ?_ | refine rs_fa_r rfl rfl rfl ?_
            refine rs_st_m (t := 0 + (modS q1 (l.length : Int)).toNat) (v := { l[0 + (modS q1 (l.length : Int)).toNat]'(by omega) with hi := pickN q2 (modS q2 6) }) (fl' := true) rfl rfl rfl rfl (by omega) rfl rfl (Nat.le_of_ble_eq_true rfl) rfl rfl ?_
            refine rs_nil fun _ => ?_
            refine in_n ?_
            refine th_n ?_
            refine aw_seq ?_
            refine aw_reg ?_
            refine rs_mv rfl rfl ?_
            refine rs_mv rfl rfl ?_
            refine rs_nil fun _ => ?_
            refine th_n ?_
            refine aw_ret ?_
            first
              | (exfalso; omega)
              | (have hz : l.length = 0 := by omega
                 have e : oddS l q0 q1 q2 = [⟨0, 0, 1, 0⟩] := by rw [oddS, dif_pos hz]
                 rw [e]
                 exact ret_new rfl (rc_frz (f := cR) (xs := [(⟨0, 0, 1, 0⟩ : Rd)]) rfl rfl rfl (fun _ => rfl)) .nil)
              | (have e : oddS l q0 q1 q2 = l ++ List.replicate k (l[(modS q1 (l.length : Int)).toNat]'hii) := by
                   rw [oddS, dif_neg hne]
                   simp only
                   rw [if_neg (by omega), if_neg (by omega), if_neg (by omega), if_neg (by omega)]
                   congr 2
                   omega
                 rw [e]
                 exact ret_new rfl (rc_frz rfl rfl (by simp) (fun _ => rfl)) .nil)
              | (rw [oddS, dif_neg hne]
                 simp only
                 first | rw [if_pos (by omega)] | rw [if_neg (by omega), if_pos (by omega)] | rw [if_neg (by omega), if_neg (by omega), if_pos (by omega)] | rw [if_neg (by omega), if_neg (by omega), if_neg (by omega), if_pos (by omega)]
                 simp only [Nat.zero_add]
                 exact ret_new rfl (rc_frz rfl rfl (by simp) (fun _ => rfl)) .nil)
          · first | replace h52 := of_decide_eq_false h52 | skip
            refine aw_seq ?_
            refine aw_reg ?_
            refine rs_eql rfl rfl rfl ?_
            refine rs_mv rfl rfl ?_
            refine rs_nil fun _ => ?_
            refine th_n ?_
            refine aw_cond rfl (fun h58 => ?_) (fun h58 => ?_)
            · first | replace h58 := of_decide_eq_true h58 | skip
              refine aw_block ?_
              refine aw_fam (α := Nat) (fun k => 41 - k) (fun k => [(0, .rs 4 (l.map cR)), (3, .ptr 3 0 0), (5, .sl 1073 0 (l.length + (k)))]) (fun k => [(3, .cells 26 3 [[iv q0, iv q1, iv q2]] true), (1073, .cells 50 4 ((l ++ List.replicate (k) (l[(modS q1 (l.length : Int)).toNat]'hii)).map cR) true)]) (fun k => k = 0 ∨ l.length + k ≤ 41) 0 (.inl rfl)
                (weak_to_ren (i := 10) (i' := 1073) (F1 := [(0, .rs 4 (l.map cR)), (3, .ptr 3 0 0), (5, .sl 10 0 (l.length + (0)))]) (H1 := [(3, .cells 26 3 [[iv q0, iv q1, iv q2]] true), (10, .cells 50 4 ((l ++ List.replicate (0) (l[(modS q1 (l.length : Int)).toNat]'hii)).map cR) true)]) (.cons rfl (rc_same rfl (.inl rfl)) (.cons rfl (rc_same rfl (.inl rfl)) (.cons rfl (rc_same rfl (.inl rfl)) (.nil)))) (.keep (rfl) rfl (.keep ((by (rw [show l ++ List.replicate 0 _ = l from List.append_nil l]) <;> rfl)) rfl (.nil))) (fun i h => by cases h) rfl rfl (.cons rfl (.same _) (.cons rfl (.same _) (.cons rfl (.sl _ _) (.nil)))) (.cons rfl (rc_same rfl (.inl rfl)) (.cons rfl (rc_same rfl (.inl rfl)) (.cons rfl (rc_same rfl (.inl rfl)) (.nil)))) (.keep (rfl) rfl (.keep (rfl) rfl (.nil))) (fun i h => by cases h)) ?_
              intro k hk
              refine aw_seq ?_
              refine aw_seq ?_
              refine aw_reg ?_
              refine rs_mv rfl rfl ?_
              first | refine rs_len_m rfl rfl ?_ | refine rs_len_s rfl rfl ?_ | refine rs_len_n rfl rfl ?_ | refine rs_len_r rfl rfl rfl ?_
              refine rs_leq rfl rfl rfl ?_
              refine rs_nil fun _ => ?_
              refine th_n ?_
              refine aw_cond rfl (fun h62 => ?_) (fun h62 => ?_)
              · first | replace h62 := of_decide_eq_true h62 | skip
                refine aw_skip ?_
                refine th_n ?_
                refine aw_block ?_
                refine aw_reg ?_
                refine rs_mv rfl rfl ?_
                refine rs_mv rfl rfl ?_
                refine rs_ixarr_p rfl rfl rfl (by decide) (by decide) ?_
                first | refine rs_ld_r rfl rfl rfl ?_ | refine rs_ld_p rfl rfl rfl rfl rfl ?_ | refine rs_ld_m rfl rfl rfl (by omega) rfl ?_
                refine rs_mv rfl rfl ?_
                first | refine rs_len_m rfl rfl ?_ | refine rs_len_s rfl rfl ?_ | refine rs_len_n rfl rfl ?_ | refine rs_len_r rfl rfl rfl ?_
                refine rs_calln [] rfl rfl (fc30 q1 (l.length : Int) (by omega)) (.cons (hv_same rfl) (.cons (hv_same rfl) (.nil))) rfl ?_
                refine rs_ix_s rfl rfl rfl rfl (by omega) (by omega) ?_
                have hy : (l ++ List.replicate k (l[(modS q1 (l.length : Int)).toNat]'hii))[0 + (modS q1 (l.length : Int)).toNat]'(by simp; omega) = l[(modS q1 (l.length : Int)).toNat]'hii := by rw [List.getElem_append_left (by omega)]; simp
                refine rs_ld_ma (t := 0 + (modS q1 (l.length : Int)).toNat) (cs := cR (l[(modS q1 (l.length : Int)).toNat]'hii)) rfl rfl rfl (by simp; omega) (Nat.le_of_ble_eq_true rfl) (by rw [hy]; rfl) ?_
                refine rs_bslice rfl rfl rfl rfl rfl rfl ?_
                refine rs_app_m (y := l[(modS q1 (l.length : Int)).toNat]'hii) rfl rfl rfl rfl (by simp) rfl rfl rfl (by decide) rfl (by omega) (by omega) rfl ?_
                refine rs_mv rfl rfl ?_
                refine rs_nil fun _ => ?_
                refine in_n ?_
                refine th_n ?_
                refine ⟨k + 1, by omega, by omega, ?_⟩
                exact weak_to_ren (i := 73) (i' := 1073) (F1 := [(0, .rs 4 (l.map cR)), (3, .ptr 3 0 0), (5, .sl 73 0 (l.length + (k + 1)))]) (H1 := [(3, .cells 26 3 [[iv q0, iv q1, iv q2]] true), (73, .cells 50 4 ((l ++ List.replicate (k + 1) (l[(modS q1 (l.length : Int)).toNat]'hii)).map cR) true)]) (.cons rfl (rc_same rfl (.inl rfl)) (.cons rfl (rc_same rfl (.inl rfl)) (.cons rfl (rc_same rfl (.inl rfl)) (.nil)))) (.keep (rfl) rfl (.keep ((by (rw [List.replicate_succ', ← List.append_assoc]) <;> rfl)) rfl (.nil))) (fun i h => by cases h) rfl rfl (.cons rfl (.same _) (.cons rfl (.same _) (.cons rfl (.sl _ _) (.nil)))) (.cons rfl (rc_same rfl (.inl rfl)) (.cons rfl (rc_same rfl (.inl rfl)) (.cons rfl (rc_same rfl (.inl rfl)) (.nil)))) (.keep (rfl) rfl (.keep (rfl) rfl (.nil))) (fun i h => by cases h)
              · first | replace h62 := of_decide_eq_false h62 | skip
                refine aw_exit ?_
                refine th_e ?_
                refine th_e ?_
                refine in_hit ?_
                refine in_n ?_
                refine th_n ?_
                refine aw_seq ?_
                refine aw_reg ?_
                refine rs_mv rfl rfl ?_
                refine rs_mv rfl rfl ?_
                refine rs_nil fun _ => ?_
                refine th_n ?_
                refine aw_ret ?_
                first
                  | (exfalso; omega)
                  | (have hz : l.length = 0 := by omega
                     have e : oddS l q0 q1 q2 = [⟨0, 0, 1, 0⟩] := by rw [oddS, dif_pos hz]
                     rw [e]
                     exact ret_new rfl (rc_frz (f := cR) (xs := [(⟨0, 0, 1, 0⟩ : Rd)]) rfl rfl rfl (fun _ => rfl)) .nil)
                  | (have e : oddS l q0 q1 q2 = l ++ List.replicate k (l[(modS q1 (l.length : Int)).toNat]'hii) := by
                       rw [oddS, dif_neg hne]
                       simp only
                       rw [if_neg (by omega), if_neg (by omega), if_neg (by omega), if_neg (by omega)]
                       congr 2
                       omega
                     rw [e]
                     exact ret_new rfl (rc_frz rfl rfl (by simp) (fun _ => rfl)) .nil)
                  | (rw [oddS, dif_neg hne]
                     simp only
                     first | rw [if_pos (by omega)] | rw [if_neg (by omega), if_pos (by omega)] | rw [if_neg (by omega), if_neg (by omega), if_pos (by omega)] | rw [if_neg (by omega), if_neg (by omega), if_neg (by omega), if_pos (by omega)]
                     simp only [Nat.zero_add]
                     exact ret_new rfl (rc_frz rfl rfl (by simp) (fun _ => rfl)) .nil)
            · first | replace h58 := of_decide_eq_false h58 | skip
              refine aw_skip ?_
              refine in_n ?_
              refine th_n ?_
              refine aw_seq ?_
              refine aw_reg ?_
              refine rs_mv rfl rfl ?_
              refine rs_mv rfl rfl ?_
              refine rs_nil fun _ => ?_
              refine th_n ?_
              refine aw_ret ?_
              first
                | (exfalso; omega)
                | (have hz : l.length = 0 := by omega
                   have e : oddS l q0 q1 q2 = [⟨0, 0, 1, 0⟩] := by rw [oddS, dif_pos hz]
                   rw [e]
                   exact ret_new rfl (rc_frz (f := cR) (xs := [(⟨0, 0, 1, 0⟩ : Rd)]) rfl rfl rfl (fun _ => rfl)) .nil)
                | (have e : oddS l q0 q1 q2 = l ++ List.replicate k (l[(modS q1 (l.length : Int)).toNat]'hii) := by
                     rw [oddS, dif_neg hne]
                     simp only
                     rw [if_neg (by omega), if_neg (by omega), if_neg (by omega), if_neg (by omega)]
                     congr 2
                     omega
                   rw [e]
                   exact ret_new rfl (rc_frz rfl rfl (by simp) (fun _ => rfl)) .nil)
                | (rw [oddS, dif_neg hne]
                   simp only
                   first | rw [if_pos (by omega)] | rw [if_neg (by omega), if_pos (by omega)] | rw [if_neg (by omega), if_neg (by omega), if_pos (by omega)] | rw [if_neg (by omega), if_neg (by omega), if_neg (by omega), if_pos (by omega)]
                   simp only [Nat.zero_add]
                   exact ret_new rfl (rc_frz rfl rfl (by simp) (fun _ => rfl)) .nil)

end Go.Proofs.Ytadjdnhnbkcakaa

/-! Walks: A14. -/
namespace Go.Proofs.Ytadjdnhnbkcakaa
open Go.RowKit

abbrev cu8 (x : Int) : List AV := [.int .u8 x]
def limAt (L : List Int) (i : Nat) : Int := L.getD i 0
def loF (m : Int) : Int := m.tmod 4
def hiF (m : Int) : Int := m.tmod 4 + (m.tdiv 4).tmod 12
def madeLo (L : List Int) (k : Nat) : List Int := (List.range k).map fun i => loF (limAt L i)
def madeHi (L : List Int) (k : Nat) : List Int := (List.range k).map fun i => hiF (limAt L i)
theorem madeLo_succ (L : List Int) (k : Nat) : madeLo L (k + 1) = madeLo L k ++ [loF (limAt L k)] := by simp [madeLo, List.range_succ]
theorem madeHi_succ (L : List Int) (k : Nat) : madeHi L (k + 1) = madeHi L k ++ [hiF (limAt L k)] := by simp [madeHi, List.range_succ]
theorem length_madeLo (L : List Int) (k : Nat) : (madeLo L k).length = k := by simp [madeLo]
theorem length_madeHi (L : List Int) (k : Nat) : (madeHi L k).length = k := by simp [madeHi]
theorem limAt_in {L : List Int} {k : Nat} (h : k < L.length) : L[k] = limAt L k := by simp [limAt, h]
theorem limAt_out {L : List Int} {k : Nat} (h : ¬ k < L.length) : 0 = limAt L k := by simp [limAt, List.getElem?_eq_none (Nat.le_of_not_lt h)]
theorem limAt_range {L : List Int} (h : ∀ x ∈ L, 0 ≤ x ∧ x < 256) (k : Nat) : 0 ≤ limAt L k ∧ limAt L k < 256 := by
  by_cases hk : k < L.length
  · rw [← limAt_in hk]; exact h _ (List.getElem_mem _)
  · rw [← limAt_out hk]; decide
theorem mfacts (m : Int) (h : 0 ≤ m ∧ m < 256) : (0 ≤ m.tmod 4 ∧ m.tmod 4 < 4) ∧ (0 ≤ (m.tdiv 4).tmod 12 ∧ (m.tdiv 4).tmod 12 < 12) ∧ IntKind.i64.wrap (m.tdiv 4) = m.tdiv 4 ∧ IntKind.i64.wrap (m.tmod 4) = m.tmod 4 := by
  have e1 : m.tmod 4 = m % 4 := Int.tmod_eq_emod_of_nonneg h.1
  have e2 : m.tdiv 4 = m / 4 := Int.tdiv_eq_ediv_of_nonneg h.1
  have e3 : (m / 4).tmod 12 = (m / 4) % 12 := Int.tmod_eq_emod_of_nonneg (by omega)
  rw [e2, e1, e3]
  refine ⟨by omega, by omega, wrap64_eq (by omega), wrap64_eq (by omega)⟩

def mc16 : MC := (.seq (.reg [⟨(some 1), (.box 25 3 (.t 0)), none, []⟩, ⟨(some 2), (.mv (.c .nils)), none, []⟩, ⟨(some 3), (.mv (.c .nils)), none, [1]⟩, ⟨(some 4), (.mv (.c .nils)), none, [2]⟩, ⟨(some 5), (.mv (.c (.int .i64 0))), none, [3]⟩] false) (.seq (.reg [⟨(some 11), (.fa 1 (.t 1)), none, []⟩, ⟨(some 12), (.ld false 1 (.t 11)), none, [0]⟩, ⟨(some 13), (.len (.t 12)), none, [1]⟩, ⟨(some 14), (.bin .rem (.t 13) (.c (.int .i64 3))), none, [2]⟩, ⟨(some 15), (.bin .add (.c (.int .i64 1)) (.t 14)), none, [3]⟩, ⟨(some 6), (.mv (.t 15)), none, [4, 0, 1, 2, 3, 4]⟩] false) (.seq (.reg [⟨(some 7), (.mv (.c .nils)), none, []⟩, ⟨(some 8), (.mv (.c .nils)), none, [0]⟩] false) (.seq (.seq (.reg [⟨(some 9), (.mv (.c (.int .i64 0))), none, []⟩] false) (.block 0 (.loop (.seq (.seq (.reg [⟨(some 16), (.mv (.t 9)), none, []⟩, ⟨(some 17), (.mv (.t 6)), none, []⟩, ⟨(some 18), (.bin .lss (.t 16) (.t 17)), none, [0, 1]⟩] false) (.cond (.t 18) .skip (.exit 0))) (.seq (.block 1 (.seq (.reg [⟨(some 10), (.mv (.c (.int .i64 0))), none, []⟩] false) (.seq (.seq (.reg [⟨(some 21), (.mv (.t 9)), none, []⟩, ⟨(some 22), (.fa 1 (.t 1)), none, []⟩, ⟨(some 23), (.ld false 1 (.t 22)), none, [1]⟩, ⟨(some 24), (.len (.t 23)), none, [2]⟩, ⟨(some 25), (.bin .lss (.t 21) (.t 24)), none, [0, 3]⟩] false) (.cond (.t 25) (.reg [⟨(some 26), (.fa 1 (.t 1)), none, []⟩, ⟨(some 27), (.ld false 1 (.t 26)), none, [0]⟩, ⟨(some 28), (.mv (.t 9)), none, []⟩, ⟨(some 29), (.ixsl 1 (.t 27) (.t 28)), none, [1, 2]⟩, ⟨(some 30), (.ld false 1 (.t 29)), none, [3]⟩, ⟨(some 31), (.cvt .i64 (.t 30)), none, [4]⟩, ⟨(some 10), (.mv (.t 31)), none, [5, 0, 1, 2, 3, 4, 5]⟩] false) .skip)) (.seq (.reg [⟨(some 32), (.mv (.t 7)), none, []⟩, ⟨(some 33), (.mv (.t 10)), none, []⟩, ⟨(some 34), (.bin .rem (.t 33) (.c (.int .i64 4))), none, [1]⟩, ⟨(some 35), (.bslice 3 1 [(.int .i64 0)] 1 [(0, (.t 34))]), none, [2]⟩, ⟨(some 36), (.app 3 1 8 [(.int .i64 0)] (.t 32) (.t 35)), none, [0, 3]⟩, ⟨(some 7), (.mv (.t 36)), none, [4, 4, 0, 1, 2, 3, 4]⟩] false) (.reg [⟨(some 37), (.mv (.t 8)), none, []⟩, ⟨(some 38), (.mv (.t 10)), none, []⟩, ⟨(some 39), (.bin .rem (.t 38) (.c (.int .i64 4))), none, [1]⟩, ⟨(some 40), (.mv (.t 10)), none, []⟩, ⟨(some 41), (.bin .quo (.t 40) (.c (.int .i64 4))), none, [3]⟩, ⟨(some 42), (.bin .rem (.t 41) (.c (.int .i64 12))), none, [4]⟩, ⟨(some 43), (.bin .add (.t 39) (.t 42)), none, [2, 5]⟩, ⟨(some 44), (.bslice 3 1 [(.int .i64 0)] 1 [(0, (.t 43))]), none, [6]⟩, ⟨(some 45), (.app 3 1 8 [(.int .i64 0)] (.t 37) (.t 44)), none, [0, 7]⟩, ⟨(some 8), (.mv (.t 45)), none, [8, 8, 0, 1, 2, 3, 4, 5, 6, 7, 8]⟩] false))))) (.reg [⟨(some 19), (.mv (.t 9)), none, []⟩, ⟨(some 20), (.bin .add (.t 19) (.c (.int .i64 1))), none, [0]⟩, ⟨(some 9), (.mv (.t 20)), none, [1, 0, 1]⟩] false)))))) (.seq (.reg [⟨(some 46), (.fa 0 (.t 1)), none, []⟩, ⟨(some 47), (.ld false 1 (.t 46)), none, [0]⟩, ⟨(some 48), (.mv (.t 6)), none, []⟩, ⟨(some 49), (.call 29 [(.t 47), (.t 48)]), none, [1, 2]⟩, ⟨(some 50), (.mv (.t 7)), none, []⟩, ⟨(some 51), (.mv (.t 8)), none, []⟩, ⟨(some 52), (.fa 2 (.t 1)), none, []⟩, ⟨(some 53), (.ld false 1 (.t 52)), none, [6]⟩, ⟨(some 54), (.bin .rem (.t 53) (.c (.int .u8 4))), none, [7]⟩, ⟨(some 55), (.cvt .i64 (.t 54)), none, [8]⟩, ⟨(some 2), (.mv (.t 49)), none, [3, 3, 0, 1, 2, 3]⟩, ⟨(some 3), (.mv (.t 50)), none, [4, 10, 0, 1, 2, 3, 4, 10]⟩, ⟨(some 4), (.mv (.t 51)), none, [5, 11, 0, 1, 2, 3, 4, 5, 10, 11]⟩, ⟨(some 5), (.mv (.t 55)), none, [9, 12, 0, 1, 2, 3, 4, 5, 6, 7, 8, 9, 10, 11, 12]⟩] true) .ret)))))
theorem mcOk16 : (match Try.f16.body with | some c => compC Try.prog 56 c | none => none) = some mc16 := by kernel_rfl

theorem fc16 (ls : List (List Int)) (lims : List Int) (lies : Int) (hls : ∀ L ∈ ls, L.length ≤ 4611686018427387904) (hlims : ∀ x ∈ lims, 0 ≤ x ∧ x < 256) (hlies : 0 ≤ lies ∧ lies < 256) : FC Try.prog 16 [.agg [.rs 1 (ls.map cL), .rs 1 (lims.map cu8), .int .u8 lies]] [] (.tup [.rs 4 ((readS ls ((1 + lims.length % 3) : Nat)).map cR), ints (madeLo lims (1 + lims.length % 3)), ints (madeHi lims (1 + lims.length % 3)), iv (lies.tmod 4)]) [] true := by
  refine fc_run (nt := 56) Try.func16 rfl rfl mcOk16 (Nat.le_of_ble_eq_true rfl) ?_
  delta mc16
  refine aw_seq ?_
  refine aw_reg ?_
  refine rs_box rfl rfl rfl rfl rfl rfl ?_
  refine rs_mv rfl rfl ?_
  refine rs_mv rfl rfl ?_
  refine rs_mv rfl rfl ?_
  refine rs_mv rfl rfl ?_
  refine rs_nil fun _ => ?_
  refine th_n ?_
  refine aw_seq ?_
  refine aw_reg ?_
  first | refine rs_fa_p rfl rfl ?_ | refine rs_fa_r rfl rfl rfl ?_
  first | refine rs_ld_r rfl rfl rfl ?_ | refine rs_ld_p rfl rfl rfl rfl rfl ?_ | refine rs_ld_m rfl rfl rfl (by omega) rfl ?_
  first | refine rs_len_m rfl rfl ?_ | refine rs_len_s rfl rfl ?_ | refine rs_len_n rfl rfl ?_ | refine rs_len_r rfl rfl rfl ?_
  refine rs_rem (c := ((lims.length % 3 : Nat) : Int)) rfl rfl rfl (by decide) rfl ?_
  first | refine rs_add rfl rfl rfl (by omega) ?_ | refine rs_addw rfl rfl rfl rfl ?_
  refine rs_mv rfl rfl ?_
  refine rs_nil fun _ => ?_
  refine th_n ?_
  refine aw_seq ?_
  refine aw_reg ?_
  refine rs_mv rfl rfl ?_
  refine rs_mv rfl rfl ?_
  refine rs_nil fun _ => ?_
  refine th_n ?_
  refine aw_seq ?_
  refine aw_seq ?_
  refine aw_reg ?_
  refine rs_mv rfl rfl ?_
  refine rs_nil fun _ => ?_
  refine th_n ?_
  refine aw_block ?_
  refine aw_fam (α := Nat) (fun k => (1 + lims.length % 3) - k) (fun k => [(1, .ptr 1 0 0), (6, iv (((1 + lims.length % 3) : Nat) : Int)), (7, .sl 1007 0 (k)), (8, .sl 1008 0 (k)), (9, iv (((k) : Nat) : Int))]) (fun k => [(1, .cells 25 3 [[.rs 1 (ls.map cL), .rs 1 (lims.map cu8), .int .u8 lies]] true), (1007, .cells 3 1 ((madeLo lims (k)).map ci) true), (1008, .cells 3 1 ((madeHi lims (k)).map ci) true)]) (fun k => k ≤ (1 + lims.length % 3)) 0 (by omega)
    (weak_to (.cons rfl (rc_same rfl (.inl rfl)) (.cons rfl (rc_same rfl (.inl rfl)) (.cons rfl (rc_virt rfl rfl) (.cons rfl (rc_virt rfl rfl) (.cons rfl (rc_same rfl (.inl rfl)) (.nil)))))) (.keep (rfl) rfl (.virt rfl (.virt rfl (.nil)))) (fun i h => by cases h)) ?_
  intro k hk
  refine aw_seq ?_
  refine aw_seq ?_
  refine aw_reg ?_
  refine rs_mv rfl rfl ?_
  refine rs_mv rfl rfl ?_
  refine rs_lss rfl rfl rfl ?_
  refine rs_nil fun _ => ?_
  refine th_n ?_
  refine aw_cond rfl (fun h18 => ?_) (fun h18 => ?_)
  · first | replace h18 := of_decide_eq_true h18 | skip
    have hlr := limAt_range hlims k
    have hmf := mfacts _ hlr
    refine aw_skip ?_
    refine th_n ?_
    refine aw_seq ?_
    refine aw_block ?_
    refine aw_seq ?_
    refine aw_reg ?_
    refine rs_mv rfl rfl ?_
    refine rs_nil fun _ => ?_
    refine th_n ?_
    refine aw_seq ?_
    refine aw_seq ?_
    refine aw_reg ?_
    refine rs_mv rfl rfl ?_
    first | refine rs_fa_p rfl rfl ?_ | refine rs_fa_r rfl rfl rfl ?_
    first | refine rs_ld_r rfl rfl rfl ?_ | refine rs_ld_p rfl rfl rfl rfl rfl ?_ | refine rs_ld_m rfl rfl rfl (by omega) rfl ?_
    first | refine rs_len_m rfl rfl ?_ | refine rs_len_s rfl rfl ?_ | refine rs_len_n rfl rfl ?_ | refine rs_len_r rfl rfl rfl ?_
    refine rs_lss rfl rfl rfl ?_
    refine rs_nil fun _ => ?_
    refine th_n ?_
    refine aw_cond rfl (fun h25 => ?_) (fun h25 => ?_)
    · first | replace h25 := of_decide_eq_true h25 | skip
      refine aw_reg ?_
      first | refine rs_fa_p rfl rfl ?_ | refine rs_fa_r rfl rfl rfl ?_
      first | refine rs_ld_r rfl rfl rfl ?_ | refine rs_ld_p rfl rfl rfl rfl rfl ?_ | refine rs_ld_m rfl rfl rfl (by omega) rfl ?_
      refine rs_mv rfl rfl ?_
      first | refine rs_ix_m rfl rfl rfl (by omega) ?_ | refine rs_ix_sm rfl rfl rfl rfl (by omega) ?_
      refine rs_ld_r rfl rfl rfl ?_
      refine rs_cvt (m := limAt lims k) rfl rfl (by rw [limAt_in (by omega)]; exact wrap64_eq (by omega)) ?_
      refine rs_mv rfl rfl ?_
      refine rs_nil fun _ => ?_
      refine th_n ?_
      refine aw_seq ?_
      refine aw_reg ?_
      refine rs_mv rfl rfl ?_
      refine rs_mv rfl rfl ?_
      refine rs_rem (a := limAt lims k) (c := loF (limAt lims k)) rfl (by first | rfl | exact congrArg (fun x => some (AV.int .i64 x)) (limAt_out (by omega))) rfl (by decide) rfl ?_
      refine rs_bslice rfl rfl rfl rfl rfl rfl ?_
      refine rs_app_m (y := loF (limAt lims k)) rfl rfl rfl rfl (length_madeLo _ _) rfl rfl rfl (by decide) rfl (by omega) (by omega) rfl ?_
      refine rs_mv rfl rfl ?_
      refine rs_nil fun _ => ?_
      refine th_n ?_
      refine aw_reg ?_
      refine rs_mv rfl rfl ?_
      refine rs_mv rfl rfl ?_
      refine rs_rem (a := limAt lims k) rfl (by first | rfl | exact congrArg (fun x => some (AV.int .i64 x)) (limAt_out (by omega))) rfl (by decide) rfl ?_
      refine rs_mv rfl rfl ?_
      refine rs_quow (a := limAt lims k) rfl (by first | rfl | exact congrArg (fun x => some (AV.int .i64 x)) (limAt_out (by omega))) rfl (by decide) hmf.2.2.1 ?_
      refine rs_rem rfl rfl rfl (by decide) rfl ?_
      refine rs_add rfl rfl rfl (by omega) ?_
      refine rs_bslice rfl rfl rfl rfl rfl rfl ?_
      refine rs_app_m (y := hiF (limAt lims k)) rfl rfl rfl rfl (length_madeHi _ _) rfl rfl rfl (by decide) rfl (by omega) (by omega) rfl ?_
      refine rs_mv rfl rfl ?_
      refine rs_nil fun _ => ?_
      refine in_n ?_
      refine th_n ?_
      refine aw_reg ?_
      refine rs_mv rfl rfl ?_
      first | refine rs_add rfl rfl rfl (by omega) ?_ | refine rs_addw rfl rfl rfl rfl ?_
      refine rs_mv rfl rfl ?_
      refine rs_nil fun _ => ?_
      refine th_n ?_
      refine ⟨k + 1, by omega, by omega, ?_⟩
      exact Weak.trans (F1 := [(1, .ptr 1 0 0), (6, iv (((1 + lims.length % 3) : Nat) : Int)), (7, .sl 1007 0 (k + 1)), (8, .sl 45 0 (k + 1)), (9, iv (((k + 1) : Nat) : Int))]) (H1 := [(1, .cells 25 3 [[.rs 1 (ls.map cL), .rs 1 (lims.map cu8), .int .u8 lies]] true), (1007, .cells 3 1 ((madeLo lims (k + 1)).map ci) true), (45, .cells 3 1 ((madeHi lims (k + 1)).map ci) true)]) (weak_to_ren (i := 36) (i' := 1007) (F1 := [(1, .ptr 1 0 0), (6, iv (((1 + lims.length % 3) : Nat) : Int)), (7, .sl 36 0 (k + 1)), (8, .sl 45 0 (k + 1)), (9, iv (((k + 1) : Nat) : Int))]) (H1 := [(1, .cells 25 3 [[.rs 1 (ls.map cL), .rs 1 (lims.map cu8), .int .u8 lies]] true), (36, .cells 3 1 ((madeLo lims (k + 1)).map ci) true), (45, .cells 3 1 ((madeHi lims (k + 1)).map ci) true)]) (.cons rfl (rc_same rfl (.inl rfl)) (.cons rfl (rc_same rfl (.inl rfl)) (.cons rfl (rc_same rfl (.inl rfl)) (.cons rfl (rc_same rfl (.inl rfl)) (.cons rfl (rc_same rfl (.inl rfl)) (.nil)))))) (.keep (rfl) rfl (.keep ((by (rw [madeLo_succ]) <;> rfl)) rfl (.keep ((by (rw [madeHi_succ]) <;> rfl)) rfl (.nil)))) (fun i h => by cases h) rfl rfl (.cons rfl (.same _) (.cons rfl (.same _) (.cons rfl (.sl _ _) (.cons rfl (.same _) (.cons rfl (.same _) (.nil)))))) (.cons rfl (rc_same rfl (.inl rfl)) (.cons rfl (rc_same rfl (.inl rfl)) (.cons rfl (rc_same rfl (.inl rfl)) (.cons rfl (rc_same rfl (.inl rfl)) (.cons rfl (rc_same rfl (.inl rfl)) (.nil)))))) (.keep (rfl) rfl (.keep (rfl) rfl (.keep (rfl) rfl (.nil)))) (fun i h => by cases h)) (weak_to_ren (i := 45) (i' := 1008) (F1 := [(1, .ptr 1 0 0), (6, iv (((1 + lims.length % 3) : Nat) : Int)), (7, .sl 1007 0 (k + 1)), (8, .sl 45 0 (k + 1)), (9, iv (((k + 1) : Nat) : Int))]) (H1 := [(1, .cells 25 3 [[.rs 1 (ls.map cL), .rs 1 (lims.map cu8), .int .u8 lies]] true), (1007, .cells 3 1 ((madeLo lims (k + 1)).map ci) true), (45, .cells 3 1 ((madeHi lims (k + 1)).map ci) true)]) (.cons rfl (rc_same rfl (.inl rfl)) (.cons rfl (rc_same rfl (.inl rfl)) (.cons rfl (rc_same rfl (.inl rfl)) (.cons rfl (rc_same rfl (.inl rfl)) (.cons rfl (rc_same rfl (.inl rfl)) (.nil)))))) (.keep (rfl) rfl (.keep (rfl) rfl (.keep (rfl) rfl (.nil)))) (fun i h => by cases h) rfl rfl (.cons rfl (.same _) (.cons rfl (.same _) (.cons rfl (.same _) (.cons rfl (.sl _ _) (.cons rfl (.same _) (.nil)))))) (.cons rfl (rc_same rfl (.inl rfl)) (.cons rfl (rc_same rfl (.inl rfl)) (.cons rfl (rc_same rfl (.inl rfl)) (.cons rfl (rc_same rfl (.inl rfl)) (.cons rfl (rc_same rfl (.inl rfl)) (.nil)))))) (.keep (rfl) rfl (.keep (rfl) rfl (.keep (rfl) rfl (.nil)))) (fun i h => by cases h))
    · first | replace h25 := of_decide_eq_false h25 | skip
      
      refine aw_skip ?_
      refine th_n ?_
      refine aw_seq ?_
      refine aw_reg ?_
      refine rs_mv rfl rfl ?_
      refine rs_mv rfl rfl ?_
      refine rs_rem (a := limAt lims k) (c := loF (limAt lims k)) rfl (by first | rfl | exact congrArg (fun x => some (AV.int .i64 x)) (limAt_out (by omega))) rfl (by decide) rfl ?_
      refine rs_bslice rfl rfl rfl rfl rfl rfl ?_
      refine rs_app_m (y := loF (limAt lims k)) rfl rfl rfl rfl (length_madeLo _ _) rfl rfl rfl (by decide) rfl (by omega) (by omega) rfl ?_
      refine rs_mv rfl rfl ?_
      refine rs_nil fun _ => ?_
      refine th_n ?_
      refine aw_reg ?_
      refine rs_mv rfl rfl ?_
      refine rs_mv rfl rfl ?_
      refine rs_rem (a := limAt lims k) rfl (by first | rfl | exact congrArg (fun x => some (AV.int .i64 x)) (limAt_out (by omega))) rfl (by decide) rfl ?_
      refine rs_mv rfl rfl ?_
      refine rs_quow (a := limAt lims k) rfl (by first | rfl | exact congrArg (fun x => some (AV.int .i64 x)) (limAt_out (by omega))) rfl (by decide) hmf.2.2.1 ?_
      refine rs_rem rfl rfl rfl (by decide) rfl ?_
      refine rs_add rfl rfl rfl (by omega) ?_
      refine rs_bslice rfl rfl rfl rfl rfl rfl ?_
      refine rs_app_m (y := hiF (limAt lims k)) rfl rfl rfl rfl (length_madeHi _ _) rfl rfl rfl (by decide) rfl (by omega) (by omega) rfl ?_
      refine rs_mv rfl rfl ?_
      refine rs_nil fun _ => ?_
      refine in_n ?_
      refine th_n ?_
      refine aw_reg ?_
      refine rs_mv rfl rfl ?_
      first | refine rs_add rfl rfl rfl (by omega) ?_ | refine rs_addw rfl rfl rfl rfl ?_
      refine rs_mv rfl rfl ?_
      refine rs_nil fun _ => ?_
      refine th_n ?_
      refine ⟨k + 1, by omega, by omega, ?_⟩
      exact Weak.trans (F1 := [(1, .ptr 1 0 0), (6, iv (((1 + lims.length % 3) : Nat) : Int)), (7, .sl 1007 0 (k + 1)), (8, .sl 45 0 (k + 1)), (9, iv (((k + 1) : Nat) : Int))]) (H1 := [(1, .cells 25 3 [[.rs 1 (ls.map cL), .rs 1 (lims.map cu8), .int .u8 lies]] true), (1007, .cells 3 1 ((madeLo lims (k + 1)).map ci) true), (45, .cells 3 1 ((madeHi lims (k + 1)).map ci) true)]) (weak_to_ren (i := 36) (i' := 1007) (F1 := [(1, .ptr 1 0 0), (6, iv (((1 + lims.length % 3) : Nat) : Int)), (7, .sl 36 0 (k + 1)), (8, .sl 45 0 (k + 1)), (9, iv (((k + 1) : Nat) : Int))]) (H1 := [(1, .cells 25 3 [[.rs 1 (ls.map cL), .rs 1 (lims.map cu8), .int .u8 lies]] true), (36, .cells 3 1 ((madeLo lims (k + 1)).map ci) true), (45, .cells 3 1 ((madeHi lims (k + 1)).map ci) true)]) (.cons rfl (rc_same rfl (.inl rfl)) (.cons rfl (rc_same rfl (.inl rfl)) (.cons rfl (rc_same rfl (.inl rfl)) (.cons rfl (rc_same rfl (.inl rfl)) (.cons rfl (rc_same rfl (.inl rfl)) (.nil)))))) (.keep (rfl) rfl (.keep ((by (rw [madeLo_succ]) <;> rfl)) rfl (.keep ((by (rw [madeHi_succ]) <;> rfl)) rfl (.nil)))) (fun i h => by cases h) rfl rfl (.cons rfl (.same _) (.cons rfl (.same _) (.cons rfl (.sl _ _) (.cons rfl (.same _) (.cons rfl (.same _) (.nil)))))) (.cons rfl (rc_same rfl (.inl rfl)) (.cons rfl (rc_same rfl (.inl rfl)) (.cons rfl (rc_same rfl (.inl rfl)) (.cons rfl (rc_same rfl (.inl rfl)) (.cons rfl (rc_same rfl (.inl rfl)) (.nil)))))) (.keep (rfl) rfl (.keep (rfl) rfl (.keep (rfl) rfl (.nil)))) (fun i h => by cases h)) (weak_to_ren (i := 45) (i' := 1008) (F1 := [(1, .ptr 1 0 0), (6, iv (((1 + lims.length % 3) : Nat) : Int)), (7, .sl 1007 0 (k + 1)), (8, .sl 45 0 (k + 1)), (9, iv (((k + 1) : Nat) : Int))]) (H1 := [(1, .cells 25 3 [[.rs 1 (ls.map cL), .rs 1 (lims.map cu8), .int .u8 lies]] true), (1007, .cells 3 1 ((madeLo lims (k + 1)).map ci) true), (45, .cells 3 1 ((madeHi lims (k + 1)).map ci) true)]) (.cons rfl (rc_same rfl (.inl rfl)) (.cons rfl (rc_same rfl (.inl rfl)) (.cons rfl (rc_same rfl (.inl rfl)) (.cons rfl (rc_same rfl (.inl rfl)) (.cons rfl (rc_same rfl (.inl rfl)) (.nil)))))) (.keep (rfl) rfl (.keep (rfl) rfl (.keep (rfl) rfl (.nil)))) (fun i h => by cases h) rfl rfl (.cons rfl (.same _) (.cons rfl (.same _) (.cons rfl (.same _) (.cons rfl (.sl _ _) (.cons rfl (.same _) (.nil)))))) (.cons rfl (rc_same rfl (.inl rfl)) (.cons rfl (rc_same rfl (.inl rfl)) (.cons rfl (rc_same rfl (.inl rfl)) (.cons rfl (rc_same rfl (.inl rfl)) (.cons rfl (rc_same rfl (.inl rfl)) (.nil)))))) (.keep (rfl) rfl (.keep (rfl) rfl (.keep (rfl) rfl (.nil)))) (fun i h => by cases h))
  · first | replace h18 := of_decide_eq_false h18 | skip
    refine aw_exit ?_
    refine th_e ?_
    refine th_e ?_
    refine in_hit ?_
    refine th_n ?_
    refine aw_seq ?_
    refine aw_draw hmix ?_
    first | refine rs_fa_p rfl rfl ?_ | refine rs_fa_r rfl rfl rfl ?_
    first | refine rs_ld_r rfl rfl rfl ?_ | refine rs_ld_p rfl rfl rfl rfl rfl ?_ | refine rs_ld_m rfl rfl rfl (by omega) rfl ?_
    refine rs_mv rfl rfl ?_
    refine rs_calln [] rfl rfl (fz29 ls ((1 + lims.length % 3) : Nat) (by omega) hls) (.cons (hv_same rfl) (.cons (hv_same rfl) (.nil))) rfl ?_
    refine rs_mv rfl rfl ?_
    refine rs_mv rfl rfl ?_
    first | refine rs_fa_p rfl rfl ?_ | refine rs_fa_r rfl rfl rfl ?_
    first | refine rs_ld_r rfl rfl rfl ?_ | refine rs_ld_p rfl rfl rfl rfl rfl ?_ | refine rs_ld_m rfl rfl rfl (by omega) rfl ?_
    refine rs_rem rfl rfl rfl (by decide) rfl ?_
    refine rs_cvt rfl rfl (mfacts lies hlies).2.2.2 ?_
    refine rs_mv rfl rfl ?_
    refine rs_mv rfl rfl ?_
    refine rs_mv rfl rfl ?_
    refine rs_mv rfl rfl ?_
    refine rs_nil ⟨by kernel_rfl, fun _ => ?_⟩
    refine th_n ?_
    refine aw_ret ?_
    obtain rfl : k = (1 + lims.length % 3) := by omega
    exact ret_own rfl (rc_tup (.cons (rc_same rfl (.inl rfl)) (.cons (rc_frz rfl rfl (length_madeLo _ _) (fun _ => rfl)) (.cons (rc_frz rfl rfl (length_madeHi _ _) (fun _ => rfl)) (.cons (rc_same rfl (.inl rfl)) .nil))))) .nil .nil

end Go.Proofs.Ytadjdnhnbkcakaa

/-! Walks: A15. -/
namespace Go.Proofs.Ytadjdnhnbkcakaa
open Go.RowKit

theorem fc23_t (xs : List Int) (hx : xs.length ≤ 4611686018427387904) : FC Try.prog 23 [ints xs, ints xs] [] (.bool true) [] false := by
  have := fc23 xs xs hx
  rwa [show sameS xs xs = true from decide_eq_true rfl] at this

def mc47 : MC := (.seq (.reg [⟨(some 10), (.mv (.c (.bool false))), none, []⟩] false) (.seq (.reg [⟨(some 17), (.mv (.t 4)), none, []⟩, ⟨(some 18), (.bslice 3 1 [(.int .i64 0)] 1 [(0, (.c (.int .i64 0)))]), none, []⟩, ⟨(some 19), (.bslice 3 1 [(.int .i64 0)] 1 [(0, (.c (.int .i64 100)))]), none, []⟩, ⟨(some 20), (.mv (.t 0)), none, []⟩, ⟨(some 21), (.call 21 [(.t 17), (.t 18), (.t 19), (.t 20)]), none, [0, 1, 2, 3]⟩, ⟨(some 16), (.mv (.t 21)), none, [4]⟩, ⟨(some 22), (.ext (.t 16) 0), none, [5]⟩, ⟨(some 23), (.ext (.t 16) 1), none, [5]⟩, ⟨(some 24), (.ext (.t 16) 2), none, [5]⟩, ⟨(some 11), (.mv (.t 22)), none, [6, 4, 0, 1, 2, 3, 4, 5, 6]⟩, ⟨(some 12), (.mv (.t 23)), none, [7, 9, 0, 1, 2, 3, 4, 5, 6, 7, 9]⟩, ⟨(some 13), (.mv (.t 24)), none, [8, 10, 0, 1, 2, 3, 4, 5, 6, 7, 8, 9, 10]⟩] false) (.seq (.reg [⟨(some 26), (.mv (.t 4)), none, []⟩, ⟨(some 27), (.bslice 3 1 [(.int .i64 0)] 1 [(0, (.c (.int .i64 0)))]), none, []⟩, ⟨(some 28), (.bslice 3 1 [(.int .i64 0)] 1 [(0, (.c (.int .i64 100)))]), none, []⟩, ⟨(some 29), (.mv (.t 0)), none, []⟩, ⟨(some 30), (.call 24 [(.t 26), (.t 27), (.t 28), (.t 29)]), none, [0, 1, 2, 3]⟩, ⟨(some 25), (.mv (.t 30)), none, [4]⟩, ⟨(some 31), (.ext (.t 25) 0), none, [5]⟩, ⟨(some 32), (.ext (.t 25) 1), none, [5]⟩, ⟨(some 14), (.mv (.t 31)), none, [6, 4, 0, 1, 2, 3, 4, 5, 6]⟩, ⟨(some 15), (.mv (.t 32)), none, [7, 8, 0, 1, 2, 3, 4, 5, 6, 7, 8]⟩] false) (.seq (.reg [⟨(some 33), (.mv (.t 13)), none, []⟩, ⟨(some 34), (.bin .eql (.t 33) (.c (.int .i64 0))), none, [0]⟩, ⟨(some 35), (.mv (.t 34)), none, [1]⟩, ⟨(some 36), (.mv (.t 15)), (some (35, true)), [2]⟩, ⟨(some 37), (.bin .eql (.t 36) (.c (.int .i64 0))), (some (35, true)), [3, 2]⟩, ⟨(some 38), (.pick (.t 35) (.t 37) (.c (.bool false))), none, [2, 4]⟩, ⟨(some 39), (.mv (.t 38)), none, [5, 2]⟩, ⟨(some 40), (.mv (.t 11)), (some (39, true)), [6]⟩, ⟨(some 41), (.mv (.t 1)), (some (39, true)), [6]⟩, ⟨(some 42), (.bslice 3 1 [(.int .i64 0)] 1 [(0, (.t 41))]), (some (39, true)), [8, 6]⟩, ⟨(some 43), (.call 23 [(.t 40), (.t 42)]), (some (39, true)), [7, 9, 6, 6]⟩, ⟨(some 44), (.pick (.t 39) (.t 43) (.c (.bool false))), none, [6, 10]⟩, ⟨(some 45), (.mv (.t 44)), none, [11, 10]⟩, ⟨(some 46), (.mv (.t 12)), (some (45, true)), [12]⟩, ⟨(some 47), (.mv (.t 2)), (some (45, true)), [12]⟩, ⟨(some 48), (.bslice 3 1 [(.int .i64 0)] 1 [(0, (.t 47))]), (some (45, true)), [14, 12]⟩, ⟨(some 49), (.call 23 [(.t 46), (.t 48)]), (some (45, true)), [13, 15, 12, 12]⟩, ⟨(some 50), (.pick (.t 45) (.t 49) (.c (.bool false))), none, [12, 16]⟩, ⟨(some 51), (.mv (.t 50)), none, [17, 16]⟩, ⟨(some 52), (.mv (.t 14)), (some (51, true)), [18]⟩, ⟨(some 53), (.mv (.t 3)), (some (51, true)), [18]⟩, ⟨(some 54), (.call 23 [(.t 52), (.t 53)]), (some (51, true)), [19, 20, 18, 18]⟩, ⟨(some 55), (.pick (.t 51) (.t 54) (.c (.bool false))), none, [18, 21]⟩, ⟨(some 10), (.mv (.t 55)), none, [22, 21, 0, 1, 2, 3, 4, 5, 6, 7, 8, 9, 10, 11, 12, 13, 14, 15, 16, 17, 18, 19, 20, 21, 22]⟩] false) .ret))))
theorem mcOk47 : (match Try.f47.body with | some c => compC Try.prog 56 c | none => none) = some mc47 := by kernel_rfl

theorem fc47 (l : List Rd) (lies lo hi : Int) (liars : List Int) (hE : narrowE l [0] [100] lies = 0) (hA : narrowA l [0] [100] lies = [lo]) (hB : narrowB l [0] [100] lies = [hi]) (hF : liarsE l [0] [100] lies = 0) (hL : liarsL l [0] [100] lies = liars) (hle : liars.length ≤ 8) : FC Try.prog 47 [iv lies, iv lo, iv hi, ints liars, .rs 4 (l.map cR)] [] (.bool true) [] false := by
  have hN : FC Try.prog 21 [.rs 4 (l.map cR), ints [0], ints [100], .int .i64 lies] [] (.tup [ints [lo], ints [hi], iv 0]) [] false := by have := fz21 l [0] [100] lies; rwa [hA, hB, hE] at this
  have hM : FC Try.prog 24 [.rs 4 (l.map cR), ints [0], ints [100], .int .i64 lies] [] (.tup [ints liars, iv 0]) [] false := by have := fz24 l [0] [100] lies; rwa [hL, hF] at this
  refine fc_run (nt := 56) Try.func47 rfl rfl mcOk47 (Nat.le_of_ble_eq_true rfl) ?_
  delta mc47
  refine aw_seq ?_
  refine aw_reg ?_
  refine rs_mv rfl rfl ?_
  refine rs_nil fun _ => ?_
  refine th_n ?_
  refine aw_seq ?_
  refine aw_reg ?_
  refine rs_mv rfl rfl ?_
  refine rs_bslice rfl rfl rfl rfl rfl rfl ?_
  refine rs_bslice rfl rfl rfl rfl rfl rfl ?_
  refine rs_mv rfl rfl ?_
  refine rs_calln [18, 19] rfl rfl (hN) (.cons (hv_same rfl) (.cons (hv_sl (by simp) rfl (Nat.le_of_ble_eq_true rfl) rfl) (.cons (hv_sl (by simp) rfl (Nat.le_of_ble_eq_true rfl) rfl) (.cons (hv_same rfl) (.nil))))) rfl ?_
  refine rs_mv rfl rfl ?_
  refine rs_ext rfl rfl rfl ?_
  refine rs_ext rfl rfl rfl ?_
  refine rs_ext rfl rfl rfl ?_
  refine rs_mv rfl rfl ?_
  refine rs_mv rfl rfl ?_
  refine rs_mv rfl rfl ?_
  refine rs_nil fun _ => ?_
  refine th_n ?_
  refine aw_seq ?_
  refine aw_reg ?_
  refine rs_mv rfl rfl ?_
  refine rs_bslice rfl rfl rfl rfl rfl rfl ?_
  refine rs_bslice rfl rfl rfl rfl rfl rfl ?_
  refine rs_mv rfl rfl ?_
  refine rs_calln [27, 28] rfl rfl (hM) (.cons (hv_same rfl) (.cons (hv_sl (by simp) rfl (Nat.le_of_ble_eq_true rfl) rfl) (.cons (hv_sl (by simp) rfl (Nat.le_of_ble_eq_true rfl) rfl) (.cons (hv_same rfl) (.nil))))) rfl ?_
  refine rs_mv rfl rfl ?_
  refine rs_ext rfl rfl rfl ?_
  refine rs_ext rfl rfl rfl ?_
  refine rs_mv rfl rfl ?_
  refine rs_mv rfl rfl ?_
  refine rs_nil fun _ => ?_
  refine th_n ?_
  refine aw_seq ?_
  refine aw_reg ?_
  refine rs_mv rfl rfl ?_
  refine rs_cmp_t rfl rfl rfl rfl rfl ?_
  refine rs_mv rfl rfl ?_
  refine rs_mv rfl rfl ?_
  refine rs_cmp_t rfl rfl rfl rfl rfl ?_
  refine rs_pick rfl rfl rfl ?_
  refine rs_mv rfl rfl ?_
  refine rs_mv rfl rfl ?_
  refine rs_mv rfl rfl ?_
  refine rs_bslice rfl rfl rfl rfl rfl rfl ?_
  refine rs_calln [42] rfl rfl (fc23_t [lo] (Nat.le_of_ble_eq_true rfl)) (.cons (hv_same rfl) (.cons (hv_sl (by simp) rfl (Nat.le_of_ble_eq_true rfl) rfl) (.nil))) rfl ?_
  refine rs_pick rfl rfl rfl ?_
  refine rs_mv rfl rfl ?_
  refine rs_mv rfl rfl ?_
  refine rs_mv rfl rfl ?_
  refine rs_bslice rfl rfl rfl rfl rfl rfl ?_
  refine rs_calln [48] rfl rfl (fc23_t [hi] (Nat.le_of_ble_eq_true rfl)) (.cons (hv_same rfl) (.cons (hv_sl (by simp) rfl (Nat.le_of_ble_eq_true rfl) rfl) (.nil))) rfl ?_
  refine rs_pick rfl rfl rfl ?_
  refine rs_mv rfl rfl ?_
  refine rs_mv rfl rfl ?_
  refine rs_mv rfl rfl ?_
  refine rs_calln [] rfl rfl (fc23_t liars (by omega)) (.cons (hv_same rfl) (.cons (hv_same rfl) (.nil))) rfl ?_
  refine rs_pick rfl rfl rfl ?_
  refine rs_mv rfl rfl ?_
  refine rs_nil fun _ => ?_
  refine th_n ?_
  refine aw_ret ?_
  exact ret_pure rfl rfl rfl (.inr rfl)

end Go.Proofs.Ytadjdnhnbkcakaa

/-! Walks: A16. -/
namespace Go.Proofs.Ytadjdnhnbkcakaa
open Go.RowKit

theorem n60 : FC Try.prog 21 [.rs 4 (([(⟨0, 0, 10, 20⟩ : Rd), (⟨2, 0, 40, 50⟩ : Rd)]).map cR), ints [0], ints [100], .int .i64 0] [] (.tup [ints [], ints [], iv 21]) [] false := by
  have h := fz21 [(⟨0, 0, 10, 20⟩ : Rd), (⟨2, 0, 40, 50⟩ : Rd)] [0] [100] 0
  rwa [show narrowA [(⟨0, 0, 10, 20⟩ : Rd), (⟨2, 0, 40, 50⟩ : Rd)] [0] [100] 0 = [] by decide +kernel, show narrowB [(⟨0, 0, 10, 20⟩ : Rd), (⟨2, 0, 40, 50⟩ : Rd)] [0] [100] 0 = [] by decide +kernel, show narrowE [(⟨0, 0, 10, 20⟩ : Rd), (⟨2, 0, 40, 50⟩ : Rd)] [0] [100] 0 = 21 by decide +kernel] at h
theorem n70 : FC Try.prog 24 [.rs 4 (([(⟨0, 0, 10, 20⟩ : Rd), (⟨2, 0, 40, 50⟩ : Rd)]).map cR), ints [0], ints [100], .int .i64 0] [] (.tup [ints [], iv 21]) [] false := by
  have h := fz24 [(⟨0, 0, 10, 20⟩ : Rd), (⟨2, 0, 40, 50⟩ : Rd)] [0] [100] 0
  rwa [show liarsL [(⟨0, 0, 10, 20⟩ : Rd), (⟨2, 0, 40, 50⟩ : Rd)] [0] [100] 0 = [] by decide +kernel, show liarsE [(⟨0, 0, 10, 20⟩ : Rd), (⟨2, 0, 40, 50⟩ : Rd)] [0] [100] 0 = 21 by decide +kernel] at h
theorem n81 : FC Try.prog 21 [.rs 4 (([(⟨0, 0, 3, 3⟩ : Rd), (⟨0, 1, 8, 8⟩ : Rd), (⟨1, 0, 4, 4⟩ : Rd)]).map cR), ints [0, 0], ints [9, 9], .int .i64 1] [] (.tup [ints [3, 0], ints [4, 9], iv 0]) [] false := by
  have h := fz21 [(⟨0, 0, 3, 3⟩ : Rd), (⟨0, 1, 8, 8⟩ : Rd), (⟨1, 0, 4, 4⟩ : Rd)] [0, 0] [9, 9] 1
  rwa [show narrowA [(⟨0, 0, 3, 3⟩ : Rd), (⟨0, 1, 8, 8⟩ : Rd), (⟨1, 0, 4, 4⟩ : Rd)] [0, 0] [9, 9] 1 = [3, 0] by decide +kernel, show narrowB [(⟨0, 0, 3, 3⟩ : Rd), (⟨0, 1, 8, 8⟩ : Rd), (⟨1, 0, 4, 4⟩ : Rd)] [0, 0] [9, 9] 1 = [4, 9] by decide +kernel, show narrowE [(⟨0, 0, 3, 3⟩ : Rd), (⟨0, 1, 8, 8⟩ : Rd), (⟨1, 0, 4, 4⟩ : Rd)] [0, 0] [9, 9] 1 = 0 by decide +kernel] at h
theorem n108 : FC Try.prog 26 [.rs 4 (([(⟨0, 0, 3, 3⟩ : Rd), (⟨0, 1, 8, 8⟩ : Rd), (⟨1, 0, 4, 4⟩ : Rd)]).map cR), ints [4, 0], iv 1] [] (.bool true) [] false := by
  have h := fc26 [(⟨0, 0, 3, 3⟩ : Rd), (⟨0, 1, 8, 8⟩ : Rd), (⟨1, 0, 4, 4⟩ : Rd)] [4, 0] 1 (by decide)
  rwa [show agreeS [(⟨0, 0, 3, 3⟩ : Rd), (⟨0, 1, 8, 8⟩ : Rd), (⟨1, 0, 4, 4⟩ : Rd)] [4, 0] 1 = true by decide +kernel] at h
theorem n113 : FC Try.prog 26 [.rs 4 (([(⟨0, 0, 3, 3⟩ : Rd), (⟨0, 1, 8, 8⟩ : Rd), (⟨1, 0, 4, 4⟩ : Rd)]).map cR), ints [5, 0], iv 1] [] (.bool false) [] false := by
  have h := fc26 [(⟨0, 0, 3, 3⟩ : Rd), (⟨0, 1, 8, 8⟩ : Rd), (⟨1, 0, 4, 4⟩ : Rd)] [5, 0] 1 (by decide)
  rwa [show agreeS [(⟨0, 0, 3, 3⟩ : Rd), (⟨0, 1, 8, 8⟩ : Rd), (⟨1, 0, 4, 4⟩ : Rd)] [5, 0] 1 = false by decide +kernel] at h
theorem n119 : FC Try.prog 19 [.rs 4 (([] : List Rd).map cR), ints [1], ints [0], .int .i64 0] [] (.int .i64 3) [] false := by
  have h := fc19 [] [1] [0] 0
  rwa [show checkS [] [1] [0] 0 = 3 by decide +kernel] at h

def mc15 : MC := (.seq (.reg [⟨(some 0), (.mv (.c (.bool false))), none, []⟩] false) (.seq (.reg [⟨(some 13), (.call 46 [(.c (.int .i64 0)), (.c (.int .i64 10)), (.c (.int .i64 20))]), none, []⟩, ⟨(some 14), (.call 46 [(.c (.int .i64 1)), (.c (.int .i64 15)), (.c (.int .i64 30))]), none, [0]⟩, ⟨(some 15), (.call 46 [(.c (.int .i64 2)), (.c (.int .i64 40)), (.c (.int .i64 50))]), none, [1]⟩, ⟨(some 1), (.alloc 50 4 [(.int .i64 0), (.int .i64 0), (.int .i64 0), (.int .i64 0)]), none, []⟩, ⟨(some 2), (.alloc 50 4 [(.int .i64 0), (.int .i64 0), (.int .i64 0), (.int .i64 0)]), none, []⟩, ⟨(some 3), (.alloc 50 4 [(.int .i64 0), (.int .i64 0), (.int .i64 0), (.int .i64 0)]), none, []⟩, ⟨none, (.st 4 (.t 1) (.t 13)), none, [3, 0, 2, 0, 3, 4, 5]⟩, ⟨none, (.st 4 (.t 2) (.t 14)), none, [4, 1, 6, 0, 1, 3, 4, 5, 6]⟩, ⟨none, (.st 4 (.t 3) (.t 15)), none, [5, 2, 7, 0, 1, 2, 3, 4, 5, 6, 7]⟩] false) (.seq (.seq (.reg [⟨(some 16), (.ld true 4 (.t 1)), none, []⟩, ⟨(some 17), (.ld true 4 (.t 2)), none, []⟩, ⟨(some 18), (.bslice 50 4 [(.int .i64 0), (.int .i64 0), (.int .i64 0), (.int .i64 0)] 2 [(0, (.t 16)), (1, (.t 17))]), none, [0, 1]⟩, ⟨(some 19), (.call 47 [(.c (.int .i64 0)), (.c (.int .i64 15)), (.c (.int .i64 20)), (.c .nils), (.t 18)]), none, [2]⟩, ⟨(some 20), (.un .not (.t 19)), none, [3]⟩, ⟨(some 21), (.mv (.t 20)), none, [4, 3]⟩, ⟨(some 22), (.ld true 4 (.t 1)), (some (21, false)), [5]⟩, ⟨(some 23), (.call 46 [(.c (.int .i64 1)), (.c (.int .i64 40)), (.c (.int .i64 50))]), (some (21, false)), [5, 5]⟩, ⟨(some 24), (.bslice 50 4 [(.int .i64 0), (.int .i64 0), (.int .i64 0), (.int .i64 0)] 2 [(0, (.t 22)), (1, (.t 23))]), (some (21, false)), [6, 7, 5]⟩, ⟨(some 25), (.call 47 [(.c (.int .i64 1)), (.c (.int .i64 10)), (.c (.int .i64 50)), (.c .nils), (.t 24)]), (some (21, false)), [8, 7, 5]⟩, ⟨(some 26), (.un .not (.t 25)), (some (21, false)), [9, 5]⟩, ⟨(some 27), (.pick (.t 21) (.c (.bool true)) (.t 26)), none, [5, 10]⟩, ⟨(some 28), (.mv (.t 27)), none, [11, 9]⟩, ⟨(some 29), (.bslice 3 1 [(.int .i64 0)] 1 [(0, (.c (.int .i64 2)))]), (some (28, false)), [12]⟩, ⟨(some 30), (.ld true 4 (.t 1)), (some (28, false)), [12]⟩, ⟨(some 31), (.ld true 4 (.t 2)), (some (28, false)), [12]⟩, ⟨(some 32), (.ld true 4 (.t 3)), (some (28, false)), [12]⟩, ⟨(some 33), (.bslice 50 4 [(.int .i64 0), (.int .i64 0), (.int .i64 0), (.int .i64 0)] 3 [(0, (.t 30)), (1, (.t 31)), (2, (.t 32))]), (some (28, false)), [14, 15, 16, 12]⟩, ⟨(some 34), (.call 47 [(.c (.int .i64 1)), (.c (.int .i64 15)), (.c (.int .i64 20)), (.t 29), (.t 33)]), (some (28, false)), [13, 17, 12, 12]⟩, ⟨(some 35), (.un .not (.t 34)), (some (28, false)), [18, 12]⟩, ⟨(some 36), (.pick (.t 28) (.c (.bool true)) (.t 35)), none, [12, 19]⟩, ⟨(some 37), (.mv (.t 36)), none, [20, 18]⟩, ⟨(some 38), (.bslice 3 1 [(.int .i64 0)] 1 [(0, (.c (.int .i64 0)))]), (some (37, false)), [21]⟩, ⟨(some 39), (.ld true 4 (.t 1)), (some (37, false)), [21]⟩, ⟨(some 40), (.call 46 [(.c (.int .i64 0)), (.c (.int .i64 30)), (.c (.int .i64 40))]), (some (37, false)), [21, 21]⟩, ⟨(some 41), (.call 46 [(.c (.int .i64 1)), (.c (.int .i64 12)), (.c (.int .i64 13))]), (some (37, false)), [24, 21]⟩, ⟨(some 42), (.bslice 50 4 [(.int .i64 0), (.int .i64 0), (.int .i64 0), (.int .i64 0)] 3 [(0, (.t 39)), (1, (.t 40)), (2, (.t 41))]), (some (37, false)), [23, 24, 25, 21]⟩, ⟨(some 43), (.call 47 [(.c (.int .i64 1)), (.c (.int .i64 12)), (.c (.int .i64 13)), (.t 38), (.t 42)]), (some (37, false)), [22, 26, 25, 21]⟩, ⟨(some 44), (.un .not (.t 43)), (some (37, false)), [27, 21]⟩, ⟨(some 45), (.pick (.t 37) (.c (.bool true)) (.t 44)), none, [21, 28]⟩, ⟨(some 46), (.mv (.t 45)), none, [29, 27]⟩, ⟨(some 47), (.ld true 4 (.t 1)), (some (46, false)), [30]⟩, ⟨(some 48), (.ld true 4 (.t 2)), (some (46, false)), [30]⟩, ⟨(some 49), (.ld true 4 (.t 3)), (some (46, false)), [30]⟩, ⟨(some 50), (.bslice 50 4 [(.int .i64 0), (.int .i64 0), (.int .i64 0), (.int .i64 0)] 3 [(0, (.t 47)), (1, (.t 48)), (2, (.t 49))]), (some (46, false)), [31, 32, 33, 30]⟩, ⟨(some 51), (.call 47 [(.c (.int .i64 3)), (.c (.int .i64 0)), (.c (.int .i64 100)), (.c .nils), (.t 50)]), (some (46, false)), [34, 30, 30]⟩, ⟨(some 52), (.un .not (.t 51)), (some (46, false)), [35, 30]⟩, ⟨(some 53), (.pick (.t 46) (.c (.bool true)) (.t 52)), none, [30, 36]⟩] true) (.cond (.t 53) (.seq (.reg [⟨(some 0), (.mv (.c (.bool false))), none, []⟩] false) .ret) .skip)) (.seq (.reg [⟨(some 55), (.ld true 4 (.t 1)), none, []⟩, ⟨(some 56), (.ld true 4 (.t 3)), none, []⟩, ⟨(some 57), (.bslice 50 4 [(.int .i64 0), (.int .i64 0), (.int .i64 0), (.int .i64 0)] 2 [(0, (.t 55)), (1, (.t 56))]), none, [0, 1]⟩, ⟨(some 58), (.bslice 3 1 [(.int .i64 0)] 1 [(0, (.c (.int .i64 0)))]), none, []⟩, ⟨(some 59), (.bslice 3 1 [(.int .i64 0)] 1 [(0, (.c (.int .i64 100)))]), none, []⟩, ⟨(some 60), (.call 21 [(.t 57), (.t 58), (.t 59), (.c (.int .i64 0))]), none, [2, 3, 4]⟩, ⟨(some 54), (.mv (.t 60)), none, [5]⟩, ⟨(some 61), (.ext (.t 54) 0), none, [6]⟩, ⟨(some 62), (.ext (.t 54) 1), none, [6]⟩, ⟨(some 63), (.ext (.t 54) 2), none, [6]⟩, ⟨(some 4), (.mv (.t 61)), none, [7, 5, 0, 1, 2, 3, 4, 5, 6, 7]⟩, ⟨(some 5), (.mv (.t 62)), none, [8, 10, 0, 1, 2, 3, 4, 5, 6, 7, 8, 10]⟩, ⟨(some 6), (.mv (.t 63)), none, [9, 11, 0, 1, 2, 3, 4, 5, 6, 7, 8, 9, 10, 11]⟩] false) (.seq (.reg [⟨(some 65), (.ld true 4 (.t 1)), none, []⟩, ⟨(some 66), (.ld true 4 (.t 3)), none, []⟩, ⟨(some 67), (.bslice 50 4 [(.int .i64 0), (.int .i64 0), (.int .i64 0), (.int .i64 0)] 2 [(0, (.t 65)), (1, (.t 66))]), none, [0, 1]⟩, ⟨(some 68), (.bslice 3 1 [(.int .i64 0)] 1 [(0, (.c (.int .i64 0)))]), none, []⟩, ⟨(some 69), (.bslice 3 1 [(.int .i64 0)] 1 [(0, (.c (.int .i64 100)))]), none, []⟩, ⟨(some 70), (.call 24 [(.t 67), (.t 68), (.t 69), (.c (.int .i64 0))]), none, [2, 3, 4]⟩, ⟨(some 64), (.mv (.t 70)), none, [5]⟩, ⟨(some 71), (.ext (.t 64) 0), none, [6]⟩, ⟨(some 72), (.ext (.t 64) 1), none, [6]⟩, ⟨(some 7), (.mv (.t 71)), none, [7, 5, 0, 1, 2, 3, 4, 5, 6, 7]⟩, ⟨(some 8), (.mv (.t 72)), none, [8, 9, 0, 1, 2, 3, 4, 5, 6, 7, 8, 9]⟩] false) (.seq (.reg [⟨(some 73), (.call 46 [(.c (.int .i64 0)), (.c (.int .i64 3)), (.c (.int .i64 3))]), none, []⟩, ⟨(some 74), (.build [(.int .i64 0), (.int .i64 0), (.int .i64 0), (.int .i64 0)] [(1, (1, (.c (.int .i64 1)))), (2, (1, (.c (.int .i64 8)))), (3, (1, (.c (.int .i64 8))))]), none, []⟩, ⟨(some 75), (.call 46 [(.c (.int .i64 1)), (.c (.int .i64 4)), (.c (.int .i64 4))]), none, [0]⟩, ⟨(some 76), (.bslice 50 4 [(.int .i64 0), (.int .i64 0), (.int .i64 0), (.int .i64 0)] 3 [(0, (.t 73)), (1, (.t 74)), (2, (.t 75))]), none, [0, 1, 2]⟩, ⟨(some 9), (.mv (.t 76)), none, [3, 2, 0, 1, 2, 3]⟩] false) (.seq (.reg [⟨(some 78), (.mv (.t 9)), none, []⟩, ⟨(some 79), (.bslice 3 1 [(.int .i64 0)] 2 [(0, (.c (.int .i64 0))), (1, (.c (.int .i64 0)))]), none, []⟩, ⟨(some 80), (.bslice 3 1 [(.int .i64 0)] 2 [(0, (.c (.int .i64 9))), (1, (.c (.int .i64 9)))]), none, []⟩, ⟨(some 81), (.call 21 [(.t 78), (.t 79), (.t 80), (.c (.int .i64 1))]), none, [0, 1, 2]⟩, ⟨(some 77), (.mv (.t 81)), none, [3]⟩, ⟨(some 82), (.ext (.t 77) 0), none, [4]⟩, ⟨(some 83), (.ext (.t 77) 1), none, [4]⟩, ⟨(some 84), (.ext (.t 77) 2), none, [4]⟩, ⟨(some 10), (.mv (.t 82)), none, [5, 3, 0, 1, 2, 3, 4, 5]⟩, ⟨(some 11), (.mv (.t 83)), none, [6, 8, 0, 1, 2, 3, 4, 5, 6, 8]⟩, ⟨(some 12), (.mv (.t 84)), none, [7, 9, 0, 1, 2, 3, 4, 5, 6, 7, 8, 9]⟩] false) (.seq (.reg [⟨(some 85), (.mv (.t 6)), none, []⟩, ⟨(some 86), (.bin .eql (.t 85) (.c (.int .i64 21))), none, [0]⟩, ⟨(some 87), (.mv (.t 86)), none, [1]⟩, ⟨(some 88), (.mv (.t 8)), (some (87, true)), [2]⟩, ⟨(some 89), (.bin .eql (.t 88) (.c (.int .i64 21))), (some (87, true)), [3, 2]⟩, ⟨(some 90), (.pick (.t 87) (.t 89) (.c (.bool false))), none, [2, 4]⟩, ⟨(some 91), (.mv (.t 90)), none, [5, 2]⟩, ⟨(some 92), (.mv (.t 12)), (some (91, true)), [6]⟩, ⟨(some 93), (.bin .eql (.t 92) (.c (.int .i64 0))), (some (91, true)), [7, 6]⟩, ⟨(some 94), (.pick (.t 91) (.t 93) (.c (.bool false))), none, [6, 8]⟩, ⟨(some 95), (.mv (.t 94)), none, [9, 6]⟩, ⟨(some 96), (.mv (.t 10)), (some (95, true)), [10]⟩, ⟨(some 97), (.bslice 3 1 [(.int .i64 0)] 2 [(0, (.c (.int .i64 3))), (1, (.c (.int .i64 0)))]), (some (95, true)), [10]⟩, ⟨(some 98), (.call 23 [(.t 96), (.t 97)]), (some (95, true)), [11, 12, 10, 10]⟩, ⟨(some 99), (.pick (.t 95) (.t 98) (.c (.bool false))), none, [10, 13]⟩, ⟨(some 100), (.mv (.t 99)), none, [14, 13]⟩, ⟨(some 101), (.mv (.t 11)), (some (100, true)), [15]⟩, ⟨(some 102), (.bslice 3 1 [(.int .i64 0)] 2 [(0, (.c (.int .i64 4))), (1, (.c (.int .i64 9)))]), (some (100, true)), [15]⟩, ⟨(some 103), (.call 23 [(.t 101), (.t 102)]), (some (100, true)), [16, 17, 15, 15]⟩, ⟨(some 104), (.pick (.t 100) (.t 103) (.c (.bool false))), none, [15, 18]⟩, ⟨(some 105), (.mv (.t 104)), none, [19, 18]⟩, ⟨(some 106), (.mv (.t 9)), (some (105, true)), [20]⟩, ⟨(some 107), (.bslice 3 1 [(.int .i64 0)] 2 [(0, (.c (.int .i64 4))), (1, (.c (.int .i64 0)))]), (some (105, true)), [20]⟩, ⟨(some 108), (.call 26 [(.t 106), (.t 107), (.c (.int .i64 1))]), (some (105, true)), [21, 22, 20, 20]⟩, ⟨(some 109), (.pick (.t 105) (.t 108) (.c (.bool false))), none, [20, 23]⟩, ⟨(some 110), (.mv (.t 109)), none, [24, 23]⟩, ⟨(some 111), (.mv (.t 9)), (some (110, true)), [25]⟩, ⟨(some 112), (.bslice 3 1 [(.int .i64 0)] 2 [(0, (.c (.int .i64 5))), (1, (.c (.int .i64 0)))]), (some (110, true)), [25]⟩, ⟨(some 113), (.call 26 [(.t 111), (.t 112), (.c (.int .i64 1))]), (some (110, true)), [26, 27, 25, 25]⟩, ⟨(some 114), (.un .not (.t 113)), (some (110, true)), [28, 25]⟩, ⟨(some 115), (.pick (.t 110) (.t 114) (.c (.bool false))), none, [25, 29]⟩, ⟨(some 116), (.mv (.t 115)), none, [30, 28]⟩, ⟨(some 117), (.bslice 3 1 [(.int .i64 0)] 1 [(0, (.c (.int .i64 1)))]), (some (116, true)), [31]⟩, ⟨(some 118), (.bslice 3 1 [(.int .i64 0)] 1 [(0, (.c (.int .i64 0)))]), (some (116, true)), [31]⟩, ⟨(some 119), (.call 19 [(.c .nils), (.t 117), (.t 118), (.c (.int .i64 0))]), (some (116, true)), [32, 33, 31, 31]⟩, ⟨(some 120), (.bin .eql (.t 119) (.c (.int .i64 3))), (some (116, true)), [34, 31]⟩, ⟨(some 121), (.pick (.t 116) (.t 120) (.c (.bool false))), none, [31, 35]⟩, ⟨(some 0), (.mv (.t 121)), none, [36, 34, 0, 1, 2, 3, 4, 5, 6, 7, 8, 9, 10, 11, 12, 13, 14, 15, 16, 17, 18, 19, 20, 21, 22, 23, 24, 25, 26, 27, 28, 29, 30, 31, 32, 33, 34, 35, 36]⟩] false) .ret))))))))
theorem mcOk15 : (match Try.f15.body with | some c => compC Try.prog 122 c | none => none) = some mc15 := by kernel_rfl

theorem fc15  : FC Try.prog 15 [] [] (.bool true) [] false := by
  refine fc_run (nt := 122) Try.func15 rfl rfl mcOk15 (Nat.le_of_ble_eq_true rfl) ?_
  delta mc15
  refine aw_seq ?_
  refine aw_reg ?_
  refine rs_mv rfl rfl ?_
  refine rs_nil fun _ => ?_
  refine th_n ?_
  refine aw_seq ?_
  refine aw_reg ?_
  refine rs_calln [] rfl rfl (fc46 0 10 20) (.cons (hv_same rfl) (.cons (hv_same rfl) (.cons (hv_same rfl) (.nil)))) rfl ?_
  refine rs_calln [] rfl rfl (fc46 1 15 30) (.cons (hv_same rfl) (.cons (hv_same rfl) (.cons (hv_same rfl) (.nil)))) rfl ?_
  refine rs_calln [] rfl rfl (fc46 2 40 50) (.cons (hv_same rfl) (.cons (hv_same rfl) (.cons (hv_same rfl) (.nil)))) rfl ?_
  refine rs_alloc rfl rfl rfl ?_
  refine rs_alloc rfl rfl rfl ?_
  refine rs_alloc rfl rfl rfl ?_
  refine rs_st rfl rfl rfl rfl rfl rfl rfl (Nat.le_of_ble_eq_true rfl) rfl rfl ?_
  refine rs_st rfl rfl rfl rfl rfl rfl rfl (Nat.le_of_ble_eq_true rfl) rfl rfl ?_
  refine rs_st rfl rfl rfl rfl rfl rfl rfl (Nat.le_of_ble_eq_true rfl) rfl rfl ?_
  refine rs_nil fun _ => ?_
  refine th_n ?_
  refine aw_seq ?_
  refine aw_seq ?_
  refine aw_draw hmix ?_
  first | refine rs_ld_pa rfl rfl rfl rfl (Nat.le_of_ble_eq_true rfl) rfl ?_ | refine rs_ld_ra rfl rfl (Nat.le_of_ble_eq_true rfl) rfl ?_ | refine rs_ld_ma rfl rfl rfl (by omega) (Nat.le_of_ble_eq_true rfl) rfl ?_
  first | refine rs_ld_pa rfl rfl rfl rfl (Nat.le_of_ble_eq_true rfl) rfl ?_ | refine rs_ld_ra rfl rfl (Nat.le_of_ble_eq_true rfl) rfl ?_ | refine rs_ld_ma rfl rfl rfl (by omega) (Nat.le_of_ble_eq_true rfl) rfl ?_
  refine rs_bslice rfl rfl rfl rfl rfl rfl ?_
  refine rs_calln [18] rfl rfl (fc47 [(⟨0, 0, 10, 20⟩ : Rd), (⟨1, 0, 15, 30⟩ : Rd)] 0 15 20 [] (by decide +kernel) (by decide +kernel) (by decide +kernel) (by decide +kernel) (by decide +kernel) (by decide)) (.cons (hv_same rfl) (.cons (hv_same rfl) (.cons (hv_same rfl) (.cons (hv_nils) (.cons (hv_sl (by simp) rfl (Nat.le_of_ble_eq_true rfl) rfl) (.nil)))))) rfl ?_
  refine rs_not rfl rfl ?_
  refine rs_mv rfl rfl ?_
  first | refine rs_ld_pa rfl rfl rfl rfl (Nat.le_of_ble_eq_true rfl) rfl ?_ | refine rs_ld_ra rfl rfl (Nat.le_of_ble_eq_true rfl) rfl ?_ | refine rs_ld_ma rfl rfl rfl (by omega) (Nat.le_of_ble_eq_true rfl) rfl ?_
  refine rs_calln [] rfl rfl (fc46 1 40 50) (.cons (hv_same rfl) (.cons (hv_same rfl) (.cons (hv_same rfl) (.nil)))) rfl ?_
  refine rs_bslice rfl rfl rfl rfl rfl rfl ?_
  refine rs_calln [24] rfl rfl (fc47 [(⟨0, 0, 10, 20⟩ : Rd), (⟨1, 0, 40, 50⟩ : Rd)] 1 10 50 [] (by decide +kernel) (by decide +kernel) (by decide +kernel) (by decide +kernel) (by decide +kernel) (by decide)) (.cons (hv_same rfl) (.cons (hv_same rfl) (.cons (hv_same rfl) (.cons (hv_nils) (.cons (hv_sl (by simp) rfl (Nat.le_of_ble_eq_true rfl) rfl) (.nil)))))) rfl ?_
  refine rs_not rfl rfl ?_
  refine rs_pick rfl rfl rfl ?_
  refine rs_mv rfl rfl ?_
  refine rs_bslice rfl rfl rfl rfl rfl rfl ?_
  first | refine rs_ld_pa rfl rfl rfl rfl (Nat.le_of_ble_eq_true rfl) rfl ?_ | refine rs_ld_ra rfl rfl (Nat.le_of_ble_eq_true rfl) rfl ?_ | refine rs_ld_ma rfl rfl rfl (by omega) (Nat.le_of_ble_eq_true rfl) rfl ?_
  first | refine rs_ld_pa rfl rfl rfl rfl (Nat.le_of_ble_eq_true rfl) rfl ?_ | refine rs_ld_ra rfl rfl (Nat.le_of_ble_eq_true rfl) rfl ?_ | refine rs_ld_ma rfl rfl rfl (by omega) (Nat.le_of_ble_eq_true rfl) rfl ?_
  first | refine rs_ld_pa rfl rfl rfl rfl (Nat.le_of_ble_eq_true rfl) rfl ?_ | refine rs_ld_ra rfl rfl (Nat.le_of_ble_eq_true rfl) rfl ?_ | refine rs_ld_ma rfl rfl rfl (by omega) (Nat.le_of_ble_eq_true rfl) rfl ?_
  refine rs_bslice rfl rfl rfl rfl rfl rfl ?_
  refine rs_calln [29, 33] rfl rfl (fc47 [(⟨0, 0, 10, 20⟩ : Rd), (⟨1, 0, 15, 30⟩ : Rd), (⟨2, 0, 40, 50⟩ : Rd)] 1 15 20 [2] (by decide +kernel) (by decide +kernel) (by decide +kernel) (by decide +kernel) (by decide +kernel) (by decide)) (.cons (hv_same rfl) (.cons (hv_same rfl) (.cons (hv_same rfl) (.cons (hv_sl (by simp) rfl (Nat.le_of_ble_eq_true rfl) rfl) (.cons (hv_sl (by simp) rfl (Nat.le_of_ble_eq_true rfl) rfl) (.nil)))))) rfl ?_
  refine rs_not rfl rfl ?_
  refine rs_pick rfl rfl rfl ?_
  refine rs_mv rfl rfl ?_
  refine rs_bslice rfl rfl rfl rfl rfl rfl ?_
  first | refine rs_ld_pa rfl rfl rfl rfl (Nat.le_of_ble_eq_true rfl) rfl ?_ | refine rs_ld_ra rfl rfl (Nat.le_of_ble_eq_true rfl) rfl ?_ | refine rs_ld_ma rfl rfl rfl (by omega) (Nat.le_of_ble_eq_true rfl) rfl ?_
  refine rs_calln [] rfl rfl (fc46 0 30 40) (.cons (hv_same rfl) (.cons (hv_same rfl) (.cons (hv_same rfl) (.nil)))) rfl ?_
  refine rs_calln [] rfl rfl (fc46 1 12 13) (.cons (hv_same rfl) (.cons (hv_same rfl) (.cons (hv_same rfl) (.nil)))) rfl ?_
  refine rs_bslice rfl rfl rfl rfl rfl rfl ?_
  refine rs_calln [38, 42] rfl rfl (fc47 [(⟨0, 0, 10, 20⟩ : Rd), (⟨0, 0, 30, 40⟩ : Rd), (⟨1, 0, 12, 13⟩ : Rd)] 1 12 13 [0] (by decide +kernel) (by decide +kernel) (by decide +kernel) (by decide +kernel) (by decide +kernel) (by decide)) (.cons (hv_same rfl) (.cons (hv_same rfl) (.cons (hv_same rfl) (.cons (hv_sl (by simp) rfl (Nat.le_of_ble_eq_true rfl) rfl) (.cons (hv_sl (by simp) rfl (Nat.le_of_ble_eq_true rfl) rfl) (.nil)))))) rfl ?_
  refine rs_not rfl rfl ?_
  refine rs_pick rfl rfl rfl ?_
  refine rs_mv rfl rfl ?_
  first | refine rs_ld_pa rfl rfl rfl rfl (Nat.le_of_ble_eq_true rfl) rfl ?_ | refine rs_ld_ra rfl rfl (Nat.le_of_ble_eq_true rfl) rfl ?_ | refine rs_ld_ma rfl rfl rfl (by omega) (Nat.le_of_ble_eq_true rfl) rfl ?_
  first | refine rs_ld_pa rfl rfl rfl rfl (Nat.le_of_ble_eq_true rfl) rfl ?_ | refine rs_ld_ra rfl rfl (Nat.le_of_ble_eq_true rfl) rfl ?_ | refine rs_ld_ma rfl rfl rfl (by omega) (Nat.le_of_ble_eq_true rfl) rfl ?_
  first | refine rs_ld_pa rfl rfl rfl rfl (Nat.le_of_ble_eq_true rfl) rfl ?_ | refine rs_ld_ra rfl rfl (Nat.le_of_ble_eq_true rfl) rfl ?_ | refine rs_ld_ma rfl rfl rfl (by omega) (Nat.le_of_ble_eq_true rfl) rfl ?_
  refine rs_bslice rfl rfl rfl rfl rfl rfl ?_
  refine rs_calln [50] rfl rfl (fc47 [(⟨0, 0, 10, 20⟩ : Rd), (⟨1, 0, 15, 30⟩ : Rd), (⟨2, 0, 40, 50⟩ : Rd)] 3 0 100 [] (by decide +kernel) (by decide +kernel) (by decide +kernel) (by decide +kernel) (by decide +kernel) (by decide)) (.cons (hv_same rfl) (.cons (hv_same rfl) (.cons (hv_same rfl) (.cons (hv_nils) (.cons (hv_sl (by simp) rfl (Nat.le_of_ble_eq_true rfl) rfl) (.nil)))))) rfl ?_
  refine rs_not rfl rfl ?_
  refine rs_pick rfl rfl rfl ?_
  refine rs_nil ⟨by kernel_rfl, fun _ => ?_⟩
  refine th_n ?_
  refine aw_cond rfl (fun h => by cases h) (fun _ => ?_)
  refine aw_skip ?_
  refine th_n ?_
  refine aw_seq ?_
  refine aw_reg ?_
  first | refine rs_ld_pa rfl rfl rfl rfl (Nat.le_of_ble_eq_true rfl) rfl ?_ | refine rs_ld_ra rfl rfl (Nat.le_of_ble_eq_true rfl) rfl ?_ | refine rs_ld_ma rfl rfl rfl (by omega) (Nat.le_of_ble_eq_true rfl) rfl ?_
  first | refine rs_ld_pa rfl rfl rfl rfl (Nat.le_of_ble_eq_true rfl) rfl ?_ | refine rs_ld_ra rfl rfl (Nat.le_of_ble_eq_true rfl) rfl ?_ | refine rs_ld_ma rfl rfl rfl (by omega) (Nat.le_of_ble_eq_true rfl) rfl ?_
  refine rs_bslice rfl rfl rfl rfl rfl rfl ?_
  refine rs_bslice rfl rfl rfl rfl rfl rfl ?_
  refine rs_bslice rfl rfl rfl rfl rfl rfl ?_
  refine rs_calln [57, 58, 59] rfl rfl (n60) (.cons (hv_sl (by simp) rfl (Nat.le_of_ble_eq_true rfl) rfl) (.cons (hv_sl (by simp) rfl (Nat.le_of_ble_eq_true rfl) rfl) (.cons (hv_sl (by simp) rfl (Nat.le_of_ble_eq_true rfl) rfl) (.cons (hv_same rfl) (.nil))))) rfl ?_
  refine rs_mv rfl rfl ?_
  refine rs_ext rfl rfl rfl ?_
  refine rs_ext rfl rfl rfl ?_
  refine rs_ext rfl rfl rfl ?_
  refine rs_mv rfl rfl ?_
  refine rs_mv rfl rfl ?_
  refine rs_mv rfl rfl ?_
  refine rs_nil fun _ => ?_
  refine th_n ?_
  refine aw_seq ?_
  refine aw_reg ?_
  first | refine rs_ld_pa rfl rfl rfl rfl (Nat.le_of_ble_eq_true rfl) rfl ?_ | refine rs_ld_ra rfl rfl (Nat.le_of_ble_eq_true rfl) rfl ?_ | refine rs_ld_ma rfl rfl rfl (by omega) (Nat.le_of_ble_eq_true rfl) rfl ?_
  first | refine rs_ld_pa rfl rfl rfl rfl (Nat.le_of_ble_eq_true rfl) rfl ?_ | refine rs_ld_ra rfl rfl (Nat.le_of_ble_eq_true rfl) rfl ?_ | refine rs_ld_ma rfl rfl rfl (by omega) (Nat.le_of_ble_eq_true rfl) rfl ?_
  refine rs_bslice rfl rfl rfl rfl rfl rfl ?_
  refine rs_bslice rfl rfl rfl rfl rfl rfl ?_
  refine rs_bslice rfl rfl rfl rfl rfl rfl ?_
  refine rs_calln [67, 68, 69] rfl rfl (n70) (.cons (hv_sl (by simp) rfl (Nat.le_of_ble_eq_true rfl) rfl) (.cons (hv_sl (by simp) rfl (Nat.le_of_ble_eq_true rfl) rfl) (.cons (hv_sl (by simp) rfl (Nat.le_of_ble_eq_true rfl) rfl) (.cons (hv_same rfl) (.nil))))) rfl ?_
  refine rs_mv rfl rfl ?_
  refine rs_ext rfl rfl rfl ?_
  refine rs_ext rfl rfl rfl ?_
  refine rs_mv rfl rfl ?_
  refine rs_mv rfl rfl ?_
  refine rs_nil fun _ => ?_
  refine th_n ?_
  refine aw_seq ?_
  refine aw_reg ?_
  refine rs_calln [] rfl rfl (fc46 0 3 3) (.cons (hv_same rfl) (.cons (hv_same rfl) (.cons (hv_same rfl) (.nil)))) rfl ?_
  refine rs_build rfl rfl ?_
  refine rs_calln [] rfl rfl (fc46 1 4 4) (.cons (hv_same rfl) (.cons (hv_same rfl) (.cons (hv_same rfl) (.nil)))) rfl ?_
  refine rs_bslice rfl rfl rfl rfl rfl rfl ?_
  refine rs_mv rfl rfl ?_
  refine rs_nil fun _ => ?_
  refine th_n ?_
  refine aw_seq ?_
  refine aw_reg ?_
  refine rs_mv rfl rfl ?_
  refine rs_bslice rfl rfl rfl rfl rfl rfl ?_
  refine rs_bslice rfl rfl rfl rfl rfl rfl ?_
  refine rs_calln [76, 79, 80] rfl rfl (n81) (.cons (hv_sl (by simp) rfl (Nat.le_of_ble_eq_true rfl) rfl) (.cons (hv_sl (by simp) rfl (Nat.le_of_ble_eq_true rfl) rfl) (.cons (hv_sl (by simp) rfl (Nat.le_of_ble_eq_true rfl) rfl) (.cons (hv_same rfl) (.nil))))) rfl ?_
  refine rs_mv rfl rfl ?_
  refine rs_ext rfl rfl rfl ?_
  refine rs_ext rfl rfl rfl ?_
  refine rs_ext rfl rfl rfl ?_
  refine rs_mv rfl rfl ?_
  refine rs_mv rfl rfl ?_
  refine rs_mv rfl rfl ?_
  refine rs_nil fun _ => ?_
  refine th_n ?_
  refine aw_seq ?_
  refine aw_reg ?_
  refine rs_mv rfl rfl ?_
  refine rs_cmp_t rfl rfl rfl rfl rfl ?_
  refine rs_mv rfl rfl ?_
  refine rs_mv rfl rfl ?_
  refine rs_cmp_t rfl rfl rfl rfl rfl ?_
  refine rs_pick rfl rfl rfl ?_
  refine rs_mv rfl rfl ?_
  refine rs_mv rfl rfl ?_
  refine rs_cmp_t rfl rfl rfl rfl rfl ?_
  refine rs_pick rfl rfl rfl ?_
  refine rs_mv rfl rfl ?_
  refine rs_mv rfl rfl ?_
  refine rs_bslice rfl rfl rfl rfl rfl rfl ?_
  refine rs_calln [97] rfl rfl (fc23_t [3, 0] (by decide)) (.cons (hv_same rfl) (.cons (hv_sl (by simp) rfl (Nat.le_of_ble_eq_true rfl) rfl) (.nil))) rfl ?_
  refine rs_pick rfl rfl rfl ?_
  refine rs_mv rfl rfl ?_
  refine rs_mv rfl rfl ?_
  refine rs_bslice rfl rfl rfl rfl rfl rfl ?_
  refine rs_calln [102] rfl rfl (fc23_t [4, 9] (by decide)) (.cons (hv_same rfl) (.cons (hv_sl (by simp) rfl (Nat.le_of_ble_eq_true rfl) rfl) (.nil))) rfl ?_
  refine rs_pick rfl rfl rfl ?_
  refine rs_mv rfl rfl ?_
  refine rs_mv rfl rfl ?_
  refine rs_bslice rfl rfl rfl rfl rfl rfl ?_
  refine rs_calln [76, 107] rfl rfl (n108) (.cons (hv_sl (by simp) rfl (Nat.le_of_ble_eq_true rfl) rfl) (.cons (hv_sl (by simp) rfl (Nat.le_of_ble_eq_true rfl) rfl) (.cons (hv_same rfl) (.nil)))) rfl ?_
  refine rs_pick rfl rfl rfl ?_
  refine rs_mv rfl rfl ?_
  refine rs_mv rfl rfl ?_
  refine rs_bslice rfl rfl rfl rfl rfl rfl ?_
  refine rs_calln [76, 112] rfl rfl (n113) (.cons (hv_sl (by simp) rfl (Nat.le_of_ble_eq_true rfl) rfl) (.cons (hv_sl (by simp) rfl (Nat.le_of_ble_eq_true rfl) rfl) (.cons (hv_same rfl) (.nil)))) rfl ?_
  refine rs_not rfl rfl ?_
  refine rs_pick rfl rfl rfl ?_
  refine rs_mv rfl rfl ?_
  refine rs_bslice rfl rfl rfl rfl rfl rfl ?_
  refine rs_bslice rfl rfl rfl rfl rfl rfl ?_
  refine rs_calln [117, 118] rfl rfl (n119) (.cons (hv_nils) (.cons (hv_sl (by simp) rfl (Nat.le_of_ble_eq_true rfl) rfl) (.cons (hv_sl (by simp) rfl (Nat.le_of_ble_eq_true rfl) rfl) (.cons (hv_same rfl) (.nil))))) rfl ?_
  refine rs_cmp_t rfl rfl rfl rfl rfl ?_
  refine rs_pick rfl rfl rfl ?_
  refine rs_mv rfl rfl ?_
  refine rs_nil fun _ => ?_
  refine th_n ?_
  refine aw_ret ?_
  exact ret_pure rfl rfl rfl (.inr rfl)

end Go.Proofs.Ytadjdnhnbkcakaa
