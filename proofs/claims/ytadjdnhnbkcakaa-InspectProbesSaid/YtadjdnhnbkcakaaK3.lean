/-
  Parts of the proof: A8 A9 A10 A11 A12 B0 B1 H1 I0.
-/
import Derived.Test.YtadjdnhnbkcakaaK2
import Derived.Laws.BitsAllLaws
set_option linter.unusedVariables false

/-! Walks: A8. -/
namespace Go.Proofs.Ytadjdnhnbkcakaa
open Go.RowKit

theorem renv_fn {σ : Nat → Nat} {f : Fn} {cs cs' : List AV} (h : RenVs σ cs cs') : RenV σ (.fn f cs) (.fn f cs') := .fn h.at_.1 h.at_.2
theorem renob_1 {σ : Nat → Nat} {e z : Nat} {v v' : AV} (h : RenV σ v v') : RenOb σ (.cells e z [[v]] false) (.cells e z [[v']] false) := by
  refine .cells (fl := false) rfl fun j el el' h1 h2 => ?_
  cases j with
  | zero =>
    simp at h1 h2; subst h1 h2
    refine ⟨rfl, fun o u u' h3 h4 => ?_⟩
    cases o with
    | zero => simp at h3 h4; subst h3 h4; exact h
    | succ o => simp at h3
  | succ j => simp at h1
theorem fc48r (i n : Nat) (xs : List Int) (hn : xs.length = n) (hx : xs.length ≤ 1000000) : FC Try.prog 48 [ints xs] [] (.sl i 0 n) [(i, .cells 3 1 (xs.map ci) true)] false := by
  subst hn
  exact fc_ren (swp 7 i) (swp_swp _ _) (fc48 xs hx) (.cons (.closed rfl) .nil) .nil (.sl (by simp [swp])) (.cons (by simp [swp]) .flat .nil)
theorem check_ok {l : List Rd} {lo hi : List Int} {lies : Int} (h : checkS l lo hi lies = 0) : l.length ≤ 40 ∧ hi.length = lo.length ∧ lo.length ≤ 6 ∧ (0 ≤ lies ∧ lies ≤ 3) ∧ (∀ r ∈ l, 0 ≤ r.probe ∧ r.probe < 8 ∧ 0 ≤ r.of_ ∧ r.of_ < lo.length) := by
  unfold checkS at h
  split at h
  · omega
  rename_i h1
  split at h
  · omega
  rename_i h2
  split at h
  · omega
  rename_i h3
  split at h
  · omega
  split at h
  · omega
  rename_i h5
  refine ⟨by omega, by omega, by omega, by omega, fun r hr => ?_⟩
  have : ¬ badR lo.length r := fun hb => h5 (List.any_eq_true.2 ⟨r, hr, decide_eq_true hb⟩)
  unfold badR at this
  omega
/-- What Narrow and Liars say. -/
def ex51 (l : List Rd) (lo hi : List Int) (lies : Int) : (List Int × List Int) × Nat := exK l (ofS lo hi) lies lo.length (f51 lo.length) (hi, lo) 256
def ex54 (l : List Rd) (lo hi : List Int) (lies : Int) : Nat × Nat := exK l (ofS lo hi) lies lo.length f54 255 256
def narrowE (l : List Rd) (lo hi : List Int) (lies : Int) : Int := if checkS l lo hi lies ≠ 0 then checkS l lo hi lies else if (ex51 l lo hi lies).2 = 0 then 21 else 0
def narrowA (l : List Rd) (lo hi : List Int) (lies : Int) : List Int := if checkS l lo hi lies ≠ 0 ∨ (ex51 l lo hi lies).2 = 0 then [] else (ex51 l lo hi lies).1.1
def narrowB (l : List Rd) (lo hi : List Int) (lies : Int) : List Int := if checkS l lo hi lies ≠ 0 ∨ (ex51 l lo hi lies).2 = 0 then [] else (ex51 l lo hi lies).1.2
def outK (all k : Nat) : List Int := ((List.range k).filter fun i => hasS all i).map Int.ofNat
def liarsE (l : List Rd) (lo hi : List Int) (lies : Int) : Int := if checkS l lo hi lies ≠ 0 then checkS l lo hi lies else if (ex54 l lo hi lies).2 = 0 then 21 else 0
def liarsL (l : List Rd) (lo hi : List Int) (lies : Int) : List Int := if checkS l lo hi lies ≠ 0 ∨ (ex54 l lo hi lies).2 = 0 then [] else outK (ex54 l lo hi lies).1 8
theorem outK_t (all k : Nat) (h : hasS all k = true) : outK all (k + 1) = outK all k ++ [(k : Int)] := by simp [outK, List.range_succ, h]
theorem outK_f (all k : Nat) (h : hasS all k = false) : outK all (k + 1) = outK all k := by simp [outK, List.range_succ, h]
theorem outK_le (all k : Nat) : (outK all k).length ≤ k := by
  have := List.length_filter_le (fun i => hasS all i) (List.range k)
  simpa [outK] using this
section
variable {l : List Rd} {lo hi : List Int} {lies : Int}
theorem narrow_1 (h : checkS l lo hi lies ≠ 0) : narrowE l lo hi lies = checkS l lo hi lies ∧ narrowA l lo hi lies = [] ∧ narrowB l lo hi lies = [] := ⟨if_pos h, if_pos (.inl h), if_pos (.inl h)⟩
theorem narrow_2 (h0 : checkS l lo hi lies = 0) (h : (ex51 l lo hi lies).2 = 0) : narrowE l lo hi lies = 21 ∧ narrowA l lo hi lies = [] ∧ narrowB l lo hi lies = [] := ⟨by rw [narrowE, if_neg (by omega), if_pos h], if_pos (.inr h), if_pos (.inr h)⟩
theorem narrow_3 (h0 : checkS l lo hi lies = 0) (h : (ex51 l lo hi lies).2 ≠ 0) : narrowE l lo hi lies = 0 ∧ narrowA l lo hi lies = (ex51 l lo hi lies).1.1 ∧ narrowB l lo hi lies = (ex51 l lo hi lies).1.2 := ⟨by rw [narrowE, if_neg (by omega), if_neg h], if_neg (by omega), if_neg (by omega)⟩
theorem liars_1 (h : checkS l lo hi lies ≠ 0) : liarsE l lo hi lies = checkS l lo hi lies ∧ liarsL l lo hi lies = [] := ⟨if_pos h, if_pos (.inl h)⟩
theorem liars_2 (h0 : checkS l lo hi lies = 0) (h : (ex54 l lo hi lies).2 = 0) : liarsE l lo hi lies = 21 ∧ liarsL l lo hi lies = [] := ⟨by rw [liarsE, if_neg (by omega), if_pos h], if_pos (.inr h)⟩
theorem liars_3 (h0 : checkS l lo hi lies = 0) (h : (ex54 l lo hi lies).2 ≠ 0) : liarsE l lo hi lies = 0 ∧ liarsL l lo hi lies = outK (ex54 l lo hi lies).1 8 := ⟨by rw [liarsE, if_neg (by omega), if_neg h], if_neg (by omega)⟩
theorem ex51_len (h2 : hi.length = lo.length) : (ex51 l lo hi lies).1.1.length = lo.length ∧ (ex51 l lo hi lies).1.2.length = lo.length :=
  exK_inv l (ofS lo hi) lies lo.length (f51 lo.length) (hi, lo) 256 (fun s => s.1.length = lo.length ∧ s.2.length = lo.length) ⟨h2, rfl⟩ (fun s k y h _ => ⟨by simp [f51, minK, h.1], by simp [f51, maxK, h.2]⟩) (Nat.le_refl _)
theorem ex54_lt : (ex54 l lo hi lies).1 < 256 :=
  exK_inv l (ofS lo hi) lies lo.length f54 255 256 (fun s => s < 256) (by decide) (fun s k y h _ => Nat.lt_of_le_of_lt Nat.and_le_left h) (Nat.le_refl _)
end
theorem fc49ar (l : List Rd) (lo hi : List Int) (lies : Int) (hl : l.length ≤ 40) (h2 : hi.length = lo.length) (h6 : lo.length ≤ 6) (hr : ∀ r ∈ l, 0 ≤ r.probe ∧ r.probe < 8 ∧ 0 ≤ r.of_ ∧ r.of_ < lo.length) :
    FC Try.prog 49 [.rs 4 (l.map cR), .agg ((ofS lo hi).map iv), iv lies, .fn (.func 51) [.ptr 5 0 0, .ptr 12 0 0, .ptr 13 0 0]]
      [(5, .cells 28 1 [[ints lo]] true), (12, .cells 28 1 [[.sl 2001 0 lo.length]] false), (13, .cells 28 1 [[.sl 2002 0 lo.length]] false), (2001, .cells 3 1 (hi.map ci) true), (2002, .cells 3 1 (lo.map ci) true)] (iv ((ex51 l lo hi lies).2 : Int))
      [(5, .cells 28 1 [[ints lo]] true), (12, .cells 28 1 [[.sl 2001 0 lo.length]] false), (13, .cells 28 1 [[.sl 2002 0 lo.length]] false), (2001, .cells 3 1 ((ex51 l lo hi lies).1.1.map ci) true), (2002, .cells 3 1 ((ex51 l lo hi lies).1.2.map ci) true)] true := by
  have h := fc49a l (ofS lo hi) lies lo.length (length_ofS lo hi) (ofS_12 lo hi _ rfl h2 h6) h6 (by omega) (fun r hr' => ⟨(hr r hr').1, (hr r hr').2.1, (hr r hr').2.2.1, by have := (hr r hr').2.2.2; omega⟩) lo hi lo lo.length rfl h2 rfl h6
  exact fc_ren (swp 1005 5) (swp_swp _ _) h (.cons (.closed rfl) (.cons (.closed (scoped_iv _ _)) (.cons (.closed rfl) (.cons (renv_fn (.cons (.ptr rfl) (.cons (.ptr rfl) (.cons (.ptr rfl) .nil)))) .nil))))
    (.cons rfl .flat (.cons rfl (renob_1 (.sl rfl)) (.cons rfl (renob_1 (.sl rfl)) (.cons rfl .flat (.cons rfl .flat .nil))))) (.closed rfl) (.cons rfl .flat (.cons rfl (renob_1 (.sl rfl)) (.cons rfl (renob_1 (.sl rfl)) (.cons rfl .flat (.cons rfl .flat .nil)))))
theorem fc49br (l : List Rd) (lo hi : List Int) (lies : Int) (hl : l.length ≤ 40) (h2 : hi.length = lo.length) (h6 : lo.length ≤ 6) (hr : ∀ r ∈ l, 0 ≤ r.probe ∧ r.probe < 8 ∧ 0 ≤ r.of_ ∧ r.of_ < lo.length) :
    FC Try.prog 49 [.rs 4 (l.map cR), .agg ((ofS lo hi).map iv), iv lies, .fn (.func 54) [.ptr 11 0 0]]
      [(11, .cells 94 1 [[.int .u64 ((255 : Nat) : Int)]] true)] (iv ((ex54 l lo hi lies).2 : Int)) [(11, .cells 94 1 [[.int .u64 (((ex54 l lo hi lies).1 : Nat) : Int)]] true)] true := by
  have h := fc49b l (ofS lo hi) lies lo.length (length_ofS lo hi) (ofS_12 lo hi _ rfl h2 h6) h6 (by omega) (fun r hr' => ⟨(hr r hr').1, (hr r hr').2.1, (hr r hr').2.2.1, by have := (hr r hr').2.2.2; omega⟩) 255 (by decide)
  exact fc_ren (swp 1011 11) (swp_swp _ _) h (.cons (.closed rfl) (.cons (.closed (scoped_iv _ _)) (.cons (.closed rfl) (.cons (renv_fn (.cons (.ptr rfl) .nil)) .nil)))) (.cons rfl .flat .nil) (.closed rfl) (.cons rfl .flat .nil)
theorem has_bits_u1 : ∀ s : Nat, s < 256 → ∀ p : Nat, p < 8 → decide (bits .and .u64 ((s : Int).fdiv (2 ^ min ((p : Int)).toNat 64)) 1 = 1) = hasS s p := by decide +kernel

def mc21 : MC := (.seq (.reg [⟨(some 5), (.box 28 1 (.t 1)), none, []⟩, ⟨(some 8), (.mv (.c .nils)), none, []⟩, ⟨(some 9), (.mv (.c .nils)), none, [1]⟩, ⟨(some 10), (.mv (.c (.int .i64 0))), none, [2]⟩] false) (.seq (.seq (.reg [⟨(some 15), (.mv (.t 0)), none, []⟩, ⟨(some 16), (.ld false 1 (.t 5)), none, []⟩, ⟨(some 17), (.mv (.t 2)), none, []⟩, ⟨(some 18), (.mv (.t 3)), none, []⟩, ⟨(some 19), (.call 19 [(.t 15), (.t 16), (.t 17), (.t 18)]), none, [0, 1, 2, 3]⟩, ⟨(some 11), (.mv (.t 19)), none, [4, 4, 0, 1, 2, 3, 4]⟩] false) (.seq (.reg [⟨(some 20), (.mv (.t 11)), none, []⟩, ⟨(some 21), (.bin .neq (.t 20) (.c (.int .i64 0))), none, [0]⟩] false) (.cond (.t 21) (.seq (.reg [⟨(some 22), (.mv (.t 11)), none, []⟩, ⟨(some 8), (.mv (.c .nils)), none, []⟩, ⟨(some 9), (.mv (.c .nils)), none, [1, 1]⟩, ⟨(some 10), (.mv (.t 22)), none, [0, 2, 0, 1, 2]⟩] false) .ret) .skip))) (.seq (.reg [⟨(some 23), (.mv (.t 2)), none, []⟩, ⟨(some 24), (.call 48 [(.t 23)]), none, [0]⟩, ⟨(some 25), (.ld false 1 (.t 5)), none, []⟩, ⟨(some 26), (.call 48 [(.t 25)]), none, [2, 1]⟩, ⟨(some 12), (.alloc 28 1 [.nils]), none, []⟩, ⟨(some 13), (.alloc 28 1 [.nils]), none, []⟩, ⟨none, (.st 1 (.t 12) (.t 24)), none, [4, 1, 3, 0, 1, 4, 5]⟩, ⟨none, (.st 1 (.t 13) (.t 26)), none, [5, 3, 6, 0, 1, 2, 3, 4, 5, 6]⟩] true) (.seq (.reg [⟨(some 27), (.mv (.t 0)), none, []⟩, ⟨(some 28), (.ld false 1 (.t 5)), none, []⟩, ⟨(some 29), (.mv (.t 2)), none, []⟩, ⟨(some 30), (.call 50 [(.t 28), (.t 29)]), none, [1, 2]⟩, ⟨(some 31), (.mv (.t 3)), none, []⟩, ⟨(some 32), (.mkfn (.func 51) [(.t 5), (.t 12), (.t 13)]), none, []⟩, ⟨(some 33), (.call 49 [(.t 27), (.t 30), (.t 31), (.t 32)]), none, [0, 3, 4, 5, 3]⟩, ⟨(some 14), (.mv (.t 33)), none, [6, 6, 0, 1, 2, 3, 4, 5, 6]⟩] false) (.seq (.seq (.reg [⟨(some 34), (.mv (.t 14)), none, []⟩, ⟨(some 35), (.bin .eql (.t 34) (.c (.int .i64 0))), none, [0]⟩] false) (.cond (.t 35) (.seq (.reg [⟨(some 8), (.mv (.c .nils)), none, []⟩, ⟨(some 9), (.mv (.c .nils)), none, [0, 0]⟩, ⟨(some 10), (.mv (.c (.int .i64 21))), none, [1, 0, 1]⟩] false) .ret) .skip)) (.seq (.reg [⟨(some 36), (.ld false 1 (.t 12)), none, []⟩, ⟨(some 37), (.ld false 1 (.t 13)), none, []⟩, ⟨(some 8), (.mv (.t 36)), none, [0, 0]⟩, ⟨(some 9), (.mv (.t 37)), none, [1, 2, 0, 1, 2]⟩, ⟨(some 10), (.mv (.c (.int .i64 0))), none, [3, 0, 1, 2, 3]⟩] true) .ret))))))
theorem mcOk21 : (match Try.f21.body with | some c => compC Try.prog 38 c | none => none) = some mc21 := by kernel_rfl

theorem fc21 (l : List Rd) (lo hi : List Int) (lies : Int) : FC Try.prog 21 [.rs 4 (l.map cR), ints lo, ints hi, .int .i64 lies] [] (.tup [.sl 2001 0 (narrowA l lo hi lies).length, .sl 2002 0 (narrowB l lo hi lies).length, iv (narrowE l lo hi lies)]) [(2001, .cells 3 1 ((narrowA l lo hi lies).map ci) true), (2002, .cells 3 1 ((narrowB l lo hi lies).map ci) true)] false := by
  refine fc_run (nt := 38) Try.func21 rfl rfl mcOk21 (Nat.le_of_ble_eq_true rfl) ?_
  delta mc21
  refine aw_seq ?_
  refine aw_reg ?_
  refine rs_box rfl rfl rfl rfl rfl rfl ?_
  refine rs_mv rfl rfl ?_
  refine rs_mv rfl rfl ?_
  refine rs_mv rfl rfl ?_
  refine rs_nil fun _ => ?_
  refine th_n ?_
  refine aw_seq ?_
  refine aw_seq ?_
  refine aw_reg ?_
  refine rs_mv rfl rfl ?_
  first | refine rs_ld_r rfl rfl rfl ?_ | refine rs_ld_p rfl rfl rfl rfl rfl ?_ | refine rs_ld_m rfl rfl rfl (by omega) rfl ?_
  refine rs_mv rfl rfl ?_
  refine rs_mv rfl rfl ?_
  refine rs_calln [] rfl rfl (fc19 l lo hi lies) (.cons (hv_same rfl) (.cons (hv_same rfl) (.cons (hv_same rfl) (.cons (hv_same rfl) (.nil))))) rfl ?_
  refine rs_mv rfl rfl ?_
  refine rs_nil fun _ => ?_
  refine th_n ?_
  refine aw_seq ?_
  refine aw_reg ?_
  refine rs_mv rfl rfl ?_
  refine rs_neq rfl rfl rfl ?_
  refine rs_nil fun _ => ?_
  refine th_n ?_
  refine aw_cond rfl (fun h21 => ?_) (fun h21 => ?_)
  · first | replace h21 := of_decide_eq_true h21 | skip
    refine aw_seq ?_
    refine aw_reg ?_
    refine rs_mv rfl rfl ?_
    refine rs_mv rfl rfl ?_
    refine rs_mv rfl rfl ?_
    refine rs_mv rfl rfl ?_
    refine rs_nil fun _ => ?_
    refine th_n ?_
    first | refine aw_weak (F0 := [(8, .nils), (9, .nils), (10, iv (checkS l lo hi lies))]) (H0 := []) (weak_to (.cons rfl (rc_same rfl (.inl rfl)) (.cons rfl (rc_same rfl (.inl rfl)) (.cons rfl (rc_same rfl (.inl rfl)) (.nil)))) .nil (fun i h => by cases h)) ?_ | refine aw_weak (F0 := [(8, .nils), (9, .nils), (10, iv 21)]) (H0 := []) (weak_to (.cons rfl (rc_same rfl (.inl rfl)) (.cons rfl (rc_same rfl (.inl rfl)) (.cons rfl (rc_same rfl (.inl rfl)) (.nil)))) .nil (fun i h => by cases h)) ?_ | skip
    refine aw_ret ?_
    refine th_r ?_
    first
      | (obtain ⟨e1, e2, e3⟩ := narrow_1 h21
         rw [e1, e2, e3]
         exact ret_new rfl (rc_tup (.cons (rc_virt rfl rfl) (.cons (rc_virt rfl rfl) (.cons (rc_same rfl (.inr rfl)) .nil)))) (.virt rfl (.virt rfl .nil)))
      | (obtain ⟨e1, e2, e3⟩ := narrow_2 (l := l) (lo := lo) (hi := hi) (lies := lies) (by omega) (by omega)
         rw [e1, e2, e3]
         exact ret_new rfl (rc_tup (.cons (rc_virt rfl rfl) (.cons (rc_virt rfl rfl) (.cons (rc_same rfl (.inr rfl)) .nil)))) (.virt rfl (.virt rfl .nil)))
      | (obtain ⟨e1, e2, e3⟩ := narrow_3 (l := l) (lo := lo) (hi := hi) (lies := lies) (by omega) (by omega)
         have e4 := ex51_len (l := l) (lies := lies) h2
         rw [e1, e2, e3, e4.1, e4.2]
         exact ret_new rfl (rc_same rfl (.inr rfl)) (.keep rfl rfl (noROE_map (fun _ => rfl) _) (.keep rfl rfl (noROE_map (fun _ => rfl) _) .nil)))
  · first | replace h21 := of_decide_eq_false h21 | skip
    refine aw_skip ?_
    refine th_n ?_
    refine aw_seq ?_
    refine aw_draw hmix ?_
    have h0 : checkS l lo hi lies = 0 := by omega
    obtain ⟨hl, h2, h6, hls, hr⟩ := check_ok h0
    refine rs_mv rfl rfl ?_
    refine rs_calln [] rfl rfl (fc48r 2001 lo.length hi h2 (by omega)) (.cons (hv_same rfl) (.nil)) rfl ?_
    first | refine rs_ld_r rfl rfl rfl ?_ | refine rs_ld_p rfl rfl rfl rfl rfl ?_ | refine rs_ld_m rfl rfl rfl (by omega) rfl ?_
    refine rs_calln [] rfl rfl (fc48r 2002 lo.length lo rfl (by omega)) (.cons (hv_same rfl) (.nil)) rfl ?_
    refine rs_alloc rfl rfl rfl ?_
    refine rs_alloc rfl rfl rfl ?_
    refine rs_st rfl rfl rfl rfl rfl rfl rfl (Nat.le_of_ble_eq_true rfl) rfl rfl ?_
    refine rs_st rfl rfl rfl rfl rfl rfl rfl (Nat.le_of_ble_eq_true rfl) rfl rfl ?_
    refine rs_nil ⟨by kernel_rfl, fun _ => ?_⟩
    refine th_n ?_
    refine aw_seq ?_
    refine aw_reg ?_
    refine rs_mv rfl rfl ?_
    first | refine rs_ld_r rfl rfl rfl ?_ | refine rs_ld_p rfl rfl rfl rfl rfl ?_ | refine rs_ld_m rfl rfl rfl (by omega) rfl ?_
    refine rs_mv rfl rfl ?_
    refine rs_calln [] rfl rfl (fc50 lo hi h6 (by omega)) (.cons (hv_same rfl) (.cons (hv_same rfl) (.nil))) rfl ?_
    refine rs_mv rfl rfl ?_
    refine rs_mkfn rfl rfl ?_
    refine rs_callo [(5, .cells 28 1 [[ints lo]] true), (12, .cells 28 1 [[.sl 2001 0 lo.length]] false), (13, .cells 28 1 [[.sl 2002 0 lo.length]] false), (2001, .cells 3 1 (hi.map ci) true), (2002, .cells 3 1 (lo.map ci) true)] rfl rfl (fc49ar l lo hi lies hl h2 h6 hr) (.cons (hv_same rfl) (.cons (hv_same (scoped_iv _ _)) (.cons (hv_same rfl) (.cons (hv_same rfl) (.nil))))) (.cons rfl (.cons rfl (.cons rfl (.cons rfl (.cons rfl (.nil)))))) rfl rfl rfl ?_
    refine rs_mv rfl rfl ?_
    refine rs_nil fun _ => ?_
    refine th_n ?_
    refine aw_seq ?_
    refine aw_seq ?_
    refine aw_reg ?_
    refine rs_mv rfl rfl ?_
    refine rs_eql rfl rfl rfl ?_
    refine rs_nil fun _ => ?_
    refine th_n ?_
    refine aw_cond rfl (fun h35 => ?_) (fun h35 => ?_)
    · first | replace h35 := of_decide_eq_true h35 | skip
      refine aw_seq ?_
      refine aw_reg ?_
      refine rs_mv rfl rfl ?_
      refine rs_mv rfl rfl ?_
      refine rs_mv rfl rfl ?_
      refine rs_nil fun _ => ?_
      refine th_n ?_
      first | refine aw_weak (F0 := [(8, .nils), (9, .nils), (10, iv (checkS l lo hi lies))]) (H0 := []) (weak_to (.cons rfl (rc_same rfl (.inl rfl)) (.cons rfl (rc_same rfl (.inl rfl)) (.cons rfl (rc_same rfl (.inl rfl)) (.nil)))) .nil (fun i h => by cases h)) ?_ | refine aw_weak (F0 := [(8, .nils), (9, .nils), (10, iv 21)]) (H0 := []) (weak_to (.cons rfl (rc_same rfl (.inl rfl)) (.cons rfl (rc_same rfl (.inl rfl)) (.cons rfl (rc_same rfl (.inl rfl)) (.nil)))) .nil (fun i h => by cases h)) ?_ | skip
      refine aw_ret ?_
      refine th_r ?_
      first
        | (obtain ⟨e1, e2, e3⟩ := narrow_1 h21
           rw [e1, e2, e3]
           exact ret_new rfl (rc_tup (.cons (rc_virt rfl rfl) (.cons (rc_virt rfl rfl) (.cons (rc_same rfl (.inr rfl)) .nil)))) (.virt rfl (.virt rfl .nil)))
        | (obtain ⟨e1, e2, e3⟩ := narrow_2 (l := l) (lo := lo) (hi := hi) (lies := lies) (by omega) (by omega)
           rw [e1, e2, e3]
           exact ret_new rfl (rc_tup (.cons (rc_virt rfl rfl) (.cons (rc_virt rfl rfl) (.cons (rc_same rfl (.inr rfl)) .nil)))) (.virt rfl (.virt rfl .nil)))
        | (obtain ⟨e1, e2, e3⟩ := narrow_3 (l := l) (lo := lo) (hi := hi) (lies := lies) (by omega) (by omega)
           have e4 := ex51_len (l := l) (lies := lies) h2
           rw [e1, e2, e3, e4.1, e4.2]
           exact ret_new rfl (rc_same rfl (.inr rfl)) (.keep rfl rfl (noROE_map (fun _ => rfl) _) (.keep rfl rfl (noROE_map (fun _ => rfl) _) .nil)))
    · first | replace h35 := of_decide_eq_false h35 | skip
      refine aw_skip ?_
      refine th_n ?_
      refine aw_seq ?_
      refine aw_draw hmix ?_
      first | refine rs_ld_r rfl rfl rfl ?_ | refine rs_ld_p rfl rfl rfl rfl rfl ?_ | refine rs_ld_m rfl rfl rfl (by omega) rfl ?_
      first | refine rs_ld_r rfl rfl rfl ?_ | refine rs_ld_p rfl rfl rfl rfl rfl ?_ | refine rs_ld_m rfl rfl rfl (by omega) rfl ?_
      refine rs_mv rfl rfl ?_
      refine rs_mv rfl rfl ?_
      refine rs_mv rfl rfl ?_
      refine rs_nil ⟨by kernel_rfl, fun _ => ?_⟩
      refine th_n ?_
      first | refine aw_weak (F0 := [(8, .nils), (9, .nils), (10, iv (checkS l lo hi lies))]) (H0 := []) (weak_to (.cons rfl (rc_same rfl (.inl rfl)) (.cons rfl (rc_same rfl (.inl rfl)) (.cons rfl (rc_same rfl (.inl rfl)) (.nil)))) .nil (fun i h => by cases h)) ?_ | refine aw_weak (F0 := [(8, .nils), (9, .nils), (10, iv 21)]) (H0 := []) (weak_to (.cons rfl (rc_same rfl (.inl rfl)) (.cons rfl (rc_same rfl (.inl rfl)) (.cons rfl (rc_same rfl (.inl rfl)) (.nil)))) .nil (fun i h => by cases h)) ?_ | skip
      refine aw_ret ?_
      first
        | (obtain ⟨e1, e2, e3⟩ := narrow_1 h21
           rw [e1, e2, e3]
           exact ret_new rfl (rc_tup (.cons (rc_virt rfl rfl) (.cons (rc_virt rfl rfl) (.cons (rc_same rfl (.inr rfl)) .nil)))) (.virt rfl (.virt rfl .nil)))
        | (obtain ⟨e1, e2, e3⟩ := narrow_2 (l := l) (lo := lo) (hi := hi) (lies := lies) (by omega) (by omega)
           rw [e1, e2, e3]
           exact ret_new rfl (rc_tup (.cons (rc_virt rfl rfl) (.cons (rc_virt rfl rfl) (.cons (rc_same rfl (.inr rfl)) .nil)))) (.virt rfl (.virt rfl .nil)))
        | (obtain ⟨e1, e2, e3⟩ := narrow_3 (l := l) (lo := lo) (hi := hi) (lies := lies) (by omega) (by omega)
           have e4 := ex51_len (l := l) (lies := lies) h2
           rw [e1, e2, e3, e4.1, e4.2]
           exact ret_new rfl (rc_same rfl (.inr rfl)) (.keep rfl rfl (noROE_map (fun _ => rfl) _) (.keep rfl rfl (noROE_map (fun _ => rfl) _) .nil)))

def mc24 : MC := (.seq (.reg [⟨(some 8), (.mv (.c .nils)), none, []⟩, ⟨(some 9), (.mv (.c (.int .i64 0))), none, [0]⟩] false) (.seq (.seq (.reg [⟨(some 14), (.mv (.t 0)), none, []⟩, ⟨(some 15), (.mv (.t 1)), none, []⟩, ⟨(some 16), (.mv (.t 2)), none, []⟩, ⟨(some 17), (.mv (.t 3)), none, []⟩, ⟨(some 18), (.call 19 [(.t 14), (.t 15), (.t 16), (.t 17)]), none, [0, 1, 2, 3]⟩, ⟨(some 10), (.mv (.t 18)), none, [4, 4, 0, 1, 2, 3, 4]⟩] false) (.seq (.reg [⟨(some 19), (.mv (.t 10)), none, []⟩, ⟨(some 20), (.bin .neq (.t 19) (.c (.int .i64 0))), none, [0]⟩] false) (.cond (.t 20) (.seq (.reg [⟨(some 21), (.mv (.t 10)), none, []⟩, ⟨(some 8), (.mv (.c .nils)), none, []⟩, ⟨(some 9), (.mv (.t 21)), none, [0, 1, 0, 1]⟩] false) .ret) .skip))) (.seq (.reg [⟨(some 11), (.alloc 94 1 [(.int .u64 0)]), none, []⟩, ⟨none, (.st 1 (.t 11) (.c (.int .u64 255))), none, [0, 0]⟩] false) (.seq (.seq (.reg [⟨(some 22), (.mv (.t 0)), none, []⟩, ⟨(some 23), (.mv (.t 1)), none, []⟩, ⟨(some 24), (.mv (.t 2)), none, []⟩, ⟨(some 25), (.call 50 [(.t 23), (.t 24)]), none, [1, 2]⟩, ⟨(some 26), (.mv (.t 3)), none, []⟩, ⟨(some 27), (.mkfn (.func 54) [(.t 11)]), none, []⟩, ⟨(some 28), (.call 49 [(.t 22), (.t 25), (.t 26), (.t 27)]), none, [0, 3, 4, 5, 3]⟩, ⟨(some 29), (.bin .eql (.t 28) (.c (.int .i64 0))), none, [6]⟩] false) (.cond (.t 29) (.seq (.reg [⟨(some 8), (.mv (.c .nils)), none, []⟩, ⟨(some 9), (.mv (.c (.int .i64 21))), none, [0, 0]⟩] false) .ret) .skip)) (.seq (.reg [⟨(some 12), (.mv (.c .nils)), none, []⟩] false) (.seq (.seq (.reg [⟨(some 30), (.mv (.c (.int .i64 0))), none, []⟩] false) (.block 0 (.loop (.seq (.reg [⟨(some 31), (.bin .lss (.t 30) (.c (.int .i64 8))), none, []⟩] false) (.seq (.cond (.t 31) .skip (.exit 0)) (.seq (.block 1 (.seq (.reg [⟨(some 32), (.mv (.t 30)), none, []⟩, ⟨(some 13), (.mv (.t 32)), none, [0, 0]⟩] false) (.seq (.reg [⟨(some 33), (.ld false 1 (.t 11)), none, []⟩, ⟨(some 34), (.mv (.t 13)), none, []⟩, ⟨(some 35), (.bin .shr (.t 33) (.t 34)), none, [0, 1]⟩, ⟨(some 36), (.bin .and (.t 35) (.c (.int .u64 1))), none, [2]⟩, ⟨(some 37), (.bin .eql (.t 36) (.c (.int .u64 1))), none, [3]⟩] false) (.cond (.t 37) (.reg [⟨(some 38), (.mv (.t 12)), none, []⟩, ⟨(some 39), (.mv (.t 13)), none, []⟩, ⟨(some 40), (.bslice 3 1 [(.int .i64 0)] 1 [(0, (.t 39))]), none, [1]⟩, ⟨(some 41), (.app 3 1 8 [(.int .i64 0)] (.t 38) (.t 40)), none, [0, 2]⟩, ⟨(some 12), (.mv (.t 41)), none, [3, 3, 0, 1, 2, 3]⟩] false) .skip)))) (.reg [⟨(some 42), (.bin .add (.t 30) (.c (.int .i64 1))), none, []⟩, ⟨(some 30), (.mv (.t 42)), none, [0]⟩] false))))))) (.seq (.reg [⟨(some 43), (.mv (.t 12)), none, []⟩, ⟨(some 8), (.mv (.t 43)), none, [0, 0]⟩, ⟨(some 9), (.mv (.c (.int .i64 0))), none, [1, 0, 1]⟩] false) .ret)))))))
theorem mcOk24 : (match Try.f24.body with | some c => compC Try.prog 44 c | none => none) = some mc24 := by kernel_rfl

theorem fc24 (l : List Rd) (lo hi : List Int) (lies : Int) : FC Try.prog 24 [.rs 4 (l.map cR), ints lo, ints hi, .int .i64 lies] [] (.tup [.sl 1012 0 (liarsL l lo hi lies).length, iv (liarsE l lo hi lies)]) [(1012, .cells 3 1 ((liarsL l lo hi lies).map ci) true)] false := by
  refine fc_run (nt := 44) Try.func24 rfl rfl mcOk24 (Nat.le_of_ble_eq_true rfl) ?_
  delta mc24
  refine aw_seq ?_
  refine aw_reg ?_
  refine rs_mv rfl rfl ?_
  refine rs_mv rfl rfl ?_
  refine rs_nil fun _ => ?_
  refine th_n ?_
  refine aw_seq ?_
  refine aw_seq ?_
  refine aw_reg ?_
  refine rs_mv rfl rfl ?_
  refine rs_mv rfl rfl ?_
  refine rs_mv rfl rfl ?_
  refine rs_mv rfl rfl ?_
  refine rs_calln [] rfl rfl (fc19 l lo hi lies) (.cons (hv_same rfl) (.cons (hv_same rfl) (.cons (hv_same rfl) (.cons (hv_same rfl) (.nil))))) rfl ?_
  refine rs_mv rfl rfl ?_
  refine rs_nil fun _ => ?_
  refine th_n ?_
  refine aw_seq ?_
  refine aw_reg ?_
  refine rs_mv rfl rfl ?_
  refine rs_neq rfl rfl rfl ?_
  refine rs_nil fun _ => ?_
  refine th_n ?_
  refine aw_cond rfl (fun h20 => ?_) (fun h20 => ?_)
  · first | replace h20 := of_decide_eq_true h20 | skip
    refine aw_seq ?_
    refine aw_reg ?_
    refine rs_mv rfl rfl ?_
    refine rs_mv rfl rfl ?_
    refine rs_mv rfl rfl ?_
    refine rs_nil fun _ => ?_
    refine th_n ?_
    refine aw_ret ?_
    refine th_r ?_
    first
      | (obtain ⟨e1, e2⟩ := liars_1 h20
         rw [e1, e2]
         exact ret_new rfl (rc_tup (.cons (rc_virt rfl rfl) (.cons (rc_same rfl (.inr rfl)) .nil))) (.virt rfl .nil))
      | (obtain ⟨e1, e2⟩ := liars_2 (l := l) (lo := lo) (hi := hi) (lies := lies) (by omega) (by omega)
         rw [e1, e2]
         exact ret_new rfl (rc_tup (.cons (rc_virt rfl rfl) (.cons (rc_same rfl (.inr rfl)) .nil))) (.virt rfl .nil))
      | (obtain ⟨e1, e2⟩ := liars_3 (l := l) (lo := lo) (hi := hi) (lies := lies) (by omega) (by omega)
         obtain rfl : k = 8 := by omega
         rw [e1, e2]
         exact ret_new rfl (rc_same rfl (.inr rfl)) (.keep rfl rfl (noROE_map (fun _ => rfl) _) .nil))
  · first | replace h20 := of_decide_eq_false h20 | skip
    refine aw_skip ?_
    refine th_n ?_
    refine aw_seq ?_
    refine aw_reg ?_
    have h0 : checkS l lo hi lies = 0 := by omega
    obtain ⟨hl, h2, h6, hls, hr⟩ := check_ok h0
    refine rs_alloc rfl rfl rfl ?_
    refine rs_st rfl rfl rfl rfl rfl rfl rfl (Nat.le_of_ble_eq_true rfl) rfl rfl ?_
    refine rs_nil fun _ => ?_
    refine th_n ?_
    refine aw_seq ?_
    refine aw_seq ?_
    refine aw_reg ?_
    refine rs_mv rfl rfl ?_
    refine rs_mv rfl rfl ?_
    refine rs_mv rfl rfl ?_
    refine rs_calln [] rfl rfl (fc50 lo hi h6 (by omega)) (.cons (hv_same rfl) (.cons (hv_same rfl) (.nil))) rfl ?_
    refine rs_mv rfl rfl ?_
    refine rs_mkfn rfl rfl ?_
    refine rs_callo [(11, .cells 94 1 [[.int .u64 ((255 : Nat) : Int)]] true)] rfl rfl (fc49br l lo hi lies hl h2 h6 hr) (.cons (hv_same rfl) (.cons (hv_same (scoped_iv _ _)) (.cons (hv_same rfl) (.cons (hv_same rfl) (.nil))))) (.cons rfl (.nil)) rfl rfl rfl ?_
    refine rs_eql rfl rfl rfl ?_
    refine rs_nil fun _ => ?_
    refine th_n ?_
    refine aw_cond rfl (fun h29 => ?_) (fun h29 => ?_)
    · first | replace h29 := of_decide_eq_true h29 | skip
      refine aw_seq ?_
      refine aw_reg ?_
      refine rs_mv rfl rfl ?_
      refine rs_mv rfl rfl ?_
      refine rs_nil fun _ => ?_
      refine th_n ?_
      refine aw_ret ?_
      refine th_r ?_
      first
        | (obtain ⟨e1, e2⟩ := liars_1 h20
           rw [e1, e2]
           exact ret_new rfl (rc_tup (.cons (rc_virt rfl rfl) (.cons (rc_same rfl (.inr rfl)) .nil))) (.virt rfl .nil))
        | (obtain ⟨e1, e2⟩ := liars_2 (l := l) (lo := lo) (hi := hi) (lies := lies) (by omega) (by omega)
           rw [e1, e2]
           exact ret_new rfl (rc_tup (.cons (rc_virt rfl rfl) (.cons (rc_same rfl (.inr rfl)) .nil))) (.virt rfl .nil))
        | (obtain ⟨e1, e2⟩ := liars_3 (l := l) (lo := lo) (hi := hi) (lies := lies) (by omega) (by omega)
           obtain rfl : k = 8 := by omega
           rw [e1, e2]
           exact ret_new rfl (rc_same rfl (.inr rfl)) (.keep rfl rfl (noROE_map (fun _ => rfl) _) .nil))
    · first | replace h29 := of_decide_eq_false h29 | skip
      refine aw_skip ?_
      refine th_n ?_
      refine aw_seq ?_
      refine aw_reg ?_
      refine rs_mv rfl rfl ?_
      refine rs_nil fun _ => ?_
      refine th_n ?_
      refine aw_seq ?_
      refine aw_seq ?_
      refine aw_reg ?_
      refine rs_mv rfl rfl ?_
      refine rs_nil fun _ => ?_
      refine th_n ?_
      refine aw_block ?_
      refine aw_fam (α := Nat) (fun k => 8 - k) (fun k => [(11, .ptr 11 0 0), (12, .sl 1012 0 (outK (ex54 l lo hi lies).1 (k)).length), (30, iv (((k) : Nat) : Int))]) (fun k => [(11, .cells 94 1 [[.int .u64 (((ex54 l lo hi lies).1 : Nat) : Int)]] true), (1012, .cells 3 1 ((outK (ex54 l lo hi lies).1 (k)).map ci) true)]) (fun k => k ≤ 8) 0 (by omega)
        (weak_to (.cons rfl (rc_same rfl (.inl rfl)) (.cons rfl (rc_virt rfl rfl) (.cons rfl (rc_same rfl (.inl rfl)) (.nil)))) (.keep (rfl) rfl (.virt rfl (.nil))) (fun i h => by cases h)) ?_
      intro k hk
      have hol := outK_le (ex54 l lo hi lies).1 k
      refine aw_seq ?_
      refine aw_reg ?_
      
      refine rs_lss rfl rfl rfl ?_
      refine rs_nil fun _ => ?_
      refine th_n ?_
      refine aw_seq ?_
      refine aw_cond rfl (fun h31 => ?_) (fun h31 => ?_)
      · first | replace h31 := of_decide_eq_true h31 | skip
        refine aw_skip ?_
        refine th_n ?_
        refine aw_seq ?_
        refine aw_block ?_
        refine aw_seq ?_
        refine aw_reg ?_
        refine rs_mv rfl rfl ?_
        refine rs_mv rfl rfl ?_
        refine rs_nil fun _ => ?_
        refine th_n ?_
        refine aw_seq ?_
        refine aw_reg ?_
        first | refine rs_ld_r rfl rfl rfl ?_ | refine rs_ld_p rfl rfl rfl rfl rfl ?_ | refine rs_ld_m rfl rfl rfl (by omega) rfl ?_
        refine rs_mv rfl rfl ?_
        refine rs_shr rfl rfl rfl (by omega) rfl ?_
        refine rs_and rfl rfl rfl rfl ?_
        refine rs_eql rfl rfl rfl ?_
        rw [show decide (bits .and .u64 ((((ex54 l lo hi lies).1 : Nat) : Int).fdiv (2 ^ min ((k : Nat) : Int).toNat IntKind.u64.bits)) 1 = 1) = hasS (ex54 l lo hi lies).1 k from has_bits_u1 _ ex54_lt k (by omega)]
        refine rs_nil fun _ => ?_
        refine th_n ?_
        refine aw_cond rfl (fun h37 => ?_) (fun h37 => ?_)
        · first | replace h37 := of_decide_eq_true h37 | skip
          refine aw_reg ?_
          refine rs_mv rfl rfl ?_
          refine rs_mv rfl rfl ?_
          refine rs_bslice rfl rfl rfl rfl rfl rfl ?_
          refine rs_app_m (y := (k : Int)) rfl rfl rfl rfl (by rfl) rfl rfl rfl (by decide) rfl (by omega) (by omega) rfl ?_
          refine rs_mv rfl rfl ?_
          refine rs_nil fun _ => ?_
          refine in_n ?_
          refine th_n ?_
          refine aw_reg ?_
          first | refine rs_add rfl rfl rfl (by omega) ?_ | refine rs_addw rfl rfl rfl rfl ?_
          refine rs_mv rfl rfl ?_
          refine rs_nil fun _ => ?_
          refine th_n ?_
          refine ⟨k + 1, by omega, by omega, ?_⟩
          first
            | (have ho := outK_t (ex54 l lo hi lies).1 k h37; exact weak_to_ren (i := 41) (i' := 1012) (F1 := [(11, .ptr 11 0 0), (12, .sl 41 0 (outK (ex54 l lo hi lies).1 (k + 1)).length), (30, iv (((k + 1) : Nat) : Int))]) (H1 := [(11, .cells 94 1 [[.int .u64 (((ex54 l lo hi lies).1 : Nat) : Int)]] true), (41, .cells 3 1 ((outK (ex54 l lo hi lies).1 (k + 1)).map ci) true)]) (.cons rfl (rc_same rfl (.inl rfl)) (.cons rfl (rc_eq (by rw [ho]; simp) rfl) (.cons rfl (rc_same rfl (.inl rfl)) (.nil)))) (.keep (rfl) rfl (.keep ((by (rw [ho]) <;> rfl)) rfl (.nil))) (fun i h => by cases h) rfl rfl (.cons rfl (.same _) (.cons rfl (.sl _ _) (.cons rfl (.same _) (.nil)))) (.cons rfl (rc_same rfl (.inl rfl)) (.cons rfl (rc_same rfl (.inl rfl)) (.cons rfl (rc_same rfl (.inl rfl)) (.nil)))) (.keep (rfl) rfl (.keep (rfl) rfl (.nil))) (fun i h => by cases h))
            | (have ho := outK_f (ex54 l lo hi lies).1 k h37; exact weak_to (.cons rfl (rc_same rfl (.inl rfl)) (.cons rfl (rc_eq (by rw [ho]) rfl) (.cons rfl (rc_same rfl (.inl rfl)) (.nil)))) (.keep (rfl) rfl (.keep ((by (rw [ho]) <;> rfl)) rfl (.nil))) (fun i h => by cases h))
        · first | replace h37 := of_decide_eq_false h37 | skip
          refine aw_skip ?_
          refine in_n ?_
          refine th_n ?_
          refine aw_reg ?_
          first | refine rs_add rfl rfl rfl (by omega) ?_ | refine rs_addw rfl rfl rfl rfl ?_
          refine rs_mv rfl rfl ?_
          refine rs_nil fun _ => ?_
          refine th_n ?_
          refine ⟨k + 1, by omega, by omega, ?_⟩
          first
            | (have ho := outK_t (ex54 l lo hi lies).1 k h37; exact weak_to_ren (i := 41) (i' := 1012) (F1 := [(11, .ptr 11 0 0), (12, .sl 41 0 (outK (ex54 l lo hi lies).1 (k + 1)).length), (30, iv (((k + 1) : Nat) : Int))]) (H1 := [(11, .cells 94 1 [[.int .u64 (((ex54 l lo hi lies).1 : Nat) : Int)]] true), (41, .cells 3 1 ((outK (ex54 l lo hi lies).1 (k + 1)).map ci) true)]) (.cons rfl (rc_same rfl (.inl rfl)) (.cons rfl (rc_eq (by rw [ho]; simp) rfl) (.cons rfl (rc_same rfl (.inl rfl)) (.nil)))) (.keep (rfl) rfl (.keep ((by (rw [ho]) <;> rfl)) rfl (.nil))) (fun i h => by cases h) rfl rfl (.cons rfl (.same _) (.cons rfl (.sl _ _) (.cons rfl (.same _) (.nil)))) (.cons rfl (rc_same rfl (.inl rfl)) (.cons rfl (rc_same rfl (.inl rfl)) (.cons rfl (rc_same rfl (.inl rfl)) (.nil)))) (.keep (rfl) rfl (.keep (rfl) rfl (.nil))) (fun i h => by cases h))
            | (have ho := outK_f (ex54 l lo hi lies).1 k h37; exact weak_to (.cons rfl (rc_same rfl (.inl rfl)) (.cons rfl (rc_eq (by rw [ho]) rfl) (.cons rfl (rc_same rfl (.inl rfl)) (.nil)))) (.keep (rfl) rfl (.keep ((by (rw [ho]) <;> rfl)) rfl (.nil))) (fun i h => by cases h))
      · first | replace h31 := of_decide_eq_false h31 | skip
        refine aw_exit ?_
        refine th_e ?_
        refine th_e ?_
        refine in_hit ?_
        refine th_n ?_
        refine aw_seq ?_
        refine aw_reg ?_
        refine rs_mv rfl rfl ?_
        refine rs_mv rfl rfl ?_
        refine rs_mv rfl rfl ?_
        refine rs_nil fun _ => ?_
        refine th_n ?_
        refine aw_ret ?_
        first
          | (obtain ⟨e1, e2⟩ := liars_1 h20
             rw [e1, e2]
             exact ret_new rfl (rc_tup (.cons (rc_virt rfl rfl) (.cons (rc_same rfl (.inr rfl)) .nil))) (.virt rfl .nil))
          | (obtain ⟨e1, e2⟩ := liars_2 (l := l) (lo := lo) (hi := hi) (lies := lies) (by omega) (by omega)
             rw [e1, e2]
             exact ret_new rfl (rc_tup (.cons (rc_virt rfl rfl) (.cons (rc_same rfl (.inr rfl)) .nil))) (.virt rfl .nil))
          | (obtain ⟨e1, e2⟩ := liars_3 (l := l) (lo := lo) (hi := hi) (lies := lies) (by omega) (by omega)
             obtain rfl : k = 8 := by omega
             rw [e1, e2]
             exact ret_new rfl (rc_same rfl (.inr rfl)) (.keep rfl rfl (noROE_map (fun _ => rfl) _) .nil))

end Go.Proofs.Ytadjdnhnbkcakaa

/-! Walks: A9. -/
namespace Go.Proofs.Ytadjdnhnbkcakaa
open Go.RowKit

theorem and_i64 (a : Nat) (ha : a < 256) (b : Nat) (hb : b < 256) : bits .and .i64 (a : Int) (b : Int) = ((a &&& b : Nat) : Int) := by
  have h : a &&& b < 256 := Nat.lt_of_le_of_lt Nat.and_le_left ha
  unfold bits
  simp only [BitVec.toNat_and]
  rw [show (BitVec.ofInt IntKind.i64.bits (a : Int)).toNat = a by rw [BitVec.ofInt_natCast]; simp [IntKind.bits]; omega, show (BitVec.ofInt IntKind.i64.bits (b : Int)).toNat = b by rw [BitVec.ofInt_natCast]; simp [IntKind.bits]; omega, IntKind.wrap_i64]
  omega

def mc22 : MC := (.seq (.reg [⟨(some 8), (.mv (.c .nils)), none, []⟩, ⟨(some 9), (.mv (.c .nils)), none, [0]⟩, ⟨(some 10), (.mv (.c (.int .i64 0))), none, [1]⟩] false) (.seq (.reg [⟨(some 20), (.mv (.t 0)), none, []⟩, ⟨(some 21), (.mv (.t 1)), none, []⟩, ⟨(some 22), (.mv (.t 2)), none, []⟩, ⟨(some 23), (.mv (.t 3)), none, []⟩, ⟨(some 24), (.call 20 [(.t 20), (.t 21), (.t 22), (.t 23)]), none, [0, 1, 2, 3]⟩, ⟨(some 11), (.mv (.t 24)), none, [4, 4, 0, 1, 2, 3, 4]⟩] false) (.seq (.seq (.reg [⟨(some 25), (.mv (.t 11)), none, []⟩, ⟨(some 26), (.bin .neq (.t 25) (.c (.int .i64 0))), none, [0]⟩] false) (.cond (.t 26) (.seq (.reg [⟨(some 27), (.mv (.t 11)), none, []⟩, ⟨(some 8), (.mv (.c .nils)), none, []⟩, ⟨(some 9), (.mv (.c .nils)), none, [1, 1]⟩, ⟨(some 10), (.mv (.t 27)), none, [0, 2, 0, 1, 2]⟩] false) .ret) .skip)) (.seq (.reg [⟨(some 28), (.bslice 3 1 [(.int .i64 0)] 0 []), none, []⟩, ⟨(some 29), (.mv (.t 2)), none, []⟩, ⟨(some 30), (.app 3 1 8 [(.int .i64 0)] (.t 28) (.t 29)), none, [0, 1]⟩, ⟨(some 12), (.mv (.t 30)), none, [2, 2, 0, 1, 2]⟩] false) (.seq (.reg [⟨(some 31), (.bslice 3 1 [(.int .i64 0)] 0 []), none, []⟩, ⟨(some 32), (.mv (.t 1)), none, []⟩, ⟨(some 33), (.app 3 1 8 [(.int .i64 0)] (.t 31) (.t 32)), none, [0, 1]⟩, ⟨(some 13), (.mv (.t 33)), none, [2, 2, 0, 1, 2]⟩] false) (.seq (.reg [⟨(some 14), (.mv (.c (.bool false))), none, []⟩] false) (.seq (.seq (.reg [⟨(some 15), (.mv (.c (.int .i64 0))), none, []⟩] false) (.block 0 (.loop (.seq (.seq (.reg [⟨(some 34), (.mv (.t 15)), none, []⟩, ⟨(some 35), (.bin .lss (.t 34) (.c (.int .i64 256))), none, [0]⟩] false) (.cond (.t 35) .skip (.exit 0))) (.seq (.block 1 (.seq (.reg [⟨(some 39), (.mv (.t 0)), none, []⟩, ⟨(some 40), (.mv (.t 1)), none, []⟩, ⟨(some 41), (.mv (.t 2)), none, []⟩, ⟨(some 42), (.mv (.t 15)), none, []⟩, ⟨(some 43), (.call 52 [(.t 39), (.t 40), (.t 41), (.t 42)]), none, [0, 1, 2, 3]⟩, ⟨(some 38), (.mv (.t 43)), none, [4]⟩, ⟨(some 44), (.ext (.t 38) 0), none, [5]⟩, ⟨(some 45), (.ext (.t 38) 1), none, [5]⟩, ⟨(some 46), (.ext (.t 38) 2), none, [5]⟩, ⟨(some 16), (.mv (.t 44)), none, [6, 4, 0, 1, 2, 3, 4, 5, 6]⟩, ⟨(some 17), (.mv (.t 45)), none, [7, 9, 0, 1, 2, 3, 4, 5, 6, 7, 9]⟩, ⟨(some 18), (.mv (.t 46)), none, [8, 10, 0, 1, 2, 3, 4, 5, 6, 7, 8, 9, 10]⟩] false) (.seq (.seq (.reg [⟨(some 47), (.mv (.t 15)), none, []⟩, ⟨(some 48), (.call 53 [(.t 47)]), none, [0]⟩, ⟨(some 49), (.mv (.t 3)), none, []⟩, ⟨(some 50), (.bin .gtr (.t 48) (.t 49)), none, [1, 2]⟩, ⟨(some 51), (.mv (.t 50)), none, [3, 1]⟩, ⟨(some 52), (.mv (.t 18)), (some (51, false)), [4]⟩, ⟨(some 53), (.un .not (.t 52)), (some (51, false)), [5, 4]⟩, ⟨(some 54), (.pick (.t 51) (.c (.bool true)) (.t 53)), none, [4, 6]⟩] false) (.cond (.t 54) (.exit 1) .skip)) (.seq (.reg [⟨(some 14), (.mv (.c (.bool true))), none, []⟩] false) (.seq (.reg [⟨(some 19), (.mv (.c (.int .i64 0))), none, []⟩] false) (.block 2 (.loop (.seq (.seq (.reg [⟨(some 55), (.mv (.t 19)), none, []⟩, ⟨(some 56), (.mv (.t 1)), none, []⟩, ⟨(some 57), (.len (.t 56)), none, [1]⟩, ⟨(some 58), (.bin .lss (.t 55) (.t 57)), none, [0, 2]⟩] false) (.cond (.t 58) .skip (.exit 2))) (.seq (.block 3 (.seq (.reg [⟨(some 61), (.mv (.t 12)), none, []⟩, ⟨(some 62), (.mv (.t 19)), none, []⟩, ⟨(some 63), (.mv (.t 12)), none, []⟩, ⟨(some 64), (.mv (.t 19)), none, []⟩, ⟨(some 65), (.ixsl 1 (.t 63) (.t 64)), none, [2, 3]⟩, ⟨(some 66), (.ld false 1 (.t 65)), none, [4]⟩, ⟨(some 67), (.mv (.t 16)), none, []⟩, ⟨(some 68), (.mv (.t 19)), none, []⟩, ⟨(some 69), (.ixsl 1 (.t 67) (.t 68)), none, [6, 7]⟩, ⟨(some 70), (.ld false 1 (.t 69)), none, [8]⟩, ⟨(some 71), (.mn (.t 66) (.t 70)), none, [5, 9]⟩, ⟨(some 72), (.ixsl 1 (.t 61) (.t 62)), none, [0, 1, 0, 1, 2, 3, 4, 5, 6, 7, 8, 9, 10]⟩, ⟨none, (.st 1 (.t 72) (.t 71)), none, [11, 10, 0, 1, 2, 3, 4, 5, 6, 7, 8, 9, 10]⟩] true) (.reg [⟨(some 73), (.mv (.t 13)), none, []⟩, ⟨(some 74), (.mv (.t 19)), none, []⟩, ⟨(some 75), (.mv (.t 13)), none, []⟩, ⟨(some 76), (.mv (.t 19)), none, []⟩, ⟨(some 77), (.ixsl 1 (.t 75) (.t 76)), none, [2, 3]⟩, ⟨(some 78), (.ld false 1 (.t 77)), none, [4]⟩, ⟨(some 79), (.mv (.t 17)), none, []⟩, ⟨(some 80), (.mv (.t 19)), none, []⟩, ⟨(some 81), (.ixsl 1 (.t 79) (.t 80)), none, [6, 7]⟩, ⟨(some 82), (.ld false 1 (.t 81)), none, [8]⟩, ⟨(some 83), (.mx (.t 78) (.t 82)), none, [5, 9]⟩, ⟨(some 84), (.ixsl 1 (.t 73) (.t 74)), none, [0, 1, 0, 1, 2, 3, 4, 5, 6, 7, 8, 9, 10]⟩, ⟨none, (.st 1 (.t 84) (.t 83)), none, [11, 10, 0, 1, 2, 3, 4, 5, 6, 7, 8, 9, 10]⟩] true))) (.reg [⟨(some 59), (.mv (.t 19)), none, []⟩, ⟨(some 60), (.bin .add (.t 59) (.c (.int .i64 1))), none, [0]⟩, ⟨(some 19), (.mv (.t 60)), none, [1, 0, 1]⟩] false)))))))))) (.reg [⟨(some 36), (.mv (.t 15)), none, []⟩, ⟨(some 37), (.bin .add (.t 36) (.c (.int .i64 1))), none, [0]⟩, ⟨(some 15), (.mv (.t 37)), none, [1, 0, 1]⟩] false)))))) (.seq (.seq (.reg [⟨(some 85), (.mv (.t 14)), none, []⟩, ⟨(some 86), (.un .not (.t 85)), none, [0]⟩] false) (.cond (.t 86) (.seq (.reg [⟨(some 8), (.mv (.c .nils)), none, []⟩, ⟨(some 9), (.mv (.c .nils)), none, [0, 0]⟩, ⟨(some 10), (.mv (.c (.int .i64 21))), none, [1, 0, 1]⟩] false) .ret) .skip)) (.seq (.reg [⟨(some 87), (.mv (.t 12)), none, []⟩, ⟨(some 88), (.mv (.t 13)), none, []⟩, ⟨(some 8), (.mv (.t 87)), none, [0, 0]⟩, ⟨(some 9), (.mv (.t 88)), none, [1, 2, 0, 1, 2]⟩, ⟨(some 10), (.mv (.c (.int .i64 0))), none, [3, 0, 1, 2, 3]⟩] false) .ret)))))))))
theorem mcOk22 : (match Try.f22.body with | some c => compC Try.prog 89 c | none => none) = some mc22 := by kernel_rfl

theorem fc22 (l : List Rd) (lo hi : List Int) (lies : Int) : FC Try.prog 22 [.rs 4 (l.map cR), ints lo, ints hi, .int .i64 lies] [] (.tup [.sl 30 0 (narrowA l lo hi lies).length, .sl 33 0 (narrowB l lo hi lies).length, iv (narrowE l lo hi lies)]) [(30, .cells 3 1 ((narrowA l lo hi lies).map ci) true), (33, .cells 3 1 ((narrowB l lo hi lies).map ci) true)] false := by
  refine fc_run (nt := 89) Try.func22 rfl rfl mcOk22 (Nat.le_of_ble_eq_true rfl) ?_
  delta mc22
  refine aw_seq ?_
  refine aw_reg ?_
  refine rs_mv rfl rfl ?_
  refine rs_mv rfl rfl ?_
  refine rs_mv rfl rfl ?_
  refine rs_nil fun _ => ?_
  refine th_n ?_
  refine aw_seq ?_
  refine aw_reg ?_
  refine rs_mv rfl rfl ?_
  refine rs_mv rfl rfl ?_
  refine rs_mv rfl rfl ?_
  refine rs_mv rfl rfl ?_
  refine rs_calln [] rfl rfl (fc20 l lo hi lies) (.cons (hv_same rfl) (.cons (hv_same rfl) (.cons (hv_same rfl) (.cons (hv_same rfl) (.nil))))) rfl ?_
  refine rs_mv rfl rfl ?_
  refine rs_nil fun _ => ?_
  refine th_n ?_
  refine aw_seq ?_
  refine aw_seq ?_
  refine aw_reg ?_
  refine rs_mv rfl rfl ?_
  refine rs_neq rfl rfl rfl ?_
  refine rs_nil fun _ => ?_
  refine th_n ?_
  refine aw_cond rfl (fun h26 => ?_) (fun h26 => ?_)
  · first | replace h26 := of_decide_eq_true h26 | skip
    refine aw_seq ?_
    refine aw_reg ?_
    refine rs_mv rfl rfl ?_
    refine rs_mv rfl rfl ?_
    refine rs_mv rfl rfl ?_
    refine rs_mv rfl rfl ?_
    refine rs_nil fun _ => ?_
    refine th_n ?_
    first | refine aw_weak (F0 := [(8, .nils), (9, .nils), (10, iv (checkS l lo hi lies))]) (H0 := []) (weak_to (.cons rfl (rc_same rfl (.inl rfl)) (.cons rfl (rc_same rfl (.inl rfl)) (.cons rfl (rc_same rfl (.inl rfl)) (.nil)))) .nil (fun i h => by cases h)) ?_ | refine aw_weak (F0 := [(8, .nils), (9, .nils), (10, iv 21)]) (H0 := []) (weak_to (.cons rfl (rc_same rfl (.inl rfl)) (.cons rfl (rc_same rfl (.inl rfl)) (.cons rfl (rc_same rfl (.inl rfl)) (.nil)))) .nil (fun i h => by cases h)) ?_ | skip
    refine aw_ret ?_
    refine th_r ?_
    first
      | (obtain ⟨e1, e2, e3⟩ := narrow_1 h26
         rw [e1, e2, e3]
         exact ret_new rfl (rc_tup (.cons (rc_virt rfl rfl) (.cons (rc_virt rfl rfl) (.cons (rc_same rfl (.inr rfl)) .nil)))) (.virt rfl (.virt rfl .nil)))
      | (obtain rfl : k = 256 := by omega
         have hcnt : (ex51 l lo hi lies).2 = 0 := by simpa [ex51] using h86
         obtain ⟨e1, e2, e3⟩ := narrow_2 (l := l) (lo := lo) (hi := hi) (lies := lies) h0 hcnt
         rw [e1, e2, e3]
         exact ret_new rfl (rc_tup (.cons (rc_virt rfl rfl) (.cons (rc_virt rfl rfl) (.cons (rc_same rfl (.inr rfl)) .nil)))) (.virt rfl (.virt rfl .nil)))
      | (obtain rfl : k = 256 := by omega
         have hcnt : (ex51 l lo hi lies).2 ≠ 0 := by simpa [ex51] using h86
         obtain ⟨e1, e2, e3⟩ := narrow_3 (l := l) (lo := lo) (hi := hi) (lies := lies) h0 hcnt
         have e4 := ex51_len (l := l) (lies := lies) h2
         rw [e1, e2, e3, e4.1, e4.2]
         exact ret_new rfl (rc_same rfl (.inr rfl)) (.keep rfl rfl (noROE_map (fun _ => rfl) _) (.keep rfl rfl (noROE_map (fun _ => rfl) _) .nil)))
  · first | replace h26 := of_decide_eq_false h26 | skip
    refine aw_skip ?_
    refine th_n ?_
    refine aw_seq ?_
    refine aw_reg ?_
    have h0 : checkS l lo hi lies = 0 := by omega
    obtain ⟨hl, h2, h6, hls, hr⟩ := check_ok h0
    refine rs_bslice rfl rfl rfl rfl rfl rfl ?_
    refine rs_mv rfl rfl ?_
    refine rs_app_e (ys := hi) (n := lo.length) (f := ci) (rd := []) rfl rfl rfl rfl rfl rfl rfl (by simp) (fun _ => rfl) h2 (by omega) (by omega) flat_ci ?_
    refine rs_mv rfl rfl ?_
    refine rs_nil fun _ => ?_
    refine th_n ?_
    refine aw_seq ?_
    refine aw_reg ?_
    refine rs_bslice rfl rfl rfl rfl rfl rfl ?_
    refine rs_mv rfl rfl ?_
    refine rs_app_e (ys := lo) (n := lo.length) (f := ci) (rd := []) rfl rfl rfl rfl rfl rfl rfl (by simp) (fun _ => rfl) rfl (by omega) (by omega) flat_ci ?_
    refine rs_mv rfl rfl ?_
    refine rs_nil fun _ => ?_
    refine th_n ?_
    refine aw_seq ?_
    refine aw_reg ?_
    refine rs_mv rfl rfl ?_
    refine rs_nil fun _ => ?_
    refine th_n ?_
    refine aw_seq ?_
    refine aw_seq ?_
    refine aw_reg ?_
    refine rs_mv rfl rfl ?_
    refine rs_nil fun _ => ?_
    refine th_n ?_
    refine aw_block ?_
    refine aw_fam (α := Nat) (fun k => 256 - k) (fun k => [(0, .rs 4 (l.map cR)), (1, ints lo), (2, ints hi), (3, .int .i64 lies), (12, .sl 30 0 lo.length), (13, .sl 33 0 lo.length), (14, .bool (decide ((exK l (ofS lo hi) lies lo.length (f51 lo.length) (hi, lo) (k)).2 ≠ 0))), (15, iv (((k) : Nat) : Int))]) (fun k => [(30, .cells 3 1 ((exK l (ofS lo hi) lies lo.length (f51 lo.length) (hi, lo) (k)).1.1.map ci) true), (33, .cells 3 1 ((exK l (ofS lo hi) lies lo.length (f51 lo.length) (hi, lo) (k)).1.2.map ci) true)]) (fun k => k ≤ 256) 0 (by omega)
      (weak_to (.cons rfl (rc_same rfl (.inl rfl)) (.cons rfl (rc_same rfl (.inl rfl)) (.cons rfl (rc_same rfl (.inl rfl)) (.cons rfl (rc_same rfl (.inl rfl)) (.cons rfl (rc_same rfl (.inl rfl)) (.cons rfl (rc_same rfl (.inl rfl)) (.cons rfl (rc_same rfl (.inl rfl)) (.cons rfl (rc_same rfl (.inl rfl)) (.nil))))))))) (.keep (rfl) rfl (.keep (rfl) rfl (.nil))) (fun i h => by cases h)) ?_
    intro k hk
    have hi51 := exK_inv l (ofS lo hi) lies lo.length (f51 lo.length) (hi, lo) k (fun s => s.1.length = lo.length ∧ s.2.length = lo.length) ⟨h2, rfl⟩ (fun s k y h _ => ⟨by simp [f51, minK, h.1], by simp [f51, maxK, h.2]⟩) hk
    have hlc : (lowL (withoutS l k (ofS lo hi)) lo.length).length = lo.length := by simp [lowL]
    have hld : (highL (withoutS l k (ofS lo hi)) lo.length).length = lo.length := by simp [highL]
    refine aw_seq ?_
    refine aw_seq ?_
    refine aw_reg ?_
    refine rs_mv rfl rfl ?_
    refine rs_lss rfl rfl rfl ?_
    refine rs_nil fun _ => ?_
    refine th_n ?_
    refine aw_cond rfl (fun h35 => ?_) (fun h35 => ?_)
    · first | replace h35 := of_decide_eq_true h35 | skip
      refine aw_skip ?_
      refine th_n ?_
      refine aw_seq ?_
      refine aw_block ?_
      refine aw_seq ?_
      refine aw_reg ?_
      refine rs_mv rfl rfl ?_
      refine rs_mv rfl rfl ?_
      refine rs_mv rfl rfl ?_
      refine rs_mv rfl rfl ?_
      refine rs_calln [] rfl rfl (fc52 l lo hi k lo.length rfl h2 h6 (by omega) (by omega) hr) (.cons (hv_same rfl) (.cons (hv_same rfl) (.cons (hv_same rfl) (.cons (hv_same rfl) (.nil))))) rfl ?_
      refine rs_mv rfl rfl ?_
      refine rs_ext rfl rfl rfl ?_
      refine rs_ext rfl rfl rfl ?_
      refine rs_ext rfl rfl rfl ?_
      refine rs_mv rfl rfl ?_
      refine rs_mv rfl rfl ?_
      refine rs_mv rfl rfl ?_
      refine rs_nil fun _ => ?_
      refine th_n ?_
      refine aw_seq ?_
      refine aw_seq ?_
      refine aw_reg ?_
      refine rs_mv rfl rfl ?_
      refine rs_calln [] rfl rfl (fc53 k (by omega)) (.cons (hv_same rfl) (.nil)) rfl ?_
      refine rs_mv rfl rfl ?_
      refine rs_cmp rfl rfl rfl rfl (fun h50 => ?_) (fun h50 => ?_)
      · skip
        refine rs_mv rfl rfl ?_
        refine rs_skip rfl ?_
        refine rs_skip rfl ?_
        refine rs_pick rfl rfl rfl ?_
        refine rs_nil fun _ => ?_
        refine th_n ?_
        refine aw_cond rfl (fun _ => ?_) (fun h => by cases h)
        refine aw_exit ?_
        refine th_e ?_
        refine in_hit ?_
        refine th_n ?_
        refine aw_reg ?_
        refine rs_mv rfl rfl ?_
        first | refine rs_add rfl rfl rfl (by omega) ?_ | refine rs_addw rfl rfl rfl rfl ?_
        refine rs_mv rfl rfl ?_
        refine rs_nil fun _ => ?_
        refine th_n ?_
        first
          | (have hs := exK_f1 l (ofS lo hi) lies lo.length (f51 lo.length) (hi, lo) k (by omega); exact ⟨k + 1, by omega, by omega, weak_to (.cons rfl (rc_same rfl (.inl rfl)) (.cons rfl (rc_same rfl (.inl rfl)) (.cons rfl (rc_same rfl (.inl rfl)) (.cons rfl (rc_same rfl (.inl rfl)) (.cons rfl (rc_same rfl (.inl rfl)) (.cons rfl (rc_same rfl (.inl rfl)) (.cons rfl (rc_eq (by (rw [hs]) <;> simp) rfl) (.cons rfl (rc_same rfl (.inl rfl)) (.nil))))))))) (.keep ((by (rw [hs]) <;> rfl)) rfl (.keep ((by (rw [hs]) <;> rfl)) rfl (.nil))) (fun i h => by cases h)⟩)
          | (have hs := exK_f2 l (ofS lo hi) lies lo.length (f51 lo.length) (hi, lo) k (by simpa using h54); exact ⟨k + 1, by omega, by omega, weak_to (.cons rfl (rc_same rfl (.inl rfl)) (.cons rfl (rc_same rfl (.inl rfl)) (.cons rfl (rc_same rfl (.inl rfl)) (.cons rfl (rc_same rfl (.inl rfl)) (.cons rfl (rc_same rfl (.inl rfl)) (.cons rfl (rc_same rfl (.inl rfl)) (.cons rfl (rc_eq (by (rw [hs]) <;> simp) rfl) (.cons rfl (rc_same rfl (.inl rfl)) (.nil))))))))) (.keep ((by (rw [hs]) <;> rfl)) rfl (.keep ((by (rw [hs]) <;> rfl)) rfl (.nil))) (fun i h => by cases h)⟩)
          | (obtain rfl : q = lo.length := by omega
             have hs := exK_t l (ofS lo hi) lies lo.length (f51 lo.length) (hi, lo) k (by omega) (by simpa using h54)
             exact ⟨k + 1, by omega, by omega, weak_to (.cons rfl (rc_same rfl (.inl rfl)) (.cons rfl (rc_same rfl (.inl rfl)) (.cons rfl (rc_same rfl (.inl rfl)) (.cons rfl (rc_same rfl (.inl rfl)) (.cons rfl (rc_same rfl (.inl rfl)) (.cons rfl (rc_same rfl (.inl rfl)) (.cons rfl (rc_eq (by (rw [hs]) <;> simp) rfl) (.cons rfl (rc_same rfl (.inl rfl)) (.nil))))))))) (.keep ((by (rw [hs]) <;> rfl)) rfl (.keep ((by (rw [hs]) <;> rfl)) rfl (.nil))) (fun i h => by cases h)⟩)
      · skip
        refine rs_mv rfl rfl ?_
        refine rs_mv rfl rfl ?_
        refine rs_not rfl rfl ?_
        refine rs_pick rfl rfl rfl ?_
        refine rs_nil fun _ => ?_
        refine th_n ?_
        refine aw_cond rfl (fun h54 => ?_) (fun h54 => ?_)
        · first | replace h54 := of_decide_eq_true h54 | skip
          refine aw_exit ?_
          refine th_e ?_
          refine in_hit ?_
          refine th_n ?_
          refine aw_reg ?_
          refine rs_mv rfl rfl ?_
          first | refine rs_add rfl rfl rfl (by omega) ?_ | refine rs_addw rfl rfl rfl rfl ?_
          refine rs_mv rfl rfl ?_
          refine rs_nil fun _ => ?_
          refine th_n ?_
          first
            | (have hs := exK_f1 l (ofS lo hi) lies lo.length (f51 lo.length) (hi, lo) k (by omega); exact ⟨k + 1, by omega, by omega, weak_to (.cons rfl (rc_same rfl (.inl rfl)) (.cons rfl (rc_same rfl (.inl rfl)) (.cons rfl (rc_same rfl (.inl rfl)) (.cons rfl (rc_same rfl (.inl rfl)) (.cons rfl (rc_same rfl (.inl rfl)) (.cons rfl (rc_same rfl (.inl rfl)) (.cons rfl (rc_eq (by (rw [hs]) <;> simp) rfl) (.cons rfl (rc_same rfl (.inl rfl)) (.nil))))))))) (.keep ((by (rw [hs]) <;> rfl)) rfl (.keep ((by (rw [hs]) <;> rfl)) rfl (.nil))) (fun i h => by cases h)⟩)
            | (have hs := exK_f2 l (ofS lo hi) lies lo.length (f51 lo.length) (hi, lo) k (by simpa using h54); exact ⟨k + 1, by omega, by omega, weak_to (.cons rfl (rc_same rfl (.inl rfl)) (.cons rfl (rc_same rfl (.inl rfl)) (.cons rfl (rc_same rfl (.inl rfl)) (.cons rfl (rc_same rfl (.inl rfl)) (.cons rfl (rc_same rfl (.inl rfl)) (.cons rfl (rc_same rfl (.inl rfl)) (.cons rfl (rc_eq (by (rw [hs]) <;> simp) rfl) (.cons rfl (rc_same rfl (.inl rfl)) (.nil))))))))) (.keep ((by (rw [hs]) <;> rfl)) rfl (.keep ((by (rw [hs]) <;> rfl)) rfl (.nil))) (fun i h => by cases h)⟩)
            | (obtain rfl : q = lo.length := by omega
               have hs := exK_t l (ofS lo hi) lies lo.length (f51 lo.length) (hi, lo) k (by omega) (by simpa using h54)
               exact ⟨k + 1, by omega, by omega, weak_to (.cons rfl (rc_same rfl (.inl rfl)) (.cons rfl (rc_same rfl (.inl rfl)) (.cons rfl (rc_same rfl (.inl rfl)) (.cons rfl (rc_same rfl (.inl rfl)) (.cons rfl (rc_same rfl (.inl rfl)) (.cons rfl (rc_same rfl (.inl rfl)) (.cons rfl (rc_eq (by (rw [hs]) <;> simp) rfl) (.cons rfl (rc_same rfl (.inl rfl)) (.nil))))))))) (.keep ((by (rw [hs]) <;> rfl)) rfl (.keep ((by (rw [hs]) <;> rfl)) rfl (.nil))) (fun i h => by cases h)⟩)
        · first | replace h54 := of_decide_eq_false h54 | skip
          refine aw_skip ?_
          refine th_n ?_
          refine aw_seq ?_
          refine aw_reg ?_
          refine rs_mv rfl rfl ?_
          refine rs_nil fun _ => ?_
          refine th_n ?_
          refine aw_seq ?_
          refine aw_reg ?_
          refine rs_mv rfl rfl ?_
          refine rs_nil fun _ => ?_
          refine th_n ?_
          refine aw_block ?_
          have hem : emptyS (withoutS l k (ofS lo hi)) lo.length = false := by simpa using h54
          have hlow : lowR (withoutS l k (ofS lo hi)) lo.length = lowL (withoutS l k (ofS lo hi)) lo.length := by simp [lowR, hem]
          have hhigh : highR (withoutS l k (ofS lo hi)) lo.length = highL (withoutS l k (ofS lo hi)) lo.length := by simp [highR, hem]
          refine aw_fam (α := Nat) (fun q => lo.length - q) (fun q => [(0, .rs 4 (l.map cR)), (1, ints lo), (2, ints hi), (3, .int .i64 lies), (12, .sl 30 0 lo.length), (13, .sl 33 0 lo.length), (14, .bool true), (15, iv (k : Int)), (16, .sl 17 0 lo.length), (17, .sl 20 0 lo.length), (19, iv (((q) : Nat) : Int))]) (fun q => [(30, .cells 3 1 ((minK (exK l (ofS lo hi) lies lo.length (f51 lo.length) (hi, lo) (k)).1.1 (withoutS l k (ofS lo hi)) (q)).map ci) true), (33, .cells 3 1 ((maxK (exK l (ofS lo hi) lies lo.length (f51 lo.length) (hi, lo) (k)).1.2 (withoutS l k (ofS lo hi)) (q)).map ci) true), (17, .cells 3 1 ((lowL (withoutS l k (ofS lo hi)) lo.length).map ci) true), (20, .cells 3 1 ((highL (withoutS l k (ofS lo hi)) lo.length).map ci) true)]) (fun q => q ≤ lo.length) 0 (by omega)
            (weak_to (.cons rfl (rc_same rfl (.inl rfl)) (.cons rfl (rc_same rfl (.inl rfl)) (.cons rfl (rc_same rfl (.inl rfl)) (.cons rfl (rc_same rfl (.inl rfl)) (.cons rfl (rc_same rfl (.inl rfl)) (.cons rfl (rc_same rfl (.inl rfl)) (.cons rfl (rc_same rfl (.inl rfl)) (.cons rfl (rc_same rfl (.inl rfl)) (.cons rfl (rc_eq (by rw [hlow, hlc]) rfl) (.cons rfl (rc_eq (by rw [hhigh, hld]) rfl) (.cons rfl (rc_same rfl (.inl rfl)) (.nil)))))))))))) (.keep ((by (rw [minK_0]) <;> rfl)) rfl (.keep ((by (rw [maxK_0]) <;> rfl)) rfl (.keep ((by (rw [← hlow]) <;> rfl)) rfl (.keep ((by (rw [← hhigh]) <;> rfl)) rfl (.nil))))) (fun i h => by cases h)) ?_
          intro q hq
          have hla : (minK (exK l (ofS lo hi) lies lo.length (f51 lo.length) (hi, lo) (k)).1.1 (withoutS l k (ofS lo hi)) q).length = lo.length := by simp [minK, hi51.1]
          have hlb : (maxK (exK l (ofS lo hi) lies lo.length (f51 lo.length) (hi, lo) (k)).1.2 (withoutS l k (ofS lo hi)) q).length = lo.length := by simp [maxK, hi51.2]
          refine aw_seq ?_
          refine aw_seq ?_
          refine aw_reg ?_
          refine rs_mv rfl rfl ?_
          refine rs_mv rfl rfl ?_
          first | refine rs_len_m rfl rfl ?_ | refine rs_len_s rfl rfl ?_ | refine rs_len_n rfl rfl ?_ | refine rs_len_r rfl rfl rfl ?_
          refine rs_lss rfl rfl rfl ?_
          refine rs_nil fun _ => ?_
          refine th_n ?_
          refine aw_cond rfl (fun h58 => ?_) (fun h58 => ?_)
          · first | replace h58 := of_decide_eq_true h58 | skip
            refine aw_skip ?_
            refine th_n ?_
            refine aw_seq ?_
            refine aw_block ?_
            refine aw_seq ?_
            refine aw_draw hmix ?_
            refine rs_mv rfl rfl ?_
            refine rs_mv rfl rfl ?_
            refine rs_mv rfl rfl ?_
            refine rs_mv rfl rfl ?_
            have ea : (lowL (withoutS l k (ofS lo hi)) lo.length)[q]'(by rw [hlc]; omega) = (withoutS l k (ofS lo hi)).getD q 0 := by simp [lowL]
            have eb : (highL (withoutS l k (ofS lo hi)) lo.length)[q]'(by rw [hld]; omega) = (withoutS l k (ofS lo hi)).getD (6 + q) 0 := by simp [highL]
            refine rs_ix_sm (t := q) rfl rfl rfl rfl (by omega) ?_
            refine rs_ld_m rfl rfl rfl (by rw [hla]; omega) rfl ?_
            refine rs_mv rfl rfl ?_
            refine rs_mv rfl rfl ?_
            refine rs_ix_sm (t := q) rfl rfl rfl rfl (by omega) ?_
            refine rs_ld_m rfl rfl rfl (by rw [hlc]; omega) rfl ?_
            refine rs_mn rfl rfl rfl rfl ?_
            refine rs_ix_sm (t := q) rfl rfl rfl rfl (by omega) ?_
            refine rs_st_m (fl' := true) rfl rfl rfl rfl (by rw [hla]; omega) rfl rfl (Nat.le_of_ble_eq_true rfl) rfl rfl ?_
            refine rs_nil ⟨by kernel_rfl, fun _ => ?_⟩
            refine th_n ?_
            refine aw_draw hmix ?_
            refine rs_mv rfl rfl ?_
            refine rs_mv rfl rfl ?_
            refine rs_mv rfl rfl ?_
            refine rs_mv rfl rfl ?_
            refine rs_ix_sm (t := q) rfl rfl rfl rfl (by omega) ?_
            refine rs_ld_m rfl rfl rfl (by rw [hlb]; omega) rfl ?_
            refine rs_mv rfl rfl ?_
            refine rs_mv rfl rfl ?_
            refine rs_ix_sm (t := q) rfl rfl rfl rfl (by omega) ?_
            refine rs_ld_m rfl rfl rfl (by rw [hld]; omega) rfl ?_
            refine rs_mx rfl rfl rfl rfl ?_
            refine rs_ix_sm (t := q) rfl rfl rfl rfl (by omega) ?_
            refine rs_st_m (fl' := true) rfl rfl rfl rfl (by rw [hlb]; omega) rfl rfl (Nat.le_of_ble_eq_true rfl) rfl rfl ?_
            refine rs_nil ⟨by kernel_rfl, fun _ => ?_⟩
            refine in_n ?_
            refine th_n ?_
            refine aw_reg ?_
            refine rs_mv rfl rfl ?_
            first | refine rs_add rfl rfl rfl (by omega) ?_ | refine rs_addw rfl rfl rfl rfl ?_
            refine rs_mv rfl rfl ?_
            refine rs_nil fun _ => ?_
            refine th_n ?_
            refine ⟨q + 1, by omega, by omega, ?_⟩
            exact weak_to (.cons rfl (rc_same rfl (.inl rfl)) (.cons rfl (rc_same rfl (.inl rfl)) (.cons rfl (rc_same rfl (.inl rfl)) (.cons rfl (rc_same rfl (.inl rfl)) (.cons rfl (rc_same rfl (.inl rfl)) (.cons rfl (rc_same rfl (.inl rfl)) (.cons rfl (rc_same rfl (.inl rfl)) (.cons rfl (rc_same rfl (.inl rfl)) (.cons rfl (rc_same rfl (.inl rfl)) (.cons rfl (rc_same rfl (.inl rfl)) (.cons rfl (rc_same rfl (.inl rfl)) (.nil)))))))))))) (.keep ((by (rw [← minK_set _ _ q (by omega), ← ea]) <;> rfl)) rfl (.keep ((by (rw [← maxK_set _ _ q (by omega), ← eb]) <;> rfl)) rfl (.keep (rfl) rfl (.keep (rfl) rfl (.nil))))) (fun i h => by cases h)
          · first | replace h58 := of_decide_eq_false h58 | skip
            refine aw_exit ?_
            refine th_e ?_
            refine th_e ?_
            refine in_hit ?_
            refine in_n ?_
            refine th_n ?_
            refine aw_reg ?_
            refine rs_mv rfl rfl ?_
            first | refine rs_add rfl rfl rfl (by omega) ?_ | refine rs_addw rfl rfl rfl rfl ?_
            refine rs_mv rfl rfl ?_
            refine rs_nil fun _ => ?_
            refine th_n ?_
            first
              | (have hs := exK_f1 l (ofS lo hi) lies lo.length (f51 lo.length) (hi, lo) k (by omega); exact ⟨k + 1, by omega, by omega, weak_to (.cons rfl (rc_same rfl (.inl rfl)) (.cons rfl (rc_same rfl (.inl rfl)) (.cons rfl (rc_same rfl (.inl rfl)) (.cons rfl (rc_same rfl (.inl rfl)) (.cons rfl (rc_same rfl (.inl rfl)) (.cons rfl (rc_same rfl (.inl rfl)) (.cons rfl (rc_eq (by (rw [hs]) <;> simp) rfl) (.cons rfl (rc_same rfl (.inl rfl)) (.nil))))))))) (.keep ((by (rw [hs]) <;> rfl)) rfl (.keep ((by (rw [hs]) <;> rfl)) rfl (.nil))) (fun i h => by cases h)⟩)
              | (have hs := exK_f2 l (ofS lo hi) lies lo.length (f51 lo.length) (hi, lo) k (by simpa using h54); exact ⟨k + 1, by omega, by omega, weak_to (.cons rfl (rc_same rfl (.inl rfl)) (.cons rfl (rc_same rfl (.inl rfl)) (.cons rfl (rc_same rfl (.inl rfl)) (.cons rfl (rc_same rfl (.inl rfl)) (.cons rfl (rc_same rfl (.inl rfl)) (.cons rfl (rc_same rfl (.inl rfl)) (.cons rfl (rc_eq (by (rw [hs]) <;> simp) rfl) (.cons rfl (rc_same rfl (.inl rfl)) (.nil))))))))) (.keep ((by (rw [hs]) <;> rfl)) rfl (.keep ((by (rw [hs]) <;> rfl)) rfl (.nil))) (fun i h => by cases h)⟩)
              | (obtain rfl : q = lo.length := by omega
                 have hs := exK_t l (ofS lo hi) lies lo.length (f51 lo.length) (hi, lo) k (by omega) (by simpa using h54)
                 exact ⟨k + 1, by omega, by omega, weak_to (.cons rfl (rc_same rfl (.inl rfl)) (.cons rfl (rc_same rfl (.inl rfl)) (.cons rfl (rc_same rfl (.inl rfl)) (.cons rfl (rc_same rfl (.inl rfl)) (.cons rfl (rc_same rfl (.inl rfl)) (.cons rfl (rc_same rfl (.inl rfl)) (.cons rfl (rc_eq (by (rw [hs]) <;> simp) rfl) (.cons rfl (rc_same rfl (.inl rfl)) (.nil))))))))) (.keep ((by (rw [hs]) <;> rfl)) rfl (.keep ((by (rw [hs]) <;> rfl)) rfl (.nil))) (fun i h => by cases h)⟩)
    · first | replace h35 := of_decide_eq_false h35 | skip
      refine aw_exit ?_
      refine th_e ?_
      refine th_e ?_
      refine in_hit ?_
      refine th_n ?_
      refine aw_seq ?_
      refine aw_seq ?_
      refine aw_reg ?_
      refine rs_mv rfl rfl ?_
      refine rs_not rfl rfl ?_
      refine rs_nil fun _ => ?_
      refine th_n ?_
      refine aw_cond rfl (fun h86 => ?_) (fun h86 => ?_)
      · first | replace h86 := of_decide_eq_true h86 | skip
        refine aw_seq ?_
        refine aw_reg ?_
        refine rs_mv rfl rfl ?_
        refine rs_mv rfl rfl ?_
        refine rs_mv rfl rfl ?_
        refine rs_nil fun _ => ?_
        refine th_n ?_
        first | refine aw_weak (F0 := [(8, .nils), (9, .nils), (10, iv (checkS l lo hi lies))]) (H0 := []) (weak_to (.cons rfl (rc_same rfl (.inl rfl)) (.cons rfl (rc_same rfl (.inl rfl)) (.cons rfl (rc_same rfl (.inl rfl)) (.nil)))) .nil (fun i h => by cases h)) ?_ | refine aw_weak (F0 := [(8, .nils), (9, .nils), (10, iv 21)]) (H0 := []) (weak_to (.cons rfl (rc_same rfl (.inl rfl)) (.cons rfl (rc_same rfl (.inl rfl)) (.cons rfl (rc_same rfl (.inl rfl)) (.nil)))) .nil (fun i h => by cases h)) ?_ | skip
        refine aw_ret ?_
        refine th_r ?_
        first
          | (obtain ⟨e1, e2, e3⟩ := narrow_1 h26
             rw [e1, e2, e3]
             exact ret_new rfl (rc_tup (.cons (rc_virt rfl rfl) (.cons (rc_virt rfl rfl) (.cons (rc_same rfl (.inr rfl)) .nil)))) (.virt rfl (.virt rfl .nil)))
          | (obtain rfl : k = 256 := by omega
             have hcnt : (ex51 l lo hi lies).2 = 0 := by simpa [ex51] using h86
             obtain ⟨e1, e2, e3⟩ := narrow_2 (l := l) (lo := lo) (hi := hi) (lies := lies) h0 hcnt
             rw [e1, e2, e3]
             exact ret_new rfl (rc_tup (.cons (rc_virt rfl rfl) (.cons (rc_virt rfl rfl) (.cons (rc_same rfl (.inr rfl)) .nil)))) (.virt rfl (.virt rfl .nil)))
          | (obtain rfl : k = 256 := by omega
             have hcnt : (ex51 l lo hi lies).2 ≠ 0 := by simpa [ex51] using h86
             obtain ⟨e1, e2, e3⟩ := narrow_3 (l := l) (lo := lo) (hi := hi) (lies := lies) h0 hcnt
             have e4 := ex51_len (l := l) (lies := lies) h2
             rw [e1, e2, e3, e4.1, e4.2]
             exact ret_new rfl (rc_same rfl (.inr rfl)) (.keep rfl rfl (noROE_map (fun _ => rfl) _) (.keep rfl rfl (noROE_map (fun _ => rfl) _) .nil)))
      · first | replace h86 := of_decide_eq_false h86 | skip
        refine aw_skip ?_
        refine th_n ?_
        refine aw_seq ?_
        refine aw_reg ?_
        refine rs_mv rfl rfl ?_
        refine rs_mv rfl rfl ?_
        refine rs_mv rfl rfl ?_
        refine rs_mv rfl rfl ?_
        refine rs_mv rfl rfl ?_
        refine rs_nil fun _ => ?_
        refine th_n ?_
        first | refine aw_weak (F0 := [(8, .nils), (9, .nils), (10, iv (checkS l lo hi lies))]) (H0 := []) (weak_to (.cons rfl (rc_same rfl (.inl rfl)) (.cons rfl (rc_same rfl (.inl rfl)) (.cons rfl (rc_same rfl (.inl rfl)) (.nil)))) .nil (fun i h => by cases h)) ?_ | refine aw_weak (F0 := [(8, .nils), (9, .nils), (10, iv 21)]) (H0 := []) (weak_to (.cons rfl (rc_same rfl (.inl rfl)) (.cons rfl (rc_same rfl (.inl rfl)) (.cons rfl (rc_same rfl (.inl rfl)) (.nil)))) .nil (fun i h => by cases h)) ?_ | skip
        refine aw_ret ?_
        first
          | (obtain ⟨e1, e2, e3⟩ := narrow_1 h26
             rw [e1, e2, e3]
             exact ret_new rfl (rc_tup (.cons (rc_virt rfl rfl) (.cons (rc_virt rfl rfl) (.cons (rc_same rfl (.inr rfl)) .nil)))) (.virt rfl (.virt rfl .nil)))
          | (obtain rfl : k = 256 := by omega
             have hcnt : (ex51 l lo hi lies).2 = 0 := by simpa [ex51] using h86
             obtain ⟨e1, e2, e3⟩ := narrow_2 (l := l) (lo := lo) (hi := hi) (lies := lies) h0 hcnt
             rw [e1, e2, e3]
             exact ret_new rfl (rc_tup (.cons (rc_virt rfl rfl) (.cons (rc_virt rfl rfl) (.cons (rc_same rfl (.inr rfl)) .nil)))) (.virt rfl (.virt rfl .nil)))
          | (obtain rfl : k = 256 := by omega
             have hcnt : (ex51 l lo hi lies).2 ≠ 0 := by simpa [ex51] using h86
             obtain ⟨e1, e2, e3⟩ := narrow_3 (l := l) (lo := lo) (hi := hi) (lies := lies) h0 hcnt
             have e4 := ex51_len (l := l) (lies := lies) h2
             rw [e1, e2, e3, e4.1, e4.2]
             exact ret_new rfl (rc_same rfl (.inr rfl)) (.keep rfl rfl (noROE_map (fun _ => rfl) _) (.keep rfl rfl (noROE_map (fun _ => rfl) _) .nil)))

def mc25 : MC := (.seq (.reg [⟨(some 8), (.mv (.c .nils)), none, []⟩, ⟨(some 9), (.mv (.c (.int .i64 0))), none, [0]⟩] false) (.seq (.reg [⟨(some 19), (.mv (.t 0)), none, []⟩, ⟨(some 20), (.mv (.t 1)), none, []⟩, ⟨(some 21), (.mv (.t 2)), none, []⟩, ⟨(some 22), (.mv (.t 3)), none, []⟩, ⟨(some 23), (.call 20 [(.t 19), (.t 20), (.t 21), (.t 22)]), none, [0, 1, 2, 3]⟩, ⟨(some 10), (.mv (.t 23)), none, [4, 4, 0, 1, 2, 3, 4]⟩] false) (.seq (.seq (.reg [⟨(some 24), (.mv (.t 10)), none, []⟩, ⟨(some 25), (.bin .neq (.t 24) (.c (.int .i64 0))), none, [0]⟩] false) (.cond (.t 25) (.seq (.reg [⟨(some 26), (.mv (.t 10)), none, []⟩, ⟨(some 8), (.mv (.c .nils)), none, []⟩, ⟨(some 9), (.mv (.t 26)), none, [0, 1, 0, 1]⟩] false) .ret) .skip)) (.seq (.reg [⟨(some 11), (.mv (.c (.int .i64 255))), none, []⟩] false) (.seq (.reg [⟨(some 12), (.mv (.c (.bool false))), none, []⟩] false) (.seq (.seq (.reg [⟨(some 13), (.mv (.c (.int .i64 0))), none, []⟩] false) (.block 0 (.loop (.seq (.seq (.reg [⟨(some 27), (.mv (.t 13)), none, []⟩, ⟨(some 28), (.bin .lss (.t 27) (.c (.int .i64 256))), none, [0]⟩] false) (.cond (.t 28) .skip (.exit 0))) (.seq (.block 1 (.seq (.reg [⟨(some 32), (.mv (.t 0)), none, []⟩, ⟨(some 33), (.mv (.t 1)), none, []⟩, ⟨(some 34), (.mv (.t 2)), none, []⟩, ⟨(some 35), (.mv (.t 13)), none, []⟩, ⟨(some 36), (.call 52 [(.t 32), (.t 33), (.t 34), (.t 35)]), none, [0, 1, 2, 3]⟩, ⟨(some 31), (.mv (.t 36)), none, [4]⟩, ⟨(some 37), (.ext (.t 31) 0), none, [5]⟩, ⟨(some 38), (.ext (.t 31) 1), none, [5]⟩, ⟨(some 39), (.ext (.t 31) 2), none, [5]⟩, ⟨(some 14), (.mv (.t 37)), none, [6, 4, 0, 1, 2, 3, 4, 5, 6]⟩, ⟨(some 15), (.mv (.t 38)), none, [7, 9, 0, 1, 2, 3, 4, 5, 6, 7, 9]⟩, ⟨(some 16), (.mv (.t 39)), none, [8, 10, 0, 1, 2, 3, 4, 5, 6, 7, 8, 9, 10]⟩] false) (.seq (.reg [⟨(some 40), (.mv (.t 13)), none, []⟩, ⟨(some 41), (.call 53 [(.t 40)]), none, [0]⟩, ⟨(some 42), (.mv (.t 3)), none, []⟩, ⟨(some 43), (.bin .leq (.t 41) (.t 42)), none, [1, 2]⟩, ⟨(some 44), (.mv (.t 43)), none, [3, 1]⟩, ⟨(some 45), (.mv (.t 16)), (some (44, true)), [4]⟩, ⟨(some 46), (.pick (.t 44) (.t 45) (.c (.bool false))), none, [4, 5]⟩] false) (.cond (.t 46) (.seq (.reg [⟨(some 12), (.mv (.c (.bool true))), none, []⟩] false) (.reg [⟨(some 47), (.mv (.t 11)), none, []⟩, ⟨(some 48), (.mv (.t 13)), none, []⟩, ⟨(some 49), (.bin .and (.t 47) (.t 48)), none, [0, 1]⟩, ⟨(some 11), (.mv (.t 49)), none, [2, 0, 1, 2]⟩] false)) .skip)))) (.reg [⟨(some 29), (.mv (.t 13)), none, []⟩, ⟨(some 30), (.bin .add (.t 29) (.c (.int .i64 1))), none, [0]⟩, ⟨(some 13), (.mv (.t 30)), none, [1, 0, 1]⟩] false)))))) (.seq (.seq (.reg [⟨(some 50), (.mv (.t 12)), none, []⟩, ⟨(some 51), (.un .not (.t 50)), none, [0]⟩] false) (.cond (.t 51) (.seq (.reg [⟨(some 8), (.mv (.c .nils)), none, []⟩, ⟨(some 9), (.mv (.c (.int .i64 21))), none, [0, 0]⟩] false) .ret) .skip)) (.seq (.reg [⟨(some 17), (.mv (.c .nils)), none, []⟩] false) (.seq (.seq (.reg [⟨(some 18), (.mv (.c (.int .i64 0))), none, []⟩] false) (.block 2 (.loop (.seq (.seq (.reg [⟨(some 52), (.mv (.t 18)), none, []⟩, ⟨(some 53), (.bin .lss (.t 52) (.c (.int .i64 8))), none, [0]⟩] false) (.cond (.t 53) .skip (.exit 2))) (.seq (.block 3 (.seq (.reg [⟨(some 56), (.mv (.t 11)), none, []⟩, ⟨(some 57), (.mv (.t 18)), none, []⟩, ⟨(some 58), (.call 55 [(.t 56), (.t 57)]), none, [0, 1]⟩] false) (.cond (.t 58) (.reg [⟨(some 59), (.mv (.t 17)), none, []⟩, ⟨(some 60), (.mv (.t 18)), none, []⟩, ⟨(some 61), (.bslice 3 1 [(.int .i64 0)] 1 [(0, (.t 60))]), none, [1]⟩, ⟨(some 62), (.app 3 1 8 [(.int .i64 0)] (.t 59) (.t 61)), none, [0, 2]⟩, ⟨(some 17), (.mv (.t 62)), none, [3, 3, 0, 1, 2, 3]⟩] false) .skip))) (.reg [⟨(some 54), (.mv (.t 18)), none, []⟩, ⟨(some 55), (.bin .add (.t 54) (.c (.int .i64 1))), none, [0]⟩, ⟨(some 18), (.mv (.t 55)), none, [1, 0, 1]⟩] false)))))) (.seq (.reg [⟨(some 63), (.mv (.t 17)), none, []⟩, ⟨(some 8), (.mv (.t 63)), none, [0, 0]⟩, ⟨(some 9), (.mv (.c (.int .i64 0))), none, [1, 0, 1]⟩] false) .ret))))))))))
theorem mcOk25 : (match Try.f25.body with | some c => compC Try.prog 64 c | none => none) = some mc25 := by kernel_rfl

theorem fc25 (l : List Rd) (lo hi : List Int) (lies : Int) : FC Try.prog 25 [.rs 4 (l.map cR), ints lo, ints hi, .int .i64 lies] [] (.tup [.sl 1012 0 (liarsL l lo hi lies).length, iv (liarsE l lo hi lies)]) [(1012, .cells 3 1 ((liarsL l lo hi lies).map ci) true)] false := by
  refine fc_run (nt := 64) Try.func25 rfl rfl mcOk25 (Nat.le_of_ble_eq_true rfl) ?_
  delta mc25
  refine aw_seq ?_
  refine aw_reg ?_
  refine rs_mv rfl rfl ?_
  refine rs_mv rfl rfl ?_
  refine rs_nil fun _ => ?_
  refine th_n ?_
  refine aw_seq ?_
  refine aw_reg ?_
  refine rs_mv rfl rfl ?_
  refine rs_mv rfl rfl ?_
  refine rs_mv rfl rfl ?_
  refine rs_mv rfl rfl ?_
  refine rs_calln [] rfl rfl (fc20 l lo hi lies) (.cons (hv_same rfl) (.cons (hv_same rfl) (.cons (hv_same rfl) (.cons (hv_same rfl) (.nil))))) rfl ?_
  refine rs_mv rfl rfl ?_
  refine rs_nil fun _ => ?_
  refine th_n ?_
  refine aw_seq ?_
  refine aw_seq ?_
  refine aw_reg ?_
  refine rs_mv rfl rfl ?_
  refine rs_neq rfl rfl rfl ?_
  refine rs_nil fun _ => ?_
  refine th_n ?_
  refine aw_cond rfl (fun h25 => ?_) (fun h25 => ?_)
  · first | replace h25 := of_decide_eq_true h25 | skip
    refine aw_seq ?_
    refine aw_reg ?_
    refine rs_mv rfl rfl ?_
    refine rs_mv rfl rfl ?_
    refine rs_mv rfl rfl ?_
    refine rs_nil fun _ => ?_
    refine th_n ?_
    refine aw_ret ?_
    refine th_r ?_
    first
      | (obtain ⟨e1, e2⟩ := liars_1 h25
         rw [e1, e2]
         exact ret_new rfl (rc_tup (.cons (rc_virt rfl rfl) (.cons (rc_same rfl (.inr rfl)) .nil))) (.virt rfl .nil))
      | (have hcnt : (ex54 l lo hi lies).2 = 0 := by
           obtain rfl : k = 256 := by omega
           simpa [ex54] using h51
         obtain ⟨e1, e2⟩ := liars_2 (l := l) (lo := lo) (hi := hi) (lies := lies) h0 hcnt
         rw [e1, e2]
         exact ret_new rfl (rc_tup (.cons (rc_virt rfl rfl) (.cons (rc_same rfl (.inr rfl)) .nil))) (.virt rfl .nil))
      | (obtain ⟨e1, e2⟩ := liars_3 (l := l) (lo := lo) (hi := hi) (lies := lies) h0 hcnt
         obtain rfl : q = 8 := by omega
         rw [e1, e2]
         exact ret_new rfl (rc_same rfl (.inr rfl)) (.keep rfl rfl (noROE_map (fun _ => rfl) _) .nil))
  · first | replace h25 := of_decide_eq_false h25 | skip
    refine aw_skip ?_
    refine th_n ?_
    refine aw_seq ?_
    refine aw_reg ?_
    
    refine rs_mv rfl rfl ?_
    refine rs_nil fun _ => ?_
    refine th_n ?_
    refine aw_seq ?_
    refine aw_reg ?_
    refine rs_mv rfl rfl ?_
    refine rs_nil fun _ => ?_
    refine th_n ?_
    refine aw_seq ?_
    refine aw_seq ?_
    refine aw_reg ?_
    refine rs_mv rfl rfl ?_
    refine rs_nil fun _ => ?_
    refine th_n ?_
    refine aw_block ?_
    have h0 : checkS l lo hi lies = 0 := by omega
    obtain ⟨hl, h2, h6, hls, hr⟩ := check_ok h0
    refine aw_fam (α := Nat) (fun k => 256 - k) (fun k => [(0, .rs 4 (l.map cR)), (1, ints lo), (2, ints hi), (3, .int .i64 lies), (11, iv (((exK l (ofS lo hi) lies lo.length f54 255 (k)).1 : Nat) : Int)), (12, .bool (decide ((exK l (ofS lo hi) lies lo.length f54 255 (k)).2 ≠ 0))), (13, iv (((k) : Nat) : Int))]) (fun k => []) (fun k => k ≤ 256) 0 (by omega)
      (weak_to (.cons rfl (rc_same rfl (.inl rfl)) (.cons rfl (rc_same rfl (.inl rfl)) (.cons rfl (rc_same rfl (.inl rfl)) (.cons rfl (rc_same rfl (.inl rfl)) (.cons rfl (rc_same rfl (.inl rfl)) (.cons rfl (rc_same rfl (.inl rfl)) (.cons rfl (rc_same rfl (.inl rfl)) (.nil)))))))) (.nil) (fun i h => by cases h)) ?_
    intro k hk
    have hi54 := exK_inv l (ofS lo hi) lies lo.length f54 255 k (fun s => s < 256) (by decide) (fun s k y h _ => Nat.lt_of_le_of_lt Nat.and_le_left h) hk
    refine aw_seq ?_
    refine aw_seq ?_
    refine aw_reg ?_
    
    refine rs_mv rfl rfl ?_
    refine rs_lss rfl rfl rfl ?_
    refine rs_nil fun _ => ?_
    refine th_n ?_
    refine aw_cond rfl (fun h28 => ?_) (fun h28 => ?_)
    · first | replace h28 := of_decide_eq_true h28 | skip
      refine aw_skip ?_
      refine th_n ?_
      refine aw_seq ?_
      refine aw_block ?_
      refine aw_seq ?_
      refine aw_reg ?_
      refine rs_mv rfl rfl ?_
      refine rs_mv rfl rfl ?_
      refine rs_mv rfl rfl ?_
      refine rs_mv rfl rfl ?_
      refine rs_calln [] rfl rfl (fc52 l lo hi k lo.length rfl h2 h6 (by omega) (by omega) hr) (.cons (hv_same rfl) (.cons (hv_same rfl) (.cons (hv_same rfl) (.cons (hv_same rfl) (.nil))))) rfl ?_
      refine rs_mv rfl rfl ?_
      refine rs_ext rfl rfl rfl ?_
      refine rs_ext rfl rfl rfl ?_
      refine rs_ext rfl rfl rfl ?_
      refine rs_mv rfl rfl ?_
      refine rs_mv rfl rfl ?_
      refine rs_mv rfl rfl ?_
      refine rs_nil fun _ => ?_
      refine th_n ?_
      refine aw_seq ?_
      refine aw_reg ?_
      refine rs_mv rfl rfl ?_
      refine rs_calln [] rfl rfl (fc53 k (by omega)) (.cons (hv_same rfl) (.nil)) rfl ?_
      refine rs_mv rfl rfl ?_
      refine rs_cmp rfl rfl rfl rfl (fun h43 => ?_) (fun h43 => ?_)
      · skip
        refine rs_mv rfl rfl ?_
        refine rs_mv rfl rfl ?_
        refine rs_pick rfl rfl rfl ?_
        refine rs_nil fun _ => ?_
        refine th_n ?_
        refine aw_cond rfl (fun h46 => ?_) (fun h46 => ?_)
        · first | replace h46 := of_decide_eq_true h46 | skip
          refine aw_seq ?_
          refine aw_reg ?_
          refine rs_mv rfl rfl ?_
          refine rs_nil fun _ => ?_
          refine th_n ?_
          refine aw_reg ?_
          refine rs_mv rfl rfl ?_
          refine rs_mv rfl rfl ?_
          refine rs_and rfl rfl rfl (and_i64 _ hi54 k (by omega)) ?_
          
          refine rs_mv rfl rfl ?_
          refine rs_nil fun _ => ?_
          refine in_n ?_
          refine th_n ?_
          refine aw_reg ?_
          refine rs_mv rfl rfl ?_
          first | refine rs_add rfl rfl rfl (by omega) ?_ | refine rs_addw rfl rfl rfl rfl ?_
          refine rs_mv rfl rfl ?_
          refine rs_nil fun _ => ?_
          refine th_n ?_
          first
            | (have hs := exK_f1 l (ofS lo hi) lies lo.length f54 255 k (by omega); exact ⟨k + 1, by omega, by omega, weak_to (.cons rfl (rc_same rfl (.inl rfl)) (.cons rfl (rc_same rfl (.inl rfl)) (.cons rfl (rc_same rfl (.inl rfl)) (.cons rfl (rc_same rfl (.inl rfl)) (.cons rfl (rc_int (by (rw [hs]) <;> rfl)) (.cons rfl (rc_eq (by (rw [hs]) <;> simp) rfl) (.cons rfl (rc_same rfl (.inl rfl)) (.nil)))))))) (.nil) (fun i h => by cases h)⟩)
            | (have hs := exK_f2 l (ofS lo hi) lies lo.length f54 255 k (by simpa using h46); exact ⟨k + 1, by omega, by omega, weak_to (.cons rfl (rc_same rfl (.inl rfl)) (.cons rfl (rc_same rfl (.inl rfl)) (.cons rfl (rc_same rfl (.inl rfl)) (.cons rfl (rc_same rfl (.inl rfl)) (.cons rfl (rc_int (by (rw [hs]) <;> rfl)) (.cons rfl (rc_eq (by (rw [hs]) <;> simp) rfl) (.cons rfl (rc_same rfl (.inl rfl)) (.nil)))))))) (.nil) (fun i h => by cases h)⟩)
            | (have hs := exK_t l (ofS lo hi) lies lo.length f54 255 k (by omega) (by simpa using h46); exact ⟨k + 1, by omega, by omega, weak_to (.cons rfl (rc_same rfl (.inl rfl)) (.cons rfl (rc_same rfl (.inl rfl)) (.cons rfl (rc_same rfl (.inl rfl)) (.cons rfl (rc_same rfl (.inl rfl)) (.cons rfl (rc_int (by (rw [hs]) <;> rfl)) (.cons rfl (rc_eq (by (rw [hs]) <;> simp) rfl) (.cons rfl (rc_same rfl (.inl rfl)) (.nil)))))))) (.nil) (fun i h => by cases h)⟩)
        · first | replace h46 := of_decide_eq_false h46 | skip
          refine aw_skip ?_
          refine in_n ?_
          refine th_n ?_
          refine aw_reg ?_
          refine rs_mv rfl rfl ?_
          first | refine rs_add rfl rfl rfl (by omega) ?_ | refine rs_addw rfl rfl rfl rfl ?_
          refine rs_mv rfl rfl ?_
          refine rs_nil fun _ => ?_
          refine th_n ?_
          first
            | (have hs := exK_f1 l (ofS lo hi) lies lo.length f54 255 k (by omega); exact ⟨k + 1, by omega, by omega, weak_to (.cons rfl (rc_same rfl (.inl rfl)) (.cons rfl (rc_same rfl (.inl rfl)) (.cons rfl (rc_same rfl (.inl rfl)) (.cons rfl (rc_same rfl (.inl rfl)) (.cons rfl (rc_int (by (rw [hs]) <;> rfl)) (.cons rfl (rc_eq (by (rw [hs]) <;> simp) rfl) (.cons rfl (rc_same rfl (.inl rfl)) (.nil)))))))) (.nil) (fun i h => by cases h)⟩)
            | (have hs := exK_f2 l (ofS lo hi) lies lo.length f54 255 k (by simpa using h46); exact ⟨k + 1, by omega, by omega, weak_to (.cons rfl (rc_same rfl (.inl rfl)) (.cons rfl (rc_same rfl (.inl rfl)) (.cons rfl (rc_same rfl (.inl rfl)) (.cons rfl (rc_same rfl (.inl rfl)) (.cons rfl (rc_int (by (rw [hs]) <;> rfl)) (.cons rfl (rc_eq (by (rw [hs]) <;> simp) rfl) (.cons rfl (rc_same rfl (.inl rfl)) (.nil)))))))) (.nil) (fun i h => by cases h)⟩)
            | (have hs := exK_t l (ofS lo hi) lies lo.length f54 255 k (by omega) (by simpa using h46); exact ⟨k + 1, by omega, by omega, weak_to (.cons rfl (rc_same rfl (.inl rfl)) (.cons rfl (rc_same rfl (.inl rfl)) (.cons rfl (rc_same rfl (.inl rfl)) (.cons rfl (rc_same rfl (.inl rfl)) (.cons rfl (rc_int (by (rw [hs]) <;> rfl)) (.cons rfl (rc_eq (by (rw [hs]) <;> simp) rfl) (.cons rfl (rc_same rfl (.inl rfl)) (.nil)))))))) (.nil) (fun i h => by cases h)⟩)
      · skip
        refine rs_mv rfl rfl ?_
        refine rs_skip rfl ?_
        refine rs_pick rfl rfl rfl ?_
        refine rs_nil fun _ => ?_
        refine th_n ?_
        refine aw_cond rfl (fun h => by cases h) (fun _ => ?_)
        refine aw_skip ?_
        refine in_n ?_
        refine th_n ?_
        refine aw_reg ?_
        refine rs_mv rfl rfl ?_
        first | refine rs_add rfl rfl rfl (by omega) ?_ | refine rs_addw rfl rfl rfl rfl ?_
        refine rs_mv rfl rfl ?_
        refine rs_nil fun _ => ?_
        refine th_n ?_
        first
          | (have hs := exK_f1 l (ofS lo hi) lies lo.length f54 255 k (by omega); exact ⟨k + 1, by omega, by omega, weak_to (.cons rfl (rc_same rfl (.inl rfl)) (.cons rfl (rc_same rfl (.inl rfl)) (.cons rfl (rc_same rfl (.inl rfl)) (.cons rfl (rc_same rfl (.inl rfl)) (.cons rfl (rc_int (by (rw [hs]) <;> rfl)) (.cons rfl (rc_eq (by (rw [hs]) <;> simp) rfl) (.cons rfl (rc_same rfl (.inl rfl)) (.nil)))))))) (.nil) (fun i h => by cases h)⟩)
          | (have hs := exK_f2 l (ofS lo hi) lies lo.length f54 255 k (by simpa using h46); exact ⟨k + 1, by omega, by omega, weak_to (.cons rfl (rc_same rfl (.inl rfl)) (.cons rfl (rc_same rfl (.inl rfl)) (.cons rfl (rc_same rfl (.inl rfl)) (.cons rfl (rc_same rfl (.inl rfl)) (.cons rfl (rc_int (by (rw [hs]) <;> rfl)) (.cons rfl (rc_eq (by (rw [hs]) <;> simp) rfl) (.cons rfl (rc_same rfl (.inl rfl)) (.nil)))))))) (.nil) (fun i h => by cases h)⟩)
          | (have hs := exK_t l (ofS lo hi) lies lo.length f54 255 k (by omega) (by simpa using h46); exact ⟨k + 1, by omega, by omega, weak_to (.cons rfl (rc_same rfl (.inl rfl)) (.cons rfl (rc_same rfl (.inl rfl)) (.cons rfl (rc_same rfl (.inl rfl)) (.cons rfl (rc_same rfl (.inl rfl)) (.cons rfl (rc_int (by (rw [hs]) <;> rfl)) (.cons rfl (rc_eq (by (rw [hs]) <;> simp) rfl) (.cons rfl (rc_same rfl (.inl rfl)) (.nil)))))))) (.nil) (fun i h => by cases h)⟩)
    · first | replace h28 := of_decide_eq_false h28 | skip
      refine aw_exit ?_
      refine th_e ?_
      refine th_e ?_
      refine in_hit ?_
      refine th_n ?_
      refine aw_seq ?_
      refine aw_seq ?_
      refine aw_reg ?_
      refine rs_mv rfl rfl ?_
      refine rs_not rfl rfl ?_
      refine rs_nil fun _ => ?_
      refine th_n ?_
      refine aw_cond rfl (fun h51 => ?_) (fun h51 => ?_)
      · first | replace h51 := of_decide_eq_true h51 | skip
        
        refine aw_seq ?_
        refine aw_reg ?_
        refine rs_mv rfl rfl ?_
        refine rs_mv rfl rfl ?_
        refine rs_nil fun _ => ?_
        refine th_n ?_
        refine aw_ret ?_
        refine th_r ?_
        first
          | (obtain ⟨e1, e2⟩ := liars_1 h25
             rw [e1, e2]
             exact ret_new rfl (rc_tup (.cons (rc_virt rfl rfl) (.cons (rc_same rfl (.inr rfl)) .nil))) (.virt rfl .nil))
          | (have hcnt : (ex54 l lo hi lies).2 = 0 := by
               obtain rfl : k = 256 := by omega
               simpa [ex54] using h51
             obtain ⟨e1, e2⟩ := liars_2 (l := l) (lo := lo) (hi := hi) (lies := lies) h0 hcnt
             rw [e1, e2]
             exact ret_new rfl (rc_tup (.cons (rc_virt rfl rfl) (.cons (rc_same rfl (.inr rfl)) .nil))) (.virt rfl .nil))
          | (obtain ⟨e1, e2⟩ := liars_3 (l := l) (lo := lo) (hi := hi) (lies := lies) h0 hcnt
             obtain rfl : q = 8 := by omega
             rw [e1, e2]
             exact ret_new rfl (rc_same rfl (.inr rfl)) (.keep rfl rfl (noROE_map (fun _ => rfl) _) .nil))
      · first | replace h51 := of_decide_eq_false h51 | skip
        obtain rfl : k = 256 := by omega
        have hcnt : (ex54 l lo hi lies).2 ≠ 0 := by simpa [ex54] using h51
        refine aw_skip ?_
        refine th_n ?_
        refine aw_seq ?_
        refine aw_reg ?_
        refine rs_mv rfl rfl ?_
        refine rs_nil fun _ => ?_
        refine th_n ?_
        refine aw_seq ?_
        refine aw_seq ?_
        refine aw_reg ?_
        refine rs_mv rfl rfl ?_
        refine rs_nil fun _ => ?_
        refine th_n ?_
        refine aw_block ?_
        refine aw_fam (α := Nat) (fun q => 8 - q) (fun q => [(11, iv (((ex54 l lo hi lies).1 : Nat) : Int)), (17, .sl 1012 0 (outK (ex54 l lo hi lies).1 (q)).length), (18, iv (((q) : Nat) : Int))]) (fun q => [(1012, .cells 3 1 ((outK (ex54 l lo hi lies).1 (q)).map ci) true)]) (fun q => q ≤ 8) 0 (by omega)
          (weak_to (.cons rfl (rc_same rfl (.inl rfl)) (.cons rfl (rc_virt rfl rfl) (.cons rfl (rc_same rfl (.inl rfl)) (.nil)))) (.virt rfl (.nil)) (fun i h => by cases h)) ?_
        intro q hq
        have hol := outK_le (ex54 l lo hi lies).1 q
        refine aw_seq ?_
        refine aw_seq ?_
        refine aw_reg ?_
        refine rs_mv rfl rfl ?_
        refine rs_lss rfl rfl rfl ?_
        refine rs_nil fun _ => ?_
        refine th_n ?_
        refine aw_cond rfl (fun h53 => ?_) (fun h53 => ?_)
        · first | replace h53 := of_decide_eq_true h53 | skip
          refine aw_skip ?_
          refine th_n ?_
          refine aw_seq ?_
          refine aw_block ?_
          refine aw_seq ?_
          refine aw_reg ?_
          refine rs_mv rfl rfl ?_
          refine rs_mv rfl rfl ?_
          refine rs_calln [] rfl rfl (fc55 (ex54 l lo hi lies).1 q ex54_lt (by omega)) (.cons (hv_same rfl) (.cons (hv_same rfl) (.nil))) rfl ?_
          refine rs_nil fun _ => ?_
          refine th_n ?_
          refine aw_cond rfl (fun h58 => ?_) (fun h58 => ?_)
          · first | replace h58 := of_decide_eq_true h58 | skip
            refine aw_reg ?_
            refine rs_mv rfl rfl ?_
            refine rs_mv rfl rfl ?_
            refine rs_bslice rfl rfl rfl rfl rfl rfl ?_
            refine rs_app_m (y := (q : Int)) rfl rfl rfl rfl (by rfl) rfl rfl rfl (by decide) rfl (by omega) (by omega) rfl ?_
            refine rs_mv rfl rfl ?_
            refine rs_nil fun _ => ?_
            refine in_n ?_
            refine th_n ?_
            refine aw_reg ?_
            refine rs_mv rfl rfl ?_
            first | refine rs_add rfl rfl rfl (by omega) ?_ | refine rs_addw rfl rfl rfl rfl ?_
            refine rs_mv rfl rfl ?_
            refine rs_nil fun _ => ?_
            refine th_n ?_
            refine ⟨q + 1, by omega, by omega, ?_⟩
            first
              | (have ho := outK_t (ex54 l lo hi lies).1 q h58; exact weak_to_ren (i := 62) (i' := 1012) (F1 := [(11, iv (((ex54 l lo hi lies).1 : Nat) : Int)), (17, .sl 62 0 (outK (ex54 l lo hi lies).1 (q + 1)).length), (18, iv (((q + 1) : Nat) : Int))]) (H1 := [(62, .cells 3 1 ((outK (ex54 l lo hi lies).1 (q + 1)).map ci) true)]) (.cons rfl (rc_same rfl (.inl rfl)) (.cons rfl (rc_eq (by rw [ho]; simp) rfl) (.cons rfl (rc_same rfl (.inl rfl)) (.nil)))) (.keep ((by (rw [ho]) <;> rfl)) rfl (.nil)) (fun i h => by cases h) rfl rfl (.cons rfl (.same _) (.cons rfl (.sl _ _) (.cons rfl (.same _) (.nil)))) (.cons rfl (rc_same rfl (.inl rfl)) (.cons rfl (rc_same rfl (.inl rfl)) (.cons rfl (rc_same rfl (.inl rfl)) (.nil)))) (.keep (rfl) rfl (.nil)) (fun i h => by cases h))
              | (have ho := outK_f (ex54 l lo hi lies).1 q h58; exact weak_to (.cons rfl (rc_same rfl (.inl rfl)) (.cons rfl (rc_eq (by rw [ho]) rfl) (.cons rfl (rc_same rfl (.inl rfl)) (.nil)))) (.keep ((by (rw [ho]) <;> rfl)) rfl (.nil)) (fun i h => by cases h))
          · first | replace h58 := of_decide_eq_false h58 | skip
            refine aw_skip ?_
            refine in_n ?_
            refine th_n ?_
            refine aw_reg ?_
            refine rs_mv rfl rfl ?_
            first | refine rs_add rfl rfl rfl (by omega) ?_ | refine rs_addw rfl rfl rfl rfl ?_
            refine rs_mv rfl rfl ?_
            refine rs_nil fun _ => ?_
            refine th_n ?_
            refine ⟨q + 1, by omega, by omega, ?_⟩
            first
              | (have ho := outK_t (ex54 l lo hi lies).1 q h58; exact weak_to_ren (i := 62) (i' := 1012) (F1 := [(11, iv (((ex54 l lo hi lies).1 : Nat) : Int)), (17, .sl 62 0 (outK (ex54 l lo hi lies).1 (q + 1)).length), (18, iv (((q + 1) : Nat) : Int))]) (H1 := [(62, .cells 3 1 ((outK (ex54 l lo hi lies).1 (q + 1)).map ci) true)]) (.cons rfl (rc_same rfl (.inl rfl)) (.cons rfl (rc_eq (by rw [ho]; simp) rfl) (.cons rfl (rc_same rfl (.inl rfl)) (.nil)))) (.keep ((by (rw [ho]) <;> rfl)) rfl (.nil)) (fun i h => by cases h) rfl rfl (.cons rfl (.same _) (.cons rfl (.sl _ _) (.cons rfl (.same _) (.nil)))) (.cons rfl (rc_same rfl (.inl rfl)) (.cons rfl (rc_same rfl (.inl rfl)) (.cons rfl (rc_same rfl (.inl rfl)) (.nil)))) (.keep (rfl) rfl (.nil)) (fun i h => by cases h))
              | (have ho := outK_f (ex54 l lo hi lies).1 q h58; exact weak_to (.cons rfl (rc_same rfl (.inl rfl)) (.cons rfl (rc_eq (by rw [ho]) rfl) (.cons rfl (rc_same rfl (.inl rfl)) (.nil)))) (.keep ((by (rw [ho]) <;> rfl)) rfl (.nil)) (fun i h => by cases h))
        · first | replace h53 := of_decide_eq_false h53 | skip
          refine aw_exit ?_
          refine th_e ?_
          refine th_e ?_
          refine in_hit ?_
          refine th_n ?_
          refine aw_seq ?_
          refine aw_reg ?_
          refine rs_mv rfl rfl ?_
          refine rs_mv rfl rfl ?_
          refine rs_mv rfl rfl ?_
          refine rs_nil fun _ => ?_
          refine th_n ?_
          refine aw_ret ?_
          first
            | (obtain ⟨e1, e2⟩ := liars_1 h25
               rw [e1, e2]
               exact ret_new rfl (rc_tup (.cons (rc_virt rfl rfl) (.cons (rc_same rfl (.inr rfl)) .nil))) (.virt rfl .nil))
            | (have hcnt : (ex54 l lo hi lies).2 = 0 := by
                 obtain rfl : k = 256 := by omega
                 simpa [ex54] using h51
               obtain ⟨e1, e2⟩ := liars_2 (l := l) (lo := lo) (hi := hi) (lies := lies) h0 hcnt
               rw [e1, e2]
               exact ret_new rfl (rc_tup (.cons (rc_virt rfl rfl) (.cons (rc_same rfl (.inr rfl)) .nil))) (.virt rfl .nil))
            | (obtain ⟨e1, e2⟩ := liars_3 (l := l) (lo := lo) (hi := hi) (lies := lies) h0 hcnt
               obtain rfl : q = 8 := by omega
               rw [e1, e2]
               exact ret_new rfl (rc_same rfl (.inr rfl)) (.keep rfl rfl (noROE_map (fun _ => rfl) _) .nil))

end Go.Proofs.Ytadjdnhnbkcakaa

/-! Walks: A10. -/
namespace Go.Proofs.Ytadjdnhnbkcakaa
open Go.RowKit

/-- A reading that values contradict. -/
def isWrong (v : List Int) (r : Rd) : Prop := 0 ≤ r.of_ ∧ r.of_ < (v.length : Int) ∧ (v.getD r.of_.toNat 0 < r.lo ∨ v.getD r.of_.toNat 0 > r.hi)
instance (v : List Int) (r : Rd) : Decidable (isWrong v r) := by unfold isWrong; infer_instance
def addW (v : List Int) (ks : List Int) (r : Rd) : List Int := if isWrong v r then addK ks r.probe else ks
def wrongS (l : List Rd) (v : List Int) : List Int := l.foldl (addW v) []
def agreeS (l : List Rd) (v : List Int) (lies : Int) : Bool := decide (((wrongS l v).length : Int) ≤ lies)
theorem addK_len (ks : List Int) (n : Int) : (addK ks n).length ≤ ks.length + 1 := by unfold addK; split <;> simp
theorem addW_len (v ks : List Int) (r : Rd) : (addW v ks r).length ≤ ks.length + 1 := by
  unfold addW
  split
  · exact addK_len _ _
  · omega
theorem wrong_len (v : List Int) : ∀ (l : List Rd) (ks : List Int), (l.foldl (addW v) ks).length ≤ ks.length + l.length
  | [], ks => by simp
  | r :: l, ks => by
    have h1 := wrong_len v l (addW v ks r)
    have h2 := addW_len v ks r
    simp only [List.foldl_cons, List.length_cons]
    omega
theorem wrong_at {v : List Int} {t : Int} (h0 : 0 ≤ t) (h1 : t < (v.length : Int)) : v[t.toNat]'(by omega) = v.getD t.toNat 0 := by
  simp [show t.toNat < v.length by omega]

def mc26 : MC := (.seq (.reg [⟨(some 6), (.mv (.c (.bool false))), none, []⟩] false) (.seq (.reg [⟨(some 10), .mkmap, none, []⟩, ⟨(some 7), (.mv (.t 10)), none, [0, 0]⟩] false) (.seq (.seq (.reg [⟨(some 11), (.mv (.t 0)), none, []⟩, ⟨(some 12), (.len (.t 11)), none, [0]⟩, ⟨(some 13), (.mv (.c (.int .i64 0))), none, []⟩] false) (.block 0 (.loop (.seq (.reg [⟨(some 14), (.bin .lss (.t 13) (.t 12)), none, []⟩] false) (.seq (.cond (.t 14) .skip (.exit 0)) (.seq (.block 1 (.seq (.reg [⟨(some 15), (.ixsl 4 (.t 11) (.t 13)), none, []⟩, ⟨(some 16), (.ld true 4 (.t 15)), none, [0]⟩, ⟨(some 9), (.alloc 50 4 [(.int .i64 0), (.int .i64 0), (.int .i64 0), (.int .i64 0)]), none, []⟩, ⟨none, (.st 4 (.t 9) (.t 16)), none, [2, 1, 0, 1, 2]⟩] false) (.seq (.reg [⟨(some 17), (.fa 1 (.t 9)), none, []⟩, ⟨(some 18), (.ld false 1 (.t 17)), none, [0]⟩, ⟨(some 19), (.bin .geq (.t 18) (.c (.int .i64 0))), none, [1]⟩, ⟨(some 20), (.mv (.t 19)), none, [2]⟩, ⟨(some 21), (.fa 1 (.t 9)), (some (20, true)), [3]⟩, ⟨(some 22), (.ld false 1 (.t 21)), (some (20, true)), [4, 3]⟩, ⟨(some 23), (.mv (.t 1)), (some (20, true)), [3]⟩, ⟨(some 24), (.len (.t 23)), (some (20, true)), [6, 3]⟩, ⟨(some 25), (.bin .lss (.t 22) (.t 24)), (some (20, true)), [5, 7, 3]⟩, ⟨(some 26), (.pick (.t 20) (.t 25) (.c (.bool false))), none, [3, 8]⟩, ⟨(some 27), (.mv (.t 26)), none, [9, 3]⟩, ⟨(some 28), (.mv (.t 1)), (some (27, true)), [10]⟩, ⟨(some 29), (.fa 1 (.t 9)), (some (27, true)), [10]⟩, ⟨(some 30), (.ld false 1 (.t 29)), (some (27, true)), [12, 10]⟩, ⟨(some 31), (.ixsl 1 (.t 28) (.t 30)), (some (27, true)), [11, 13, 10]⟩, ⟨(some 32), (.ld false 1 (.t 31)), (some (27, true)), [14, 10]⟩, ⟨(some 33), (.fa 2 (.t 9)), (some (27, true)), [10]⟩, ⟨(some 34), (.ld false 1 (.t 33)), (some (27, true)), [16, 10]⟩, ⟨(some 35), (.bin .lss (.t 32) (.t 34)), (some (27, true)), [15, 17, 10]⟩, ⟨(some 36), (.mv (.t 35)), (some (27, true)), [18, 10, 10]⟩, ⟨(some 37), (.mv (.t 1)), (some (36, false)), [19]⟩, ⟨(some 38), (.fa 1 (.t 9)), (some (36, false)), [19]⟩, ⟨(some 39), (.ld false 1 (.t 38)), (some (36, false)), [21, 19]⟩, ⟨(some 40), (.ixsl 1 (.t 37) (.t 39)), (some (36, false)), [20, 22, 19]⟩, ⟨(some 41), (.ld false 1 (.t 40)), (some (36, false)), [23, 19]⟩, ⟨(some 42), (.fa 3 (.t 9)), (some (36, false)), [19]⟩, ⟨(some 43), (.ld false 1 (.t 42)), (some (36, false)), [25, 19]⟩, ⟨(some 44), (.bin .gtr (.t 41) (.t 43)), (some (36, false)), [24, 26, 19]⟩, ⟨(some 45), (.pick (.t 36) (.c (.bool true)) (.t 44)), (some (27, true)), [19, 27, 10]⟩, ⟨(some 46), (.pick (.t 27) (.t 45) (.c (.bool false))), none, [10, 28]⟩] true) (.cond (.t 46) (.reg [⟨(some 47), (.mv (.t 7)), none, []⟩, ⟨(some 48), (.fa 0 (.t 9)), none, []⟩, ⟨(some 49), (.ld false 1 (.t 48)), none, [1]⟩, ⟨none, (.mapadd (.t 47) (.t 49) (.c (.bool true))), none, [0, 2, 0, 1, 2]⟩] false) .skip)))) (.reg [⟨(some 50), (.bin .add (.t 13) (.c (.int .i64 1))), none, []⟩, ⟨(some 13), (.mv (.t 50)), none, [0]⟩] false))))))) (.seq (.reg [⟨(some 51), (.mv (.t 7)), none, []⟩, ⟨(some 52), (.lenm (.t 51)), none, [0]⟩, ⟨(some 53), (.mv (.t 2)), none, []⟩, ⟨(some 54), (.bin .leq (.t 52) (.t 53)), none, [1, 2]⟩, ⟨(some 6), (.mv (.t 54)), none, [3, 1, 0, 1, 2, 3]⟩] false) .ret))))
theorem mcOk26 : (match Try.f26.body with | some c => compC Try.prog 55 c | none => none) = some mc26 := by kernel_rfl

theorem fc26 (l : List Rd) (v : List Int) (lies : Int) (hl : l.length ≤ 4611686018427387904) : FC Try.prog 26 [.rs 4 (l.map cR), ints v, iv lies] [] (.bool (agreeS l v lies)) [] false := by
  refine fc_run (nt := 55) Try.func26 rfl rfl mcOk26 (Nat.le_of_ble_eq_true rfl) ?_
  delta mc26
  refine aw_seq ?_
  refine aw_reg ?_
  refine rs_mv rfl rfl ?_
  refine rs_nil fun _ => ?_
  refine th_n ?_
  refine aw_seq ?_
  refine aw_reg ?_
  refine rs_mkmap rfl rfl ?_
  refine rs_mv rfl rfl ?_
  refine rs_nil fun _ => ?_
  refine th_n ?_
  refine aw_seq ?_
  refine aw_seq ?_
  refine aw_reg ?_
  refine rs_mv rfl rfl ?_
  first | refine rs_len_m rfl rfl ?_ | refine rs_len_s rfl rfl ?_ | refine rs_len_n rfl rfl ?_ | refine rs_len_r rfl rfl rfl ?_
  refine rs_mv rfl rfl ?_
  refine rs_nil fun _ => ?_
  refine th_n ?_
  refine aw_block ?_
  refine aw_fam (α := Nat) (fun k => l.length - k) (fun k => [(1, ints v), (2, iv lies), (7, .mp 10), (11, .rs 4 (l.map cR)), (12, iv (l.length : Int)), (13, iv (((k) : Nat) : Int))]) (fun k => [(10, .mset ((l.take (k)).foldl (addW v) []))]) (fun k => k ≤ l.length) 0 (by omega)
    (weak_to (.cons rfl (rc_same rfl (.inl rfl)) (.cons rfl (rc_same rfl (.inl rfl)) (.cons rfl (rc_same rfl (.inl rfl)) (.cons rfl (rc_same rfl (.inl rfl)) (.cons rfl (rc_same rfl (.inl rfl)) (.cons rfl (rc_same rfl (.inl rfl)) (.nil))))))) (.keep (rfl) rfl (.nil)) (fun i h => by cases h)) ?_
  intro k hk
  refine aw_seq ?_
  refine aw_reg ?_
  refine rs_lss rfl rfl rfl ?_
  refine rs_nil fun _ => ?_
  refine th_n ?_
  refine aw_seq ?_
  refine aw_cond rfl (fun h14 => ?_) (fun h14 => ?_)
  · first | replace h14 := of_decide_eq_true h14 | skip
    refine aw_skip ?_
    refine th_n ?_
    refine aw_seq ?_
    refine aw_block ?_
    refine aw_seq ?_
    refine aw_reg ?_
    have hkl : k < l.length := by omega
    have hst := fold_take (addW v) [] l k hkl
    first | refine rs_ix_m rfl rfl rfl (by omega) ?_ | refine rs_ix_sm rfl rfl rfl rfl (by omega) ?_
    first | refine rs_ld_pa rfl rfl rfl rfl (Nat.le_of_ble_eq_true rfl) rfl ?_ | refine rs_ld_ra rfl rfl (Nat.le_of_ble_eq_true rfl) rfl ?_ | refine rs_ld_ma rfl rfl rfl (by omega) (Nat.le_of_ble_eq_true rfl) rfl ?_
    refine rs_alloc rfl rfl rfl ?_
    refine rs_st rfl rfl rfl rfl rfl rfl rfl (Nat.le_of_ble_eq_true rfl) rfl rfl ?_
    refine rs_nil fun _ => ?_
    refine th_n ?_
    refine aw_seq ?_
    refine aw_draw hmix ?_
    first | refine rs_fa_p rfl rfl ?_ | refine rs_fa_r rfl rfl rfl ?_
    first | refine rs_ld_r rfl rfl rfl ?_ | refine rs_ld_p rfl rfl rfl rfl rfl ?_ | refine rs_ld_m rfl rfl rfl (by omega) rfl ?_
    refine rs_cmp rfl rfl rfl rfl (fun h19 => ?_) (fun h19 => ?_)
    · skip
      refine rs_mv rfl rfl ?_
      first | refine rs_fa_p rfl rfl ?_ | refine rs_fa_r rfl rfl rfl ?_
      first | refine rs_ld_r rfl rfl rfl ?_ | refine rs_ld_p rfl rfl rfl rfl rfl ?_ | refine rs_ld_m rfl rfl rfl (by omega) rfl ?_
      refine rs_mv rfl rfl ?_
      first | refine rs_len_m rfl rfl ?_ | refine rs_len_s rfl rfl ?_ | refine rs_len_n rfl rfl ?_ | refine rs_len_r rfl rfl rfl ?_
      refine rs_cmp rfl rfl rfl rfl (fun h25 => ?_) (fun h25 => ?_)
      · skip
        refine rs_pick rfl rfl rfl ?_
        refine rs_mv rfl rfl ?_
        refine rs_mv rfl rfl ?_
        first | refine rs_fa_p rfl rfl ?_ | refine rs_fa_r rfl rfl rfl ?_
        first | refine rs_ld_r rfl rfl rfl ?_ | refine rs_ld_p rfl rfl rfl rfl rfl ?_ | refine rs_ld_m rfl rfl rfl (by omega) rfl ?_
        refine rs_ix_mi rfl rfl rfl (by omega) (by omega) ?_
        first | refine rs_ld_r rfl rfl rfl ?_ | refine rs_ld_p rfl rfl rfl rfl rfl ?_ | refine rs_ld_m rfl rfl rfl (by omega) rfl ?_
        first | refine rs_fa_p rfl rfl ?_ | refine rs_fa_r rfl rfl rfl ?_
        first | refine rs_ld_r rfl rfl rfl ?_ | refine rs_ld_p rfl rfl rfl rfl rfl ?_ | refine rs_ld_m rfl rfl rfl (by omega) rfl ?_
        refine rs_cmp rfl rfl rfl rfl (fun h35 => ?_) (fun h35 => ?_)
        · skip
          refine rs_mv rfl rfl ?_
          refine rs_skip rfl ?_
          refine rs_skip rfl ?_
          refine rs_skip rfl ?_
          refine rs_skip rfl ?_
          refine rs_skip rfl ?_
          refine rs_skip rfl ?_
          refine rs_skip rfl ?_
          refine rs_skip rfl ?_
          refine rs_pick rfl rfl rfl ?_
          refine rs_pick rfl rfl rfl ?_
          refine rs_nil ⟨by kernel_rfl, fun _ => ?_⟩
          refine th_n ?_
          refine aw_cond rfl (fun _ => ?_) (fun h => by cases h)
          refine aw_reg ?_
          refine rs_mv rfl rfl ?_
          first | refine rs_fa_p rfl rfl ?_ | refine rs_fa_r rfl rfl rfl ?_
          first | refine rs_ld_r rfl rfl rfl ?_ | refine rs_ld_p rfl rfl rfl rfl rfl ?_ | refine rs_ld_m rfl rfl rfl (by omega) rfl ?_
          refine rs_mapadd rfl rfl rfl rfl rfl ?_
          refine rs_nil fun _ => ?_
          refine in_n ?_
          refine th_n ?_
          refine aw_reg ?_
          first | refine rs_add rfl rfl rfl (by omega) ?_ | refine rs_addw rfl rfl rfl rfl ?_
          refine rs_mv rfl rfl ?_
          refine rs_nil fun _ => ?_
          refine th_n ?_
          refine ⟨k + 1, by omega, by omega, ?_⟩
          first
            | exact weak_to (.cons rfl (rc_same rfl (.inl rfl)) (.cons rfl (rc_same rfl (.inl rfl)) (.cons rfl (rc_same rfl (.inl rfl)) (.cons rfl (rc_same rfl (.inl rfl)) (.cons rfl (rc_same rfl (.inl rfl)) (.cons rfl (rc_same rfl (.inl rfl)) (.nil))))))) (.keep ((by (rw [hst, addW, if_pos (show isWrong v l[k] from ⟨by omega, by omega, by rw [← wrong_at (by omega) (by omega)]; omega⟩)]) <;> rfl)) rfl (.nil)) (fun i h => by cases h)
            | exact weak_to (.cons rfl (rc_same rfl (.inl rfl)) (.cons rfl (rc_same rfl (.inl rfl)) (.cons rfl (rc_same rfl (.inl rfl)) (.cons rfl (rc_same rfl (.inl rfl)) (.cons rfl (rc_same rfl (.inl rfl)) (.cons rfl (rc_same rfl (.inl rfl)) (.nil))))))) (.keep ((by (rw [hst, addW, if_neg (show ¬ isWrong v l[k] from fun h => by obtain ⟨a1, a2, a3⟩ := h; first | omega | (rw [← wrong_at a1 a2] at a3; omega))]) <;> rfl)) rfl (.nil)) (fun i h => by cases h)
        · skip
          refine rs_mv rfl rfl ?_
          refine rs_mv rfl rfl ?_
          first | refine rs_fa_p rfl rfl ?_ | refine rs_fa_r rfl rfl rfl ?_
          first | refine rs_ld_r rfl rfl rfl ?_ | refine rs_ld_p rfl rfl rfl rfl rfl ?_ | refine rs_ld_m rfl rfl rfl (by omega) rfl ?_
          refine rs_ix_mi rfl rfl rfl (by omega) (by omega) ?_
          first | refine rs_ld_r rfl rfl rfl ?_ | refine rs_ld_p rfl rfl rfl rfl rfl ?_ | refine rs_ld_m rfl rfl rfl (by omega) rfl ?_
          first | refine rs_fa_p rfl rfl ?_ | refine rs_fa_r rfl rfl rfl ?_
          first | refine rs_ld_r rfl rfl rfl ?_ | refine rs_ld_p rfl rfl rfl rfl rfl ?_ | refine rs_ld_m rfl rfl rfl (by omega) rfl ?_
          refine rs_cmp rfl rfl rfl rfl (fun h44 => ?_) (fun h44 => ?_)
          · skip
            refine rs_pick rfl rfl rfl ?_
            refine rs_pick rfl rfl rfl ?_
            refine rs_nil ⟨by kernel_rfl, fun _ => ?_⟩
            refine th_n ?_
            refine aw_cond rfl (fun _ => ?_) (fun h => by cases h)
            refine aw_reg ?_
            refine rs_mv rfl rfl ?_
            first | refine rs_fa_p rfl rfl ?_ | refine rs_fa_r rfl rfl rfl ?_
            first | refine rs_ld_r rfl rfl rfl ?_ | refine rs_ld_p rfl rfl rfl rfl rfl ?_ | refine rs_ld_m rfl rfl rfl (by omega) rfl ?_
            refine rs_mapadd rfl rfl rfl rfl rfl ?_
            refine rs_nil fun _ => ?_
            refine in_n ?_
            refine th_n ?_
            refine aw_reg ?_
            first | refine rs_add rfl rfl rfl (by omega) ?_ | refine rs_addw rfl rfl rfl rfl ?_
            refine rs_mv rfl rfl ?_
            refine rs_nil fun _ => ?_
            refine th_n ?_
            refine ⟨k + 1, by omega, by omega, ?_⟩
            first
              | exact weak_to (.cons rfl (rc_same rfl (.inl rfl)) (.cons rfl (rc_same rfl (.inl rfl)) (.cons rfl (rc_same rfl (.inl rfl)) (.cons rfl (rc_same rfl (.inl rfl)) (.cons rfl (rc_same rfl (.inl rfl)) (.cons rfl (rc_same rfl (.inl rfl)) (.nil))))))) (.keep ((by (rw [hst, addW, if_pos (show isWrong v l[k] from ⟨by omega, by omega, by rw [← wrong_at (by omega) (by omega)]; omega⟩)]) <;> rfl)) rfl (.nil)) (fun i h => by cases h)
              | exact weak_to (.cons rfl (rc_same rfl (.inl rfl)) (.cons rfl (rc_same rfl (.inl rfl)) (.cons rfl (rc_same rfl (.inl rfl)) (.cons rfl (rc_same rfl (.inl rfl)) (.cons rfl (rc_same rfl (.inl rfl)) (.cons rfl (rc_same rfl (.inl rfl)) (.nil))))))) (.keep ((by (rw [hst, addW, if_neg (show ¬ isWrong v l[k] from fun h => by obtain ⟨a1, a2, a3⟩ := h; first | omega | (rw [← wrong_at a1 a2] at a3; omega))]) <;> rfl)) rfl (.nil)) (fun i h => by cases h)
          · skip
            refine rs_pick rfl rfl rfl ?_
            refine rs_pick rfl rfl rfl ?_
            refine rs_nil ⟨by kernel_rfl, fun _ => ?_⟩
            refine th_n ?_
            refine aw_cond rfl (fun h => by cases h) (fun _ => ?_)
            refine aw_skip ?_
            refine in_n ?_
            refine th_n ?_
            refine aw_reg ?_
            first | refine rs_add rfl rfl rfl (by omega) ?_ | refine rs_addw rfl rfl rfl rfl ?_
            refine rs_mv rfl rfl ?_
            refine rs_nil fun _ => ?_
            refine th_n ?_
            refine ⟨k + 1, by omega, by omega, ?_⟩
            first
              | exact weak_to (.cons rfl (rc_same rfl (.inl rfl)) (.cons rfl (rc_same rfl (.inl rfl)) (.cons rfl (rc_same rfl (.inl rfl)) (.cons rfl (rc_same rfl (.inl rfl)) (.cons rfl (rc_same rfl (.inl rfl)) (.cons rfl (rc_same rfl (.inl rfl)) (.nil))))))) (.keep ((by (rw [hst, addW, if_pos (show isWrong v l[k] from ⟨by omega, by omega, by rw [← wrong_at (by omega) (by omega)]; omega⟩)]) <;> rfl)) rfl (.nil)) (fun i h => by cases h)
              | exact weak_to (.cons rfl (rc_same rfl (.inl rfl)) (.cons rfl (rc_same rfl (.inl rfl)) (.cons rfl (rc_same rfl (.inl rfl)) (.cons rfl (rc_same rfl (.inl rfl)) (.cons rfl (rc_same rfl (.inl rfl)) (.cons rfl (rc_same rfl (.inl rfl)) (.nil))))))) (.keep ((by (rw [hst, addW, if_neg (show ¬ isWrong v l[k] from fun h => by obtain ⟨a1, a2, a3⟩ := h; first | omega | (rw [← wrong_at a1 a2] at a3; omega))]) <;> rfl)) rfl (.nil)) (fun i h => by cases h)
      · skip
        refine rs_pick rfl rfl rfl ?_
        refine rs_mv rfl rfl ?_
        refine rs_skip rfl ?_
        refine rs_skip rfl ?_
        refine rs_skip rfl ?_
        refine rs_skip rfl ?_
        refine rs_skip rfl ?_
        refine rs_skip rfl ?_
        refine rs_skip rfl ?_
        refine rs_skip rfl ?_
        refine rs_skip rfl ?_
        refine rs_skip rfl ?_
        refine rs_skip rfl ?_
        refine rs_skip rfl ?_
        refine rs_skip rfl ?_
        refine rs_skip rfl ?_
        refine rs_skip rfl ?_
        refine rs_skip rfl ?_
        refine rs_skip rfl ?_
        refine rs_skip rfl ?_
        refine rs_pick rfl rfl rfl ?_
        refine rs_nil ⟨by kernel_rfl, fun _ => ?_⟩
        refine th_n ?_
        refine aw_cond rfl (fun h => by cases h) (fun _ => ?_)
        refine aw_skip ?_
        refine in_n ?_
        refine th_n ?_
        refine aw_reg ?_
        first | refine rs_add rfl rfl rfl (by omega) ?_ | refine rs_addw rfl rfl rfl rfl ?_
        refine rs_mv rfl rfl ?_
        refine rs_nil fun _ => ?_
        refine th_n ?_
        refine ⟨k + 1, by omega, by omega, ?_⟩
        first
          | exact weak_to (.cons rfl (rc_same rfl (.inl rfl)) (.cons rfl (rc_same rfl (.inl rfl)) (.cons rfl (rc_same rfl (.inl rfl)) (.cons rfl (rc_same rfl (.inl rfl)) (.cons rfl (rc_same rfl (.inl rfl)) (.cons rfl (rc_same rfl (.inl rfl)) (.nil))))))) (.keep ((by (rw [hst, addW, if_pos (show isWrong v l[k] from ⟨by omega, by omega, by rw [← wrong_at (by omega) (by omega)]; omega⟩)]) <;> rfl)) rfl (.nil)) (fun i h => by cases h)
          | exact weak_to (.cons rfl (rc_same rfl (.inl rfl)) (.cons rfl (rc_same rfl (.inl rfl)) (.cons rfl (rc_same rfl (.inl rfl)) (.cons rfl (rc_same rfl (.inl rfl)) (.cons rfl (rc_same rfl (.inl rfl)) (.cons rfl (rc_same rfl (.inl rfl)) (.nil))))))) (.keep ((by (rw [hst, addW, if_neg (show ¬ isWrong v l[k] from fun h => by obtain ⟨a1, a2, a3⟩ := h; first | omega | (rw [← wrong_at a1 a2] at a3; omega))]) <;> rfl)) rfl (.nil)) (fun i h => by cases h)
    · skip
      refine rs_mv rfl rfl ?_
      refine rs_skip rfl ?_
      refine rs_skip rfl ?_
      refine rs_skip rfl ?_
      refine rs_skip rfl ?_
      refine rs_skip rfl ?_
      refine rs_pick rfl rfl rfl ?_
      refine rs_mv rfl rfl ?_
      refine rs_skip rfl ?_
      refine rs_skip rfl ?_
      refine rs_skip rfl ?_
      refine rs_skip rfl ?_
      refine rs_skip rfl ?_
      refine rs_skip rfl ?_
      refine rs_skip rfl ?_
      refine rs_skip rfl ?_
      refine rs_skip rfl ?_
      refine rs_skip rfl ?_
      refine rs_skip rfl ?_
      refine rs_skip rfl ?_
      refine rs_skip rfl ?_
      refine rs_skip rfl ?_
      refine rs_skip rfl ?_
      refine rs_skip rfl ?_
      refine rs_skip rfl ?_
      refine rs_skip rfl ?_
      refine rs_pick rfl rfl rfl ?_
      refine rs_nil ⟨by kernel_rfl, fun _ => ?_⟩
      refine th_n ?_
      refine aw_cond rfl (fun h => by cases h) (fun _ => ?_)
      refine aw_skip ?_
      refine in_n ?_
      refine th_n ?_
      refine aw_reg ?_
      first | refine rs_add rfl rfl rfl (by omega) ?_ | refine rs_addw rfl rfl rfl rfl ?_
      refine rs_mv rfl rfl ?_
      refine rs_nil fun _ => ?_
      refine th_n ?_
      refine ⟨k + 1, by omega, by omega, ?_⟩
      first
        | exact weak_to (.cons rfl (rc_same rfl (.inl rfl)) (.cons rfl (rc_same rfl (.inl rfl)) (.cons rfl (rc_same rfl (.inl rfl)) (.cons rfl (rc_same rfl (.inl rfl)) (.cons rfl (rc_same rfl (.inl rfl)) (.cons rfl (rc_same rfl (.inl rfl)) (.nil))))))) (.keep ((by (rw [hst, addW, if_pos (show isWrong v l[k] from ⟨by omega, by omega, by rw [← wrong_at (by omega) (by omega)]; omega⟩)]) <;> rfl)) rfl (.nil)) (fun i h => by cases h)
        | exact weak_to (.cons rfl (rc_same rfl (.inl rfl)) (.cons rfl (rc_same rfl (.inl rfl)) (.cons rfl (rc_same rfl (.inl rfl)) (.cons rfl (rc_same rfl (.inl rfl)) (.cons rfl (rc_same rfl (.inl rfl)) (.cons rfl (rc_same rfl (.inl rfl)) (.nil))))))) (.keep ((by (rw [hst, addW, if_neg (show ¬ isWrong v l[k] from fun h => by obtain ⟨a1, a2, a3⟩ := h; first | omega | (rw [← wrong_at a1 a2] at a3; omega))]) <;> rfl)) rfl (.nil)) (fun i h => by cases h)
  · first | replace h14 := of_decide_eq_false h14 | skip
    refine aw_exit ?_
    refine th_e ?_
    refine th_e ?_
    refine in_hit ?_
    refine th_n ?_
    refine aw_seq ?_
    refine aw_reg ?_
    refine rs_mv rfl rfl ?_
    refine rs_lenm rfl rfl rfl ?_
    refine rs_mv rfl rfl ?_
    refine rs_leq rfl rfl rfl ?_
    refine rs_mv rfl rfl ?_
    refine rs_nil fun _ => ?_
    refine th_n ?_
    refine aw_ret ?_
    have hfin : wrongS l v = (l.take k).foldl (addW v) [] := by (rw [List.take_of_length_le (by omega)]) <;> rfl
    exact ret_pure rfl (by rw [agreeS, hfin]; rfl) rfl (.inr rfl)

end Go.Proofs.Ytadjdnhnbkcakaa

/-! Walks: A11. -/
namespace Go.Proofs.Ytadjdnhnbkcakaa
open Go.RowKit

theorem contains_succ (W : List Int) (q : Nat) (p : Int) (h : q < W.length) : (W.take (q + 1)).contains p = ((W.take q).contains p || decide (W[q] = p)) := by
  rw [List.take_succ_eq_append_getElem h]
  simp only [List.contains_eq_mem, List.mem_append, List.mem_singleton]
  by_cases h1 : p ∈ W.take q
  · simp [h1]
  · by_cases h2 : W[q] = p
    · simp [h2]
    · simp [h1, h2, Ne.symm h2]
theorem wrongK_le (v : List Int) (l : List Rd) (k : Nat) : ((l.take k).foldl (addW v) []).length ≤ k := by
  have := wrong_len v (l.take k) []
  have h2 : (l.take k).length ≤ k := by simp; omega
  simp only [List.length_nil] at this
  omega

def mc27 : MC := (.seq (.reg [⟨(some 6), (.mv (.c (.bool false))), none, []⟩] false) (.seq (.reg [⟨(some 7), (.mv (.c .nils)), none, []⟩] false) (.seq (.seq (.reg [⟨(some 8), (.mv (.c (.int .i64 0))), none, []⟩] false) (.block 0 (.loop (.seq (.seq (.reg [⟨(some 12), (.mv (.t 8)), none, []⟩, ⟨(some 13), (.mv (.t 0)), none, []⟩, ⟨(some 14), (.len (.t 13)), none, [1]⟩, ⟨(some 15), (.bin .lss (.t 12) (.t 14)), none, [0, 2]⟩] false) (.cond (.t 15) .skip (.exit 0))) (.seq (.block 1 (.seq (.reg [⟨(some 18), (.mv (.t 0)), none, []⟩, ⟨(some 19), (.mv (.t 8)), none, []⟩, ⟨(some 20), (.ixsl 4 (.t 18) (.t 19)), none, [0, 1]⟩, ⟨(some 21), (.ld true 4 (.t 20)), none, [2]⟩, ⟨(some 9), (.alloc 50 4 [(.int .i64 0), (.int .i64 0), (.int .i64 0), (.int .i64 0)]), none, []⟩, ⟨none, (.st 4 (.t 9) (.t 21)), none, [4, 3, 0, 1, 2, 3, 4]⟩] false) (.seq (.seq (.reg [⟨(some 22), (.fa 1 (.t 9)), none, []⟩, ⟨(some 23), (.ld false 1 (.t 22)), none, [0]⟩, ⟨(some 24), (.bin .lss (.t 23) (.c (.int .i64 0))), none, [1]⟩, ⟨(some 25), (.mv (.t 24)), none, [2]⟩, ⟨(some 26), (.fa 1 (.t 9)), (some (25, false)), [3]⟩, ⟨(some 27), (.ld false 1 (.t 26)), (some (25, false)), [4, 3]⟩, ⟨(some 28), (.mv (.t 1)), (some (25, false)), [3]⟩, ⟨(some 29), (.len (.t 28)), (some (25, false)), [6, 3]⟩, ⟨(some 30), (.bin .geq (.t 27) (.t 29)), (some (25, false)), [5, 7, 3]⟩, ⟨(some 31), (.pick (.t 25) (.c (.bool true)) (.t 30)), none, [3, 8]⟩, ⟨(some 32), (.mv (.t 31)), none, [9, 3]⟩, ⟨(some 33), (.mv (.t 1)), (some (32, false)), [10]⟩, ⟨(some 34), (.fa 1 (.t 9)), (some (32, false)), [10]⟩, ⟨(some 35), (.ld false 1 (.t 34)), (some (32, false)), [12, 10]⟩, ⟨(some 36), (.ixsl 1 (.t 33) (.t 35)), (some (32, false)), [11, 13, 10]⟩, ⟨(some 37), (.ld false 1 (.t 36)), (some (32, false)), [14, 10]⟩, ⟨(some 38), (.fa 2 (.t 9)), (some (32, false)), [10]⟩, ⟨(some 39), (.ld false 1 (.t 38)), (some (32, false)), [16, 10]⟩, ⟨(some 40), (.bin .geq (.t 37) (.t 39)), (some (32, false)), [15, 17, 10]⟩, ⟨(some 41), (.mv (.t 40)), (some (32, false)), [18, 10, 10]⟩, ⟨(some 42), (.mv (.t 1)), (some (41, true)), [19]⟩, ⟨(some 43), (.fa 1 (.t 9)), (some (41, true)), [19]⟩, ⟨(some 44), (.ld false 1 (.t 43)), (some (41, true)), [21, 19]⟩, ⟨(some 45), (.ixsl 1 (.t 42) (.t 44)), (some (41, true)), [20, 22, 19]⟩, ⟨(some 46), (.ld false 1 (.t 45)), (some (41, true)), [23, 19]⟩, ⟨(some 47), (.fa 3 (.t 9)), (some (41, true)), [19]⟩, ⟨(some 48), (.ld false 1 (.t 47)), (some (41, true)), [25, 19]⟩, ⟨(some 49), (.bin .leq (.t 46) (.t 48)), (some (41, true)), [24, 26, 19]⟩, ⟨(some 50), (.pick (.t 41) (.t 49) (.c (.bool false))), (some (32, false)), [19, 27, 10]⟩, ⟨(some 51), (.pick (.t 32) (.c (.bool true)) (.t 50)), none, [10, 28]⟩] true) (.cond (.t 51) (.exit 1) .skip)) (.seq (.reg [⟨(some 10), (.mv (.c (.bool false))), none, []⟩] false) (.seq (.seq (.reg [⟨(some 11), (.mv (.c (.int .i64 0))), none, []⟩] false) (.block 2 (.loop (.seq (.seq (.reg [⟨(some 52), (.mv (.t 11)), none, []⟩, ⟨(some 53), (.mv (.t 7)), none, []⟩, ⟨(some 54), (.len (.t 53)), none, [1]⟩, ⟨(some 55), (.bin .lss (.t 52) (.t 54)), none, [0, 2]⟩] false) (.cond (.t 55) .skip (.exit 2))) (.seq (.block 3 (.reg [⟨(some 58), (.mv (.t 10)), none, []⟩, ⟨(some 59), (.mv (.t 58)), none, [0]⟩, ⟨(some 60), (.mv (.t 7)), (some (59, false)), [1]⟩, ⟨(some 61), (.mv (.t 11)), (some (59, false)), [1]⟩, ⟨(some 62), (.ixsl 1 (.t 60) (.t 61)), (some (59, false)), [2, 3, 1]⟩, ⟨(some 63), (.ld false 1 (.t 62)), (some (59, false)), [4, 1]⟩, ⟨(some 64), (.fa 0 (.t 9)), (some (59, false)), [1]⟩, ⟨(some 65), (.ld false 1 (.t 64)), (some (59, false)), [6, 1]⟩, ⟨(some 66), (.bin .eql (.t 63) (.t 65)), (some (59, false)), [5, 7, 1]⟩, ⟨(some 67), (.pick (.t 59) (.c (.bool true)) (.t 66)), none, [1, 8]⟩, ⟨(some 10), (.mv (.t 67)), none, [9, 1, 0, 1, 2, 3, 4, 5, 6, 7, 8, 9]⟩] true)) (.reg [⟨(some 56), (.mv (.t 11)), none, []⟩, ⟨(some 57), (.bin .add (.t 56) (.c (.int .i64 1))), none, [0]⟩, ⟨(some 11), (.mv (.t 57)), none, [1, 0, 1]⟩] false)))))) (.seq (.reg [⟨(some 68), (.mv (.t 10)), none, []⟩, ⟨(some 69), (.un .not (.t 68)), none, [0]⟩] false) (.cond (.t 69) (.reg [⟨(some 70), (.mv (.t 7)), none, []⟩, ⟨(some 71), (.fa 0 (.t 9)), none, []⟩, ⟨(some 72), (.ld false 1 (.t 71)), none, [1]⟩, ⟨(some 73), (.bslice 3 1 [(.int .i64 0)] 1 [(0, (.t 72))]), none, [2]⟩, ⟨(some 74), (.app 3 1 8 [(.int .i64 0)] (.t 70) (.t 73)), none, [0, 3]⟩, ⟨(some 7), (.mv (.t 74)), none, [4, 4, 0, 1, 2, 3, 4]⟩] false) .skip))))))) (.reg [⟨(some 16), (.mv (.t 8)), none, []⟩, ⟨(some 17), (.bin .add (.t 16) (.c (.int .i64 1))), none, [0]⟩, ⟨(some 8), (.mv (.t 17)), none, [1, 0, 1]⟩] false)))))) (.seq (.reg [⟨(some 75), (.mv (.t 7)), none, []⟩, ⟨(some 76), (.len (.t 75)), none, [0]⟩, ⟨(some 77), (.mv (.t 2)), none, []⟩, ⟨(some 78), (.bin .leq (.t 76) (.t 77)), none, [1, 2]⟩, ⟨(some 6), (.mv (.t 78)), none, [3, 0, 1, 2, 3]⟩] false) .ret))))
theorem mcOk27 : (match Try.f27.body with | some c => compC Try.prog 79 c | none => none) = some mc27 := by kernel_rfl

theorem fc27 (l : List Rd) (v : List Int) (lies : Int) (hl : l.length ≤ 1000000) : FC Try.prog 27 [.rs 4 (l.map cR), ints v, iv lies] [] (.bool (agreeS l v lies)) [] false := by
  refine fc_run (nt := 79) Try.func27 rfl rfl mcOk27 (Nat.le_of_ble_eq_true rfl) ?_
  delta mc27
  refine aw_seq ?_
  refine aw_reg ?_
  refine rs_mv rfl rfl ?_
  refine rs_nil fun _ => ?_
  refine th_n ?_
  refine aw_seq ?_
  refine aw_reg ?_
  refine rs_mv rfl rfl ?_
  refine rs_nil fun _ => ?_
  refine th_n ?_
  refine aw_seq ?_
  refine aw_seq ?_
  refine aw_reg ?_
  refine rs_mv rfl rfl ?_
  refine rs_nil fun _ => ?_
  refine th_n ?_
  refine aw_block ?_
  refine aw_fam (α := Nat) (fun k => l.length - k) (fun k => [(0, .rs 4 (l.map cR)), (1, ints v), (2, iv lies), (7, .sl 1074 0 ((l.take (k)).foldl (addW v) []).length), (8, iv (((k) : Nat) : Int))]) (fun k => [(1074, .cells 3 1 (((l.take (k)).foldl (addW v) []).map ci) true)]) (fun k => k ≤ l.length) 0 (by omega)
    (weak_to (.cons rfl (rc_same rfl (.inl rfl)) (.cons rfl (rc_same rfl (.inl rfl)) (.cons rfl (rc_same rfl (.inl rfl)) (.cons rfl (rc_virt rfl rfl) (.cons rfl (rc_same rfl (.inl rfl)) (.nil)))))) (.virt rfl (.nil)) (fun i h => by cases h)) ?_
  intro k hk
  have hwl := wrongK_le v l k
  refine aw_seq ?_
  refine aw_seq ?_
  refine aw_reg ?_
  refine rs_mv rfl rfl ?_
  refine rs_mv rfl rfl ?_
  first | refine rs_len_m rfl rfl ?_ | refine rs_len_s rfl rfl ?_ | refine rs_len_n rfl rfl ?_ | refine rs_len_r rfl rfl rfl ?_
  refine rs_lss rfl rfl rfl ?_
  refine rs_nil fun _ => ?_
  refine th_n ?_
  refine aw_cond rfl (fun h15 => ?_) (fun h15 => ?_)
  · first | replace h15 := of_decide_eq_true h15 | skip
    refine aw_skip ?_
    refine th_n ?_
    refine aw_seq ?_
    refine aw_block ?_
    refine aw_seq ?_
    refine aw_reg ?_
    have hkl : k < l.length := by omega
    have hst := fold_take (addW v) [] l k hkl
    refine rs_mv rfl rfl ?_
    refine rs_mv rfl rfl ?_
    first | refine rs_ix_m rfl rfl rfl (by omega) ?_ | refine rs_ix_sm rfl rfl rfl rfl (by omega) ?_
    first | refine rs_ld_pa rfl rfl rfl rfl (Nat.le_of_ble_eq_true rfl) rfl ?_ | refine rs_ld_ra rfl rfl (Nat.le_of_ble_eq_true rfl) rfl ?_ | refine rs_ld_ma rfl rfl rfl (by omega) (Nat.le_of_ble_eq_true rfl) rfl ?_
    refine rs_alloc rfl rfl rfl ?_
    refine rs_st rfl rfl rfl rfl rfl rfl rfl (Nat.le_of_ble_eq_true rfl) rfl rfl ?_
    refine rs_nil fun _ => ?_
    refine th_n ?_
    refine aw_seq ?_
    refine aw_seq ?_
    refine aw_draw hmix ?_
    first | refine rs_fa_p rfl rfl ?_ | refine rs_fa_r rfl rfl rfl ?_
    first | refine rs_ld_r rfl rfl rfl ?_ | refine rs_ld_p rfl rfl rfl rfl rfl ?_ | refine rs_ld_m rfl rfl rfl (by omega) rfl ?_
    refine rs_cmp rfl rfl rfl rfl (fun h24 => ?_) (fun h24 => ?_)
    · skip
      refine rs_mv rfl rfl ?_
      refine rs_skip rfl ?_
      refine rs_skip rfl ?_
      refine rs_skip rfl ?_
      refine rs_skip rfl ?_
      refine rs_skip rfl ?_
      refine rs_pick rfl rfl rfl ?_
      refine rs_mv rfl rfl ?_
      refine rs_skip rfl ?_
      refine rs_skip rfl ?_
      refine rs_skip rfl ?_
      refine rs_skip rfl ?_
      refine rs_skip rfl ?_
      refine rs_skip rfl ?_
      refine rs_skip rfl ?_
      refine rs_skip rfl ?_
      refine rs_skip rfl ?_
      refine rs_skip rfl ?_
      refine rs_skip rfl ?_
      refine rs_skip rfl ?_
      refine rs_skip rfl ?_
      refine rs_skip rfl ?_
      refine rs_skip rfl ?_
      refine rs_skip rfl ?_
      refine rs_skip rfl ?_
      refine rs_skip rfl ?_
      refine rs_pick rfl rfl rfl ?_
      refine rs_nil ⟨by kernel_rfl, fun _ => ?_⟩
      refine th_n ?_
      refine aw_cond rfl (fun _ => ?_) (fun h => by cases h)
      refine aw_exit ?_
      refine th_e ?_
      refine in_hit ?_
      refine th_n ?_
      refine aw_reg ?_
      refine rs_mv rfl rfl ?_
      first | refine rs_add rfl rfl rfl (by omega) ?_ | refine rs_addw rfl rfl rfl rfl ?_
      refine rs_mv rfl rfl ?_
      refine rs_nil fun _ => ?_
      refine th_n ?_
      refine ⟨k + 1, by omega, by omega, ?_⟩
      first
        | (have hs : ((l.take (k + 1)).foldl (addW v) []) = ((l.take (k)).foldl (addW v) []) := (by rw [hst, addW, if_neg (show ¬ isWrong v l[k] from fun h => by obtain ⟨a1, a2, a3⟩ := h; first | omega | (rw [← wrong_at a1 a2] at a3; omega))]); exact weak_to (.cons rfl (rc_same rfl (.inl rfl)) (.cons rfl (rc_same rfl (.inl rfl)) (.cons rfl (rc_same rfl (.inl rfl)) (.cons rfl (rc_eq (by rw [hs]) rfl) (.cons rfl (rc_same rfl (.inl rfl)) (.nil)))))) (.keep ((by (rw [hs]) <;> rfl)) rfl (.nil)) (fun i h => by cases h))
        | (obtain rfl : q = ((l.take (k)).foldl (addW v) []).length := by omega
           rw [List.take_length] at h69
           have hs : ((l.take (k + 1)).foldl (addW v) []) = ((l.take (k)).foldl (addW v) []) := (by rw [hst, addW, if_pos (show isWrong v l[k] from ⟨by omega, by omega, by rw [← wrong_at (by omega) (by omega)]; omega⟩), addK, if_pos (by simpa using h69)]); exact weak_to (.cons rfl (rc_same rfl (.inl rfl)) (.cons rfl (rc_same rfl (.inl rfl)) (.cons rfl (rc_same rfl (.inl rfl)) (.cons rfl (rc_eq (by rw [hs]) rfl) (.cons rfl (rc_same rfl (.inl rfl)) (.nil)))))) (.keep ((by (rw [hs]) <;> rfl)) rfl (.nil)) (fun i h => by cases h))
        | (obtain rfl : q = ((l.take (k)).foldl (addW v) []).length := by omega
           rw [List.take_length] at h69
           have hs : ((l.take (k + 1)).foldl (addW v) []) = ((l.take (k)).foldl (addW v) []) ++ [l[k].probe] := (by rw [hst, addW, if_pos (show isWrong v l[k] from ⟨by omega, by omega, by rw [← wrong_at (by omega) (by omega)]; omega⟩), addK, if_neg (by simpa using h69)]); exact weak_to_ren (i := 74) (i' := 1074) (F1 := [(0, .rs 4 (l.map cR)), (1, ints v), (2, iv lies), (7, .sl 74 0 ((l.take (k + 1)).foldl (addW v) []).length), (8, iv (((k + 1) : Nat) : Int))]) (H1 := [(74, .cells 3 1 (((l.take (k + 1)).foldl (addW v) []).map ci) true)]) (.cons rfl (rc_same rfl (.inl rfl)) (.cons rfl (rc_same rfl (.inl rfl)) (.cons rfl (rc_same rfl (.inl rfl)) (.cons rfl (rc_eq (by rw [hs]; simp) rfl) (.cons rfl (rc_same rfl (.inl rfl)) (.nil)))))) (.keep ((by (rw [hs]) <;> rfl)) rfl (.nil)) (fun i h => by cases h) rfl rfl (.cons rfl (.same _) (.cons rfl (.same _) (.cons rfl (.same _) (.cons rfl (.sl _ _) (.cons rfl (.same _) (.nil)))))) (.cons rfl (rc_same rfl (.inl rfl)) (.cons rfl (rc_same rfl (.inl rfl)) (.cons rfl (rc_same rfl (.inl rfl)) (.cons rfl (rc_same rfl (.inl rfl)) (.cons rfl (rc_same rfl (.inl rfl)) (.nil)))))) (.keep (rfl) rfl (.nil)) (fun i h => by cases h))
    · skip
      refine rs_mv rfl rfl ?_
      first | refine rs_fa_p rfl rfl ?_ | refine rs_fa_r rfl rfl rfl ?_
      first | refine rs_ld_r rfl rfl rfl ?_ | refine rs_ld_p rfl rfl rfl rfl rfl ?_ | refine rs_ld_m rfl rfl rfl (by omega) rfl ?_
      refine rs_mv rfl rfl ?_
      first | refine rs_len_m rfl rfl ?_ | refine rs_len_s rfl rfl ?_ | refine rs_len_n rfl rfl ?_ | refine rs_len_r rfl rfl rfl ?_
      refine rs_cmp rfl rfl rfl rfl (fun h30 => ?_) (fun h30 => ?_)
      · skip
        refine rs_pick rfl rfl rfl ?_
        refine rs_mv rfl rfl ?_
        refine rs_skip rfl ?_
        refine rs_skip rfl ?_
        refine rs_skip rfl ?_
        refine rs_skip rfl ?_
        refine rs_skip rfl ?_
        refine rs_skip rfl ?_
        refine rs_skip rfl ?_
        refine rs_skip rfl ?_
        refine rs_skip rfl ?_
        refine rs_skip rfl ?_
        refine rs_skip rfl ?_
        refine rs_skip rfl ?_
        refine rs_skip rfl ?_
        refine rs_skip rfl ?_
        refine rs_skip rfl ?_
        refine rs_skip rfl ?_
        refine rs_skip rfl ?_
        refine rs_skip rfl ?_
        refine rs_pick rfl rfl rfl ?_
        refine rs_nil ⟨by kernel_rfl, fun _ => ?_⟩
        refine th_n ?_
        refine aw_cond rfl (fun _ => ?_) (fun h => by cases h)
        refine aw_exit ?_
        refine th_e ?_
        refine in_hit ?_
        refine th_n ?_
        refine aw_reg ?_
        refine rs_mv rfl rfl ?_
        first | refine rs_add rfl rfl rfl (by omega) ?_ | refine rs_addw rfl rfl rfl rfl ?_
        refine rs_mv rfl rfl ?_
        refine rs_nil fun _ => ?_
        refine th_n ?_
        refine ⟨k + 1, by omega, by omega, ?_⟩
        first
          | (have hs : ((l.take (k + 1)).foldl (addW v) []) = ((l.take (k)).foldl (addW v) []) := (by rw [hst, addW, if_neg (show ¬ isWrong v l[k] from fun h => by obtain ⟨a1, a2, a3⟩ := h; first | omega | (rw [← wrong_at a1 a2] at a3; omega))]); exact weak_to (.cons rfl (rc_same rfl (.inl rfl)) (.cons rfl (rc_same rfl (.inl rfl)) (.cons rfl (rc_same rfl (.inl rfl)) (.cons rfl (rc_eq (by rw [hs]) rfl) (.cons rfl (rc_same rfl (.inl rfl)) (.nil)))))) (.keep ((by (rw [hs]) <;> rfl)) rfl (.nil)) (fun i h => by cases h))
          | (obtain rfl : q = ((l.take (k)).foldl (addW v) []).length := by omega
             rw [List.take_length] at h69
             have hs : ((l.take (k + 1)).foldl (addW v) []) = ((l.take (k)).foldl (addW v) []) := (by rw [hst, addW, if_pos (show isWrong v l[k] from ⟨by omega, by omega, by rw [← wrong_at (by omega) (by omega)]; omega⟩), addK, if_pos (by simpa using h69)]); exact weak_to (.cons rfl (rc_same rfl (.inl rfl)) (.cons rfl (rc_same rfl (.inl rfl)) (.cons rfl (rc_same rfl (.inl rfl)) (.cons rfl (rc_eq (by rw [hs]) rfl) (.cons rfl (rc_same rfl (.inl rfl)) (.nil)))))) (.keep ((by (rw [hs]) <;> rfl)) rfl (.nil)) (fun i h => by cases h))
          | (obtain rfl : q = ((l.take (k)).foldl (addW v) []).length := by omega
             rw [List.take_length] at h69
             have hs : ((l.take (k + 1)).foldl (addW v) []) = ((l.take (k)).foldl (addW v) []) ++ [l[k].probe] := (by rw [hst, addW, if_pos (show isWrong v l[k] from ⟨by omega, by omega, by rw [← wrong_at (by omega) (by omega)]; omega⟩), addK, if_neg (by simpa using h69)]); exact weak_to_ren (i := 74) (i' := 1074) (F1 := [(0, .rs 4 (l.map cR)), (1, ints v), (2, iv lies), (7, .sl 74 0 ((l.take (k + 1)).foldl (addW v) []).length), (8, iv (((k + 1) : Nat) : Int))]) (H1 := [(74, .cells 3 1 (((l.take (k + 1)).foldl (addW v) []).map ci) true)]) (.cons rfl (rc_same rfl (.inl rfl)) (.cons rfl (rc_same rfl (.inl rfl)) (.cons rfl (rc_same rfl (.inl rfl)) (.cons rfl (rc_eq (by rw [hs]; simp) rfl) (.cons rfl (rc_same rfl (.inl rfl)) (.nil)))))) (.keep ((by (rw [hs]) <;> rfl)) rfl (.nil)) (fun i h => by cases h) rfl rfl (.cons rfl (.same _) (.cons rfl (.same _) (.cons rfl (.same _) (.cons rfl (.sl _ _) (.cons rfl (.same _) (.nil)))))) (.cons rfl (rc_same rfl (.inl rfl)) (.cons rfl (rc_same rfl (.inl rfl)) (.cons rfl (rc_same rfl (.inl rfl)) (.cons rfl (rc_same rfl (.inl rfl)) (.cons rfl (rc_same rfl (.inl rfl)) (.nil)))))) (.keep (rfl) rfl (.nil)) (fun i h => by cases h))
      · skip
        refine rs_pick rfl rfl rfl ?_
        refine rs_mv rfl rfl ?_
        refine rs_mv rfl rfl ?_
        first | refine rs_fa_p rfl rfl ?_ | refine rs_fa_r rfl rfl rfl ?_
        first | refine rs_ld_r rfl rfl rfl ?_ | refine rs_ld_p rfl rfl rfl rfl rfl ?_ | refine rs_ld_m rfl rfl rfl (by omega) rfl ?_
        refine rs_ix_mi rfl rfl rfl (by omega) (by omega) ?_
        first | refine rs_ld_r rfl rfl rfl ?_ | refine rs_ld_p rfl rfl rfl rfl rfl ?_ | refine rs_ld_m rfl rfl rfl (by omega) rfl ?_
        first | refine rs_fa_p rfl rfl ?_ | refine rs_fa_r rfl rfl rfl ?_
        first | refine rs_ld_r rfl rfl rfl ?_ | refine rs_ld_p rfl rfl rfl rfl rfl ?_ | refine rs_ld_m rfl rfl rfl (by omega) rfl ?_
        refine rs_cmp rfl rfl rfl rfl (fun h40 => ?_) (fun h40 => ?_)
        · skip
          refine rs_mv rfl rfl ?_
          refine rs_mv rfl rfl ?_
          first | refine rs_fa_p rfl rfl ?_ | refine rs_fa_r rfl rfl rfl ?_
          first | refine rs_ld_r rfl rfl rfl ?_ | refine rs_ld_p rfl rfl rfl rfl rfl ?_ | refine rs_ld_m rfl rfl rfl (by omega) rfl ?_
          refine rs_ix_mi rfl rfl rfl (by omega) (by omega) ?_
          first | refine rs_ld_r rfl rfl rfl ?_ | refine rs_ld_p rfl rfl rfl rfl rfl ?_ | refine rs_ld_m rfl rfl rfl (by omega) rfl ?_
          first | refine rs_fa_p rfl rfl ?_ | refine rs_fa_r rfl rfl rfl ?_
          first | refine rs_ld_r rfl rfl rfl ?_ | refine rs_ld_p rfl rfl rfl rfl rfl ?_ | refine rs_ld_m rfl rfl rfl (by omega) rfl ?_
          refine rs_cmp rfl rfl rfl rfl (fun h49 => ?_) (fun h49 => ?_)
          · skip
            refine rs_pick rfl rfl rfl ?_
            refine rs_pick rfl rfl rfl ?_
            refine rs_nil ⟨by kernel_rfl, fun _ => ?_⟩
            refine th_n ?_
            refine aw_cond rfl (fun _ => ?_) (fun h => by cases h)
            refine aw_exit ?_
            refine th_e ?_
            refine in_hit ?_
            refine th_n ?_
            refine aw_reg ?_
            refine rs_mv rfl rfl ?_
            first | refine rs_add rfl rfl rfl (by omega) ?_ | refine rs_addw rfl rfl rfl rfl ?_
            refine rs_mv rfl rfl ?_
            refine rs_nil fun _ => ?_
            refine th_n ?_
            refine ⟨k + 1, by omega, by omega, ?_⟩
            first
              | (have hs : ((l.take (k + 1)).foldl (addW v) []) = ((l.take (k)).foldl (addW v) []) := (by rw [hst, addW, if_neg (show ¬ isWrong v l[k] from fun h => by obtain ⟨a1, a2, a3⟩ := h; first | omega | (rw [← wrong_at a1 a2] at a3; omega))]); exact weak_to (.cons rfl (rc_same rfl (.inl rfl)) (.cons rfl (rc_same rfl (.inl rfl)) (.cons rfl (rc_same rfl (.inl rfl)) (.cons rfl (rc_eq (by rw [hs]) rfl) (.cons rfl (rc_same rfl (.inl rfl)) (.nil)))))) (.keep ((by (rw [hs]) <;> rfl)) rfl (.nil)) (fun i h => by cases h))
              | (obtain rfl : q = ((l.take (k)).foldl (addW v) []).length := by omega
                 rw [List.take_length] at h69
                 have hs : ((l.take (k + 1)).foldl (addW v) []) = ((l.take (k)).foldl (addW v) []) := (by rw [hst, addW, if_pos (show isWrong v l[k] from ⟨by omega, by omega, by rw [← wrong_at (by omega) (by omega)]; omega⟩), addK, if_pos (by simpa using h69)]); exact weak_to (.cons rfl (rc_same rfl (.inl rfl)) (.cons rfl (rc_same rfl (.inl rfl)) (.cons rfl (rc_same rfl (.inl rfl)) (.cons rfl (rc_eq (by rw [hs]) rfl) (.cons rfl (rc_same rfl (.inl rfl)) (.nil)))))) (.keep ((by (rw [hs]) <;> rfl)) rfl (.nil)) (fun i h => by cases h))
              | (obtain rfl : q = ((l.take (k)).foldl (addW v) []).length := by omega
                 rw [List.take_length] at h69
                 have hs : ((l.take (k + 1)).foldl (addW v) []) = ((l.take (k)).foldl (addW v) []) ++ [l[k].probe] := (by rw [hst, addW, if_pos (show isWrong v l[k] from ⟨by omega, by omega, by rw [← wrong_at (by omega) (by omega)]; omega⟩), addK, if_neg (by simpa using h69)]); exact weak_to_ren (i := 74) (i' := 1074) (F1 := [(0, .rs 4 (l.map cR)), (1, ints v), (2, iv lies), (7, .sl 74 0 ((l.take (k + 1)).foldl (addW v) []).length), (8, iv (((k + 1) : Nat) : Int))]) (H1 := [(74, .cells 3 1 (((l.take (k + 1)).foldl (addW v) []).map ci) true)]) (.cons rfl (rc_same rfl (.inl rfl)) (.cons rfl (rc_same rfl (.inl rfl)) (.cons rfl (rc_same rfl (.inl rfl)) (.cons rfl (rc_eq (by rw [hs]; simp) rfl) (.cons rfl (rc_same rfl (.inl rfl)) (.nil)))))) (.keep ((by (rw [hs]) <;> rfl)) rfl (.nil)) (fun i h => by cases h) rfl rfl (.cons rfl (.same _) (.cons rfl (.same _) (.cons rfl (.same _) (.cons rfl (.sl _ _) (.cons rfl (.same _) (.nil)))))) (.cons rfl (rc_same rfl (.inl rfl)) (.cons rfl (rc_same rfl (.inl rfl)) (.cons rfl (rc_same rfl (.inl rfl)) (.cons rfl (rc_same rfl (.inl rfl)) (.cons rfl (rc_same rfl (.inl rfl)) (.nil)))))) (.keep (rfl) rfl (.nil)) (fun i h => by cases h))
          · skip
            refine rs_pick rfl rfl rfl ?_
            refine rs_pick rfl rfl rfl ?_
            refine rs_nil ⟨by kernel_rfl, fun _ => ?_⟩
            refine th_n ?_
            refine aw_cond rfl (fun h => by cases h) (fun _ => ?_)
            refine aw_skip ?_
            refine th_n ?_
            refine aw_seq ?_
            refine aw_reg ?_
            refine rs_mv rfl rfl ?_
            refine rs_nil fun _ => ?_
            refine th_n ?_
            refine aw_seq ?_
            refine aw_seq ?_
            refine aw_reg ?_
            refine rs_mv rfl rfl ?_
            refine rs_nil fun _ => ?_
            refine th_n ?_
            refine aw_block ?_
            refine aw_fam (α := Nat) (fun q => ((l.take (k)).foldl (addW v) []).length - q) (fun q => [(0, .rs 4 (l.map cR)), (1, ints v), (2, iv lies), (7, .sl 1074 0 ((l.take (k)).foldl (addW v) []).length), (8, iv (k : Int)), (9, .ptr 9 0 0), (10, .bool ((((l.take (k)).foldl (addW v) []).take (q)).contains l[k].probe)), (11, iv (((q) : Nat) : Int))]) (fun q => [(1074, .cells 3 1 (((l.take (k)).foldl (addW v) []).map ci) true), (9, .cells 50 4 [cR l[k]] true)]) (fun q => q ≤ ((l.take (k)).foldl (addW v) []).length) 0 (by omega)
              (weak_to (.cons rfl (rc_same rfl (.inl rfl)) (.cons rfl (rc_same rfl (.inl rfl)) (.cons rfl (rc_same rfl (.inl rfl)) (.cons rfl (rc_same rfl (.inl rfl)) (.cons rfl (rc_same rfl (.inl rfl)) (.cons rfl (rc_same rfl (.inl rfl)) (.cons rfl (rc_eq (by simp) rfl) (.cons rfl (rc_same rfl (.inl rfl)) (.nil))))))))) (.keep (rfl) rfl (.keep (rfl) rfl (.nil))) (fun i h => by cases h)) ?_
            intro q hq
            refine aw_seq ?_
            refine aw_seq ?_
            refine aw_reg ?_
            refine rs_mv rfl rfl ?_
            refine rs_mv rfl rfl ?_
            first | refine rs_len_m rfl rfl ?_ | refine rs_len_s rfl rfl ?_ | refine rs_len_n rfl rfl ?_ | refine rs_len_r rfl rfl rfl ?_
            refine rs_lss rfl rfl rfl ?_
            refine rs_nil fun _ => ?_
            refine th_n ?_
            refine aw_cond rfl (fun h55 => ?_) (fun h55 => ?_)
            · first | replace h55 := of_decide_eq_true h55 | skip
              refine aw_skip ?_
              refine th_n ?_
              refine aw_seq ?_
              refine aw_block ?_
              refine aw_draw hmix ?_
              refine rs_mv rfl rfl ?_
              cases h58 : ((((l.take (k)).foldl (addW v) []).take (q)).contains l[k].probe)
              · skip
                refine rs_mv rfl rfl ?_
                refine rs_mv rfl rfl ?_
                refine rs_mv rfl rfl ?_
                refine rs_ix_sm (t := q) rfl rfl rfl rfl (by omega) ?_
                refine rs_ld_m rfl rfl rfl (by omega) rfl ?_
                first | refine rs_fa_p rfl rfl ?_ | refine rs_fa_r rfl rfl rfl ?_
                first | refine rs_ld_r rfl rfl rfl ?_ | refine rs_ld_p rfl rfl rfl rfl rfl ?_ | refine rs_ld_m rfl rfl rfl (by omega) rfl ?_
                refine rs_cmp rfl rfl rfl rfl (fun h66 => ?_) (fun h66 => ?_)
                · skip
                  refine rs_pick rfl rfl rfl ?_
                  refine rs_mv rfl rfl ?_
                  refine rs_nil ⟨by kernel_rfl, fun _ => ?_⟩
                  refine in_n ?_
                  refine th_n ?_
                  refine aw_reg ?_
                  refine rs_mv rfl rfl ?_
                  first | refine rs_add rfl rfl rfl (by omega) ?_ | refine rs_addw rfl rfl rfl rfl ?_
                  refine rs_mv rfl rfl ?_
                  refine rs_nil fun _ => ?_
                  refine th_n ?_
                  refine ⟨q + 1, by omega, by omega, ?_⟩
                  have hcs := contains_succ ((l.take (k)).foldl (addW v) []) q l[k].probe (by omega)
                  first
                    | exact weak_to (.cons rfl (rc_same rfl (.inl rfl)) (.cons rfl (rc_same rfl (.inl rfl)) (.cons rfl (rc_same rfl (.inl rfl)) (.cons rfl (rc_same rfl (.inl rfl)) (.cons rfl (rc_same rfl (.inl rfl)) (.cons rfl (rc_same rfl (.inl rfl)) (.cons rfl (rc_eq (by rw [hcs, h58, decide_eq_true h66]; rfl) rfl) (.cons rfl (rc_same rfl (.inl rfl)) (.nil))))))))) (.keep (rfl) rfl (.keep (rfl) rfl (.nil))) (fun i h => by cases h)
                    | exact weak_to (.cons rfl (rc_same rfl (.inl rfl)) (.cons rfl (rc_same rfl (.inl rfl)) (.cons rfl (rc_same rfl (.inl rfl)) (.cons rfl (rc_same rfl (.inl rfl)) (.cons rfl (rc_same rfl (.inl rfl)) (.cons rfl (rc_same rfl (.inl rfl)) (.cons rfl (rc_eq (by rw [hcs, h58, decide_eq_false h66]; rfl) rfl) (.cons rfl (rc_same rfl (.inl rfl)) (.nil))))))))) (.keep (rfl) rfl (.keep (rfl) rfl (.nil))) (fun i h => by cases h)
                    | exact weak_to (.cons rfl (rc_same rfl (.inl rfl)) (.cons rfl (rc_same rfl (.inl rfl)) (.cons rfl (rc_same rfl (.inl rfl)) (.cons rfl (rc_same rfl (.inl rfl)) (.cons rfl (rc_same rfl (.inl rfl)) (.cons rfl (rc_same rfl (.inl rfl)) (.cons rfl (rc_eq (by rw [hcs, h58]; rfl) rfl) (.cons rfl (rc_same rfl (.inl rfl)) (.nil))))))))) (.keep (rfl) rfl (.keep (rfl) rfl (.nil))) (fun i h => by cases h)
                · skip
                  refine rs_pick rfl rfl rfl ?_
                  refine rs_mv rfl rfl ?_
                  refine rs_nil ⟨by kernel_rfl, fun _ => ?_⟩
                  refine in_n ?_
                  refine th_n ?_
                  refine aw_reg ?_
                  refine rs_mv rfl rfl ?_
                  first | refine rs_add rfl rfl rfl (by omega) ?_ | refine rs_addw rfl rfl rfl rfl ?_
                  refine rs_mv rfl rfl ?_
                  refine rs_nil fun _ => ?_
                  refine th_n ?_
                  refine ⟨q + 1, by omega, by omega, ?_⟩
                  have hcs := contains_succ ((l.take (k)).foldl (addW v) []) q l[k].probe (by omega)
                  first
                    | exact weak_to (.cons rfl (rc_same rfl (.inl rfl)) (.cons rfl (rc_same rfl (.inl rfl)) (.cons rfl (rc_same rfl (.inl rfl)) (.cons rfl (rc_same rfl (.inl rfl)) (.cons rfl (rc_same rfl (.inl rfl)) (.cons rfl (rc_same rfl (.inl rfl)) (.cons rfl (rc_eq (by rw [hcs, h58, decide_eq_true h66]; rfl) rfl) (.cons rfl (rc_same rfl (.inl rfl)) (.nil))))))))) (.keep (rfl) rfl (.keep (rfl) rfl (.nil))) (fun i h => by cases h)
                    | exact weak_to (.cons rfl (rc_same rfl (.inl rfl)) (.cons rfl (rc_same rfl (.inl rfl)) (.cons rfl (rc_same rfl (.inl rfl)) (.cons rfl (rc_same rfl (.inl rfl)) (.cons rfl (rc_same rfl (.inl rfl)) (.cons rfl (rc_same rfl (.inl rfl)) (.cons rfl (rc_eq (by rw [hcs, h58, decide_eq_false h66]; rfl) rfl) (.cons rfl (rc_same rfl (.inl rfl)) (.nil))))))))) (.keep (rfl) rfl (.keep (rfl) rfl (.nil))) (fun i h => by cases h)
                    | exact weak_to (.cons rfl (rc_same rfl (.inl rfl)) (.cons rfl (rc_same rfl (.inl rfl)) (.cons rfl (rc_same rfl (.inl rfl)) (.cons rfl (rc_same rfl (.inl rfl)) (.cons rfl (rc_same rfl (.inl rfl)) (.cons rfl (rc_same rfl (.inl rfl)) (.cons rfl (rc_eq (by rw [hcs, h58]; rfl) rfl) (.cons rfl (rc_same rfl (.inl rfl)) (.nil))))))))) (.keep (rfl) rfl (.keep (rfl) rfl (.nil))) (fun i h => by cases h)
              · skip
                refine rs_mv rfl rfl ?_
                refine rs_skip rfl ?_
                refine rs_skip rfl ?_
                refine rs_skip rfl ?_
                refine rs_skip rfl ?_
                refine rs_skip rfl ?_
                refine rs_skip rfl ?_
                refine rs_skip rfl ?_
                refine rs_pick rfl rfl rfl ?_
                refine rs_mv rfl rfl ?_
                refine rs_nil ⟨by kernel_rfl, fun _ => ?_⟩
                refine in_n ?_
                refine th_n ?_
                refine aw_reg ?_
                refine rs_mv rfl rfl ?_
                first | refine rs_add rfl rfl rfl (by omega) ?_ | refine rs_addw rfl rfl rfl rfl ?_
                refine rs_mv rfl rfl ?_
                refine rs_nil fun _ => ?_
                refine th_n ?_
                refine ⟨q + 1, by omega, by omega, ?_⟩
                have hcs := contains_succ ((l.take (k)).foldl (addW v) []) q l[k].probe (by omega)
                first
                  | exact weak_to (.cons rfl (rc_same rfl (.inl rfl)) (.cons rfl (rc_same rfl (.inl rfl)) (.cons rfl (rc_same rfl (.inl rfl)) (.cons rfl (rc_same rfl (.inl rfl)) (.cons rfl (rc_same rfl (.inl rfl)) (.cons rfl (rc_same rfl (.inl rfl)) (.cons rfl (rc_eq (by rw [hcs, h58, decide_eq_true h66]; rfl) rfl) (.cons rfl (rc_same rfl (.inl rfl)) (.nil))))))))) (.keep (rfl) rfl (.keep (rfl) rfl (.nil))) (fun i h => by cases h)
                  | exact weak_to (.cons rfl (rc_same rfl (.inl rfl)) (.cons rfl (rc_same rfl (.inl rfl)) (.cons rfl (rc_same rfl (.inl rfl)) (.cons rfl (rc_same rfl (.inl rfl)) (.cons rfl (rc_same rfl (.inl rfl)) (.cons rfl (rc_same rfl (.inl rfl)) (.cons rfl (rc_eq (by rw [hcs, h58, decide_eq_false h66]; rfl) rfl) (.cons rfl (rc_same rfl (.inl rfl)) (.nil))))))))) (.keep (rfl) rfl (.keep (rfl) rfl (.nil))) (fun i h => by cases h)
                  | exact weak_to (.cons rfl (rc_same rfl (.inl rfl)) (.cons rfl (rc_same rfl (.inl rfl)) (.cons rfl (rc_same rfl (.inl rfl)) (.cons rfl (rc_same rfl (.inl rfl)) (.cons rfl (rc_same rfl (.inl rfl)) (.cons rfl (rc_same rfl (.inl rfl)) (.cons rfl (rc_eq (by rw [hcs, h58]; rfl) rfl) (.cons rfl (rc_same rfl (.inl rfl)) (.nil))))))))) (.keep (rfl) rfl (.keep (rfl) rfl (.nil))) (fun i h => by cases h)
            · first | replace h55 := of_decide_eq_false h55 | skip
              refine aw_exit ?_
              refine th_e ?_
              refine th_e ?_
              refine in_hit ?_
              refine th_n ?_
              refine aw_seq ?_
              refine aw_reg ?_
              refine rs_mv rfl rfl ?_
              refine rs_not rfl rfl ?_
              refine rs_nil fun _ => ?_
              refine th_n ?_
              refine aw_cond rfl (fun h69 => ?_) (fun h69 => ?_)
              · first | replace h69 := of_decide_eq_true h69 | skip
                refine aw_reg ?_
                refine rs_mv rfl rfl ?_
                first | refine rs_fa_p rfl rfl ?_ | refine rs_fa_r rfl rfl rfl ?_
                first | refine rs_ld_r rfl rfl rfl ?_ | refine rs_ld_p rfl rfl rfl rfl rfl ?_ | refine rs_ld_m rfl rfl rfl (by omega) rfl ?_
                refine rs_bslice rfl rfl rfl rfl rfl rfl ?_
                refine rs_app_m (y := l[k].probe) rfl rfl rfl rfl rfl rfl rfl rfl (by decide) rfl (by omega) (by omega) rfl ?_
                refine rs_mv rfl rfl ?_
                refine rs_nil fun _ => ?_
                refine in_n ?_
                refine th_n ?_
                refine aw_reg ?_
                refine rs_mv rfl rfl ?_
                first | refine rs_add rfl rfl rfl (by omega) ?_ | refine rs_addw rfl rfl rfl rfl ?_
                refine rs_mv rfl rfl ?_
                refine rs_nil fun _ => ?_
                refine th_n ?_
                refine ⟨k + 1, by omega, by omega, ?_⟩
                first
                  | (have hs : ((l.take (k + 1)).foldl (addW v) []) = ((l.take (k)).foldl (addW v) []) := (by rw [hst, addW, if_neg (show ¬ isWrong v l[k] from fun h => by obtain ⟨a1, a2, a3⟩ := h; first | omega | (rw [← wrong_at a1 a2] at a3; omega))]); exact weak_to (.cons rfl (rc_same rfl (.inl rfl)) (.cons rfl (rc_same rfl (.inl rfl)) (.cons rfl (rc_same rfl (.inl rfl)) (.cons rfl (rc_eq (by rw [hs]) rfl) (.cons rfl (rc_same rfl (.inl rfl)) (.nil)))))) (.keep ((by (rw [hs]) <;> rfl)) rfl (.nil)) (fun i h => by cases h))
                  | (obtain rfl : q = ((l.take (k)).foldl (addW v) []).length := by omega
                     rw [List.take_length] at h69
                     have hs : ((l.take (k + 1)).foldl (addW v) []) = ((l.take (k)).foldl (addW v) []) := (by rw [hst, addW, if_pos (show isWrong v l[k] from ⟨by omega, by omega, by rw [← wrong_at (by omega) (by omega)]; omega⟩), addK, if_pos (by simpa using h69)]); exact weak_to (.cons rfl (rc_same rfl (.inl rfl)) (.cons rfl (rc_same rfl (.inl rfl)) (.cons rfl (rc_same rfl (.inl rfl)) (.cons rfl (rc_eq (by rw [hs]) rfl) (.cons rfl (rc_same rfl (.inl rfl)) (.nil)))))) (.keep ((by (rw [hs]) <;> rfl)) rfl (.nil)) (fun i h => by cases h))
                  | (obtain rfl : q = ((l.take (k)).foldl (addW v) []).length := by omega
                     rw [List.take_length] at h69
                     have hs : ((l.take (k + 1)).foldl (addW v) []) = ((l.take (k)).foldl (addW v) []) ++ [l[k].probe] := (by rw [hst, addW, if_pos (show isWrong v l[k] from ⟨by omega, by omega, by rw [← wrong_at (by omega) (by omega)]; omega⟩), addK, if_neg (by simpa using h69)]); exact weak_to_ren (i := 74) (i' := 1074) (F1 := [(0, .rs 4 (l.map cR)), (1, ints v), (2, iv lies), (7, .sl 74 0 ((l.take (k + 1)).foldl (addW v) []).length), (8, iv (((k + 1) : Nat) : Int))]) (H1 := [(74, .cells 3 1 (((l.take (k + 1)).foldl (addW v) []).map ci) true)]) (.cons rfl (rc_same rfl (.inl rfl)) (.cons rfl (rc_same rfl (.inl rfl)) (.cons rfl (rc_same rfl (.inl rfl)) (.cons rfl (rc_eq (by rw [hs]; simp) rfl) (.cons rfl (rc_same rfl (.inl rfl)) (.nil)))))) (.keep ((by (rw [hs]) <;> rfl)) rfl (.nil)) (fun i h => by cases h) rfl rfl (.cons rfl (.same _) (.cons rfl (.same _) (.cons rfl (.same _) (.cons rfl (.sl _ _) (.cons rfl (.same _) (.nil)))))) (.cons rfl (rc_same rfl (.inl rfl)) (.cons rfl (rc_same rfl (.inl rfl)) (.cons rfl (rc_same rfl (.inl rfl)) (.cons rfl (rc_same rfl (.inl rfl)) (.cons rfl (rc_same rfl (.inl rfl)) (.nil)))))) (.keep (rfl) rfl (.nil)) (fun i h => by cases h))
              · first | replace h69 := of_decide_eq_false h69 | skip
                refine aw_skip ?_
                refine in_n ?_
                refine th_n ?_
                refine aw_reg ?_
                refine rs_mv rfl rfl ?_
                first | refine rs_add rfl rfl rfl (by omega) ?_ | refine rs_addw rfl rfl rfl rfl ?_
                refine rs_mv rfl rfl ?_
                refine rs_nil fun _ => ?_
                refine th_n ?_
                refine ⟨k + 1, by omega, by omega, ?_⟩
                first
                  | (have hs : ((l.take (k + 1)).foldl (addW v) []) = ((l.take (k)).foldl (addW v) []) := (by rw [hst, addW, if_neg (show ¬ isWrong v l[k] from fun h => by obtain ⟨a1, a2, a3⟩ := h; first | omega | (rw [← wrong_at a1 a2] at a3; omega))]); exact weak_to (.cons rfl (rc_same rfl (.inl rfl)) (.cons rfl (rc_same rfl (.inl rfl)) (.cons rfl (rc_same rfl (.inl rfl)) (.cons rfl (rc_eq (by rw [hs]) rfl) (.cons rfl (rc_same rfl (.inl rfl)) (.nil)))))) (.keep ((by (rw [hs]) <;> rfl)) rfl (.nil)) (fun i h => by cases h))
                  | (obtain rfl : q = ((l.take (k)).foldl (addW v) []).length := by omega
                     rw [List.take_length] at h69
                     have hs : ((l.take (k + 1)).foldl (addW v) []) = ((l.take (k)).foldl (addW v) []) := (by rw [hst, addW, if_pos (show isWrong v l[k] from ⟨by omega, by omega, by rw [← wrong_at (by omega) (by omega)]; omega⟩), addK, if_pos (by simpa using h69)]); exact weak_to (.cons rfl (rc_same rfl (.inl rfl)) (.cons rfl (rc_same rfl (.inl rfl)) (.cons rfl (rc_same rfl (.inl rfl)) (.cons rfl (rc_eq (by rw [hs]) rfl) (.cons rfl (rc_same rfl (.inl rfl)) (.nil)))))) (.keep ((by (rw [hs]) <;> rfl)) rfl (.nil)) (fun i h => by cases h))
                  | (obtain rfl : q = ((l.take (k)).foldl (addW v) []).length := by omega
                     rw [List.take_length] at h69
                     have hs : ((l.take (k + 1)).foldl (addW v) []) = ((l.take (k)).foldl (addW v) []) ++ [l[k].probe] := (by rw [hst, addW, if_pos (show isWrong v l[k] from ⟨by omega, by omega, by rw [← wrong_at (by omega) (by omega)]; omega⟩), addK, if_neg (by simpa using h69)]); exact weak_to_ren (i := 74) (i' := 1074) (F1 := [(0, .rs 4 (l.map cR)), (1, ints v), (2, iv lies), (7, .sl 74 0 ((l.take (k + 1)).foldl (addW v) []).length), (8, iv (((k + 1) : Nat) : Int))]) (H1 := [(74, .cells 3 1 (((l.take (k + 1)).foldl (addW v) []).map ci) true)]) (.cons rfl (rc_same rfl (.inl rfl)) (.cons rfl (rc_same rfl (.inl rfl)) (.cons rfl (rc_same rfl (.inl rfl)) (.cons rfl (rc_eq (by rw [hs]; simp) rfl) (.cons rfl (rc_same rfl (.inl rfl)) (.nil)))))) (.keep ((by (rw [hs]) <;> rfl)) rfl (.nil)) (fun i h => by cases h) rfl rfl (.cons rfl (.same _) (.cons rfl (.same _) (.cons rfl (.same _) (.cons rfl (.sl _ _) (.cons rfl (.same _) (.nil)))))) (.cons rfl (rc_same rfl (.inl rfl)) (.cons rfl (rc_same rfl (.inl rfl)) (.cons rfl (rc_same rfl (.inl rfl)) (.cons rfl (rc_same rfl (.inl rfl)) (.cons rfl (rc_same rfl (.inl rfl)) (.nil)))))) (.keep (rfl) rfl (.nil)) (fun i h => by cases h))
        · skip
          refine rs_mv rfl rfl ?_
          refine rs_skip rfl ?_
          refine rs_skip rfl ?_
          refine rs_skip rfl ?_
          refine rs_skip rfl ?_
          refine rs_skip rfl ?_
          refine rs_skip rfl ?_
          refine rs_skip rfl ?_
          refine rs_skip rfl ?_
          refine rs_pick rfl rfl rfl ?_
          refine rs_pick rfl rfl rfl ?_
          refine rs_nil ⟨by kernel_rfl, fun _ => ?_⟩
          refine th_n ?_
          refine aw_cond rfl (fun h => by cases h) (fun _ => ?_)
          refine aw_skip ?_
          refine th_n ?_
          refine aw_seq ?_
          refine aw_reg ?_
          refine rs_mv rfl rfl ?_
          refine rs_nil fun _ => ?_
          refine th_n ?_
          refine aw_seq ?_
          refine aw_seq ?_
          refine aw_reg ?_
          refine rs_mv rfl rfl ?_
          refine rs_nil fun _ => ?_
          refine th_n ?_
          refine aw_block ?_
          refine aw_fam (α := Nat) (fun q => ((l.take (k)).foldl (addW v) []).length - q) (fun q => [(0, .rs 4 (l.map cR)), (1, ints v), (2, iv lies), (7, .sl 1074 0 ((l.take (k)).foldl (addW v) []).length), (8, iv (k : Int)), (9, .ptr 9 0 0), (10, .bool ((((l.take (k)).foldl (addW v) []).take (q)).contains l[k].probe)), (11, iv (((q) : Nat) : Int))]) (fun q => [(1074, .cells 3 1 (((l.take (k)).foldl (addW v) []).map ci) true), (9, .cells 50 4 [cR l[k]] true)]) (fun q => q ≤ ((l.take (k)).foldl (addW v) []).length) 0 (by omega)
            (weak_to (.cons rfl (rc_same rfl (.inl rfl)) (.cons rfl (rc_same rfl (.inl rfl)) (.cons rfl (rc_same rfl (.inl rfl)) (.cons rfl (rc_same rfl (.inl rfl)) (.cons rfl (rc_same rfl (.inl rfl)) (.cons rfl (rc_same rfl (.inl rfl)) (.cons rfl (rc_eq (by simp) rfl) (.cons rfl (rc_same rfl (.inl rfl)) (.nil))))))))) (.keep (rfl) rfl (.keep (rfl) rfl (.nil))) (fun i h => by cases h)) ?_
          intro q hq
          refine aw_seq ?_
          refine aw_seq ?_
          refine aw_reg ?_
          refine rs_mv rfl rfl ?_
          refine rs_mv rfl rfl ?_
          first | refine rs_len_m rfl rfl ?_ | refine rs_len_s rfl rfl ?_ | refine rs_len_n rfl rfl ?_ | refine rs_len_r rfl rfl rfl ?_
          refine rs_lss rfl rfl rfl ?_
          refine rs_nil fun _ => ?_
          refine th_n ?_
          refine aw_cond rfl (fun h55 => ?_) (fun h55 => ?_)
          · first | replace h55 := of_decide_eq_true h55 | skip
            refine aw_skip ?_
            refine th_n ?_
            refine aw_seq ?_
            refine aw_block ?_
            refine aw_draw hmix ?_
            refine rs_mv rfl rfl ?_
            cases h58 : ((((l.take (k)).foldl (addW v) []).take (q)).contains l[k].probe)
            · skip
              refine rs_mv rfl rfl ?_
              refine rs_mv rfl rfl ?_
              refine rs_mv rfl rfl ?_
              refine rs_ix_sm (t := q) rfl rfl rfl rfl (by omega) ?_
              refine rs_ld_m rfl rfl rfl (by omega) rfl ?_
              first | refine rs_fa_p rfl rfl ?_ | refine rs_fa_r rfl rfl rfl ?_
              first | refine rs_ld_r rfl rfl rfl ?_ | refine rs_ld_p rfl rfl rfl rfl rfl ?_ | refine rs_ld_m rfl rfl rfl (by omega) rfl ?_
              refine rs_cmp rfl rfl rfl rfl (fun h66 => ?_) (fun h66 => ?_)
              · skip
                refine rs_pick rfl rfl rfl ?_
                refine rs_mv rfl rfl ?_
                refine rs_nil ⟨by kernel_rfl, fun _ => ?_⟩
                refine in_n ?_
                refine th_n ?_
                refine aw_reg ?_
                refine rs_mv rfl rfl ?_
                first | refine rs_add rfl rfl rfl (by omega) ?_ | refine rs_addw rfl rfl rfl rfl ?_
                refine rs_mv rfl rfl ?_
                refine rs_nil fun _ => ?_
                refine th_n ?_
                refine ⟨q + 1, by omega, by omega, ?_⟩
                have hcs := contains_succ ((l.take (k)).foldl (addW v) []) q l[k].probe (by omega)
                first
                  | exact weak_to (.cons rfl (rc_same rfl (.inl rfl)) (.cons rfl (rc_same rfl (.inl rfl)) (.cons rfl (rc_same rfl (.inl rfl)) (.cons rfl (rc_same rfl (.inl rfl)) (.cons rfl (rc_same rfl (.inl rfl)) (.cons rfl (rc_same rfl (.inl rfl)) (.cons rfl (rc_eq (by rw [hcs, h58, decide_eq_true h66]; rfl) rfl) (.cons rfl (rc_same rfl (.inl rfl)) (.nil))))))))) (.keep (rfl) rfl (.keep (rfl) rfl (.nil))) (fun i h => by cases h)
                  | exact weak_to (.cons rfl (rc_same rfl (.inl rfl)) (.cons rfl (rc_same rfl (.inl rfl)) (.cons rfl (rc_same rfl (.inl rfl)) (.cons rfl (rc_same rfl (.inl rfl)) (.cons rfl (rc_same rfl (.inl rfl)) (.cons rfl (rc_same rfl (.inl rfl)) (.cons rfl (rc_eq (by rw [hcs, h58, decide_eq_false h66]; rfl) rfl) (.cons rfl (rc_same rfl (.inl rfl)) (.nil))))))))) (.keep (rfl) rfl (.keep (rfl) rfl (.nil))) (fun i h => by cases h)
                  | exact weak_to (.cons rfl (rc_same rfl (.inl rfl)) (.cons rfl (rc_same rfl (.inl rfl)) (.cons rfl (rc_same rfl (.inl rfl)) (.cons rfl (rc_same rfl (.inl rfl)) (.cons rfl (rc_same rfl (.inl rfl)) (.cons rfl (rc_same rfl (.inl rfl)) (.cons rfl (rc_eq (by rw [hcs, h58]; rfl) rfl) (.cons rfl (rc_same rfl (.inl rfl)) (.nil))))))))) (.keep (rfl) rfl (.keep (rfl) rfl (.nil))) (fun i h => by cases h)
              · skip
                refine rs_pick rfl rfl rfl ?_
                refine rs_mv rfl rfl ?_
                refine rs_nil ⟨by kernel_rfl, fun _ => ?_⟩
                refine in_n ?_
                refine th_n ?_
                refine aw_reg ?_
                refine rs_mv rfl rfl ?_
                first | refine rs_add rfl rfl rfl (by omega) ?_ | refine rs_addw rfl rfl rfl rfl ?_
                refine rs_mv rfl rfl ?_
                refine rs_nil fun _ => ?_
                refine th_n ?_
                refine ⟨q + 1, by omega, by omega, ?_⟩
                have hcs := contains_succ ((l.take (k)).foldl (addW v) []) q l[k].probe (by omega)
                first
                  | exact weak_to (.cons rfl (rc_same rfl (.inl rfl)) (.cons rfl (rc_same rfl (.inl rfl)) (.cons rfl (rc_same rfl (.inl rfl)) (.cons rfl (rc_same rfl (.inl rfl)) (.cons rfl (rc_same rfl (.inl rfl)) (.cons rfl (rc_same rfl (.inl rfl)) (.cons rfl (rc_eq (by rw [hcs, h58, decide_eq_true h66]; rfl) rfl) (.cons rfl (rc_same rfl (.inl rfl)) (.nil))))))))) (.keep (rfl) rfl (.keep (rfl) rfl (.nil))) (fun i h => by cases h)
                  | exact weak_to (.cons rfl (rc_same rfl (.inl rfl)) (.cons rfl (rc_same rfl (.inl rfl)) (.cons rfl (rc_same rfl (.inl rfl)) (.cons rfl (rc_same rfl (.inl rfl)) (.cons rfl (rc_same rfl (.inl rfl)) (.cons rfl (rc_same rfl (.inl rfl)) (.cons rfl (rc_eq (by rw [hcs, h58, decide_eq_false h66]; rfl) rfl) (.cons rfl (rc_same rfl (.inl rfl)) (.nil))))))))) (.keep (rfl) rfl (.keep (rfl) rfl (.nil))) (fun i h => by cases h)
                  | exact weak_to (.cons rfl (rc_same rfl (.inl rfl)) (.cons rfl (rc_same rfl (.inl rfl)) (.cons rfl (rc_same rfl (.inl rfl)) (.cons rfl (rc_same rfl (.inl rfl)) (.cons rfl (rc_same rfl (.inl rfl)) (.cons rfl (rc_same rfl (.inl rfl)) (.cons rfl (rc_eq (by rw [hcs, h58]; rfl) rfl) (.cons rfl (rc_same rfl (.inl rfl)) (.nil))))))))) (.keep (rfl) rfl (.keep (rfl) rfl (.nil))) (fun i h => by cases h)
            · skip
              refine rs_mv rfl rfl ?_
              refine rs_skip rfl ?_
              refine rs_skip rfl ?_
              refine rs_skip rfl ?_
              refine rs_skip rfl ?_
              refine rs_skip rfl ?_
              refine rs_skip rfl ?_
              refine rs_skip rfl ?_
              refine rs_pick rfl rfl rfl ?_
              refine rs_mv rfl rfl ?_
              refine rs_nil ⟨by kernel_rfl, fun _ => ?_⟩
              refine in_n ?_
              refine th_n ?_
              refine aw_reg ?_
              refine rs_mv rfl rfl ?_
              first | refine rs_add rfl rfl rfl (by omega) ?_ | refine rs_addw rfl rfl rfl rfl ?_
              refine rs_mv rfl rfl ?_
              refine rs_nil fun _ => ?_
              refine th_n ?_
              refine ⟨q + 1, by omega, by omega, ?_⟩
              have hcs := contains_succ ((l.take (k)).foldl (addW v) []) q l[k].probe (by omega)
              first
                | exact weak_to (.cons rfl (rc_same rfl (.inl rfl)) (.cons rfl (rc_same rfl (.inl rfl)) (.cons rfl (rc_same rfl (.inl rfl)) (.cons rfl (rc_same rfl (.inl rfl)) (.cons rfl (rc_same rfl (.inl rfl)) (.cons rfl (rc_same rfl (.inl rfl)) (.cons rfl (rc_eq (by rw [hcs, h58, decide_eq_true h66]; rfl) rfl) (.cons rfl (rc_same rfl (.inl rfl)) (.nil))))))))) (.keep (rfl) rfl (.keep (rfl) rfl (.nil))) (fun i h => by cases h)
                | exact weak_to (.cons rfl (rc_same rfl (.inl rfl)) (.cons rfl (rc_same rfl (.inl rfl)) (.cons rfl (rc_same rfl (.inl rfl)) (.cons rfl (rc_same rfl (.inl rfl)) (.cons rfl (rc_same rfl (.inl rfl)) (.cons rfl (rc_same rfl (.inl rfl)) (.cons rfl (rc_eq (by rw [hcs, h58, decide_eq_false h66]; rfl) rfl) (.cons rfl (rc_same rfl (.inl rfl)) (.nil))))))))) (.keep (rfl) rfl (.keep (rfl) rfl (.nil))) (fun i h => by cases h)
                | exact weak_to (.cons rfl (rc_same rfl (.inl rfl)) (.cons rfl (rc_same rfl (.inl rfl)) (.cons rfl (rc_same rfl (.inl rfl)) (.cons rfl (rc_same rfl (.inl rfl)) (.cons rfl (rc_same rfl (.inl rfl)) (.cons rfl (rc_same rfl (.inl rfl)) (.cons rfl (rc_eq (by rw [hcs, h58]; rfl) rfl) (.cons rfl (rc_same rfl (.inl rfl)) (.nil))))))))) (.keep (rfl) rfl (.keep (rfl) rfl (.nil))) (fun i h => by cases h)
          · first | replace h55 := of_decide_eq_false h55 | skip
            refine aw_exit ?_
            refine th_e ?_
            refine th_e ?_
            refine in_hit ?_
            refine th_n ?_
            refine aw_seq ?_
            refine aw_reg ?_
            refine rs_mv rfl rfl ?_
            refine rs_not rfl rfl ?_
            refine rs_nil fun _ => ?_
            refine th_n ?_
            refine aw_cond rfl (fun h69 => ?_) (fun h69 => ?_)
            · first | replace h69 := of_decide_eq_true h69 | skip
              refine aw_reg ?_
              refine rs_mv rfl rfl ?_
              first | refine rs_fa_p rfl rfl ?_ | refine rs_fa_r rfl rfl rfl ?_
              first | refine rs_ld_r rfl rfl rfl ?_ | refine rs_ld_p rfl rfl rfl rfl rfl ?_ | refine rs_ld_m rfl rfl rfl (by omega) rfl ?_
              refine rs_bslice rfl rfl rfl rfl rfl rfl ?_
              refine rs_app_m (y := l[k].probe) rfl rfl rfl rfl rfl rfl rfl rfl (by decide) rfl (by omega) (by omega) rfl ?_
              refine rs_mv rfl rfl ?_
              refine rs_nil fun _ => ?_
              refine in_n ?_
              refine th_n ?_
              refine aw_reg ?_
              refine rs_mv rfl rfl ?_
              first | refine rs_add rfl rfl rfl (by omega) ?_ | refine rs_addw rfl rfl rfl rfl ?_
              refine rs_mv rfl rfl ?_
              refine rs_nil fun _ => ?_
              refine th_n ?_
              refine ⟨k + 1, by omega, by omega, ?_⟩
              first
                | (have hs : ((l.take (k + 1)).foldl (addW v) []) = ((l.take (k)).foldl (addW v) []) := (by rw [hst, addW, if_neg (show ¬ isWrong v l[k] from fun h => by obtain ⟨a1, a2, a3⟩ := h; first | omega | (rw [← wrong_at a1 a2] at a3; omega))]); exact weak_to (.cons rfl (rc_same rfl (.inl rfl)) (.cons rfl (rc_same rfl (.inl rfl)) (.cons rfl (rc_same rfl (.inl rfl)) (.cons rfl (rc_eq (by rw [hs]) rfl) (.cons rfl (rc_same rfl (.inl rfl)) (.nil)))))) (.keep ((by (rw [hs]) <;> rfl)) rfl (.nil)) (fun i h => by cases h))
                | (obtain rfl : q = ((l.take (k)).foldl (addW v) []).length := by omega
                   rw [List.take_length] at h69
                   have hs : ((l.take (k + 1)).foldl (addW v) []) = ((l.take (k)).foldl (addW v) []) := (by rw [hst, addW, if_pos (show isWrong v l[k] from ⟨by omega, by omega, by rw [← wrong_at (by omega) (by omega)]; omega⟩), addK, if_pos (by simpa using h69)]); exact weak_to (.cons rfl (rc_same rfl (.inl rfl)) (.cons rfl (rc_same rfl (.inl rfl)) (.cons rfl (rc_same rfl (.inl rfl)) (.cons rfl (rc_eq (by rw [hs]) rfl) (.cons rfl (rc_same rfl (.inl rfl)) (.nil)))))) (.keep ((by (rw [hs]) <;> rfl)) rfl (.nil)) (fun i h => by cases h))
                | (obtain rfl : q = ((l.take (k)).foldl (addW v) []).length := by omega
                   rw [List.take_length] at h69
                   have hs : ((l.take (k + 1)).foldl (addW v) []) = ((l.take (k)).foldl (addW v) []) ++ [l[k].probe] := (by rw [hst, addW, if_pos (show isWrong v l[k] from ⟨by omega, by omega, by rw [← wrong_at (by omega) (by omega)]; omega⟩), addK, if_neg (by simpa using h69)]); exact weak_to_ren (i := 74) (i' := 1074) (F1 := [(0, .rs 4 (l.map cR)), (1, ints v), (2, iv lies), (7, .sl 74 0 ((l.take (k + 1)).foldl (addW v) []).length), (8, iv (((k + 1) : Nat) : Int))]) (H1 := [(74, .cells 3 1 (((l.take (k + 1)).foldl (addW v) []).map ci) true)]) (.cons rfl (rc_same rfl (.inl rfl)) (.cons rfl (rc_same rfl (.inl rfl)) (.cons rfl (rc_same rfl (.inl rfl)) (.cons rfl (rc_eq (by rw [hs]; simp) rfl) (.cons rfl (rc_same rfl (.inl rfl)) (.nil)))))) (.keep ((by (rw [hs]) <;> rfl)) rfl (.nil)) (fun i h => by cases h) rfl rfl (.cons rfl (.same _) (.cons rfl (.same _) (.cons rfl (.same _) (.cons rfl (.sl _ _) (.cons rfl (.same _) (.nil)))))) (.cons rfl (rc_same rfl (.inl rfl)) (.cons rfl (rc_same rfl (.inl rfl)) (.cons rfl (rc_same rfl (.inl rfl)) (.cons rfl (rc_same rfl (.inl rfl)) (.cons rfl (rc_same rfl (.inl rfl)) (.nil)))))) (.keep (rfl) rfl (.nil)) (fun i h => by cases h))
            · first | replace h69 := of_decide_eq_false h69 | skip
              refine aw_skip ?_
              refine in_n ?_
              refine th_n ?_
              refine aw_reg ?_
              refine rs_mv rfl rfl ?_
              first | refine rs_add rfl rfl rfl (by omega) ?_ | refine rs_addw rfl rfl rfl rfl ?_
              refine rs_mv rfl rfl ?_
              refine rs_nil fun _ => ?_
              refine th_n ?_
              refine ⟨k + 1, by omega, by omega, ?_⟩
              first
                | (have hs : ((l.take (k + 1)).foldl (addW v) []) = ((l.take (k)).foldl (addW v) []) := (by rw [hst, addW, if_neg (show ¬ isWrong v l[k] from fun h => by obtain ⟨a1, a2, a3⟩ := h; first | omega | (rw [← wrong_at a1 a2] at a3; omega))]); exact weak_to (.cons rfl (rc_same rfl (.inl rfl)) (.cons rfl (rc_same rfl (.inl rfl)) (.cons rfl (rc_same rfl (.inl rfl)) (.cons rfl (rc_eq (by rw [hs]) rfl) (.cons rfl (rc_same rfl (.inl rfl)) (.nil)))))) (.keep ((by (rw [hs]) <;> rfl)) rfl (.nil)) (fun i h => by cases h))
                | (obtain rfl : q = ((l.take (k)).foldl (addW v) []).length := by omega
                   rw [List.take_length] at h69
                   have hs : ((l.take (k + 1)).foldl (addW v) []) = ((l.take (k)).foldl (addW v) []) := (by rw [hst, addW, if_pos (show isWrong v l[k] from ⟨by omega, by omega, by rw [← wrong_at (by omega) (by omega)]; omega⟩), addK, if_pos (by simpa using h69)]); exact weak_to (.cons rfl (rc_same rfl (.inl rfl)) (.cons rfl (rc_same rfl (.inl rfl)) (.cons rfl (rc_same rfl (.inl rfl)) (.cons rfl (rc_eq (by rw [hs]) rfl) (.cons rfl (rc_same rfl (.inl rfl)) (.nil)))))) (.keep ((by (rw [hs]) <;> rfl)) rfl (.nil)) (fun i h => by cases h))
                | (obtain rfl : q = ((l.take (k)).foldl (addW v) []).length := by omega
                   rw [List.take_length] at h69
                   have hs : ((l.take (k + 1)).foldl (addW v) []) = ((l.take (k)).foldl (addW v) []) ++ [l[k].probe] := (by rw [hst, addW, if_pos (show isWrong v l[k] from ⟨by omega, by omega, by rw [← wrong_at (by omega) (by omega)]; omega⟩), addK, if_neg (by simpa using h69)]); exact weak_to_ren (i := 74) (i' := 1074) (F1 := [(0, .rs 4 (l.map cR)), (1, ints v), (2, iv lies), (7, .sl 74 0 ((l.take (k + 1)).foldl (addW v) []).length), (8, iv (((k + 1) : Nat) : Int))]) (H1 := [(74, .cells 3 1 (((l.take (k + 1)).foldl (addW v) []).map ci) true)]) (.cons rfl (rc_same rfl (.inl rfl)) (.cons rfl (rc_same rfl (.inl rfl)) (.cons rfl (rc_same rfl (.inl rfl)) (.cons rfl (rc_eq (by rw [hs]; simp) rfl) (.cons rfl (rc_same rfl (.inl rfl)) (.nil)))))) (.keep ((by (rw [hs]) <;> rfl)) rfl (.nil)) (fun i h => by cases h) rfl rfl (.cons rfl (.same _) (.cons rfl (.same _) (.cons rfl (.same _) (.cons rfl (.sl _ _) (.cons rfl (.same _) (.nil)))))) (.cons rfl (rc_same rfl (.inl rfl)) (.cons rfl (rc_same rfl (.inl rfl)) (.cons rfl (rc_same rfl (.inl rfl)) (.cons rfl (rc_same rfl (.inl rfl)) (.cons rfl (rc_same rfl (.inl rfl)) (.nil)))))) (.keep (rfl) rfl (.nil)) (fun i h => by cases h))
  · first | replace h15 := of_decide_eq_false h15 | skip
    refine aw_exit ?_
    refine th_e ?_
    refine th_e ?_
    refine in_hit ?_
    refine th_n ?_
    refine aw_seq ?_
    refine aw_reg ?_
    refine rs_mv rfl rfl ?_
    first | refine rs_len_m rfl rfl ?_ | refine rs_len_s rfl rfl ?_ | refine rs_len_n rfl rfl ?_ | refine rs_len_r rfl rfl rfl ?_
    refine rs_mv rfl rfl ?_
    refine rs_leq rfl rfl rfl ?_
    refine rs_mv rfl rfl ?_
    refine rs_nil fun _ => ?_
    refine th_n ?_
    refine aw_ret ?_
    have hfin : wrongS l v = (l.take k).foldl (addW v) [] := by (rw [List.take_of_length_le (by omega)]) <;> rfl
    exact ret_pure rfl (by rw [agreeS, hfin]; rfl) rfl (.inr rfl)

end Go.Proofs.Ytadjdnhnbkcakaa

/-! Walks: A12. -/
namespace Go.Proofs.Ytadjdnhnbkcakaa
open Go.RowKit

theorem fz21 (l : List Rd) (lo hi : List Int) (lies : Int) : FC Try.prog 21 [.rs 4 (l.map cR), ints lo, ints hi, .int .i64 lies] [] (.tup [ints (narrowA l lo hi lies), ints (narrowB l lo hi lies), iv (narrowE l lo hi lies)]) [] false :=
  fc_frozen (fc21 l lo hi lies) (rc_tup (.cons (rc_frz rfl rfl rfl (fun _ => rfl)) (.cons (rc_frz rfl rfl rfl (fun _ => rfl)) (.cons (rc_same rfl (.inr rfl)) .nil))))
theorem fz22 (l : List Rd) (lo hi : List Int) (lies : Int) : FC Try.prog 22 [.rs 4 (l.map cR), ints lo, ints hi, .int .i64 lies] [] (.tup [ints (narrowA l lo hi lies), ints (narrowB l lo hi lies), iv (narrowE l lo hi lies)]) [] false :=
  fc_frozen (fc22 l lo hi lies) (rc_tup (.cons (rc_frz rfl rfl rfl (fun _ => rfl)) (.cons (rc_frz rfl rfl rfl (fun _ => rfl)) (.cons (rc_same rfl (.inr rfl)) .nil))))
theorem fz24 (l : List Rd) (lo hi : List Int) (lies : Int) : FC Try.prog 24 [.rs 4 (l.map cR), ints lo, ints hi, .int .i64 lies] [] (.tup [ints (liarsL l lo hi lies), iv (liarsE l lo hi lies)]) [] false :=
  fc_frozen (fc24 l lo hi lies) (rc_tup (.cons (rc_frz rfl rfl rfl (fun _ => rfl)) (.cons (rc_same rfl (.inr rfl)) .nil)))
theorem fz25 (l : List Rd) (lo hi : List Int) (lies : Int) : FC Try.prog 25 [.rs 4 (l.map cR), ints lo, ints hi, .int .i64 lies] [] (.tup [ints (liarsL l lo hi lies), iv (liarsE l lo hi lies)]) [] false :=
  fc_frozen (fc25 l lo hi lies) (rc_tup (.cons (rc_frz rfl rfl rfl (fun _ => rfl)) (.cons (rc_same rfl (.inr rfl)) .nil)))
theorem fz29 (ls : List (List Int)) (q : Int) (hq : q ≤ 4611686018427387904) (hls : ∀ L ∈ ls, L.length ≤ 4611686018427387904) : FC Try.prog 29 [.rs 1 (ls.map cL), .int .i64 q] [] (.rs 4 ((readS ls q).map cR)) [] false :=
  fc_frozen (fc29 ls q hq hls) (rc_frz rfl rfl rfl (fun _ => rfl))

def mc18 : MC := (.seq (.reg [⟨(some 4), (.mv (.c .nils)), none, []⟩] false) (.seq (.reg [⟨(some 5), (.mv (.t 0)), none, []⟩, ⟨(some 6), (.mv (.t 0)), none, []⟩, ⟨(some 7), (.len (.t 6)), none, [1]⟩, ⟨(some 8), (.mv (.t 1)), none, []⟩, ⟨(some 9), (.mn (.t 7) (.t 8)), none, [2, 3]⟩, ⟨(some 10), (.slc 1 (.t 5) none (some (.t 9))), none, [0, 4]⟩, ⟨(some 4), (.mv (.t 10)), none, [5, 0, 1, 2, 3, 4, 5]⟩] false) .ret))
theorem mcOk18 : (match Try.f18.body with | some c => compC Try.prog 11 c | none => none) = some mc18 := by kernel_rfl

theorem fc18 (xs : List Int) (n : Nat) : FC Try.prog 18 [ints xs, .int .i64 (n : Int)] [] (ints (xs.take n)) [] true := by
  refine fc_run (nt := 11) Try.func18 rfl rfl mcOk18 (Nat.le_of_ble_eq_true rfl) ?_
  delta mc18
  refine aw_seq ?_
  refine aw_reg ?_
  refine rs_mv rfl rfl ?_
  refine rs_nil fun _ => ?_
  refine th_n ?_
  refine aw_seq ?_
  refine aw_reg ?_
  refine rs_mv rfl rfl ?_
  refine rs_mv rfl rfl ?_
  first | refine rs_len_m rfl rfl ?_ | refine rs_len_s rfl rfl ?_ | refine rs_len_n rfl rfl ?_ | refine rs_len_r rfl rfl rfl ?_
  refine rs_mv rfl rfl ?_
  refine rs_mn rfl rfl rfl rfl ?_
  refine rs_slc_r (l := 0) (q := min (xs.length : Int) (n : Int)) (els' := (xs.take n).map ci) rfl rfl rfl rfl rfl (by omega) (by omega) (by simp; omega) (by rw [show (min (xs.length : Int) (n : Int)).toNat = min xs.length n by omega]; simp [List.take_eq_take_min, Nat.min_comm]) ?_
  refine rs_mv rfl rfl ?_
  refine rs_nil fun _ => ?_
  refine th_n ?_
  refine aw_ret ?_
  exact ret_pure rfl rfl rfl (.inl rfl)

def mc46 : MC := (.seq (.reg [⟨(some 6), (.alloc 50 4 [(.int .i64 0), (.int .i64 0), (.int .i64 0), (.int .i64 0)]), none, []⟩] false) (.seq (.reg [⟨(some 7), (.mv (.t 0)), none, []⟩, ⟨(some 8), (.mv (.t 1)), none, []⟩, ⟨(some 9), (.mv (.t 2)), none, []⟩, ⟨(some 10), (.build [(.int .i64 0), (.int .i64 0), (.int .i64 0), (.int .i64 0)] [(0, (1, (.t 7))), (2, (1, (.t 8))), (3, (1, (.t 9)))]), none, [0, 1, 2]⟩, ⟨none, (.st 4 (.t 6) (.t 10)), none, [3, 0, 1, 2, 3]⟩] false) .ret))
theorem mcOk46 : (match Try.f46.body with | some c => compC Try.prog 11 c | none => none) = some mc46 := by kernel_rfl

theorem fc46 (w lo hi : Int) : FC Try.prog 46 [iv w, iv lo, iv hi] [] (.agg (cR ⟨w, 0, lo, hi⟩)) [] false := by
  refine fc_run (nt := 11) Try.func46 rfl rfl mcOk46 (Nat.le_of_ble_eq_true rfl) ?_
  delta mc46
  refine aw_seq ?_
  refine aw_reg ?_
  refine rs_alloc rfl rfl rfl ?_
  refine rs_nil fun _ => ?_
  refine th_n ?_
  refine aw_seq ?_
  refine aw_reg ?_
  refine rs_mv rfl rfl ?_
  refine rs_mv rfl rfl ?_
  refine rs_mv rfl rfl ?_
  refine rs_build rfl rfl ?_
  refine rs_st rfl rfl rfl rfl rfl rfl rfl (Nat.le_of_ble_eq_true rfl) rfl rfl ?_
  refine rs_nil fun _ => ?_
  refine th_n ?_
  refine aw_ret ?_
  exact ret_pure (resVs_cell (n := 4) rfl rfl (by kernel_rfl) (by kernel_rfl) rfl) rfl rfl (.inr rfl)

end Go.Proofs.Ytadjdnhnbkcakaa

/-! The plain law of probes: what Narrow and Liars compute, said by assignments and sets that explain the readings. No program in sight. -/
namespace Go.Proofs.Ytadjdnhnbkcakaa
open Go.RowKit

/-- Within the limits. -/
def InB (lo hi : List Int) (v : Nat → Int) : Prop := ∀ i, i < lo.length → lo.getD i 0 ≤ v i ∧ v i ≤ hi.getD i 0
/-- All readings of probes that are not in the set contain the values. -/
def Expl (l : List Rd) (v : Nat → Int) (s : Nat) : Prop := ∀ r ∈ l, hasS s r.probe.toNat = true ∨ (r.lo ≤ v r.of_.toNat ∧ v r.of_.toNat ≤ r.hi)
/-- An assignment that agrees, with a small set of probes that may lie. -/
structure AgS (l : List Rd) (lo hi : List Int) (lies : Int) (s : Nat) (v : Nat → Int) : Prop where
  lt : s < 256
  small : (sizeS s 8 : Int) ≤ lies
  inb : InB lo hi v
  expl : Expl l v s

def Rok (n : Nat) (l : List Rd) : Prop := ∀ r ∈ l, 0 ≤ r.probe ∧ r.probe < 8 ∧ 0 ≤ r.of_ ∧ r.of_ < (n : Int)

theorem getD_set_eq {L : List Int} {i : Nat} {a : Int} (h : i < L.length) : (L.set i a).getD i 0 = a := by
  simp [h]
theorem getD_set_ne {L : List Int} {i j : Nat} {a : Int} (h : i ≠ j) : (L.set i a).getD j 0 = L.getD j 0 := by
  simp only [List.getD_eq_getElem?_getD]
  rw [List.getElem?_set_ne h]

theorem wstep_low {s : Nat} {x : List Int} {r : Rd} (hx : x.length = 13) (hr : 0 ≤ r.of_ ∧ r.of_ < 6) {i : Nat} (hi : i < 6) (c : Int) :
    (wstep s x r).getD i 0 ≤ c ↔ x.getD i 0 ≤ c ∧ (hasS s r.probe.toNat = true ∨ (r.of_.toNat = i → r.lo ≤ c)) := by
  unfold wstep
  split
  · rename_i h; simp [h]
  · rename_i h
    simp only [h, Bool.false_eq_true, false_or]
    rw [getD_set_ne (by omega)]
    by_cases e : r.of_.toNat = i
    · subst e
      rw [getD_set_eq (by omega)]
      simp only [forall_const]
      omega
    · rw [getD_set_ne e]
      simp [e]
theorem wstep_high {s : Nat} {x : List Int} {r : Rd} (hx : x.length = 13) (hr : 0 ≤ r.of_ ∧ r.of_ < 6) {i : Nat} (hi : i < 6) (c : Int) :
    c ≤ (wstep s x r).getD (6 + i) 0 ↔ c ≤ x.getD (6 + i) 0 ∧ (hasS s r.probe.toNat = true ∨ (r.of_.toNat = i → c ≤ r.hi)) := by
  unfold wstep
  split
  · rename_i h; simp [h]
  · rename_i h
    simp only [h, Bool.false_eq_true, false_or]
    by_cases e : r.of_.toNat = i
    · subst e
      rw [getD_set_eq (by simp; omega)]
      simp only [forall_const]
      omega
    · rw [getD_set_ne (by omega), getD_set_ne (by omega)]
      simp [e]
theorem without_low {s : Nat} {i : Nat} (hi : i < 6) (c : Int) : ∀ (l : List Rd) (x : List Int), x.length = 13 → Rok 6 l →
    ((withoutS l s x).getD i 0 ≤ c ↔ x.getD i 0 ≤ c ∧ ∀ r ∈ l, hasS s r.probe.toNat = true ∨ (r.of_.toNat = i → r.lo ≤ c))
  | [], x, _, _ => by simp [withoutS]
  | r :: l, x, hx, hr => by
    have h0 := hr r (by simp)
    have ih := without_low (s := s) hi c l (wstep s x r) (by rw [length_wstep, hx]) (fun r h => hr r (by simp [h]))
    show (withoutS l s (wstep s x r)).getD i 0 ≤ c ↔ _
    rw [ih, wstep_low hx h0.2.2 hi, List.forall_mem_cons, and_assoc]
theorem without_high {s : Nat} {i : Nat} (hi : i < 6) (c : Int) : ∀ (l : List Rd) (x : List Int), x.length = 13 → Rok 6 l →
    (c ≤ (withoutS l s x).getD (6 + i) 0 ↔ c ≤ x.getD (6 + i) 0 ∧ ∀ r ∈ l, hasS s r.probe.toNat = true ∨ (r.of_.toNat = i → c ≤ r.hi))
  | [], x, _, _ => by simp [withoutS]
  | r :: l, x, hx, hr => by
    have h0 := hr r (by simp)
    have ih := without_high (s := s) hi c l (wstep s x r) (by rw [length_wstep, hx]) (fun r h => hr r (by simp [h]))
    show c ≤ (withoutS l s (wstep s x r)).getD (6 + i) 0 ↔ _
    rw [ih, wstep_high hx h0.2.2 hi, List.forall_mem_cons, and_assoc]

theorem ofS_lo {lo hi : List Int} {n : Nat} (h1 : lo.length = n) (h2 : hi.length = n) (hn : n ≤ 6) {i : Nat} (hi' : i < n) : (ofS lo hi).getD i 0 = lo.getD i 0 := by
  rw [ofS, getD_setL _ _ _ _ (by simp [length_setL]; omega), if_neg (by omega), getD_setL _ _ _ _ (by simp; omega), if_pos (by omega)]
  rfl
theorem ofS_hi {lo hi : List Int} {n : Nat} (h2 : hi.length = n) (hn : n ≤ 6) {i : Nat} (hi' : i < n) : (ofS lo hi).getD (6 + i) 0 = hi.getD i 0 := by
  rw [ofS, getD_setL _ _ _ _ (by simp [length_setL]; omega), if_pos (by omega), show 6 + i - 6 = i by omega]

section
variable {l : List Rd} {lo hi : List Int} {lies : Int} {n : Nat}

/-- The least and the greatest value that a set leaves. -/
def lowS (l : List Rd) (lo hi : List Int) (s i : Nat) : Int := (withoutS l s (ofS lo hi)).getD i 0
def highS (l : List Rd) (lo hi : List Int) (s i : Nat) : Int := (withoutS l s (ofS lo hi)).getD (6 + i) 0

theorem rok6 (hr : Rok n l) (hn : n ≤ 6) : Rok 6 l := fun r h => by
  have := hr r h
  exact ⟨this.1, this.2.1, this.2.2.1, by omega⟩

theorem box_iff (h1 : lo.length = n) (h2 : hi.length = n) (hn : n ≤ 6) (hr : Rok n l) (s : Nat) (v : Nat → Int) :
    (∀ i, i < n → lowS l lo hi s i ≤ v i ∧ v i ≤ highS l lo hi s i) ↔ InB lo hi v ∧ Expl l v s := by
  have hr6 := rok6 hr hn
  constructor
  · intro h
    refine ⟨fun i hi' => ?_, fun r hr' => ?_⟩
    · have := h i (by omega)
      have a := (without_low (s := s) (i := i) (by omega) (v i) l (ofS lo hi) (length_ofS _ _) hr6).1 this.1
      have b := (without_high (s := s) (i := i) (by omega) (v i) l (ofS lo hi) (length_ofS _ _) hr6).1 this.2
      rw [ofS_lo h1 h2 hn (by omega)] at a
      rw [ofS_hi h2 hn (by omega)] at b
      exact ⟨a.1, b.1⟩
    · have h0 := hr r hr'
      have := h r.of_.toNat (by omega)
      have a := (without_low (s := s) (i := r.of_.toNat) (by omega) _ l (ofS lo hi) (length_ofS _ _) hr6).1 this.1
      have b := (without_high (s := s) (i := r.of_.toNat) (by omega) _ l (ofS lo hi) (length_ofS _ _) hr6).1 this.2
      rcases a.2 r hr' with e | e
      · exact .inl e
      · rcases b.2 r hr' with e' | e'
        · exact .inl e'
        · exact .inr ⟨e rfl, e' rfl⟩
  · rintro ⟨hb, he⟩ i hi'
    have := hb i (by omega)
    constructor
    · refine (without_low (s := s) (i := i) (by omega) (v i) l (ofS lo hi) (length_ofS _ _) hr6).2 ⟨by rw [ofS_lo h1 h2 hn hi']; exact this.1, fun r hr' => ?_⟩
      rcases he r hr' with e | e
      · exact .inl e
      · exact .inr fun e' => by rw [← e']; exact e.1
    · refine (without_high (s := s) (i := i) (by omega) (v i) l (ofS lo hi) (length_ofS _ _) hr6).2 ⟨by rw [ofS_hi h2 hn hi']; exact this.2, fun r hr' => ?_⟩
      rcases he r hr' with e | e
      · exact .inl e
      · exact .inr fun e' => by rw [← e']; exact e.2

/-- A set explains the readings. -/
def Exs (l : List Rd) (lo hi : List Int) (lies : Int) (s : Nat) : Prop := (sizeS s 8 : Int) ≤ lies ∧ emptyS (withoutS l s (ofS lo hi)) lo.length = false

theorem empty_false {x : List Int} {n : Nat} : emptyS x n = false ↔ ∀ i, i < n → x.getD i 0 ≤ x.getD (6 + i) 0 := by
  unfold emptyS
  rw [List.any_eq_false]
  constructor
  · intro h i hi
    have := h i (List.mem_range.2 hi)
    simp at this ⊢
    omega
  · intro h i hi
    have := h i (List.mem_range.1 hi)
    simp at this ⊢
    omega

theorem exs_iff (h1 : lo.length = n) (h2 : hi.length = n) (hn : n ≤ 6) (hr : Rok n l) {s : Nat} (hs : s < 256) : Exs l lo hi lies s ↔ ∃ v, AgS l lo hi lies s v := by
  unfold Exs
  rw [empty_false]
  constructor
  · rintro ⟨a, b⟩
    have := (box_iff h1 h2 hn hr s (lowS l lo hi s)).1 fun i hi' => ⟨Int.le_refl _, b i (by omega)⟩
    exact ⟨_, hs, a, this.1, this.2⟩
  · rintro ⟨v, hv⟩
    refine ⟨hv.small, fun i hi' => ?_⟩
    have := (box_iff h1 h2 hn hr s v).2 ⟨hv.inb, hv.expl⟩ i (by omega)
    exact Int.le_trans this.1 this.2

theorem low_ag (h1 : lo.length = n) (h2 : hi.length = n) (hn : n ≤ 6) (hr : Rok n l) {s : Nat} (hs : s < 256) (h : Exs l lo hi lies s) : AgS l lo hi lies s (lowS l lo hi s) := by
  have := (box_iff h1 h2 hn hr s (lowS l lo hi s)).1 fun i hi' => ⟨Int.le_refl _, empty_false.1 h.2 i (by omega)⟩
  exact ⟨hs, h.1, this.1, this.2⟩
theorem high_ag (h1 : lo.length = n) (h2 : hi.length = n) (hn : n ≤ 6) (hr : Rok n l) {s : Nat} (hs : s < 256) (h : Exs l lo hi lies s) : AgS l lo hi lies s (highS l lo hi s) := by
  have := (box_iff h1 h2 hn hr s (highS l lo hi s)).1 fun i hi' => ⟨empty_false.1 h.2 i (by omega), Int.le_refl _⟩
  exact ⟨hs, h.1, this.1, this.2⟩

theorem exK_ind {σ : Type} (x : List Int) (m : Nat) (f : σ → Nat → List Int → σ) (s0 : σ) (p : Nat → σ × Nat → Prop) (h0 : p 0 (s0, 0))
    (ht : ∀ k s, k < 256 → ((sizeS k 8 : Int) ≤ lies ∧ emptyS (withoutS l k x) m = false) → p k s → p (k + 1) (f s.1 k (withoutS l k x), s.2 + 1))
    (hf : ∀ k s, ¬ ((sizeS k 8 : Int) ≤ lies ∧ emptyS (withoutS l k x) m = false) → p k s → p (k + 1) s) : ∀ k, k ≤ 256 → p k (exK l x lies m f s0 k)
  | 0, _ => h0
  | k + 1, hk => by
    have ih := exK_ind x m f s0 p h0 ht hf k (by omega)
    unfold exK
    split
    · rename_i h; exact ht k _ (by omega) h ih
    · rename_i h; exact hf k _ h ih

theorem getD_minK {a y : List Int} {k i : Nat} (h : i < a.length) (hk : i < k) : (minK a y k).getD i 0 = min (a.getD i 0) (y.getD i 0) := by
  simp [minK, h, hk]
theorem getD_maxK {a y : List Int} {k i : Nat} (h : i < a.length) (hk : i < k) : (maxK a y k).getD i 0 = max (a.getD i 0) (y.getD (6 + i) 0) := by
  simp [maxK, h, hk]

theorem ex51_sem (h1 : lo.length = n) (h2 : hi.length = n) :
    (ex51 l lo hi lies).1.1.length = n ∧ (ex51 l lo hi lies).1.2.length = n ∧ ((ex51 l lo hi lies).2 ≠ 0 ↔ ∃ s, s < 256 ∧ Exs l lo hi lies s) ∧ ∀ i, i < n →
      ((∀ s, s < 256 → Exs l lo hi lies s → (ex51 l lo hi lies).1.1.getD i 0 ≤ lowS l lo hi s i) ∧ (ex51 l lo hi lies).1.1.getD i 0 ≤ hi.getD i 0 ∧ ((ex51 l lo hi lies).1.1.getD i 0 = hi.getD i 0 ∨ ∃ s, s < 256 ∧ Exs l lo hi lies s ∧ (ex51 l lo hi lies).1.1.getD i 0 = lowS l lo hi s i)) ∧
      ((∀ s, s < 256 → Exs l lo hi lies s → highS l lo hi s i ≤ (ex51 l lo hi lies).1.2.getD i 0) ∧ lo.getD i 0 ≤ (ex51 l lo hi lies).1.2.getD i 0 ∧ ((ex51 l lo hi lies).1.2.getD i 0 = lo.getD i 0 ∨ ∃ s, s < 256 ∧ Exs l lo hi lies s ∧ (ex51 l lo hi lies).1.2.getD i 0 = highS l lo hi s i)) := by
  refine exK_ind (ofS lo hi) lo.length (f51 lo.length) (hi, lo) (fun k s => s.1.1.length = n ∧ s.1.2.length = n ∧ (s.2 ≠ 0 ↔ ∃ t, t < k ∧ Exs l lo hi lies t) ∧ ∀ i, i < n →
      ((∀ t, t < k → Exs l lo hi lies t → s.1.1.getD i 0 ≤ lowS l lo hi t i) ∧ s.1.1.getD i 0 ≤ hi.getD i 0 ∧ (s.1.1.getD i 0 = hi.getD i 0 ∨ ∃ t, t < k ∧ Exs l lo hi lies t ∧ s.1.1.getD i 0 = lowS l lo hi t i)) ∧
      ((∀ t, t < k → Exs l lo hi lies t → highS l lo hi t i ≤ s.1.2.getD i 0) ∧ lo.getD i 0 ≤ s.1.2.getD i 0 ∧ (s.1.2.getD i 0 = lo.getD i 0 ∨ ∃ t, t < k ∧ Exs l lo hi lies t ∧ s.1.2.getD i 0 = highS l lo hi t i))) ?_ ?_ ?_ 256 (Nat.le_refl _)
  · exact ⟨h2, h1, by simp, fun i hi' => ⟨⟨fun t ht => by omega, Int.le_refl _, .inl rfl⟩, ⟨fun t ht => by omega, Int.le_refl _, .inl rfl⟩⟩⟩
  · rintro k ⟨⟨A, B⟩, c⟩ hk hx ⟨hA, hB, hc, h⟩
    refine ⟨by simp [f51, minK]; exact hA, by simp [f51, maxK]; exact hB, ⟨fun _ => ⟨k, by omega, hx⟩, fun _ => by simp⟩, fun i hi' => ?_⟩
    obtain ⟨⟨a1, a2, a3⟩, b1, b2, b3⟩ := h i hi'
    simp only at hA hB a1 a2 a3 b1 b2 b3
    simp only [f51]
    rw [getD_minK (by omega) (by omega), getD_maxK (by omega) (by omega)]
    rw [show (withoutS l k (ofS lo hi)).getD i 0 = lowS l lo hi k i from rfl, show (withoutS l k (ofS lo hi)).getD (6 + i) 0 = highS l lo hi k i from rfl]
    refine ⟨⟨fun t ht he => ?_, by omega, ?_⟩, fun t ht he => ?_, by omega, ?_⟩
    · rcases Nat.lt_or_ge t k with h' | h'
      · have := a1 t h' he; omega
      · obtain rfl : t = k := by omega
        omega
    · by_cases e : A.getD i 0 ≤ lowS l lo hi k i
      · rw [Int.min_eq_left e]; exact a3.imp_right fun ⟨t, ht, r⟩ => ⟨t, by omega, r⟩
      · exact .inr ⟨k, by omega, hx, by omega⟩
    · rcases Nat.lt_or_ge t k with h' | h'
      · have := b1 t h' he; omega
      · obtain rfl : t = k := by omega
        omega
    · by_cases e : highS l lo hi k i ≤ B.getD i 0
      · rw [Int.max_eq_left e]; exact b3.imp_right fun ⟨t, ht, r⟩ => ⟨t, by omega, r⟩
      · exact .inr ⟨k, by omega, hx, by omega⟩
  · rintro k s hx ⟨hA, hB, hc, h⟩
    have hlt : ∀ t, t < k + 1 → Exs l lo hi lies t → t < k := fun t ht he => by
      rcases Nat.lt_or_ge t k with h' | h'
      · exact h'
      · obtain rfl : t = k := by omega
        exact absurd he hx
    refine ⟨hA, hB, hc.trans ⟨fun ⟨t, ht, he⟩ => ⟨t, by omega, he⟩, fun ⟨t, ht, he⟩ => ⟨t, hlt t ht he, he⟩⟩, fun i hi' => ?_⟩
    obtain ⟨⟨a1, a2, a3⟩, b1, b2, b3⟩ := h i hi'
    exact ⟨⟨fun t ht he => a1 t (hlt t ht he) he, a2, a3.imp_right fun ⟨t, ht, r⟩ => ⟨t, by omega, r⟩⟩, fun t ht he => b1 t (hlt t ht he) he, b2, b3.imp_right fun ⟨t, ht, r⟩ => ⟨t, by omega, r⟩⟩

theorem hasS_and (a b p : Nat) : hasS (a &&& b) p = (hasS a p && hasS b p) := Nat.testBit_and a b p
theorem hasS_255 : ∀ p, p < 8 → hasS 255 p = true := by decide

theorem ex54_sem : (ex54 l lo hi lies).1 < 256 ∧ ((ex54 l lo hi lies).2 ≠ 0 ↔ ∃ s, s < 256 ∧ Exs l lo hi lies s) ∧ ∀ p, p < 8 → (hasS (ex54 l lo hi lies).1 p = true ↔ ∀ s, s < 256 → Exs l lo hi lies s → hasS s p = true) := by
  refine exK_ind (ofS lo hi) lo.length f54 255 (fun k s => s.1 < 256 ∧ (s.2 ≠ 0 ↔ ∃ t, t < k ∧ Exs l lo hi lies t) ∧ ∀ p, p < 8 → (hasS s.1 p = true ↔ ∀ t, t < k → Exs l lo hi lies t → hasS t p = true)) ?_ ?_ ?_ 256 (Nat.le_refl _)
  · exact ⟨by decide, by simp, fun p hp => ⟨fun _ t ht => by omega, fun _ => hasS_255 p hp⟩⟩
  · rintro k ⟨A, c⟩ hk hx ⟨hA, hc, h⟩
    refine ⟨Nat.lt_of_le_of_lt Nat.and_le_left hA, ⟨fun _ => ⟨k, by omega, hx⟩, fun _ => by simp⟩, fun p hp => ?_⟩
    simp only [f54] at hA h ⊢
    rw [hasS_and, Bool.and_eq_true, h p hp]
    constructor
    · rintro ⟨a, b⟩ t ht he
      rcases Nat.lt_or_ge t k with h' | h'
      · exact a t h' he
      · obtain rfl : t = k := by omega
        exact b
    · exact fun a => ⟨fun t ht he => a t (by omega) he, a k (by omega) hx⟩
  · rintro k s hx ⟨hA, hc, h⟩
    have hlt : ∀ t, t < k + 1 → Exs l lo hi lies t → t < k := fun t ht he => by
      rcases Nat.lt_or_ge t k with h' | h'
      · exact h'
      · obtain rfl : t = k := by omega
        exact absurd he hx
    refine ⟨hA, hc.trans ⟨fun ⟨t, ht, he⟩ => ⟨t, by omega, he⟩, fun ⟨t, ht, he⟩ => ⟨t, hlt t ht he, he⟩⟩, fun p hp => (h p hp).trans ⟨fun a t ht he => a t (hlt t ht he) he, fun a t ht he => a t (by omega) he⟩⟩

/-- What Narrow and Liars say where some assignment agrees. -/
structure Sem (l : List Rd) (lo hi : List Int) (lies : Int) (A B : List Int) (all : Nat) : Prop where
  lenA : A.length = lo.length
  lenB : B.length = lo.length
  lt : all < 256
  le : ∀ s v, AgS l lo hi lies s v → ∀ i, i < lo.length → A.getD i 0 ≤ v i ∧ v i ≤ B.getD i 0
  least : ∀ i, i < lo.length → ∃ s v, AgS l lo hi lies s v ∧ v i = A.getD i 0
  most : ∀ i, i < lo.length → ∃ s v, AgS l lo hi lies s v ∧ v i = B.getD i 0
  liars : ∀ p, p < 8 → (hasS all p = true ↔ ∀ s v, AgS l lo hi lies s v → hasS s p = true)

theorem narrow_sem (h0 : checkS l lo hi lies = 0) :
    ((∃ s v, AgS l lo hi lies s v) ∧ narrowE l lo hi lies = 0 ∧ liarsE l lo hi lies = 0 ∧ ∃ all, liarsL l lo hi lies = outK all 8 ∧ Sem l lo hi lies (narrowA l lo hi lies) (narrowB l lo hi lies) all) ∨
    ((¬ ∃ s v, AgS l lo hi lies s v) ∧ narrowE l lo hi lies = 21 ∧ liarsE l lo hi lies = 21 ∧ narrowA l lo hi lies = [] ∧ narrowB l lo hi lies = [] ∧ liarsL l lo hi lies = []) := by
  obtain ⟨hl, h2, h6, hls, hr⟩ := check_ok h0
  have hr' : Rok lo.length l := hr
  obtain ⟨m1, m2, m3, m4⟩ := ex51_sem (l := l) (lo := lo) (hi := hi) (lies := lies) rfl h2
  obtain ⟨n1, n2, n3⟩ := ex54_sem (l := l) (lo := lo) (hi := hi) (lies := lies)
  have hiff : (∃ s, s < 256 ∧ Exs l lo hi lies s) ↔ ∃ s v, AgS l lo hi lies s v := ⟨fun ⟨s, hs, he⟩ => ⟨s, (exs_iff rfl h2 h6 hr' hs).1 he⟩, fun ⟨s, v, hv⟩ => ⟨s, hv.lt, (exs_iff rfl h2 h6 hr' hv.lt).2 ⟨v, hv⟩⟩⟩
  by_cases hx : ∃ s v, AgS l lo hi lies s v
  · left
    have q1 := m3.2 (hiff.2 hx)
    have q2 := n2.2 (hiff.2 hx)
    obtain ⟨e1, e2, e3⟩ := narrow_3 h0 q1
    obtain ⟨e4, e5⟩ := liars_3 h0 q2
    refine ⟨hx, e1, e4, _, e5, ?_⟩
    rw [e2, e3]
    obtain ⟨s0, v0, hv0⟩ := hx
    refine ⟨m1, m2, n1, fun s v hv i hi' => ?_, fun i hi' => ?_, fun i hi' => ?_, fun p hp => ?_⟩
    · obtain ⟨a, b⟩ := m4 i hi'
      have he := (exs_iff rfl h2 h6 hr' hv.lt).2 ⟨v, hv⟩
      have hb := (box_iff rfl h2 h6 hr' s v).2 ⟨hv.inb, hv.expl⟩ i hi'
      have h1 := a.1 s hv.lt he
      have h3 := b.1 s hv.lt he
      omega
    · obtain ⟨⟨a1, a2, a3⟩, _⟩ := m4 i hi'
      rcases a3 with e | ⟨s, hs, he, e⟩
      · have he := (exs_iff rfl h2 h6 hr' hv0.lt).2 ⟨v0, hv0⟩
        have h1 := a1 s0 hv0.lt he
        have h3 := (low_ag rfl h2 h6 hr' hv0.lt he)
        have h4 := h3.inb i hi'
        exact ⟨s0, _, h3, by omega⟩
      · exact ⟨s, _, low_ag rfl h2 h6 hr' hs he, e.symm⟩
    · obtain ⟨_, a1, a2, a3⟩ := m4 i hi'
      rcases a3 with e | ⟨s, hs, he, e⟩
      · have he := (exs_iff rfl h2 h6 hr' hv0.lt).2 ⟨v0, hv0⟩
        have h1 := a1 s0 hv0.lt he
        have h3 := (high_ag rfl h2 h6 hr' hv0.lt he)
        have h4 := h3.inb i hi'
        exact ⟨s0, _, h3, by omega⟩
      · exact ⟨s, _, high_ag rfl h2 h6 hr' hs he, e.symm⟩
    · rw [n3 p hp]
      exact ⟨fun a s v hv => a s hv.lt ((exs_iff rfl h2 h6 hr' hv.lt).2 ⟨v, hv⟩), fun a s hs he => by
        obtain ⟨v, hv⟩ := (exs_iff rfl h2 h6 hr' hs).1 he
        exact a s v hv⟩
  · right
    have q1 : (ex51 l lo hi lies).2 = 0 := by
      by_cases e : (ex51 l lo hi lies).2 = 0
      · exact e
      · exact absurd (hiff.1 (m3.1 e)) hx
    have q2 : (ex54 l lo hi lies).2 = 0 := by
      by_cases e : (ex54 l lo hi lies).2 = 0
      · exact e
      · exact absurd (hiff.1 (n2.1 e)) hx
    obtain ⟨e1, e2, e3⟩ := narrow_2 h0 q1
    obtain ⟨e4, e5⟩ := liars_2 h0 q2
    exact ⟨hx, e1, e4, e2, e3, e5⟩

end
end Go.Proofs.Ytadjdnhnbkcakaa

/-! The plain law of probes, on: the probes that lie as a set, Agree, and the least and greatest values as they are found one by one. No program in sight. -/
namespace Go.Proofs.Ytadjdnhnbkcakaa
open Go.RowKit

/-- A reading that the values contradict. -/
def badV (v : Nat → Int) (r : Rd) : Bool := decide (v r.of_.toNat < r.lo ∨ v r.of_.toNat > r.hi)
/-- The probes that lie, as a set. -/
def maskS (l : List Rd) (v : Nat → Int) (m : Nat) : Nat := l.foldl (fun m r => if badV v r = true then m ||| 2 ^ r.probe.toNat else m) m

theorem or_pow_lt : ∀ m, m < 256 → ∀ p, p < 8 → m ||| 2 ^ p < 256 := by decide +kernel
theorem size_or : ∀ m, m < 256 → ∀ p, p < 8 → sizeS (m ||| 2 ^ p) 8 = if hasS m p = true then sizeS m 8 else sizeS m 8 + 1 := by decide +kernel
theorem hasS_or (m p q : Nat) : hasS (m ||| 2 ^ p) q = (hasS m q || decide (p = q)) := by
  simp [hasS, Nat.testBit_or, Nat.testBit_two_pow]
theorem hasS_0 (q : Nat) : hasS 0 q = false := by simp [hasS]
theorem badV_false {v : Nat → Int} {r : Rd} : badV v r = false ↔ r.lo ≤ v r.of_.toNat ∧ v r.of_.toNat ≤ r.hi := by
  unfold badV
  rw [decide_eq_false_iff_not]; omega

theorem mask_lt {n : Nat} {v : Nat → Int} : ∀ (l : List Rd) (m : Nat), Rok n l → m < 256 → maskS l v m < 256
  | [], m, _, hm => hm
  | r :: l, m, hr, hm => by
    have h0 := hr r (by simp)
    show maskS l v (if badV v r = true then m ||| 2 ^ r.probe.toNat else m) < 256
    refine mask_lt l _ (fun r h => hr r (by simp [h])) ?_
    split
    · exact or_pow_lt m hm _ (by omega)
    · exact hm
theorem mask_has {v : Nat → Int} {q : Nat} : ∀ (l : List Rd) (m : Nat), hasS (maskS l v m) q = true ↔ hasS m q = true ∨ ∃ r ∈ l, r.probe.toNat = q ∧ badV v r = true
  | [], m => by simp [maskS]
  | r :: l, m => by
    show hasS (maskS l v (if badV v r = true then m ||| 2 ^ r.probe.toNat else m)) q = true ↔ _
    rw [mask_has l]
    by_cases hb : badV v r = true
    · rw [if_pos hb, hasS_or]
      simp only [Bool.or_eq_true, decide_eq_true_eq, List.mem_cons]
      constructor
      · rintro ((h | h) | ⟨r', h1, h2⟩)
        · exact .inl h
        · exact .inr ⟨r, .inl rfl, h, hb⟩
        · exact .inr ⟨r', .inr h1, h2⟩
      · rintro (h | ⟨r', h1 | h1, h2, h3⟩)
        · exact .inl (.inl h)
        · subst h1; exact .inl (.inr h2)
        · exact .inr ⟨r', h1, h2, h3⟩
    · rw [if_neg hb]
      simp only [List.mem_cons]
      constructor
      · rintro (h | ⟨r', h1, h2⟩)
        · exact .inl h
        · exact .inr ⟨r', .inr h1, h2⟩
      · rintro (h | ⟨r', h1 | h1, h2, h3⟩)
        · exact .inl h
        · subst h1; exact absurd h3 hb
        · exact .inr ⟨r', h1, h2, h3⟩

theorem size_mono {a b : Nat} (h : ∀ p, p < 8 → hasS a p = true → hasS b p = true) : ∀ n, n ≤ 8 → sizeS a n ≤ sizeS b n
  | 0, _ => Nat.le_refl _
  | n + 1, hn => by
    have ih := size_mono h n (by omega)
    have := h n (by omega)
    simp only [sizeS]
    split
    · rename_i e; rw [if_pos (this e)]; omega
    · split <;> omega
theorem size_congr {a b : Nat} (h : ∀ p, p < 8 → hasS a p = hasS b p) : ∀ n, n ≤ 8 → sizeS a n = sizeS b n
  | 0, _ => rfl
  | n + 1, hn => by
    simp only [sizeS]
    rw [size_congr h n (by omega), h n (by omega)]

theorem mask_expl {l : List Rd} {v : Nat → Int} : Expl l v (maskS l v 0) := fun r hr => by
  by_cases hb : badV v r = true
  · exact .inl ((mask_has l 0).2 (.inr ⟨r, hr, rfl, hb⟩))
  · exact .inr (badV_false.1 (by simpa using hb))
theorem expl_mask {l : List Rd} {v : Nat → Int} {s : Nat} (h : Expl l v s) : ∀ p, p < 8 → hasS (maskS l v 0) p = true → hasS s p = true := fun p _ hp => by
  rcases (mask_has l 0).1 hp with h0 | ⟨r, hr, e, hb⟩
  · rw [hasS_0] at h0; cases h0
  · rcases h r hr with h1 | h1
    · rw [← e]; exact h1
    · rw [badV_false.2 h1] at hb; cases hb
/-- An assignment agrees if the set of the probes that lie in it is small. -/
theorem ag_iff {n : Nat} {l : List Rd} {lo hi : List Int} {lies : Int} {v : Nat → Int} (hr : Rok n l) : (∃ s, AgS l lo hi lies s v) ↔ InB lo hi v ∧ (sizeS (maskS l v 0) 8 : Int) ≤ lies := by
  constructor
  · rintro ⟨s, hs⟩
    have := size_mono (expl_mask hs.expl) 8 (Nat.le_refl _)
    have h2 := hs.small
    exact ⟨hs.inb, by omega⟩
  · rintro ⟨h1, h2⟩
    exact ⟨_, mask_lt l 0 hr (by decide), h2, h1, mask_expl⟩
theorem ag_mask {n : Nat} {l : List Rd} {lo hi : List Int} {lies : Int} {v : Nat → Int} {s : Nat} (hr : Rok n l) (h : AgS l lo hi lies s v) : AgS l lo hi lies (maskS l v 0) v := by
  obtain ⟨h1, h2⟩ := (ag_iff hr).1 ⟨s, h⟩
  exact ⟨mask_lt l 0 hr (by decide), h2, h1, mask_expl⟩

/-- The values of a list, by their places. -/
abbrev vOf (V : List Int) (i : Nat) : Int := V.getD i 0

theorem wrong_size {n : Nat} {V : List Int} (hV : n ≤ V.length) : ∀ (l : List Rd) (ks : List Int) (m : Nat), Rok n l → m < 256 → ks.length = sizeS m 8 → (∀ p : Int, 0 ≤ p → p < 8 → (p ∈ ks ↔ hasS m p.toNat = true)) →
    (l.foldl (addW V) ks).length = sizeS (maskS l (vOf V) m) 8
  | [], ks, m, _, _, h, _ => h
  | r :: l, ks, m, hr, hm, h, hk => by
    have h0 := hr r (by simp)
    have hr' : Rok n l := fun r h => hr r (by simp [h])
    show (l.foldl (addW V) (addW V ks r)).length = sizeS (maskS l (vOf V) (if badV (vOf V) r = true then m ||| 2 ^ r.probe.toNat else m)) 8
    have hw : isWrong V r ↔ badV (vOf V) r = true := by
      unfold isWrong badV
      rw [decide_eq_true_iff]
      exact ⟨fun h => h.2.2, fun h => ⟨h0.2.2.1, by omega, h⟩⟩
    unfold addW
    by_cases hb : badV (vOf V) r = true
    · rw [if_pos hb, if_pos (hw.2 hb)]
      have hpk := hk r.probe h0.1 h0.2.1
      refine wrong_size hV l _ _ hr' (or_pow_lt m hm _ (by omega)) ?_ fun p p0 p8 => ?_
      · rw [size_or m hm _ (by omega)]
        unfold addK
        by_cases hc : ks.contains r.probe = true
        · rw [if_pos hc, if_pos (hpk.1 (by simpa using hc))]; exact h
        · rw [if_neg hc, if_neg (fun e => hc (by simpa using hpk.2 e))]; simp [h]
      · rw [hasS_or, Bool.or_eq_true, decide_eq_true_eq, ← hk p p0 p8]
        unfold addK
        by_cases hc : ks.contains r.probe = true
        · rw [if_pos hc]
          have hc' : r.probe ∈ ks := by simpa using hc
          exact ⟨.inl, fun h => h.elim id fun e => by rw [show p = r.probe by omega]; exact hc'⟩
        · rw [if_neg hc, List.mem_append, List.mem_singleton]
          exact ⟨fun h => h.imp_right fun e => by rw [e], fun h => h.imp_right fun e => by omega⟩
    · rw [if_neg hb, if_neg (fun e => hb (hw.1 e))]
      exact wrong_size hV l ks m hr' hm h hk
theorem agree_iff {n : Nat} {l : List Rd} {V : List Int} {lies : Int} (hr : Rok n l) (hV : n ≤ V.length) : agreeS l V lies = true ↔ (sizeS (maskS l (vOf V) 0) 8 : Int) ≤ lies := by
  unfold agreeS wrongS
  rw [wrong_size hV l [] 0 hr (by decide) (by decide) (fun p _ _ => by simp [hasS_0]), decide_eq_true_iff]

/-! ### What Narrow and Liars say depends on what agrees, and on nothing else -/

theorem outK_congr {a b : Nat} (h : ∀ p, p < 8 → hasS a p = hasS b p) : outK a 8 = outK b 8 := by
  unfold outK
  rw [List.filter_congr fun p hp => h p (List.mem_range.1 hp)]
theorem mem_outK {a : Nat} {p : Int} : p ∈ outK a 8 ↔ 0 ≤ p ∧ p < 8 ∧ hasS a p.toNat = true := by
  unfold outK
  simp only [List.mem_map, List.mem_filter, List.mem_range]
  constructor
  · rintro ⟨q, ⟨h1, h2⟩, rfl⟩
    exact ⟨Int.natCast_nonneg _, by show (q : Int) < 8; omega, h2⟩
  · rintro ⟨h1, h2, h3⟩
    exact ⟨p.toNat, ⟨by omega, h3⟩, by show ((p.toNat : Nat) : Int) = p; omega⟩

theorem list_ext_getD {a b : List Int} (hl : a.length = b.length) (h : ∀ i, i < a.length → a.getD i 0 = b.getD i 0) : a = b := by
  apply List.ext_getElem hl
  intro i h1 h2
  have := h i h1
  simpa [h1, h2] using this

/-- Two cases in which the same assignments agree, and the same probes lie in them. -/
theorem sem_congr {l l' : List Rd} {lo hi lo' hi' : List Int} {lies lies' : Int} {A B A' B' : List Int} {all all' : Nat} (h : Sem l lo hi lies A B all) (h' : Sem l' lo' hi' lies' A' B' all') (hn : lo.length = lo'.length)
    (hag : ∀ s v, AgS l lo hi lies s v ↔ AgS l' lo' hi' lies' s v) : A = A' ∧ B = B' ∧ outK all 8 = outK all' 8 := by
  refine ⟨list_ext_getD (by rw [h.lenA, h'.lenA, hn]) fun i hi => ?_, list_ext_getD (by rw [h.lenB, h'.lenB, hn]) fun i hi => ?_, outK_congr fun p hp => ?_⟩
  · rw [h.lenA] at hi
    obtain ⟨s, v, h1, h2⟩ := h.least i hi
    obtain ⟨s', v', h3, h4⟩ := h'.least i (by omega)
    have := h'.le s v ((hag s v).1 h1) i (by omega)
    have := h.le s' v' ((hag s' v').2 h3) i hi
    omega
  · rw [h.lenB] at hi
    obtain ⟨s, v, h1, h2⟩ := h.most i hi
    obtain ⟨s', v', h3, h4⟩ := h'.most i (by omega)
    have := h'.le s v ((hag s v).1 h1) i (by omega)
    have := h.le s' v' ((hag s' v').2 h3) i hi
    omega
  · have : hasS all p = true ↔ hasS all' p = true := by
      rw [h.liars p hp, h'.liars p hp]
      exact ⟨fun a s v hv => a s v ((hag s v).2 hv), fun a s v hv => a s v ((hag s v).1 hv)⟩
    cases e1 : hasS all p <;> cases e2 : hasS all' p <;> simp_all

theorem narrow_congr {l l' : List Rd} {lo hi lo' hi' : List Int} {lies lies' : Int} (h : checkS l lo hi lies = 0) (h' : checkS l' lo' hi' lies' = 0) (hn : lo.length = lo'.length)
    (hag : ∀ s v, AgS l lo hi lies s v ↔ AgS l' lo' hi' lies' s v) :
    narrowE l lo hi lies = narrowE l' lo' hi' lies' ∧ narrowA l lo hi lies = narrowA l' lo' hi' lies' ∧ narrowB l lo hi lies = narrowB l' lo' hi' lies' ∧ liarsE l lo hi lies = liarsE l' lo' hi' lies' ∧ liarsL l lo hi lies = liarsL l' lo' hi' lies' := by
  rcases narrow_sem h with ⟨⟨s, v, hv⟩, a1, a2, all, a3, a4⟩ | ⟨hx, a1, a2, a3, a4, a5⟩ <;> rcases narrow_sem h' with ⟨⟨s', v', hv'⟩, b1, b2, all', b3, b4⟩ | ⟨hx', b1, b2, b3, b4, b5⟩
  · obtain ⟨c1, c2, c3⟩ := sem_congr a4 b4 hn hag
    exact ⟨a1.trans b1.symm, c1, c2, a2.trans b2.symm, by rw [a3, b3, c3]⟩
  · exact absurd ⟨s, v, (hag s v).1 hv⟩ hx'
  · exact absurd ⟨s', v', (hag s' v').2 hv'⟩ hx
  · exact ⟨a1.trans b1.symm, a3.trans b3.symm, a4.trans b4.symm, a2.trans b2.symm, a5.trans b5.symm⟩

end Go.Proofs.Ytadjdnhnbkcakaa

/-! Walks: H1. -/
namespace Go.Proofs.Ytadjdnhnbkcakaa
open Go.RowKit

section
variable {P : Program} {N : Nat} {Z : List Nat} {F : Fr} {H : Hp} {ml : List MOper} {K : List Fp → Fr → Hp → Prop} {d : Nat} {g : Option (Nat × Bool)} {pre : List Nat}
/-- A cell of a row of an own list. -/
theorem rs_ld_g {α : Type} {f : α → List AV} {xs : List α} {t a n o e z : Nat} {fl : Bool} {x : Arg} {v : AV} {y : α} (hg : gOK F g = true) (hx : aarg F x = some (.ptr a t o)) (ha : get H a = some (.cells e z (xs.map f) fl)) (hy : xs[t]? = some y) (hv : (f y)[o]? = some v)
    (h : RS P N ml ((d, v) :: F) H (fun fps => K (([a], []) :: fps))) : RS P N (⟨some d, .ld false n x, g, pre⟩ :: ml) F H K := rs_ld_p hg hx ha (el := f y) (by simp [hy]) hv h
theorem rs_ld_ga {α : Type} {f : α → List AV} {xs : List α} {t a n o e z : Nat} {fl : Bool} {x : Arg} {cs : List AV} {y : α} (hg : gOK F g = true) (hx : aarg F x = some (.ptr a t o)) (ha : get H a = some (.cells e z (xs.map f) fl)) (hy : xs[t]? = some y) (hn : o + n ≤ (f y).length) (hc : ((f y).drop o).take n = cs)
    (h : RS P N ml ((d, .agg cs) :: F) H (fun fps => K (([a], []) :: fps))) : RS P N (⟨some d, .ld true n x, g, pre⟩ :: ml) F H K := rs_ld_pa hg hx ha (el := f y) (by simp [hy]) hn hc h
/-- An element of a read-only list. -/
theorem rs_ix_g {α : Type} {f : α → List AV} {xs : List α} {z : Nat} {x i : Arg} {k : IntKind} {t : Int} {y : α} (hg : gOK F g = true) (hx : aarg F x = some (.rs z (xs.map f))) (hi : aarg F i = some (.int k t)) (h0 : 0 ≤ t) (hy : xs[t.toNat]? = some y)
    (h : RS P N ml ((d, .rp (f y)) :: F) H (fun fps => K (([], []) :: fps))) : RS P N (⟨some d, .ixsl z x i, g, pre⟩ :: ml) F H K :=
  rs_ix_r hg hx hi h0 (by have := (List.getElem?_eq_some_iff.1 hy).1; simp; omega) (by simp [hy]) h
/-- An own array. -/
theorem rs_ld_f {α : Type} {f : α → AV} {L : List α} {a o n e z k : Nat} {fl : Bool} {x : Arg} {y : α} (hg : gOK F g = true) (hx : aarg F x = some (.ptr a 0 o)) (ha : get H a = some (.cells e z [L.map f] fl)) (hk : o = k) (hy : L[k]? = some y)
    (h : RS P N ml ((d, f y) :: F) H (fun fps => K (([a], []) :: fps))) : RS P N (⟨some d, .ld false n x, g, pre⟩ :: ml) F H K :=
  rs_ld_p hg hx ha (el := L.map f) rfl (by rw [hk]; simp [hy]) h
theorem rs_st_f {α : Type} {f : α → AV} {L : List α} {a o e z k : Nat} {y : α} {v : AV} {fl : Bool} {x w : Arg} (hg : gOK F g = true) (hx : aarg F x = some (.ptr a 0 o)) (hw : aarg F w = some v) (hv : v = f y) (hc : acells (f y) = some [f y]) (hcl : closedV (f y) = true) (ha : get H a = some (.cells e z [L.map f] fl)) (hk : o = k) (ho : k < L.length)
    (h : RS P N ml F ((a, .cells e z [(L.set k y).map f] fl) :: H) (fun fps => K (([], [a]) :: fps))) : RS P N (⟨none, .st 1 x w, g, pre⟩ :: ml) F H K := by
  subst hv
  exact rs_st (el := L.map f) (fl' := fl) hg hx hw ha hc rfl rfl (by simp; omega) (by subst hk; simp [setAt, List.map_set]) (by simp [closedL, hcl]) h
end
theorem at_some {α : Type} {L : List α} {k : Nat} (h : k < L.length) : ∃ a, L[k]? = some a ∧ a ∈ L := ⟨L[k], List.getElem?_eq_getElem h, List.getElem_mem h⟩
theorem getD_of {L : List Int} {k : Nat} {a : Int} (h : L[k]? = some a) : L.getD k 0 = a := by simp [List.getD_eq_getElem?_getD, h]
theorem getDb_of {L : List Bool} {k : Nat} {a : Bool} (h : L[k]? = some a) : L.getD k false = a := by simp [List.getD_eq_getElem?_getD, h]
theorem lt_of_at {α : Type} {L : List α} {k : Nat} {a : α} (h : L[k]? = some a) : k < L.length := (List.getElem?_eq_some_iff.1 h).1
theorem mem_of_at {α : Type} {L : List α} {k : Nat} {a : α} (h : L[k]? = some a) : a ∈ L := List.mem_of_getElem? h

theorem tmodr (a d : Int) (ha : 0 ≤ a) (hd : 0 < d) : 0 ≤ a.tmod d ∧ a.tmod d < d := by
  rw [Int.tmod_eq_emod_of_nonneg ha]
  exact ⟨Int.emod_nonneg _ (by omega), Int.emod_lt_of_pos _ hd⟩
theorem hv_slm {α : Type} {f : α → List AV} {xs : List α} {H Hs : Hp} {rd : List Nat} {i e z n : Nat} (hi : i ∈ rd) (hg : get H i = some (.cells e z (xs.map f) true)) (hn : xs.length = n) : HV H Hs rd false (.sl i 0 n) (.rs z (xs.map f)) :=
  hv_sl hi hg (by simp; omega) (by rw [List.drop_zero, List.take_of_length_le (by simp; omega)])
abbrev cu8 (x : Int) : List AV := [.int .u8 x]

end Go.Proofs.Ytadjdnhnbkcakaa

/-! Sights, and what Check, Cells, Liars and Verdict say of them, as plain data. No program in sight. -/
namespace Go.Proofs.Ytadjdnhnbkcakaa
open Go.RowKit

/-- A sight. -/
structure Sg where
  (gauge cell : Int)
  there : Bool
deriving DecidableEq
abbrev cS (r : Sg) : List AV := [.int .i64 r.gauge, .int .i64 r.cell, .bool r.there]

/-! ### Bits -/
def bitN (a c : Nat) : Int := if a.testBit c = true then 1 else 0
theorem bitN_mod (a c : Nat) : ((a / 2 ^ c % 2 : Nat) : Int) = bitN a c := by
  unfold bitN
  rw [Nat.testBit_eq_decide_div_mod_eq]
  have := Nat.mod_two_eq_zero_or_one (a / 2 ^ c)
  split <;> simp_all
theorem fdiv_nat (a c : Nat) (hc : c < 64) : ((a : Nat) : Int).fdiv (2 ^ min ((c : Nat) : Int).toNat 64) = ((a / 2 ^ c : Nat) : Int) := by
  rw [Int.toNat_natCast, Nat.min_eq_left (by omega)]
  rw [Int.fdiv_eq_ediv_of_nonneg _ (by exact_mod_cast Nat.zero_le _)]
  norm_cast
theorem bit_u64 (a c : Nat) (ha : a < 18446744073709551616) (hc : c < 64) : bits .and .u64 (((a : Nat) : Int).fdiv (2 ^ min ((c : Nat) : Int).toNat IntKind.u64.bits)) 1 = bitN a c := by
  rw [show IntKind.u64.bits = 64 from rfl, fdiv_nat a c hc]
  have h1 : a / 2 ^ c < 18446744073709551616 := Nat.lt_of_le_of_lt (Nat.div_le_self _ _) ha
  have := u64_and_nat (a / 2 ^ c) 1 h1 (by decide)
  rw [Nat.and_one_is_mod] at this
  rw [← bitN_mod]
  exact this
theorem shl_u64 (c : Nat) (hc : c < 64) : IntKind.u64.wrap (1 * 2 ^ min ((c : Nat) : Int).toNat IntKind.u64.bits) = ((2 ^ c : Nat) : Int) := by
  rw [show IntKind.u64.bits = 64 from rfl, Int.toNat_natCast, Nat.min_eq_left (by omega), IntKind.wrap_u64, Int.one_mul]
  have h : 2 ^ c < 18446744073709551616 := by
    calc 2 ^ c < 2 ^ 64 := Nat.pow_lt_pow_right (by decide) hc
      _ = 18446744073709551616 := by decide
  have e : ((2 : Int) ^ c) = ((2 ^ c : Nat) : Int) := by norm_cast
  rw [e]
  generalize (2 ^ c : Nat) = x at h ⊢
  omega
theorem and_zero {a b : Nat} : a &&& b = 0 ↔ ∀ i, ¬ (a.testBit i = true ∧ b.testBit i = true) := by
  constructor
  · intro h i ⟨h1, h2⟩
    have := Nat.testBit_and a b i
    rw [h, h1, h2] at this
    simp at this
  · intro h
    apply Nat.eq_of_testBit_eq
    intro i
    rw [Nat.testBit_and, Nat.zero_testBit]
    cases e1 : a.testBit i <;> cases e2 : b.testBit i <;> first | rfl | exact absurd ⟨e1, e2⟩ (h i)

/-! ### Check -/
def badS (cells : Int) (r : Sg) : Prop := r.gauge < 0 ∨ r.gauge ≥ 8 ∨ r.cell < 0 ∨ r.cell ≥ cells
instance (cells : Int) (r : Sg) : Decidable (badS cells r) := by unfold badS; infer_instance
def checkI (l : List Sg) (cells lies : Int) : Int :=
  if 40 < l.length then 2
  else if cells < 0 ∨ 16 < cells ∨ lies < 0 ∨ 3 < lies then 3
  else if l.any (fun r => decide (badS cells r)) = true then 3
  else 0
section
variable {l : List Sg} {cells lies : Int}
theorem checkI_1 (h : 40 < l.length) : checkI l cells lies = 2 := if_pos h
theorem checkI_2 (h1 : l.length ≤ 40) (h : cells < 0 ∨ 16 < cells ∨ lies < 0 ∨ 3 < lies) : checkI l cells lies = 3 := by
  unfold checkI; rw [if_neg (by omega), if_pos h]
theorem checkI_3 (h1 : l.length ≤ 40) (h2 : 0 ≤ cells ∧ cells ≤ 16 ∧ 0 ≤ lies ∧ lies ≤ 3) {r : Sg} (hr : r ∈ l) (h : badS cells r) : checkI l cells lies = 3 := by
  unfold checkI; rw [if_neg (by omega), if_neg (by omega), if_pos (List.any_eq_true.2 ⟨r, hr, decide_eq_true h⟩)]
theorem checkI_4 (h1 : l.length ≤ 40) (h2 : 0 ≤ cells ∧ cells ≤ 16 ∧ 0 ≤ lies ∧ lies ≤ 3) (h : ∀ r ∈ l, ¬ badS cells r) : checkI l cells lies = 0 := by
  unfold checkI; rw [if_neg (by omega), if_neg (by omega), if_neg]
  intro hx
  obtain ⟨r, hr, hb⟩ := List.any_eq_true.1 hx
  exact h r hr (of_decide_eq_true hb)
/-- Valid sights. -/
structure SgOk (l : List Sg) (cells lies : Int) : Prop where
  len : l.length ≤ 40
  c0 : 0 ≤ cells
  c16 : cells ≤ 16
  l0 : 0 ≤ lies
  l3 : lies ≤ 3
  sg : ∀ r ∈ l, 0 ≤ r.gauge ∧ r.gauge < 8 ∧ 0 ≤ r.cell ∧ r.cell < cells
theorem checkI_ok : checkI l cells lies = 0 ↔ SgOk l cells lies := by
  constructor
  · intro h
    unfold checkI at h
    split at h
    · cases h
    · split at h
      · cases h
      · split at h
        · cases h
        · rename_i h1 h2 h3
          refine ⟨by omega, by omega, by omega, by omega, by omega, fun r hr => ?_⟩
          have : ¬ badS cells r := fun hb => h3 (List.any_eq_true.2 ⟨r, hr, decide_eq_true hb⟩)
          unfold badS at this
          omega
  · intro h
    have h1 := h.c0
    have h2 := h.c16
    have h3 := h.l0
    have h4 := h.l3
    refine checkI_4 h.len (by omega) fun r hr => ?_
    have := h.sg r hr
    unfold badS
    omega
end

/-! ### What is left by a set of gauges -/
def thS (s : Nat) (m : Nat) (r : Sg) : Nat := if hasS s r.gauge.toNat = true then m else if r.there = true then m ||| 2 ^ r.cell.toNat else m
def goS (s : Nat) (m : Nat) (r : Sg) : Nat := if hasS s r.gauge.toNat = true then m else if r.there = true then m else m ||| 2 ^ r.cell.toNat
def thM (l : List Sg) (s : Nat) : Nat := l.foldl (thS s) 0
def goM (l : List Sg) (s : Nat) : Nat := l.foldl (goS s) 0
/-- A set of gauges explains the sights. -/
def exI (l : List Sg) (lies : Int) (s : Nat) : Bool := decide ((sizeS s 8 : Int) ≤ lies) && decide (thM l s &&& goM l s = 0)
abbrev T3 := Nat × Nat × Nat
abbrev cT (t : T3) : List AV := [.int .u64 (t.1 : Int), .int .u64 (t.2.1 : Int), .int .u64 (t.2.2 : Int)]
def mkT (l : List Sg) (s : Nat) : T3 := (thM l s, goM l s, s)
def tsK (l : List Sg) (lies : Int) (k : Nat) : List T3 := ((List.range k).filter (exI l lies)).map (mkT l)
def andT (a b : T3) : T3 := (a.1 &&& b.1, a.2.1 &&& b.2.1, a.2.2 &&& b.2.2)
def wholeT (ts : List T3) : T3 := ts.foldl andT (ts.headD (0, 0, 0))

theorem tsK_t {l : List Sg} {lies : Int} {k : Nat} (h : exI l lies k = true) : tsK l lies (k + 1) = tsK l lies k ++ [mkT l k] := by
  simp only [tsK, List.range_succ, List.filter_append, List.map_append]
  rw [List.filter_cons_of_pos h]; rfl
theorem tsK_f {l : List Sg} {lies : Int} {k : Nat} (h : exI l lies k = false) : tsK l lies (k + 1) = tsK l lies k := by
  simp only [tsK, List.range_succ, List.filter_append, List.map_append]
  rw [List.filter_cons_of_neg (by simpa using h)]; simp
theorem tsK_len (l : List Sg) (lies : Int) (k : Nat) : (tsK l lies k).length ≤ k := by
  have := List.length_filter_le (exI l lies) (List.range k)
  simpa [tsK] using this

theorem fold_has (f : Nat → Sg → Nat) (q : Nat → Sg → Bool) (hf : ∀ m r i, (f m r).testBit i = (m.testBit i || q i r)) : ∀ (l : List Sg) (m i : Nat), (l.foldl f m).testBit i = true ↔ m.testBit i = true ∨ ∃ r ∈ l, q i r = true
  | [], m, i => by simp
  | r :: l, m, i => by
    rw [List.foldl_cons, fold_has f q hf l (f m r) i, hf, Bool.or_eq_true]
    simp only [List.mem_cons]
    constructor
    · rintro ((h | h) | ⟨r', h1, h2⟩)
      · exact .inl h
      · exact .inr ⟨r, .inl rfl, h⟩
      · exact .inr ⟨r', .inr h1, h2⟩
    · rintro (h | ⟨r', rfl | h1, h2⟩)
      · exact .inl (.inl h)
      · exact .inl (.inr h2)
      · exact .inr ⟨r', h1, h2⟩
def qTh (s i : Nat) (r : Sg) : Bool := !hasS s r.gauge.toNat && r.there && decide (r.cell.toNat = i)
def qGo (s i : Nat) (r : Sg) : Bool := !hasS s r.gauge.toNat && !r.there && decide (r.cell.toNat = i)
theorem thS_bit (s m i : Nat) (r : Sg) : (thS s m r).testBit i = (m.testBit i || qTh s i r) := by
  unfold thS qTh
  cases hasS s r.gauge.toNat <;> cases r.there <;> simp [Nat.testBit_or, Nat.testBit_two_pow]
theorem goS_bit (s m i : Nat) (r : Sg) : (goS s m r).testBit i = (m.testBit i || qGo s i r) := by
  unfold goS qGo
  cases hasS s r.gauge.toNat <;> cases r.there <;> simp [Nat.testBit_or, Nat.testBit_two_pow]
theorem thM_bit {l : List Sg} {s i : Nat} : (thM l s).testBit i = true ↔ ∃ r ∈ l, hasS s r.gauge.toNat = false ∧ r.there = true ∧ r.cell.toNat = i := by
  unfold thM
  rw [fold_has (thS s) (qTh s) (fun m r i => thS_bit s m i r) l 0 i]
  simp [qTh, and_assoc]
theorem goM_bit {l : List Sg} {s i : Nat} : (goM l s).testBit i = true ↔ ∃ r ∈ l, hasS s r.gauge.toNat = false ∧ r.there = false ∧ r.cell.toNat = i := by
  unfold goM
  rw [fold_has (goS s) (qGo s) (fun m r i => goS_bit s m i r) l 0 i]
  simp [qGo, and_assoc]
theorem or_lt {a c : Nat} (ha : a < 65536) (hc : c < 16) : a ||| 2 ^ c < 65536 := by
  have h2 : 2 ^ c < 2 ^ 16 := Nat.pow_lt_pow_right (by decide) hc
  exact Nat.or_lt_two_pow (n := 16) ha h2
theorem fold_lt (f : Nat → Sg → Nat) (hf : ∀ m r, r.cell.toNat < 16 → m < 65536 → f m r < 65536) : ∀ (l : List Sg) (m : Nat), (∀ r ∈ l, r.cell.toNat < 16) → m < 65536 → l.foldl f m < 65536
  | [], m, _, h => h
  | r :: l, m, hl, h => fold_lt f hf l (f m r) (fun r hr => hl r (by simp [hr])) (hf m r (hl r (by simp)) h)
theorem thS_lt (s m : Nat) (r : Sg) (h : r.cell.toNat < 16) (hm : m < 65536) : thS s m r < 65536 := by
  unfold thS; split
  · exact hm
  · split
    · exact or_lt hm h
    · exact hm
theorem goS_lt (s m : Nat) (r : Sg) (h : r.cell.toNat < 16) (hm : m < 65536) : goS s m r < 65536 := by
  unfold goS; split
  · exact hm
  · split
    · exact hm
    · exact or_lt hm h
theorem take_lt (l : List Sg) (k : Nat) (h : ∀ r ∈ l, r.cell.toNat < 16) : ∀ r ∈ l.take k, r.cell.toNat < 16 := fun r hr => h r (List.mem_of_mem_take hr)
theorem thM_lt {l : List Sg} (h : ∀ r ∈ l, r.cell.toNat < 16) (s : Nat) : thM l s < 65536 := fold_lt _ (thS_lt s) l 0 h (by decide)
theorem goM_lt {l : List Sg} (h : ∀ r ∈ l, r.cell.toNat < 16) (s : Nat) : goM l s < 65536 := fold_lt _ (goS_lt s) l 0 h (by decide)
theorem SgOk.cell {l : List Sg} {cells lies : Int} (h : SgOk l cells lies) : ∀ r ∈ l, r.cell.toNat < 16 := fun r hr => by
  have := h.sg r hr
  have := h.c16
  omega

/-! ### What all have in common -/
theorem mem_tsK {l : List Sg} {lies : Int} {k : Nat} {t : T3} : t ∈ tsK l lies k ↔ ∃ s, s < k ∧ exI l lies s = true ∧ t = mkT l s := by
  simp only [tsK, List.mem_map, List.mem_filter, List.mem_range]
  exact ⟨fun ⟨s, ⟨h1, h2⟩, h3⟩ => ⟨s, h1, h2, h3.symm⟩, fun ⟨s, h1, h2, h3⟩ => ⟨s, ⟨h1, h2⟩, h3.symm⟩⟩
theorem foldT (f : T3 → Nat) (hf : ∀ a b, f (andT a b) = f a &&& f b) : ∀ (ts : List T3) (t0 : T3) (i : Nat), (f (ts.foldl andT t0)).testBit i = true ↔ (f t0).testBit i = true ∧ ∀ t ∈ ts, (f t).testBit i = true
  | [], t0, i => by simp
  | t :: ts, t0, i => by
    rw [List.foldl_cons, foldT f hf ts (andT t0 t) i, hf, Nat.testBit_and, Bool.and_eq_true]
    simp only [List.mem_cons, forall_eq_or_imp, and_assoc]
theorem whole_bit (f : T3 → Nat) (hf : ∀ a b, f (andT a b) = f a &&& f b) {ts : List T3} (hne : ts ≠ []) (i : Nat) : (f (wholeT ts)).testBit i = true ↔ ∀ t ∈ ts, (f t).testBit i = true := by
  unfold wholeT
  rw [foldT f hf]
  cases ts with
  | nil => exact absurd rfl hne
  | cons t ts => simp only [List.headD_cons, List.mem_cons, forall_eq_or_imp]; exact ⟨fun h => h.2, fun h => ⟨h.1, h⟩⟩
theorem foldT_lt (f : T3 → Nat) (hf : ∀ a b, f (andT a b) = f a &&& f b) {B : Nat} : ∀ (ts : List T3) (t0 : T3), f t0 < B → f (ts.foldl andT t0) < B
  | [], t0, h => h
  | t :: ts, t0, h => foldT_lt f hf ts (andT t0 t) (by rw [hf]; exact Nat.lt_of_le_of_lt Nat.and_le_left h)
theorem whole_lt (f : T3 → Nat) (hf : ∀ a b, f (andT a b) = f a &&& f b) {B : Nat} {ts : List T3} (hne : ts ≠ []) (h : ∀ t ∈ ts, f t < B) : f (wholeT ts) < B := by
  unfold wholeT
  cases ts with
  | nil => exact absurd rfl hne
  | cons t ts => exact foldT_lt f hf _ _ (h t (by simp))

section
variable (l : List Sg) (cells lies : Int)
abbrev TS := tsK l lies 256
def cellsE : Int := if checkI l cells lies ≠ 0 then checkI l cells lies else if tsK l lies 256 = [] then 21 else 0
def cellF (w : T3) (c : Nat) : Int := bitN w.1 c - bitN w.2.1 c
def cellW (w : T3) (k : Nat) : List Int := (List.range k).map (cellF w)
def cellsL : List Int := if checkI l cells lies ≠ 0 ∨ tsK l lies 256 = [] then [] else cellW (wholeT (tsK l lies 256)) cells.toNat
def sureL : List Int := if checkI l cells lies ≠ 0 ∨ tsK l lies 256 = [] then [] else outK (wholeT (tsK l lies 256)).2.2 8
end
section
variable {l : List Sg} {cells lies : Int}
theorem cells_1 (h : checkI l cells lies ≠ 0) : cellsE l cells lies = checkI l cells lies ∧ cellsL l cells lies = [] ∧ sureL l cells lies = [] := ⟨if_pos h, if_pos (.inl h), if_pos (.inl h)⟩
theorem cells_2 (h0 : checkI l cells lies = 0) (h : tsK l lies 256 = []) : cellsE l cells lies = 21 ∧ cellsL l cells lies = [] ∧ sureL l cells lies = [] := ⟨by rw [cellsE, if_neg (by omega), if_pos h], if_pos (.inr h), if_pos (.inr h)⟩
theorem cells_3 (h0 : checkI l cells lies = 0) (h : tsK l lies 256 ≠ []) : cellsE l cells lies = 0 ∧ cellsL l cells lies = cellW (wholeT (tsK l lies 256)) cells.toNat ∧ sureL l cells lies = outK (wholeT (tsK l lies 256)).2.2 8 :=
  ⟨by rw [cellsE, if_neg (by omega), if_neg h], if_neg (fun e => e.elim (fun e => e h0) h), if_neg (fun e => e.elim (fun e => e h0) h)⟩
theorem length_cellW (w : T3) (k : Nat) : (cellW w k).length = k := by simp [cellW]
theorem cellW_succ (w : T3) (k : Nat) : cellW w (k + 1) = cellW w k ++ [cellF w k] := by simp [cellW, List.range_succ]
theorem cellsL_len : (cellsL l cells lies).length ≤ 16 := by
  unfold cellsL
  split
  · simp
  · rename_i h
    rw [length_cellW]
    have : checkI l cells lies = 0 := by
      by_cases e : checkI l cells lies = 0
      · exact e
      · exact absurd (.inl e) h
    have := (checkI_ok.1 this).c16
    omega
theorem sureL_len : (sureL l cells lies).length ≤ 8 := by
  unfold sureL
  split
  · simp
  · exact outK_le _ _
theorem ts_lt (h : SgOk l cells lies) {t : T3} (ht : t ∈ tsK l lies 256) : t.1 < 65536 ∧ t.2.1 < 65536 ∧ t.2.2 < 256 := by
  obtain ⟨s, h1, _, rfl⟩ := mem_tsK.1 ht
  exact ⟨thM_lt h.cell s, goM_lt h.cell s, h1⟩
end
end Go.Proofs.Ytadjdnhnbkcakaa
