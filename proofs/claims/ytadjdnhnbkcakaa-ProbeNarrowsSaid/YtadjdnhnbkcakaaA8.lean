/-
  Walks: A8.
-/
import Derived.Test.YtadjdnhnbkcakaaA7
namespace Go.Proofs.Ytadjdnhnbkcakaa
open Go.RowKit

theorem renv_fn {σ : Nat → Nat} {f : Fn} {cs cs' : List AV} (h : RenVs σ cs cs') : RenV σ (.fn f cs) (.fn f cs') := .fn h.at_.1 h.at_.2
theorem renob_1 {σ : Nat → Nat} {e z : Nat} {v v' : AV} (h : RenV σ v v') : RenOb σ (.cells e z [[v]] false) (.cells e z [[v']] false) := by
  refine .cells (fl := false) rfl fun j el el' h1 h2 => ?_
  cases j with
  | zero =>
    simp at h1 h2; subst h1 h2
    refine ⟨rfl, fun o u u' h3 h4 => ?_⟩
    cases o with
    | zero => simp at h3 h4; subst h3 h4; exact h
    | succ o => simp at h3
  | succ j => simp at h1
theorem fc48r (i n : Nat) (xs : List Int) (hn : xs.length = n) (hx : xs.length ≤ 1000000) : FC Try.prog 48 [ints xs] [] (.sl i 0 n) [(i, .cells 3 1 (xs.map ci) true)] false := by
  subst hn
  exact fc_ren (swp 7 i) (swp_swp _ _) (fc48 xs hx) (.cons (.closed rfl) .nil) .nil (.sl (by simp [swp])) (.cons (by simp [swp]) .flat .nil)
theorem check_ok {l : List Rd} {lo hi : List Int} {lies : Int} (h : checkS l lo hi lies = 0) : l.length ≤ 40 ∧ hi.length = lo.length ∧ lo.length ≤ 6 ∧ (0 ≤ lies ∧ lies ≤ 3) ∧ (∀ r ∈ l, 0 ≤ r.probe ∧ r.probe < 8 ∧ 0 ≤ r.of_ ∧ r.of_ < lo.length) := by
  unfold checkS at h
  split at h
  · omega
  rename_i h1
  split at h
  · omega
  rename_i h2
  split at h
  · omega
  rename_i h3
  split at h
  · omega
  split at h
  · omega
  rename_i h5
  refine ⟨by omega, by omega, by omega, by omega, fun r hr => ?_⟩
  have : ¬ badR lo.length r := fun hb => h5 (List.any_eq_true.2 ⟨r, hr, decide_eq_true hb⟩)
  unfold badR at this
  omega
/-- What Narrow and Liars say. -/
def ex51 (l : List Rd) (lo hi : List Int) (lies : Int) : (List Int × List Int) × Nat := exK l (ofS lo hi) lies lo.length (f51 lo.length) (hi, lo) 256
def ex54 (l : List Rd) (lo hi : List Int) (lies : Int) : Nat × Nat := exK l (ofS lo hi) lies lo.length f54 255 256
def narrowE (l : List Rd) (lo hi : List Int) (lies : Int) : Int := if checkS l lo hi lies ≠ 0 then checkS l lo hi lies else if (ex51 l lo hi lies).2 = 0 then 21 else 0
def narrowA (l : List Rd) (lo hi : List Int) (lies : Int) : List Int := if checkS l lo hi lies ≠ 0 ∨ (ex51 l lo hi lies).2 = 0 then [] else (ex51 l lo hi lies).1.1
def narrowB (l : List Rd) (lo hi : List Int) (lies : Int) : List Int := if checkS l lo hi lies ≠ 0 ∨ (ex51 l lo hi lies).2 = 0 then [] else (ex51 l lo hi lies).1.2
def outK (all k : Nat) : List Int := ((List.range k).filter fun i => hasS all i).map Int.ofNat
def liarsE (l : List Rd) (lo hi : List Int) (lies : Int) : Int := if checkS l lo hi lies ≠ 0 then checkS l lo hi lies else if (ex54 l lo hi lies).2 = 0 then 21 else 0
def liarsL (l : List Rd) (lo hi : List Int) (lies : Int) : List Int := if checkS l lo hi lies ≠ 0 ∨ (ex54 l lo hi lies).2 = 0 then [] else outK (ex54 l lo hi lies).1 8
theorem outK_t (all k : Nat) (h : hasS all k = true) : outK all (k + 1) = outK all k ++ [(k : Int)] := by simp [outK, List.range_succ, h]
theorem outK_f (all k : Nat) (h : hasS all k = false) : outK all (k + 1) = outK all k := by simp [outK, List.range_succ, h]
theorem outK_le (all k : Nat) : (outK all k).length ≤ k := by
  have := List.length_filter_le (fun i => hasS all i) (List.range k)
  simpa [outK] using this
section
variable {l : List Rd} {lo hi : List Int} {lies : Int}
theorem narrow_1 (h : checkS l lo hi lies ≠ 0) : narrowE l lo hi lies = checkS l lo hi lies ∧ narrowA l lo hi lies = [] ∧ narrowB l lo hi lies = [] := ⟨if_pos h, if_pos (.inl h), if_pos (.inl h)⟩
theorem narrow_2 (h0 : checkS l lo hi lies = 0) (h : (ex51 l lo hi lies).2 = 0) : narrowE l lo hi lies = 21 ∧ narrowA l lo hi lies = [] ∧ narrowB l lo hi lies = [] := ⟨by rw [narrowE, if_neg (by omega), if_pos h], if_pos (.inr h), if_pos (.inr h)⟩
theorem narrow_3 (h0 : checkS l lo hi lies = 0) (h : (ex51 l lo hi lies).2 ≠ 0) : narrowE l lo hi lies = 0 ∧ narrowA l lo hi lies = (ex51 l lo hi lies).1.1 ∧ narrowB l lo hi lies = (ex51 l lo hi lies).1.2 := ⟨by rw [narrowE, if_neg (by omega), if_neg h], if_neg (by omega), if_neg (by omega)⟩
theorem liars_1 (h : checkS l lo hi lies ≠ 0) : liarsE l lo hi lies = checkS l lo hi lies ∧ liarsL l lo hi lies = [] := ⟨if_pos h, if_pos (.inl h)⟩
theorem liars_2 (h0 : checkS l lo hi lies = 0) (h : (ex54 l lo hi lies).2 = 0) : liarsE l lo hi lies = 21 ∧ liarsL l lo hi lies = [] := ⟨by rw [liarsE, if_neg (by omega), if_pos h], if_pos (.inr h)⟩
theorem liars_3 (h0 : checkS l lo hi lies = 0) (h : (ex54 l lo hi lies).2 ≠ 0) : liarsE l lo hi lies = 0 ∧ liarsL l lo hi lies = outK (ex54 l lo hi lies).1 8 := ⟨by rw [liarsE, if_neg (by omega), if_neg h], if_neg (by omega)⟩
theorem ex51_len (h2 : hi.length = lo.length) : (ex51 l lo hi lies).1.1.length = lo.length ∧ (ex51 l lo hi lies).1.2.length = lo.length :=
  exK_inv l (ofS lo hi) lies lo.length (f51 lo.length) (hi, lo) 256 (fun s => s.1.length = lo.length ∧ s.2.length = lo.length) ⟨h2, rfl⟩ (fun s k y h _ => ⟨by simp [f51, minK, h.1], by simp [f51, maxK, h.2]⟩) (Nat.le_refl _)
theorem ex54_lt : (ex54 l lo hi lies).1 < 256 :=
  exK_inv l (ofS lo hi) lies lo.length f54 255 256 (fun s => s < 256) (by decide) (fun s k y h _ => Nat.lt_of_le_of_lt Nat.and_le_left h) (Nat.le_refl _)
end
theorem fc49ar (l : List Rd) (lo hi : List Int) (lies : Int) (hl : l.length ≤ 40) (h2 : hi.length = lo.length) (h6 : lo.length ≤ 6) (hr : ∀ r ∈ l, 0 ≤ r.probe ∧ r.probe < 8 ∧ 0 ≤ r.of_ ∧ r.of_ < lo.length) :
    FC Try.prog 49 [.rs 4 (l.map cR), .agg ((ofS lo hi).map iv), iv lies, .fn (.func 51) [.ptr 5 0 0, .ptr 12 0 0, .ptr 13 0 0]]
      [(5, .cells 28 1 [[ints lo]] true), (12, .cells 28 1 [[.sl 2001 0 lo.length]] false), (13, .cells 28 1 [[.sl 2002 0 lo.length]] false), (2001, .cells 3 1 (hi.map ci) true), (2002, .cells 3 1 (lo.map ci) true)] (iv ((ex51 l lo hi lies).2 : Int))
      [(5, .cells 28 1 [[ints lo]] true), (12, .cells 28 1 [[.sl 2001 0 lo.length]] false), (13, .cells 28 1 [[.sl 2002 0 lo.length]] false), (2001, .cells 3 1 ((ex51 l lo hi lies).1.1.map ci) true), (2002, .cells 3 1 ((ex51 l lo hi lies).1.2.map ci) true)] true := by
  have h := fc49a l (ofS lo hi) lies lo.length (length_ofS lo hi) (ofS_12 lo hi _ rfl h2 h6) h6 (by omega) (fun r hr' => ⟨(hr r hr').1, (hr r hr').2.1, (hr r hr').2.2.1, by have := (hr r hr').2.2.2; omega⟩) lo hi lo lo.length rfl h2 rfl h6
  exact fc_ren (swp 1005 5) (swp_swp _ _) h (.cons (.closed rfl) (.cons (.closed (scoped_iv _ _)) (.cons (.closed rfl) (.cons (renv_fn (.cons (.ptr rfl) (.cons (.ptr rfl) (.cons (.ptr rfl) .nil)))) .nil))))
    (.cons rfl .flat (.cons rfl (renob_1 (.sl rfl)) (.cons rfl (renob_1 (.sl rfl)) (.cons rfl .flat (.cons rfl .flat .nil))))) (.closed rfl) (.cons rfl .flat (.cons rfl (renob_1 (.sl rfl)) (.cons rfl (renob_1 (.sl rfl)) (.cons rfl .flat (.cons rfl .flat .nil)))))
theorem fc49br (l : List Rd) (lo hi : List Int) (lies : Int) (hl : l.length ≤ 40) (h2 : hi.length = lo.length) (h6 : lo.length ≤ 6) (hr : ∀ r ∈ l, 0 ≤ r.probe ∧ r.probe < 8 ∧ 0 ≤ r.of_ ∧ r.of_ < lo.length) :
    FC Try.prog 49 [.rs 4 (l.map cR), .agg ((ofS lo hi).map iv), iv lies, .fn (.func 54) [.ptr 11 0 0]]
      [(11, .cells 94 1 [[.int .u64 ((255 : Nat) : Int)]] true)] (iv ((ex54 l lo hi lies).2 : Int)) [(11, .cells 94 1 [[.int .u64 (((ex54 l lo hi lies).1 : Nat) : Int)]] true)] true := by
  have h := fc49b l (ofS lo hi) lies lo.length (length_ofS lo hi) (ofS_12 lo hi _ rfl h2 h6) h6 (by omega) (fun r hr' => ⟨(hr r hr').1, (hr r hr').2.1, (hr r hr').2.2.1, by have := (hr r hr').2.2.2; omega⟩) 255 (by decide)
  exact fc_ren (swp 1011 11) (swp_swp _ _) h (.cons (.closed rfl) (.cons (.closed (scoped_iv _ _)) (.cons (.closed rfl) (.cons (renv_fn (.cons (.ptr rfl) .nil)) .nil)))) (.cons rfl .flat .nil) (.closed rfl) (.cons rfl .flat .nil)
theorem has_bits_u1 : ∀ s : Nat, s < 256 → ∀ p : Nat, p < 8 → decide (bits .and .u64 ((s : Int).fdiv (2 ^ min ((p : Int)).toNat 64)) 1 = 1) = hasS s p := by decide +kernel

def mc21 : MC := (.seq (.reg [⟨(some 5), (.box 28 1 (.t 1)), none, []⟩, ⟨(some 8), (.mv (.c .nils)), none, []⟩, ⟨(some 9), (.mv (.c .nils)), none, [1]⟩, ⟨(some 10), (.mv (.c (.int .i64 0))), none, [2]⟩] false) (.seq (.seq (.reg [⟨(some 15), (.mv (.t 0)), none, []⟩, ⟨(some 16), (.ld false 1 (.t 5)), none, []⟩, ⟨(some 17), (.mv (.t 2)), none, []⟩, ⟨(some 18), (.mv (.t 3)), none, []⟩, ⟨(some 19), (.call 19 [(.t 15), (.t 16), (.t 17), (.t 18)]), none, [0, 1, 2, 3]⟩, ⟨(some 11), (.mv (.t 19)), none, [4, 4, 0, 1, 2, 3, 4]⟩] false) (.seq (.reg [⟨(some 20), (.mv (.t 11)), none, []⟩, ⟨(some 21), (.bin .neq (.t 20) (.c (.int .i64 0))), none, [0]⟩] false) (.cond (.t 21) (.seq (.reg [⟨(some 22), (.mv (.t 11)), none, []⟩, ⟨(some 8), (.mv (.c .nils)), none, []⟩, ⟨(some 9), (.mv (.c .nils)), none, [1, 1]⟩, ⟨(some 10), (.mv (.t 22)), none, [0, 2, 0, 1, 2]⟩] false) .ret) .skip))) (.seq (.reg [⟨(some 23), (.mv (.t 2)), none, []⟩, ⟨(some 24), (.call 48 [(.t 23)]), none, [0]⟩, ⟨(some 25), (.ld false 1 (.t 5)), none, []⟩, ⟨(some 26), (.call 48 [(.t 25)]), none, [2, 1]⟩, ⟨(some 12), (.alloc 28 1 [.nils]), none, []⟩, ⟨(some 13), (.alloc 28 1 [.nils]), none, []⟩, ⟨none, (.st 1 (.t 12) (.t 24)), none, [4, 1, 3, 0, 1, 4, 5]⟩, ⟨none, (.st 1 (.t 13) (.t 26)), none, [5, 3, 6, 0, 1, 2, 3, 4, 5, 6]⟩] true) (.seq (.reg [⟨(some 27), (.mv (.t 0)), none, []⟩, ⟨(some 28), (.ld false 1 (.t 5)), none, []⟩, ⟨(some 29), (.mv (.t 2)), none, []⟩, ⟨(some 30), (.call 50 [(.t 28), (.t 29)]), none, [1, 2]⟩, ⟨(some 31), (.mv (.t 3)), none, []⟩, ⟨(some 32), (.mkfn (.func 51) [(.t 5), (.t 12), (.t 13)]), none, []⟩, ⟨(some 33), (.call 49 [(.t 27), (.t 30), (.t 31), (.t 32)]), none, [0, 3, 4, 5, 3]⟩, ⟨(some 14), (.mv (.t 33)), none, [6, 6, 0, 1, 2, 3, 4, 5, 6]⟩] false) (.seq (.seq (.reg [⟨(some 34), (.mv (.t 14)), none, []⟩, ⟨(some 35), (.bin .eql (.t 34) (.c (.int .i64 0))), none, [0]⟩] false) (.cond (.t 35) (.seq (.reg [⟨(some 8), (.mv (.c .nils)), none, []⟩, ⟨(some 9), (.mv (.c .nils)), none, [0, 0]⟩, ⟨(some 10), (.mv (.c (.int .i64 21))), none, [1, 0, 1]⟩] false) .ret) .skip)) (.seq (.reg [⟨(some 36), (.ld false 1 (.t 12)), none, []⟩, ⟨(some 37), (.ld false 1 (.t 13)), none, []⟩, ⟨(some 8), (.mv (.t 36)), none, [0, 0]⟩, ⟨(some 9), (.mv (.t 37)), none, [1, 2, 0, 1, 2]⟩, ⟨(some 10), (.mv (.c (.int .i64 0))), none, [3, 0, 1, 2, 3]⟩] true) .ret))))))
theorem mcOk21 : (match Try.f21.body with | some c => compC Try.prog 38 c | none => none) = some mc21 := by kernel_rfl

theorem fc21 (l : List Rd) (lo hi : List Int) (lies : Int) : FC Try.prog 21 [.rs 4 (l.map cR), ints lo, ints hi, .int .i64 lies] [] (.tup [.sl 2001 0 (narrowA l lo hi lies).length, .sl 2002 0 (narrowB l lo hi lies).length, iv (narrowE l lo hi lies)]) [(2001, .cells 3 1 ((narrowA l lo hi lies).map ci) true), (2002, .cells 3 1 ((narrowB l lo hi lies).map ci) true)] false := by
  refine fc_run (nt := 38) Try.func21 rfl rfl mcOk21 (Nat.le_of_ble_eq_true rfl) ?_
  delta mc21
  refine aw_seq ?_
  refine aw_reg ?_
  refine rs_box rfl rfl rfl rfl rfl rfl ?_
  refine rs_mv rfl rfl ?_
  refine rs_mv rfl rfl ?_
  refine rs_mv rfl rfl ?_
  refine rs_nil fun _ => ?_
  refine th_n ?_
  refine aw_seq ?_
  refine aw_seq ?_
  refine aw_reg ?_
  refine rs_mv rfl rfl ?_
  first | refine rs_ld_r rfl rfl rfl ?_ | refine rs_ld_p rfl rfl rfl rfl rfl ?_ | refine rs_ld_m rfl rfl rfl (by omega) rfl ?_
  refine rs_mv rfl rfl ?_
  refine rs_mv rfl rfl ?_
  refine rs_calln [] rfl rfl (fc19 l lo hi lies) (.cons (hv_same rfl) (.cons (hv_same rfl) (.cons (hv_same rfl) (.cons (hv_same rfl) (.nil))))) rfl ?_
  refine rs_mv rfl rfl ?_
  refine rs_nil fun _ => ?_
  refine th_n ?_
  refine aw_seq ?_
  refine aw_reg ?_
  refine rs_mv rfl rfl ?_
  refine rs_neq rfl rfl rfl ?_
  refine rs_nil fun _ => ?_
  refine th_n ?_
  refine aw_cond rfl (fun h21 => ?_) (fun h21 => ?_)
  · first | replace h21 := of_decide_eq_true h21 | skip
    refine aw_seq ?_
    refine aw_reg ?_
    refine rs_mv rfl rfl ?_
    refine rs_mv rfl rfl ?_
    refine rs_mv rfl rfl ?_
    refine rs_mv rfl rfl ?_
    refine rs_nil fun _ => ?_
    refine th_n ?_
    first | refine aw_weak (F0 := [(8, .nils), (9, .nils), (10, iv (checkS l lo hi lies))]) (H0 := []) (weak_to (.cons rfl (rc_same rfl (.inl rfl)) (.cons rfl (rc_same rfl (.inl rfl)) (.cons rfl (rc_same rfl (.inl rfl)) (.nil)))) .nil (fun i h => by cases h)) ?_ | refine aw_weak (F0 := [(8, .nils), (9, .nils), (10, iv 21)]) (H0 := []) (weak_to (.cons rfl (rc_same rfl (.inl rfl)) (.cons rfl (rc_same rfl (.inl rfl)) (.cons rfl (rc_same rfl (.inl rfl)) (.nil)))) .nil (fun i h => by cases h)) ?_ | skip
    refine aw_ret ?_
    refine th_r ?_
    first
      | (obtain ⟨e1, e2, e3⟩ := narrow_1 h21
         rw [e1, e2, e3]
         exact ret_new rfl (rc_tup (.cons (rc_virt rfl rfl) (.cons (rc_virt rfl rfl) (.cons (rc_same rfl (.inr rfl)) .nil)))) (.virt rfl (.virt rfl .nil)))
      | (obtain ⟨e1, e2, e3⟩ := narrow_2 (l := l) (lo := lo) (hi := hi) (lies := lies) (by omega) (by omega)
         rw [e1, e2, e3]
         exact ret_new rfl (rc_tup (.cons (rc_virt rfl rfl) (.cons (rc_virt rfl rfl) (.cons (rc_same rfl (.inr rfl)) .nil)))) (.virt rfl (.virt rfl .nil)))
      | (obtain ⟨e1, e2, e3⟩ := narrow_3 (l := l) (lo := lo) (hi := hi) (lies := lies) (by omega) (by omega)
         have e4 := ex51_len (l := l) (lies := lies) h2
         rw [e1, e2, e3, e4.1, e4.2]
         exact ret_new rfl (rc_same rfl (.inr rfl)) (.keep rfl rfl (noROE_map (fun _ => rfl) _) (.keep rfl rfl (noROE_map (fun _ => rfl) _) .nil)))
  · first | replace h21 := of_decide_eq_false h21 | skip
    refine aw_skip ?_
    refine th_n ?_
    refine aw_seq ?_
    refine aw_draw hmix ?_
    have h0 : checkS l lo hi lies = 0 := by omega
    obtain ⟨hl, h2, h6, hls, hr⟩ := check_ok h0
    refine rs_mv rfl rfl ?_
    refine rs_calln [] rfl rfl (fc48r 2001 lo.length hi h2 (by omega)) (.cons (hv_same rfl) (.nil)) rfl ?_
    first | refine rs_ld_r rfl rfl rfl ?_ | refine rs_ld_p rfl rfl rfl rfl rfl ?_ | refine rs_ld_m rfl rfl rfl (by omega) rfl ?_
    refine rs_calln [] rfl rfl (fc48r 2002 lo.length lo rfl (by omega)) (.cons (hv_same rfl) (.nil)) rfl ?_
    refine rs_alloc rfl rfl rfl ?_
    refine rs_alloc rfl rfl rfl ?_
    refine rs_st rfl rfl rfl rfl rfl rfl rfl (Nat.le_of_ble_eq_true rfl) rfl rfl ?_
    refine rs_st rfl rfl rfl rfl rfl rfl rfl (Nat.le_of_ble_eq_true rfl) rfl rfl ?_
    refine rs_nil ⟨by kernel_rfl, fun _ => ?_⟩
    refine th_n ?_
    refine aw_seq ?_
    refine aw_reg ?_
    refine rs_mv rfl rfl ?_
    first | refine rs_ld_r rfl rfl rfl ?_ | refine rs_ld_p rfl rfl rfl rfl rfl ?_ | refine rs_ld_m rfl rfl rfl (by omega) rfl ?_
    refine rs_mv rfl rfl ?_
    refine rs_calln [] rfl rfl (fc50 lo hi h6 (by omega)) (.cons (hv_same rfl) (.cons (hv_same rfl) (.nil))) rfl ?_
    refine rs_mv rfl rfl ?_
    refine rs_mkfn rfl rfl ?_
    refine rs_callo [(5, .cells 28 1 [[ints lo]] true), (12, .cells 28 1 [[.sl 2001 0 lo.length]] false), (13, .cells 28 1 [[.sl 2002 0 lo.length]] false), (2001, .cells 3 1 (hi.map ci) true), (2002, .cells 3 1 (lo.map ci) true)] rfl rfl (fc49ar l lo hi lies hl h2 h6 hr) (.cons (hv_same rfl) (.cons (hv_same (scoped_iv _ _)) (.cons (hv_same rfl) (.cons (hv_same rfl) (.nil))))) (.cons rfl (.cons rfl (.cons rfl (.cons rfl (.cons rfl (.nil)))))) rfl rfl rfl ?_
    refine rs_mv rfl rfl ?_
    refine rs_nil fun _ => ?_
    refine th_n ?_
    refine aw_seq ?_
    refine aw_seq ?_
    refine aw_reg ?_
    refine rs_mv rfl rfl ?_
    refine rs_eql rfl rfl rfl ?_
    refine rs_nil fun _ => ?_
    refine th_n ?_
    refine aw_cond rfl (fun h35 => ?_) (fun h35 => ?_)
    · first | replace h35 := of_decide_eq_true h35 | skip
      refine aw_seq ?_
      refine aw_reg ?_
      refine rs_mv rfl rfl ?_
      refine rs_mv rfl rfl ?_
      refine rs_mv rfl rfl ?_
      refine rs_nil fun _ => ?_
      refine th_n ?_
      first | refine aw_weak (F0 := [(8, .nils), (9, .nils), (10, iv (checkS l lo hi lies))]) (H0 := []) (weak_to (.cons rfl (rc_same rfl (.inl rfl)) (.cons rfl (rc_same rfl (.inl rfl)) (.cons rfl (rc_same rfl (.inl rfl)) (.nil)))) .nil (fun i h => by cases h)) ?_ | refine aw_weak (F0 := [(8, .nils), (9, .nils), (10, iv 21)]) (H0 := []) (weak_to (.cons rfl (rc_same rfl (.inl rfl)) (.cons rfl (rc_same rfl (.inl rfl)) (.cons rfl (rc_same rfl (.inl rfl)) (.nil)))) .nil (fun i h => by cases h)) ?_ | skip
      refine aw_ret ?_
      refine th_r ?_
      first
        | (obtain ⟨e1, e2, e3⟩ := narrow_1 h21
           rw [e1, e2, e3]
           exact ret_new rfl (rc_tup (.cons (rc_virt rfl rfl) (.cons (rc_virt rfl rfl) (.cons (rc_same rfl (.inr rfl)) .nil)))) (.virt rfl (.virt rfl .nil)))
        | (obtain ⟨e1, e2, e3⟩ := narrow_2 (l := l) (lo := lo) (hi := hi) (lies := lies) (by omega) (by omega)
           rw [e1, e2, e3]
           exact ret_new rfl (rc_tup (.cons (rc_virt rfl rfl) (.cons (rc_virt rfl rfl) (.cons (rc_same rfl (.inr rfl)) .nil)))) (.virt rfl (.virt rfl .nil)))
        | (obtain ⟨e1, e2, e3⟩ := narrow_3 (l := l) (lo := lo) (hi := hi) (lies := lies) (by omega) (by omega)
           have e4 := ex51_len (l := l) (lies := lies) h2
           rw [e1, e2, e3, e4.1, e4.2]
           exact ret_new rfl (rc_same rfl (.inr rfl)) (.keep rfl rfl (noROE_map (fun _ => rfl) _) (.keep rfl rfl (noROE_map (fun _ => rfl) _) .nil)))
    · first | replace h35 := of_decide_eq_false h35 | skip
      refine aw_skip ?_
      refine th_n ?_
      refine aw_seq ?_
      refine aw_draw hmix ?_
      first | refine rs_ld_r rfl rfl rfl ?_ | refine rs_ld_p rfl rfl rfl rfl rfl ?_ | refine rs_ld_m rfl rfl rfl (by omega) rfl ?_
      first | refine rs_ld_r rfl rfl rfl ?_ | refine rs_ld_p rfl rfl rfl rfl rfl ?_ | refine rs_ld_m rfl rfl rfl (by omega) rfl ?_
      refine rs_mv rfl rfl ?_
      refine rs_mv rfl rfl ?_
      refine rs_mv rfl rfl ?_
      refine rs_nil ⟨by kernel_rfl, fun _ => ?_⟩
      refine th_n ?_
      first | refine aw_weak (F0 := [(8, .nils), (9, .nils), (10, iv (checkS l lo hi lies))]) (H0 := []) (weak_to (.cons rfl (rc_same rfl (.inl rfl)) (.cons rfl (rc_same rfl (.inl rfl)) (.cons rfl (rc_same rfl (.inl rfl)) (.nil)))) .nil (fun i h => by cases h)) ?_ | refine aw_weak (F0 := [(8, .nils), (9, .nils), (10, iv 21)]) (H0 := []) (weak_to (.cons rfl (rc_same rfl (.inl rfl)) (.cons rfl (rc_same rfl (.inl rfl)) (.cons rfl (rc_same rfl (.inl rfl)) (.nil)))) .nil (fun i h => by cases h)) ?_ | skip
      refine aw_ret ?_
      first
        | (obtain ⟨e1, e2, e3⟩ := narrow_1 h21
           rw [e1, e2, e3]
           exact ret_new rfl (rc_tup (.cons (rc_virt rfl rfl) (.cons (rc_virt rfl rfl) (.cons (rc_same rfl (.inr rfl)) .nil)))) (.virt rfl (.virt rfl .nil)))
        | (obtain ⟨e1, e2, e3⟩ := narrow_2 (l := l) (lo := lo) (hi := hi) (lies := lies) (by omega) (by omega)
           rw [e1, e2, e3]
           exact ret_new rfl (rc_tup (.cons (rc_virt rfl rfl) (.cons (rc_virt rfl rfl) (.cons (rc_same rfl (.inr rfl)) .nil)))) (.virt rfl (.virt rfl .nil)))
        | (obtain ⟨e1, e2, e3⟩ := narrow_3 (l := l) (lo := lo) (hi := hi) (lies := lies) (by omega) (by omega)
           have e4 := ex51_len (l := l) (lies := lies) h2
           rw [e1, e2, e3, e4.1, e4.2]
           exact ret_new rfl (rc_same rfl (.inr rfl)) (.keep rfl rfl (noROE_map (fun _ => rfl) _) (.keep rfl rfl (noROE_map (fun _ => rfl) _) .nil)))

def mc24 : MC := (.seq (.reg [⟨(some 8), (.mv (.c .nils)), none, []⟩, ⟨(some 9), (.mv (.c (.int .i64 0))), none, [0]⟩] false) (.seq (.seq (.reg [⟨(some 14), (.mv (.t 0)), none, []⟩, ⟨(some 15), (.mv (.t 1)), none, []⟩, ⟨(some 16), (.mv (.t 2)), none, []⟩, ⟨(some 17), (.mv (.t 3)), none, []⟩, ⟨(some 18), (.call 19 [(.t 14), (.t 15), (.t 16), (.t 17)]), none, [0, 1, 2, 3]⟩, ⟨(some 10), (.mv (.t 18)), none, [4, 4, 0, 1, 2, 3, 4]⟩] false) (.seq (.reg [⟨(some 19), (.mv (.t 10)), none, []⟩, ⟨(some 20), (.bin .neq (.t 19) (.c (.int .i64 0))), none, [0]⟩] false) (.cond (.t 20) (.seq (.reg [⟨(some 21), (.mv (.t 10)), none, []⟩, ⟨(some 8), (.mv (.c .nils)), none, []⟩, ⟨(some 9), (.mv (.t 21)), none, [0, 1, 0, 1]⟩] false) .ret) .skip))) (.seq (.reg [⟨(some 11), (.alloc 94 1 [(.int .u64 0)]), none, []⟩, ⟨none, (.st 1 (.t 11) (.c (.int .u64 255))), none, [0, 0]⟩] false) (.seq (.seq (.reg [⟨(some 22), (.mv (.t 0)), none, []⟩, ⟨(some 23), (.mv (.t 1)), none, []⟩, ⟨(some 24), (.mv (.t 2)), none, []⟩, ⟨(some 25), (.call 50 [(.t 23), (.t 24)]), none, [1, 2]⟩, ⟨(some 26), (.mv (.t 3)), none, []⟩, ⟨(some 27), (.mkfn (.func 54) [(.t 11)]), none, []⟩, ⟨(some 28), (.call 49 [(.t 22), (.t 25), (.t 26), (.t 27)]), none, [0, 3, 4, 5, 3]⟩, ⟨(some 29), (.bin .eql (.t 28) (.c (.int .i64 0))), none, [6]⟩] false) (.cond (.t 29) (.seq (.reg [⟨(some 8), (.mv (.c .nils)), none, []⟩, ⟨(some 9), (.mv (.c (.int .i64 21))), none, [0, 0]⟩] false) .ret) .skip)) (.seq (.reg [⟨(some 12), (.mv (.c .nils)), none, []⟩] false) (.seq (.seq (.reg [⟨(some 30), (.mv (.c (.int .i64 0))), none, []⟩] false) (.block 0 (.loop (.seq (.reg [⟨(some 31), (.bin .lss (.t 30) (.c (.int .i64 8))), none, []⟩] false) (.seq (.cond (.t 31) .skip (.exit 0)) (.seq (.block 1 (.seq (.reg [⟨(some 32), (.mv (.t 30)), none, []⟩, ⟨(some 13), (.mv (.t 32)), none, [0, 0]⟩] false) (.seq (.reg [⟨(some 33), (.ld false 1 (.t 11)), none, []⟩, ⟨(some 34), (.mv (.t 13)), none, []⟩, ⟨(some 35), (.bin .shr (.t 33) (.t 34)), none, [0, 1]⟩, ⟨(some 36), (.bin .and (.t 35) (.c (.int .u64 1))), none, [2]⟩, ⟨(some 37), (.bin .eql (.t 36) (.c (.int .u64 1))), none, [3]⟩] false) (.cond (.t 37) (.reg [⟨(some 38), (.mv (.t 12)), none, []⟩, ⟨(some 39), (.mv (.t 13)), none, []⟩, ⟨(some 40), (.bslice 3 1 [(.int .i64 0)] 1 [(0, (.t 39))]), none, [1]⟩, ⟨(some 41), (.app 3 1 8 [(.int .i64 0)] (.t 38) (.t 40)), none, [0, 2]⟩, ⟨(some 12), (.mv (.t 41)), none, [3, 3, 0, 1, 2, 3]⟩] false) .skip)))) (.reg [⟨(some 42), (.bin .add (.t 30) (.c (.int .i64 1))), none, []⟩, ⟨(some 30), (.mv (.t 42)), none, [0]⟩] false))))))) (.seq (.reg [⟨(some 43), (.mv (.t 12)), none, []⟩, ⟨(some 8), (.mv (.t 43)), none, [0, 0]⟩, ⟨(some 9), (.mv (.c (.int .i64 0))), none, [1, 0, 1]⟩] false) .ret)))))))
theorem mcOk24 : (match Try.f24.body with | some c => compC Try.prog 44 c | none => none) = some mc24 := by kernel_rfl

theorem fc24 (l : List Rd) (lo hi : List Int) (lies : Int) : FC Try.prog 24 [.rs 4 (l.map cR), ints lo, ints hi, .int .i64 lies] [] (.tup [.sl 1012 0 (liarsL l lo hi lies).length, iv (liarsE l lo hi lies)]) [(1012, .cells 3 1 ((liarsL l lo hi lies).map ci) true)] false := by
  refine fc_run (nt := 44) Try.func24 rfl rfl mcOk24 (Nat.le_of_ble_eq_true rfl) ?_
  delta mc24
  refine aw_seq ?_
  refine aw_reg ?_
  refine rs_mv rfl rfl ?_
  refine rs_mv rfl rfl ?_
  refine rs_nil fun _ => ?_
  refine th_n ?_
  refine aw_seq ?_
  refine aw_seq ?_
  refine aw_reg ?_
  refine rs_mv rfl rfl ?_
  refine rs_mv rfl rfl ?_
  refine rs_mv rfl rfl ?_
  refine rs_mv rfl rfl ?_
  refine rs_calln [] rfl rfl (fc19 l lo hi lies) (.cons (hv_same rfl) (.cons (hv_same rfl) (.cons (hv_same rfl) (.cons (hv_same rfl) (.nil))))) rfl ?_
  refine rs_mv rfl rfl ?_
  refine rs_nil fun _ => ?_
  refine th_n ?_
  refine aw_seq ?_
  refine aw_reg ?_
  refine rs_mv rfl rfl ?_
  refine rs_neq rfl rfl rfl ?_
  refine rs_nil fun _ => ?_
  refine th_n ?_
  refine aw_cond rfl (fun h20 => ?_) (fun h20 => ?_)
  · first | replace h20 := of_decide_eq_true h20 | skip
    refine aw_seq ?_
    refine aw_reg ?_
    refine rs_mv rfl rfl ?_
    refine rs_mv rfl rfl ?_
    refine rs_mv rfl rfl ?_
    refine rs_nil fun _ => ?_
    refine th_n ?_
    refine aw_ret ?_
    refine th_r ?_
    first
      | (obtain ⟨e1, e2⟩ := liars_1 h20
         rw [e1, e2]
         exact ret_new rfl (rc_tup (.cons (rc_virt rfl rfl) (.cons (rc_same rfl (.inr rfl)) .nil))) (.virt rfl .nil))
      | (obtain ⟨e1, e2⟩ := liars_2 (l := l) (lo := lo) (hi := hi) (lies := lies) (by omega) (by omega)
         rw [e1, e2]
         exact ret_new rfl (rc_tup (.cons (rc_virt rfl rfl) (.cons (rc_same rfl (.inr rfl)) .nil))) (.virt rfl .nil))
      | (obtain ⟨e1, e2⟩ := liars_3 (l := l) (lo := lo) (hi := hi) (lies := lies) (by omega) (by omega)
         obtain rfl : k = 8 := by omega
         rw [e1, e2]
         exact ret_new rfl (rc_same rfl (.inr rfl)) (.keep rfl rfl (noROE_map (fun _ => rfl) _) .nil))
  · first | replace h20 := of_decide_eq_false h20 | skip
    refine aw_skip ?_
    refine th_n ?_
    refine aw_seq ?_
    refine aw_reg ?_
    have h0 : checkS l lo hi lies = 0 := by omega
    obtain ⟨hl, h2, h6, hls, hr⟩ := check_ok h0
    refine rs_alloc rfl rfl rfl ?_
    refine rs_st rfl rfl rfl rfl rfl rfl rfl (Nat.le_of_ble_eq_true rfl) rfl rfl ?_
    refine rs_nil fun _ => ?_
    refine th_n ?_
    refine aw_seq ?_
    refine aw_seq ?_
    refine aw_reg ?_
    refine rs_mv rfl rfl ?_
    refine rs_mv rfl rfl ?_
    refine rs_mv rfl rfl ?_
    refine rs_calln [] rfl rfl (fc50 lo hi h6 (by omega)) (.cons (hv_same rfl) (.cons (hv_same rfl) (.nil))) rfl ?_
    refine rs_mv rfl rfl ?_
    refine rs_mkfn rfl rfl ?_
    refine rs_callo [(11, .cells 94 1 [[.int .u64 ((255 : Nat) : Int)]] true)] rfl rfl (fc49br l lo hi lies hl h2 h6 hr) (.cons (hv_same rfl) (.cons (hv_same (scoped_iv _ _)) (.cons (hv_same rfl) (.cons (hv_same rfl) (.nil))))) (.cons rfl (.nil)) rfl rfl rfl ?_
    refine rs_eql rfl rfl rfl ?_
    refine rs_nil fun _ => ?_
    refine th_n ?_
    refine aw_cond rfl (fun h29 => ?_) (fun h29 => ?_)
    · first | replace h29 := of_decide_eq_true h29 | skip
      refine aw_seq ?_
      refine aw_reg ?_
      refine rs_mv rfl rfl ?_
      refine rs_mv rfl rfl ?_
      refine rs_nil fun _ => ?_
      refine th_n ?_
      refine aw_ret ?_
      refine th_r ?_
      first
        | (obtain ⟨e1, e2⟩ := liars_1 h20
           rw [e1, e2]
           exact ret_new rfl (rc_tup (.cons (rc_virt rfl rfl) (.cons (rc_same rfl (.inr rfl)) .nil))) (.virt rfl .nil))
        | (obtain ⟨e1, e2⟩ := liars_2 (l := l) (lo := lo) (hi := hi) (lies := lies) (by omega) (by omega)
           rw [e1, e2]
           exact ret_new rfl (rc_tup (.cons (rc_virt rfl rfl) (.cons (rc_same rfl (.inr rfl)) .nil))) (.virt rfl .nil))
        | (obtain ⟨e1, e2⟩ := liars_3 (l := l) (lo := lo) (hi := hi) (lies := lies) (by omega) (by omega)
           obtain rfl : k = 8 := by omega
           rw [e1, e2]
           exact ret_new rfl (rc_same rfl (.inr rfl)) (.keep rfl rfl (noROE_map (fun _ => rfl) _) .nil))
    · first | replace h29 := of_decide_eq_false h29 | skip
      refine aw_skip ?_
      refine th_n ?_
      refine aw_seq ?_
      refine aw_reg ?_
      refine rs_mv rfl rfl ?_
      refine rs_nil fun _ => ?_
      refine th_n ?_
      refine aw_seq ?_
      refine aw_seq ?_
      refine aw_reg ?_
      refine rs_mv rfl rfl ?_
      refine rs_nil fun _ => ?_
      refine th_n ?_
      refine aw_block ?_
      refine aw_fam (α := Nat) (fun k => 8 - k) (fun k => [(11, .ptr 11 0 0), (12, .sl 1012 0 (outK (ex54 l lo hi lies).1 (k)).length), (30, iv (((k) : Nat) : Int))]) (fun k => [(11, .cells 94 1 [[.int .u64 (((ex54 l lo hi lies).1 : Nat) : Int)]] true), (1012, .cells 3 1 ((outK (ex54 l lo hi lies).1 (k)).map ci) true)]) (fun k => k ≤ 8) 0 (by omega)
        (weak_to (.cons rfl (rc_same rfl (.inl rfl)) (.cons rfl (rc_virt rfl rfl) (.cons rfl (rc_same rfl (.inl rfl)) (.nil)))) (.keep (rfl) rfl (.virt rfl (.nil))) (fun i h => by cases h)) ?_
      intro k hk
      have hol := outK_le (ex54 l lo hi lies).1 k
      refine aw_seq ?_
      refine aw_reg ?_
      
      refine rs_lss rfl rfl rfl ?_
      refine rs_nil fun _ => ?_
      refine th_n ?_
      refine aw_seq ?_
      refine aw_cond rfl (fun h31 => ?_) (fun h31 => ?_)
      · first | replace h31 := of_decide_eq_true h31 | skip
        refine aw_skip ?_
        refine th_n ?_
        refine aw_seq ?_
        refine aw_block ?_
        refine aw_seq ?_
        refine aw_reg ?_
        refine rs_mv rfl rfl ?_
        refine rs_mv rfl rfl ?_
        refine rs_nil fun _ => ?_
        refine th_n ?_
        refine aw_seq ?_
        refine aw_reg ?_
        first | refine rs_ld_r rfl rfl rfl ?_ | refine rs_ld_p rfl rfl rfl rfl rfl ?_ | refine rs_ld_m rfl rfl rfl (by omega) rfl ?_
        refine rs_mv rfl rfl ?_
        refine rs_shr rfl rfl rfl (by omega) rfl ?_
        refine rs_and rfl rfl rfl rfl ?_
        refine rs_eql rfl rfl rfl ?_
        rw [show decide (bits .and .u64 ((((ex54 l lo hi lies).1 : Nat) : Int).fdiv (2 ^ min ((k : Nat) : Int).toNat IntKind.u64.bits)) 1 = 1) = hasS (ex54 l lo hi lies).1 k from has_bits_u1 _ ex54_lt k (by omega)]
        refine rs_nil fun _ => ?_
        refine th_n ?_
        refine aw_cond rfl (fun h37 => ?_) (fun h37 => ?_)
        · first | replace h37 := of_decide_eq_true h37 | skip
          refine aw_reg ?_
          refine rs_mv rfl rfl ?_
          refine rs_mv rfl rfl ?_
          refine rs_bslice rfl rfl rfl rfl rfl rfl ?_
          refine rs_app_m (y := (k : Int)) rfl rfl rfl rfl (by rfl) rfl rfl rfl (by decide) rfl (by omega) (by omega) rfl ?_
          refine rs_mv rfl rfl ?_
          refine rs_nil fun _ => ?_
          refine in_n ?_
          refine th_n ?_
          refine aw_reg ?_
          first | refine rs_add rfl rfl rfl (by omega) ?_ | refine rs_addw rfl rfl rfl rfl ?_
          refine rs_mv rfl rfl ?_
          refine rs_nil fun _ => ?_
          refine th_n ?_
          refine ⟨k + 1, by omega, by omega, ?_⟩
          first
            | (have ho := outK_t (ex54 l lo hi lies).1 k h37; exact weak_to_ren (i := 41) (i' := 1012) (F1 := [(11, .ptr 11 0 0), (12, .sl 41 0 (outK (ex54 l lo hi lies).1 (k + 1)).length), (30, iv (((k + 1) : Nat) : Int))]) (H1 := [(11, .cells 94 1 [[.int .u64 (((ex54 l lo hi lies).1 : Nat) : Int)]] true), (41, .cells 3 1 ((outK (ex54 l lo hi lies).1 (k + 1)).map ci) true)]) (.cons rfl (rc_same rfl (.inl rfl)) (.cons rfl (rc_eq (by rw [ho]; simp) rfl) (.cons rfl (rc_same rfl (.inl rfl)) (.nil)))) (.keep (rfl) rfl (.keep ((by (rw [ho]) <;> rfl)) rfl (.nil))) (fun i h => by cases h) rfl rfl (.cons rfl (.same _) (.cons rfl (.sl _ _) (.cons rfl (.same _) (.nil)))) (.cons rfl (rc_same rfl (.inl rfl)) (.cons rfl (rc_same rfl (.inl rfl)) (.cons rfl (rc_same rfl (.inl rfl)) (.nil)))) (.keep (rfl) rfl (.keep (rfl) rfl (.nil))) (fun i h => by cases h))
            | (have ho := outK_f (ex54 l lo hi lies).1 k h37; exact weak_to (.cons rfl (rc_same rfl (.inl rfl)) (.cons rfl (rc_eq (by rw [ho]) rfl) (.cons rfl (rc_same rfl (.inl rfl)) (.nil)))) (.keep (rfl) rfl (.keep ((by (rw [ho]) <;> rfl)) rfl (.nil))) (fun i h => by cases h))
        · first | replace h37 := of_decide_eq_false h37 | skip
          refine aw_skip ?_
          refine in_n ?_
          refine th_n ?_
          refine aw_reg ?_
          first | refine rs_add rfl rfl rfl (by omega) ?_ | refine rs_addw rfl rfl rfl rfl ?_
          refine rs_mv rfl rfl ?_
          refine rs_nil fun _ => ?_
          refine th_n ?_
          refine ⟨k + 1, by omega, by omega, ?_⟩
          first
            | (have ho := outK_t (ex54 l lo hi lies).1 k h37; exact weak_to_ren (i := 41) (i' := 1012) (F1 := [(11, .ptr 11 0 0), (12, .sl 41 0 (outK (ex54 l lo hi lies).1 (k + 1)).length), (30, iv (((k + 1) : Nat) : Int))]) (H1 := [(11, .cells 94 1 [[.int .u64 (((ex54 l lo hi lies).1 : Nat) : Int)]] true), (41, .cells 3 1 ((outK (ex54 l lo hi lies).1 (k + 1)).map ci) true)]) (.cons rfl (rc_same rfl (.inl rfl)) (.cons rfl (rc_eq (by rw [ho]; simp) rfl) (.cons rfl (rc_same rfl (.inl rfl)) (.nil)))) (.keep (rfl) rfl (.keep ((by (rw [ho]) <;> rfl)) rfl (.nil))) (fun i h => by cases h) rfl rfl (.cons rfl (.same _) (.cons rfl (.sl _ _) (.cons rfl (.same _) (.nil)))) (.cons rfl (rc_same rfl (.inl rfl)) (.cons rfl (rc_same rfl (.inl rfl)) (.cons rfl (rc_same rfl (.inl rfl)) (.nil)))) (.keep (rfl) rfl (.keep (rfl) rfl (.nil))) (fun i h => by cases h))
            | (have ho := outK_f (ex54 l lo hi lies).1 k h37; exact weak_to (.cons rfl (rc_same rfl (.inl rfl)) (.cons rfl (rc_eq (by rw [ho]) rfl) (.cons rfl (rc_same rfl (.inl rfl)) (.nil)))) (.keep (rfl) rfl (.keep ((by (rw [ho]) <;> rfl)) rfl (.nil))) (fun i h => by cases h))
      · first | replace h31 := of_decide_eq_false h31 | skip
        refine aw_exit ?_
        refine th_e ?_
        refine th_e ?_
        refine in_hit ?_
        refine th_n ?_
        refine aw_seq ?_
        refine aw_reg ?_
        refine rs_mv rfl rfl ?_
        refine rs_mv rfl rfl ?_
        refine rs_mv rfl rfl ?_
        refine rs_nil fun _ => ?_
        refine th_n ?_
        refine aw_ret ?_
        first
          | (obtain ⟨e1, e2⟩ := liars_1 h20
             rw [e1, e2]
             exact ret_new rfl (rc_tup (.cons (rc_virt rfl rfl) (.cons (rc_same rfl (.inr rfl)) .nil))) (.virt rfl .nil))
          | (obtain ⟨e1, e2⟩ := liars_2 (l := l) (lo := lo) (hi := hi) (lies := lies) (by omega) (by omega)
             rw [e1, e2]
             exact ret_new rfl (rc_tup (.cons (rc_virt rfl rfl) (.cons (rc_same rfl (.inr rfl)) .nil))) (.virt rfl .nil))
          | (obtain ⟨e1, e2⟩ := liars_3 (l := l) (lo := lo) (hi := hi) (lies := lies) (by omega) (by omega)
             obtain rfl : k = 8 := by omega
             rw [e1, e2]
             exact ret_new rfl (rc_same rfl (.inr rfl)) (.keep rfl rfl (noROE_map (fun _ => rfl) _) .nil))

end Go.Proofs.Ytadjdnhnbkcakaa
