/-
  Parts of the proof: M2 M3 M4 M5 M6 C0 C1 C2 C3 C4.
-/
import Derived.Test.YtigfcmcdjfmieaaK3
set_option linter.unusedVariables false
set_option linter.unusedSimpArgs false

/-! Walks: M2. -/
namespace Go.Proofs.Ytigfcmcdjfmieaa
open Go.RowKit
set_option maxRecDepth 100000

theorem gS_le {n : Nat} {v : V3} (h : Bd n v) : gS v ≤ n := by
  obtain ⟨h1, h2, h3⟩ := gS_dvd v
  rw [Int.ofNat_dvd_left] at h1 h2 h3
  have := h.x; have := h.y; have := h.z
  by_cases hx : v.x = 0
  · by_cases hy : v.y = 0
    · by_cases hz : v.z = 0
      · rw [gS_eq, hx, hy, hz]; simp
      · have := Nat.le_of_dvd (by omega) h3; omega
    · have := Nat.le_of_dvd (by omega) h2; omega
  · have := Nat.le_of_dvd (by omega) h1; omega
theorem InM.a48 {m : Mv} (h : InM m) : Bd 48 (sA m) := h.co.sub h.to
theorem InM.b48 {m : Mv} (h : InM m) : Bd 48 (sB m) := h.co.sub h.fr
def dS (m : Mv) : V3 := sub m.to m.fr
theorem InM.d48 {m : Mv} (h : InM m) : Bd 48 (dS m) := h.to.sub h.fr
def cenS (m : Mv) : V3 := plus m.fr (primV (sA m)) (-(gS (sA m) : Int))
theorem InM.c {m : Mv} (h : InM m) : Bd 100 (cenS m) := by
  obtain ⟨h1, h2, h3⟩ := prim_mul (sA m)
  have := h.a48.x; have := h.a48.y; have := h.a48.z; have := h.fr.x; have := h.fr.y; have := h.fr.z
  exact ⟨by simp only [cenS, plus, Int.neg_mul]; rw [← h1]; omega, by simp only [cenS, plus, Int.neg_mul]; rw [← h2]; omega, by simp only [cenS, plus, Int.neg_mul]; rw [← h3]; omega⟩
/-- The steps of a line, and of an arc, as far as they have come. -/
def linQ (fr b : V3) (k : Nat) : List V3 := (List.range k).map fun (j : Nat) => plus fr b j
theorem linQ_succ (fr b : V3) (k : Nat) : linQ fr b (k + 1) = linQ fr b k ++ [plus fr b k] := by simp [linQ, List.range_succ]
theorem linQ_len (fr b : V3) (k : Nat) : (linQ fr b k).length = k := by simp [linQ]
theorem linQ_at {fr b : V3} {k n : Nat} (h : k < n) : (linQ fr b n)[k]? = some (plus fr b k) := by simp [linQ, h]
def dn (r j : Nat) : Nat → Nat
  | 0 => 0
  | i + 1 => if r * r < (i + 1) * (i + 1) + j * j then dn r j i else i + 1
def iP (r : Nat) : Nat → Nat
  | 0 => r
  | j + 1 => dn r j (iP r j)
theorem dn_le (r j : Nat) : ∀ i, dn r j i ≤ i
  | 0 => Nat.le_refl _
  | i + 1 => by
    unfold dn
    split
    · exact Nat.le_trans (dn_le r j i) (by omega)
    · exact Nat.le_refl _
theorem iP_le (r : Nat) : ∀ j, iP r j ≤ r
  | 0 => Nat.le_refl _
  | j + 1 => Nat.le_trans (dn_le r j _) (iP_le r j)
theorem dn_stop {r j i : Nat} (h : ¬ r * r < i * i + j * j) : dn r j i = i := by
  cases i with
  | zero => rfl
  | succ i => unfold dn; rw [if_neg h]
theorem dn_next {r j i : Nat} (h : r * r < (i + 1) * (i + 1) + j * j) : dn r j (i + 1) = dn r j i := by
  conv => lhs; unfold dn
  rw [if_pos h]
def arcQ (r n : Nat) : List (Nat × Nat) := (List.range n).filterMap fun j => if iP r (j + 1) * iP r (j + 1) + j * j = r * r then some (iP r (j + 1), j) else none
def arcV (c a b : V3) (r n : Nat) : List V3 := (arcQ r n).map fun p => plus (plus c a p.1) b p.2
theorem arcQ_t {r j i : Nat} (hi : iP r (j + 1) = i) (h : i * i + j * j = r * r) : arcQ r (j + 1) = arcQ r j ++ [(i, j)] := by
  unfold arcQ
  rw [List.range_succ, List.filterMap_append]
  simp [hi, h]
theorem arcQ_f {r j i : Nat} (hi : iP r (j + 1) = i) (h : ¬ i * i + j * j = r * r) : arcQ r (j + 1) = arcQ r j := by
  unfold arcQ
  rw [List.range_succ, List.filterMap_append]
  simp [hi, h]
theorem arcV_t {c a b : V3} {r j i : Nat} (hi : iP r (j + 1) = i) (h : i * i + j * j = r * r) : arcV c a b r (j + 1) = arcV c a b r j ++ [plus (plus c a i) b j] := by
  unfold arcV; rw [arcQ_t hi h, List.map_append]; rfl
theorem arcV_f {c a b : V3} {r j i : Nat} (hi : iP r (j + 1) = i) (h : ¬ i * i + j * j = r * r) : arcV c a b r (j + 1) = arcV c a b r j := by
  unfold arcV; rw [arcQ_f hi h]
theorem arcV_len (c a b : V3) (r : Nat) : ∀ n, (arcV c a b r n).length ≤ n
  | 0 => Nat.le_refl _
  | n + 1 => by
    have := arcV_len c a b r n
    by_cases h : iP r (n + 1) * iP r (n + 1) + n * n = r * r
    · rw [arcV_t rfl h]; simp; omega
    · rw [arcV_f rfl h]; omega
theorem arcV_pre (c a b : V3) (r n : Nat) {k : Nat} {v : V3} (h : (arcV c a b r n)[k]? = some v) : ∀ m, n ≤ m → (arcV c a b r m)[k]? = some v := by
  intro m hm
  induction m with
  | zero => obtain rfl : n = 0 := by omega
            exact h
  | succ m ih =>
    by_cases e : n = m + 1
    · rw [← e]; exact h
    · have h1 := ih (by omega)
      by_cases hc : iP r (m + 1) * iP r (m + 1) + m * m = r * r
      · rw [arcV_t rfl hc, List.getElem?_append_left (lt_of_at h1)]; exact h1
      · rw [arcV_f rfl hc]; exact h1
theorem sqW {i : Nat} (h : i ≤ 1000) : W ((i : Int) * (i : Int)) = ((i * i : Nat) : Int) := by
  have : i * i ≤ 1000 * 1000 := Nat.mul_le_mul h h
  rw [W_eq (by rw [← Int.natCast_mul]; omega), Int.natCast_mul]
def pathS (m : Mv) : List V3 := if checkS m = 0 then (if m.kind = 3 then arcV (cenS m) (primV (sA m)) (primV (sB m)) (gS (sA m)) (gS (sA m) + 1) else linQ m.fr (primV (dS m)) (gS (dS m) + 1)) else []
theorem ck_in {m : Mv} (h : checkS m = 0) : InM m := by
  have key : ∀ lo hi, ¬ rangeB lo hi m = true → InM m := fun lo hi h => by
    unfold rangeB at h
    simp only [Bool.not_eq_true, Bool.or_eq_false_iff] at h
    exact inM_of h.1 h.2.1 h.2.2.1
  unfold checkS at h
  split at h
  · split at h
    · cases h
    · exact key _ _ ‹_›
  · split at h
    · split at h
      · cases h
      · exact key _ _ ‹_›
    · split at h
      · split at h
        · cases h
        · exact key _ _ ‹_›
      · cases h
theorem ck_n {m : Mv} (h : ¬ m.kind = 1 ∧ ¬ m.kind = 2 ∧ ¬ m.kind = 3) : checkS m = 16 := by unfold checkS; rw [if_neg h.1, if_neg h.2.1, if_neg h.2.2]
theorem ck_fit {m : Mv} (h : checkS m = 0) (h3 : m.kind = 3) : fitsA m = true := by
  unfold checkS at h
  rw [if_neg (by omega), if_neg (by omega), if_pos h3] at h
  split at h
  · cases h
  · split at h
    · assumption
    · cases h

def mc76 : MC := (.seq (.reg [⟨(some 1), (.box 109 11 (.t 0)), none, []⟩, ⟨(some 2), (.mv (.c .nilf)), none, []⟩] false) (.seq (.reg [⟨(some 6), (.fa 0 (.t 1)), none, []⟩, ⟨(some 7), (.fa 4 (.t 6)), none, [0]⟩, ⟨(some 8), (.ld true 3 (.t 7)), none, [1]⟩, ⟨(some 9), (.fa 0 (.t 1)), none, []⟩, ⟨(some 10), (.fa 1 (.t 9)), none, [3]⟩, ⟨(some 11), (.ld true 3 (.t 10)), none, [4]⟩, ⟨(some 12), (.call 101 [(.t 8), (.t 11)]), none, [2, 5]⟩, ⟨(some 13), (.call 100 [(.t 12)]), none, [6, 6]⟩, ⟨(some 5), (.mv (.t 13)), none, [7]⟩, ⟨(some 14), (.ext (.t 5) 0), none, [8]⟩, ⟨(some 15), (.ext (.t 5) 1), none, [8]⟩, ⟨(some 3), (.alloc 80 3 [(.int .i64 0), (.int .i64 0), (.int .i64 0)]), none, []⟩, ⟨(some 4), (.alloc 3 1 [(.int .i64 0)]), none, []⟩, ⟨none, (.st 3 (.t 3) (.t 14)), none, [11, 9, 7, 0, 1, 2, 3, 4, 5, 6, 7, 8, 9, 11, 12]⟩, ⟨none, (.st 1 (.t 4) (.t 15)), none, [12, 10, 13, 0, 1, 2, 3, 4, 5, 6, 7, 8, 9, 10, 11, 12, 13]⟩] false) (.seq (.reg [⟨(some 16), (.mkfn (.func 102) [(.t 4), (.t 1), (.t 3)]), none, []⟩, ⟨(some 2), (.mv (.t 16)), none, [0, 0]⟩] false) .ret)))
theorem mcOk76 : (match Try.f99.body with | some c => compC Try.prog 17 c | none => none) = some mc76 := by kernel_rfl

theorem fc76 (m : Mv) (h : InM m) : FC Try.prog 99 [aM m] [] (.fn (.func 102) [.rp [iv (gS (dS m) : Int)], .rp (cM m), .rp (cV (primV (dS m)))]) [] false := by
  refine fc_run (nt := 17) Try.func99 rfl rfl mcOk76 (Nat.le_of_ble_eq_true rfl) ?_
  delta mc76
  refine aw_seq ?_
  refine aw_reg ?_
  refine rs_box rfl rfl rfl rfl rfl rfl ?_
  refine rs_mv rfl rfl ?_
  refine rs_nil fun _ => ?_
  refine th_n ?_
  refine aw_seq ?_
  refine aw_reg ?_
  refine rs_fa_p rfl rfl ?_
  refine rs_fa_p rfl rfl ?_
  refine rs_ld_pa rfl rfl rfl rfl (Nat.le_of_ble_eq_true rfl) rfl ?_
  refine rs_fa_p rfl rfl ?_
  refine rs_fa_p rfl rfl ?_
  refine rs_ld_pa rfl rfl rfl rfl (Nat.le_of_ble_eq_true rfl) rfl ?_
  refine rs_calln [] rfl rfl (fc27s h.to.big h.fr.big) (.cons (hv_same rfl) (.cons (hv_same rfl) (.nil))) rfl ?_
  refine rs_calln [] rfl rfl (fc29 (dS m) h.d48.big) (.cons (hv_same rfl) (.nil)) rfl ?_
  refine rs_mv rfl rfl ?_
  refine rs_ext rfl rfl rfl ?_
  refine rs_ext rfl rfl rfl ?_
  refine rs_alloc rfl rfl rfl ?_
  refine rs_alloc rfl rfl rfl ?_
  refine rs_st rfl rfl rfl rfl rfl rfl rfl (Nat.le_of_ble_eq_true rfl) rfl rfl ?_
  refine rs_st rfl rfl rfl rfl rfl rfl rfl (Nat.le_of_ble_eq_true rfl) rfl rfl ?_
  refine rs_nil fun _ => ?_
  refine th_n ?_
  refine aw_seq ?_
  refine aw_reg ?_
  refine rs_mkfn rfl rfl ?_
  refine rs_mv rfl rfl ?_
  refine rs_nil fun _ => ?_
  refine th_n ?_
  refine aw_ret ?_
  exact ret_new rfl (rc_fnr (.cons (rc_pfrz rfl rfl (.inr rfl)) (.cons (rc_pfrz rfl rfl (.inr rfl)) (.cons (rc_pfrz rfl rfl (.inr rfl)) .nil)))) .nil

def mc82 : MC := (.seq (.reg [⟨(some 1), (.box 110 11 (.t 0)), none, []⟩, ⟨(some 2), (.mv (.c .nilf)), none, []⟩] false) (.seq (.reg [⟨(some 9), (.ld true 11 (.t 1)), none, []⟩, ⟨(some 10), (.call 111 [(.t 9)]), none, [0]⟩, ⟨(some 8), (.mv (.t 10)), none, [1]⟩, ⟨(some 11), (.ext (.t 8) 0), none, [2]⟩, ⟨(some 12), (.ext (.t 8) 1), none, [2]⟩, ⟨(some 13), (.ext (.t 8) 2), none, [2]⟩, ⟨(some 14), (.ext (.t 8) 3), none, [2]⟩, ⟨(some 3), (.alloc 80 3 [(.int .i64 0), (.int .i64 0), (.int .i64 0)]), none, []⟩, ⟨(some 4), (.alloc 80 3 [(.int .i64 0), (.int .i64 0), (.int .i64 0)]), none, []⟩, ⟨(some 5), (.alloc 3 1 [(.int .i64 0)]), none, []⟩, ⟨none, (.st 3 (.t 3) (.t 11)), none, [7, 3, 1, 0, 1, 2, 3, 7, 8, 9]⟩, ⟨none, (.st 3 (.t 4) (.t 12)), none, [8, 4, 10, 0, 1, 2, 3, 4, 7, 8, 9, 10]⟩, ⟨none, (.st 1 (.t 5) (.t 13)), none, [9, 5, 11, 0, 1, 2, 3, 4, 5, 7, 8, 9, 10, 11]⟩, ⟨(some 6), (.mv (.t 14)), none, [6, 12, 0, 1, 2, 3, 4, 5, 6, 7, 8, 9, 10, 11, 12]⟩] false) (.seq (.reg [⟨(some 15), (.fa 0 (.t 1)), none, []⟩, ⟨(some 16), (.fa 1 (.t 15)), none, [0]⟩, ⟨(some 17), (.ld true 3 (.t 16)), none, [1]⟩, ⟨(some 18), (.ld true 3 (.t 3)), none, []⟩, ⟨(some 19), (.ld false 1 (.t 5)), none, []⟩, ⟨(some 20), (.un .neg (.t 19)), none, [4]⟩, ⟨(some 21), (.call 103 [(.t 17), (.t 18), (.t 20)]), none, [2, 3, 5]⟩, ⟨(some 7), (.alloc 80 3 [(.int .i64 0), (.int .i64 0), (.int .i64 0)]), none, []⟩, ⟨none, (.st 3 (.t 7) (.t 21)), none, [7, 6, 6, 0, 1, 2, 3, 4, 5, 6, 7]⟩] false) (.seq (.reg [⟨(some 22), (.mkfn (.func 114) [(.t 5), (.t 7), (.t 3), (.t 4)]), none, []⟩, ⟨(some 2), (.mv (.t 22)), none, [0, 0]⟩] false) .ret))))
theorem mcOk82 : (match Try.f110.body with | some c => compC Try.prog 23 c | none => none) = some mc82 := by kernel_rfl

theorem fc82 (m : Mv) (h : InM m) : FC Try.prog 110 [aM m] [] (.fn (.func 114) [.rp [iv (gS (sA m) : Int)], .rp (cV (cenS m)), .rp (cV (primV (sA m))), .rp (cV (primV (sB m)))]) [] false := by
  have hr := gS_le (n := 48) h.a48
  refine fc_run (nt := 23) Try.func110 rfl rfl mcOk82 (Nat.le_of_ble_eq_true rfl) ?_
  delta mc82
  refine aw_seq ?_
  refine aw_reg ?_
  refine rs_box rfl rfl rfl rfl rfl rfl ?_
  refine rs_mv rfl rfl ?_
  refine rs_nil fun _ => ?_
  refine th_n ?_
  refine aw_seq ?_
  refine aw_reg ?_
  refine rs_ld_pa rfl rfl rfl rfl (Nat.le_of_ble_eq_true rfl) rfl ?_
  refine rs_calln [] rfl rfl (fc83 m h) (.cons (hv_same rfl) (.nil)) rfl ?_
  refine rs_mv rfl rfl ?_
  refine rs_ext rfl rfl rfl ?_
  refine rs_ext rfl rfl rfl ?_
  refine rs_ext rfl rfl rfl ?_
  refine rs_ext rfl rfl rfl ?_
  refine rs_alloc rfl rfl rfl ?_
  refine rs_alloc rfl rfl rfl ?_
  refine rs_alloc rfl rfl rfl ?_
  refine rs_st rfl rfl rfl rfl rfl rfl rfl (Nat.le_of_ble_eq_true rfl) rfl rfl ?_
  refine rs_st rfl rfl rfl rfl rfl rfl rfl (Nat.le_of_ble_eq_true rfl) rfl rfl ?_
  refine rs_st rfl rfl rfl rfl rfl rfl rfl (Nat.le_of_ble_eq_true rfl) rfl rfl ?_
  refine rs_mv rfl rfl ?_
  refine rs_nil fun _ => ?_
  refine th_n ?_
  refine aw_seq ?_
  refine aw_reg ?_
  refine rs_fa_p rfl rfl ?_
  refine rs_fa_p rfl rfl ?_
  refine rs_ld_pa rfl rfl rfl rfl (Nat.le_of_ble_eq_true rfl) rfl ?_
  refine rs_ld_pa rfl rfl rfl rfl (Nat.le_of_ble_eq_true rfl) rfl ?_
  refine rs_ld_p rfl rfl rfl rfl rfl ?_
  refine rs_neg rfl rfl (by omega) ?_
  refine rs_calln [] rfl rfl (fc78s h.fr.big (prim_bd h.a48).big (by omega)) (.cons (hv_same rfl) (.cons (hv_same rfl) (.cons (hv_same rfl) (.nil)))) rfl ?_
  refine rs_alloc rfl rfl rfl ?_
  refine rs_st rfl rfl rfl rfl rfl rfl rfl (Nat.le_of_ble_eq_true rfl) rfl rfl ?_
  refine rs_nil fun _ => ?_
  refine th_n ?_
  refine aw_seq ?_
  refine aw_reg ?_
  refine rs_mkfn rfl rfl ?_
  refine rs_mv rfl rfl ?_
  refine rs_nil fun _ => ?_
  refine th_n ?_
  refine aw_ret ?_
  exact ret_new rfl (rc_fnr (.cons (rc_pfrz rfl rfl (.inr rfl)) (.cons (rc_pfrz rfl rfl (.inr rfl)) (.cons (rc_pfrz rfl rfl (.inr rfl)) (.cons (rc_pfrz rfl rfl (.inr rfl)) .nil))))) .nil

def as56 : MC := (.reg [⟨(some 5), (.alloc 80 3 [(.int .i64 0), (.int .i64 0), (.int .i64 0)]), none, []⟩, ⟨none, (.st 3 (.t 5) (.t 7)), none, [0, 0]⟩] false)
def bd56 : MC := (.block 1 (.reg [⟨(some 8), (.ld false 1 (.t 2)), none, []⟩, ⟨(some 9), (.ld true 3 (.t 5)), none, []⟩, ⟨(some 10), (.bslice 80 3 [(.int .i64 0), (.int .i64 0), (.int .i64 0)] 1 [(0, (.t 9))]), none, [1]⟩, ⟨(some 11), (.app 80 3 24 [(.int .i64 0), (.int .i64 0), (.int .i64 0)] (.t 8) (.t 10)), none, [0, 2]⟩, ⟨none, (.st 1 (.t 2) (.t 11)), none, [3, 3, 0, 1, 2, 3]⟩] false))

theorem as56w (g : AV) (hg : ∀ D, scopedV D g = true) (l : List V3) (v : V3) (o : Loop) (lb : Nat) : AW Try.prog 13 [900, 2, 903] (some lb) as56 (fun e F' H' => e = .normal ∧ Weak 13 [900, 2, 903] F' H' [(2, .ptr 2 0 0), (5, .ptr 5 0 0)] [(900, .lp o [(6, g), (2, .ptr 2 0 0)]), (2, .cells 88 1 [[.sl 903 0 (l).length]] false), (903, .cells 80 3 ((l).map cV) true), (5, .cells 80 3 [cV v] true)]) [(7, aV v), (6, g), (2, .ptr 2 0 0)] [(900, .lp o [(6, g), (2, .ptr 2 0 0)]), (2, .cells 88 1 [[.sl 903 0 (l).length]] false), (903, .cells 80 3 ((l).map cV) true)] := by
  delta as56
  refine aw_reg ?_
  refine rs_alloc rfl rfl rfl ?_
  refine rs_st rfl rfl rfl rfl rfl rfl rfl (Nat.le_of_ble_eq_true rfl) rfl rfl ?_
  refine rs_nil fun _ => ?_
  exact ⟨rfl, weak_to (.cons rfl (rc_same rfl (.inl rfl)) (.cons rfl (rc_same rfl (.inl rfl)) (.nil))) (.keep rfl (by simp [scopedOb, scopedL, scopedV, hg, keysOf]) (.keep rfl (rfl) (.keep rfl (rfl) (.keep rfl (rfl) (.nil))))) (fun i hi => by simp [keysOf] at hi ⊢; omega)⟩

theorem bd56w (g : AV) (hg : ∀ D, scopedV D g = true) (l : List V3) (hl : l.length ≤ 1000) (v : V3) (o : Loop) (lb : Nat) : AW Try.prog 13 [900, 2, 903] (some lb) bd56 (fun e F' H' => e = .normal ∧ Weak 13 [900, 2, 903] F' H' [] [(900, .lp o [(6, g), (2, .ptr 2 0 0)]), (2, .cells 88 1 [[.sl 11 0 (l ++ [v]).length]] false), (11, .cells 80 3 ((l ++ [v]).map cV) true), (903, .dead)]) [(2, .ptr 2 0 0), (5, .ptr 5 0 0)] [(900, .lp o [(6, g), (2, .ptr 2 0 0)]), (2, .cells 88 1 [[.sl 903 0 (l).length]] false), (903, .cells 80 3 ((l).map cV) true), (5, .cells 80 3 [cV v] true)] := by
  delta bd56
  refine aw_block ?_
  refine aw_reg ?_
  refine rs_ld_p rfl rfl rfl rfl rfl ?_
  refine rs_ld_pa rfl rfl rfl rfl (Nat.le_of_ble_eq_true rfl) rfl ?_
  refine rs_bslice rfl rfl rfl rfl rfl rfl ?_
  refine rs_app_m (f := cV) (xs := l) (y := v) rfl rfl rfl rfl rfl rfl rfl rfl (by decide) rfl (by omega) (by omega) rfl ?_
  refine rs_st rfl rfl rfl rfl rfl rfl rfl (Nat.le_of_ble_eq_true rfl) rfl rfl ?_
  refine rs_nil fun _ => ?_
  refine in_n ?_
  rw [show l.length + 1 = (l ++ [v]).length by simp]
  exact ⟨rfl, weak_to (.nil) (.keep rfl (by simp [scopedOb, scopedL, scopedV, hg, keysOf]) (.keep rfl (rfl) (.keep rfl (rfl) (.keep rfl (rfl) (.nil))))) (fun i hi => by simp [keysOf] at hi ⊢; omega)⟩

theorem y56 (g : AV) (hg : ∀ D, scopedV D g = true) (l : List V3) (hl : l.length ≤ 1000) (v : V3) (r0 : Loop) (h : Rec0 Try.prog 13 [7] as56 bd56 r0) :
    FCg (yieldSem Try.prog) [.yl 900, aV v] [(900, .lp r0 [(6, g), (2, .ptr 2 0 0)]), (2, .cells 88 1 [[.sl 903 0 (l).length]] false), (903, .cells 80 3 ((l).map cV) true)] (.bool true) [(900, .lp r0 [(6, g), (2, .ptr 2 0 0)]), (2, .cells 88 1 [[.sl 11 0 (l ++ [v]).length]] false), (11, .cells 80 3 ((l ++ [v]).map cV) true), (903, .dead)] true := by
  have := round_yield (P := Try.prog) (F := [(6, g), (2, .ptr 2 0 0)]) (N := 13) (x := as56) (y := bd56) h.ca h.cb (li := 900) (ps := [7]) (vs := [aV v]) (J := [(2, .cells 88 1 [[.sl 903 0 (l).length]] false), (903, .cells 80 3 ((l).map cV) true)]) (J1 := [(2, .cells 88 1 [[.sl 903 0 (l).length]] false), (903, .cells 80 3 ((l).map cV) true), (5, .cells 80 3 [cV v] true)]) (J' := [(2, .cells 88 1 [[.sl 11 0 (l ++ [v]).length]] false), (11, .cells 80 3 ((l ++ [v]).map cV) true), (903, .dead)]) (Fb := [(2, .ptr 2 0 0), (5, .ptr 5 0 0)]) (Z0 := [900, 2, 903]) .normal none (.inl ⟨rfl, rfl⟩)
    rfl rfl (fun i hi => mem_keys.1 hi) (by simp) (fun i h => mem_keys.2 h) (fun i hi => mem_keys.1 (by simp [keysOf] at hi ⊢; omega)) h.state h.params rfl rfl h.size (fun t v h => get_mem h) (fun lb o => as56w g hg l v o lb) (fun lb o => bd56w g hg l hl v o lb)
  rw [rec_same h.state h.pending] at this
  exact this

end Go.Proofs.Ytigfcmcdjfmieaa

/-! Walks: M3. -/
namespace Go.Proofs.Ytigfcmcdjfmieaa
open Go.RowKit
set_option maxRecDepth 100000

theorem ret_own_e {P : Program} {F : Fr} {H H' : Hp} {Z : List Nat} {rs : List ResultVar} {r : AV} {vs : List AV} {e : Exit} (he : e = .normal ∨ e = .ret) (h : resVs P F H rs = some vs) (hr : RC H H' true (resOne vs) r) (hk : KeptHs H (keysOf H') H') (hz : ZL H H' Z) : RetQ P Z rs r H' true e F H :=
  ⟨he, vs, h, hr, hk.keptH, hz.at_⟩
theorem arcV_lt {c a b : V3} {r j : Nat} (hj : j ≤ r) (h : iP r (j + 1) * iP r (j + 1) + j * j = r * r) : (arcV c a b r (r + 1))[(arcV c a b r j).length]? = some (plus (plus c a (iP r (j + 1))) b j) := by
  refine arcV_pre c a b r (j + 1) ?_ (r + 1) (by omega)
  rw [arcV_t rfl h]; simp
theorem sq_le {i r : Nat} (h : i ≤ r) : i * i ≤ r * r := Nat.mul_le_mul h h

def mc77 : MC := (.seq (.reg [⟨(some 6), (.ld false 1 (.t 1)), none, []⟩, ⟨(some 7), (.bin .add (.t 6) (.c (.int .i64 1))), none, [0]⟩, ⟨(some 8), (.mv (.c (.int .i64 0))), none, []⟩] false) (.block 0 (.loop (.seq (.reg [⟨(some 9), (.bin .lss (.t 8) (.t 7)), none, []⟩] false) (.seq (.cond (.t 9) .skip (.exit 0)) (.seq (.block 1 (.seq (.reg [⟨(some 10), (.mv (.t 8)), none, []⟩, ⟨(some 5), (.mv (.t 10)), none, [0, 0]⟩] false) (.seq (.reg [⟨(some 11), (.mv (.t 0)), none, []⟩, ⟨(some 12), (.fa 0 (.t 2)), none, []⟩, ⟨(some 13), (.fa 1 (.t 12)), none, [1]⟩, ⟨(some 14), (.ld true 3 (.t 13)), none, [2]⟩, ⟨(some 15), (.ld true 3 (.t 3)), none, []⟩, ⟨(some 16), (.mv (.t 5)), none, []⟩, ⟨(some 17), (.call 103 [(.t 14), (.t 15), (.t 16)]), none, [3, 4, 5]⟩, ⟨(some 18), (.callv (.t 11) [(.t 17)]), none, [0, 6, 6]⟩, ⟨(some 19), (.un .not (.t 18)), none, [7]⟩] false) (.cond (.t 19) .ret .skip)))) (.reg [⟨(some 20), (.bin .add (.t 8) (.c (.int .i64 1))), none, []⟩, ⟨(some 8), (.mv (.t 20)), none, [0]⟩] false)))))))
theorem mcOk77 : (match Try.f102.body with | some c => compC Try.prog 21 c | none => none) = some mc77 := by kernel_rfl

theorem fc77_app (g : AV) (hg : ∀ D, scopedV D g = true) (m : Mv) (b : V3) (n : Nat) (hm : Bd 100 m.fr) (hb : Bd 100 b) (hn : n ≤ 100) (r0 : Loop) (h : Rec0 Try.prog 13 [7] as56 bd56 r0) : FC Try.prog 102 [.yl 900, .rp [iv (n : Int)], .rp (cM m), .rp (cV b)] [(900, .lp r0 [(6, g), (2, .ptr 2 0 0)]), (2, .cells 88 1 [[.sl 901 0 (([] : List V3)).length]] false), (901, .cells 80 3 ((([] : List V3)).map cV) true)] (.tup []) [(900, .lp r0 [(6, g), (2, .ptr 2 0 0)]), (2, .cells 88 1 [[.sl 903 0 (linQ m.fr b (n + 1)).length]] false), (903, .cells 80 3 ((linQ m.fr b (n + 1)).map cV) true), (901, .dead)] true := by
  refine fc_run (nt := 21) Try.func102 rfl rfl mcOk77 (Nat.le_of_ble_eq_true rfl) ?_
  delta mc77
  refine aw_seq ?_
  refine aw_reg ?_
  refine rs_ld_r rfl rfl rfl ?_
  refine rs_add rfl rfl rfl (by omega) ?_
  refine rs_mv rfl rfl ?_
  refine rs_nil fun _ => ?_
  refine th_n ?_
  refine aw_block ?_
  refine aw_fam (α := Nat) (fun k => n + 1 - k) (fun k => [(0, .yl 900), (1, .rp [iv (n : Int)]), (2, .rp (cM m)), (3, .rp (cV b)), (7, iv ((n : Int) + 1)), (8, iv (((k) : Nat) : Int))]) (fun k => [(900, .lp r0 [(6, g), (2, .ptr 2 0 0)]), (2, .cells 88 1 [[.sl 903 0 (linQ m.fr b (k)).length]] false), (903, .cells 80 3 ((linQ m.fr b (k)).map cV) true), (901, .dead)]) (fun k => k ≤ n + 1) 0 (by omega)
    ((Weak.trans (F1 := [(0, .yl 900), (1, .rp [iv (n : Int)]), (2, .rp (cM m)), (3, .rp (cV b)), (7, iv ((n : Int) + 1)), (8, iv (((0) : Nat) : Int))]) (H1 := [(900, .lp r0 [(6, g), (2, .ptr 2 0 0)]), (2, .cells 88 1 [[.sl 901 0 (([] : List V3)).length]] false), (901, .cells 80 3 ((([] : List V3)).map cV) true)]) (weak_to (.cons rfl (rc_same rfl (.inl rfl)) (.cons rfl (rc_same rfl (.inl rfl)) (.cons rfl (rc_same rfl (.inl rfl)) (.cons rfl (rc_same rfl (.inl rfl)) (.cons rfl (rc_same rfl (.inl rfl)) (.cons rfl (rc_same rfl (.inl rfl)) (.nil))))))) (.keep (rfl) (by simp [scopedOb, scopedL, scopedV, hg, keysOf]) (.keep (rfl) rfl (.keep (rfl) rfl (.nil)))) (fun i hi => by simp [keysOf] at hi ⊢; omega)) (Weak.trans (F1 := [(0, .yl 900), (1, .rp [iv (n : Int)]), (2, .rp (cM m)), (3, .rp (cV b)), (7, iv ((n : Int) + 1)), (8, iv (((0) : Nat) : Int))]) (weak_ren_cell (i := 901) (i' := 903) (k := 2) rfl rfl (.cons rfl (.same _) (.cons rfl (.same _) (.cons rfl (.same _) (.cons rfl (.same _) (.cons rfl (.same _) (.cons rfl (.same _) (.nil))))))) (by decide) rfl (.sl _ _)) (weak_to (.cons rfl (rc_same rfl (.inl rfl)) (.cons rfl (rc_same rfl (.inl rfl)) (.cons rfl (rc_same rfl (.inl rfl)) (.cons rfl (rc_same rfl (.inl rfl)) (.cons rfl (rc_same rfl (.inl rfl)) (.cons rfl (rc_same rfl (.inl rfl)) (.nil))))))) (.keep (rfl) (by simp [scopedOb, scopedL, scopedV, hg, keysOf]) (.keep (rfl) rfl (.keep (rfl) rfl (.keep (rfl) rfl (.nil))))) (fun i hi => by simp [keysOf] at hi ⊢; omega))))) ?_
  intro k hk
  refine aw_seq ?_
  refine aw_reg ?_
  refine rs_lss rfl rfl rfl ?_
  refine rs_nil fun _ => ?_
  refine th_n ?_
  refine aw_seq ?_
  refine aw_cond rfl (fun h9 => ?_) (fun h9 => ?_)
  · replace h9 := of_decide_eq_true h9
    refine aw_skip ?_
    refine th_n ?_
    refine aw_seq ?_
    refine aw_block ?_
    refine aw_seq ?_
    refine aw_reg ?_
    refine rs_mv rfl rfl ?_
    refine rs_mv rfl rfl ?_
    refine rs_nil fun _ => ?_
    refine th_n ?_
    refine aw_seq ?_
    refine aw_reg ?_
    refine rs_mv rfl rfl ?_
    refine rs_fa_r rfl rfl rfl ?_
    refine rs_fa_r rfl rfl rfl ?_
    refine rs_ld_ra rfl rfl (Nat.le_of_ble_eq_true rfl) rfl ?_
    refine rs_ld_ra rfl rfl (Nat.le_of_ble_eq_true rfl) rfl ?_
    refine rs_mv rfl rfl ?_
    refine rs_calln [] rfl rfl (fc78s hm.big hb.big (by omega)) (.cons (hv_same rfl) (.cons (hv_same rfl) (.cons (hv_same rfl) (.nil)))) rfl ?_
    refine rs_yield [(900, .lp r0 [(6, g), (2, .ptr 2 0 0)]), (2, .cells 88 1 [[.sl 903 0 (linQ m.fr b k).length]] false), (903, .cells 80 3 ((linQ m.fr b k).map cV) true)] rfl rfl rfl (y56 g hg (linQ m.fr b k) (by rw [linQ_len]; omega) (plus m.fr b k) r0 h) (.cons (hv_same rfl) (.cons (hv_same rfl) .nil)) (.cons rfl (.cons rfl (.cons rfl (.nil)))) (by simp [scopedHs, scopedOb, scopedL, scopedV, scopedE, hg, keysOf]) rfl rfl ?_
    refine rs_not rfl rfl ?_
    refine rs_nil fun _ => ?_
    refine th_n ?_
    refine aw_cond rfl (fun h => by cases h) (fun _ => ?_)
    refine aw_skip ?_
    refine in_n ?_
    refine th_n ?_
    refine aw_reg ?_
    refine rs_add rfl rfl rfl (by omega) ?_
    refine rs_mv rfl rfl ?_
    refine rs_nil fun _ => ?_
    refine th_n ?_
    exact ⟨k + 1, by omega, by omega, (Weak.trans (F1 := [(0, .yl 900), (1, .rp [iv (n : Int)]), (2, .rp (cM m)), (3, .rp (cV b)), (7, iv ((n : Int) + 1)), (8, iv (((k + 1) : Nat) : Int))]) (H1 := [(900, .lp r0 [(6, g), (2, .ptr 2 0 0)]), (2, .cells 88 1 [[.sl 11 0 (linQ m.fr b k ++ [plus m.fr b k]).length]] false), (11, .cells 80 3 ((linQ m.fr b k ++ [plus m.fr b k]).map cV) true), (901, .dead)]) (weak_to (.cons rfl (rc_same rfl (.inl rfl)) (.cons rfl (rc_same rfl (.inl rfl)) (.cons rfl (rc_same rfl (.inl rfl)) (.cons rfl (rc_same rfl (.inl rfl)) (.cons rfl (rc_same rfl (.inl rfl)) (.cons rfl (rc_same rfl (.inl rfl)) (.nil))))))) (.keep (rfl) (by simp [scopedOb, scopedL, scopedV, hg, keysOf]) (.keep (rfl) rfl (.keep (rfl) rfl (.keep (rfl) rfl (.nil))))) (fun i hi => by simp [keysOf] at hi ⊢; omega)) (Weak.trans (F1 := [(0, .yl 900), (1, .rp [iv (n : Int)]), (2, .rp (cM m)), (3, .rp (cV b)), (7, iv ((n : Int) + 1)), (8, iv (((k + 1) : Nat) : Int))]) (weak_ren_cell (i := 11) (i' := 903) (k := 2) rfl rfl (.cons rfl (.same _) (.cons rfl (.same _) (.cons rfl (.same _) (.cons rfl (.same _) (.cons rfl (.same _) (.cons rfl (.same _) (.nil))))))) (by decide) rfl (.sl _ _)) (weak_to (.cons rfl (rc_same rfl (.inl rfl)) (.cons rfl (rc_same rfl (.inl rfl)) (.cons rfl (rc_same rfl (.inl rfl)) (.cons rfl (rc_same rfl (.inl rfl)) (.cons rfl (rc_same rfl (.inl rfl)) (.cons rfl (rc_same rfl (.inl rfl)) (.nil))))))) (.keep (rfl) (by simp [scopedOb, scopedL, scopedV, hg, keysOf]) (.keep (by rw [linQ_succ]; rfl) rfl (.keep (by rw [linQ_succ]; rfl) rfl (.keep (rfl) rfl (.nil))))) (fun i hi => by simp [keysOf] at hi ⊢; omega))))⟩
  · replace h9 := of_decide_eq_false h9
    refine aw_exit ?_
    refine th_e ?_
    refine th_e ?_
    refine in_hit ?_
    obtain rfl : k = n + 1 := by omega
    exact ret_own_e (by first | exact .inl rfl | exact .inr rfl) rfl (rc_same rfl (.inl rfl)) (.keep (rfl) (by simp [scopedOb, scopedL, scopedV, hg, keysOf]) (.keep (rfl) rfl (.keep (rfl) rfl (.keep (rfl) rfl (.nil))))) (.cons rfl rfl rfl (.cons rfl rfl rfl (.dead rfl rfl (.nil))))

def mc85 : MC := (.seq (.reg [⟨(some 8), (.ld false 1 (.t 1)), none, []⟩, ⟨(some 6), (.mv (.t 8)), none, [0, 0]⟩] false) (.seq (.reg [⟨(some 9), (.ld false 1 (.t 1)), none, []⟩, ⟨(some 10), (.bin .add (.t 9) (.c (.int .i64 1))), none, [0]⟩, ⟨(some 11), (.mv (.c (.int .i64 0))), none, []⟩] false) (.block 0 (.loop (.seq (.reg [⟨(some 12), (.bin .lss (.t 11) (.t 10)), none, []⟩] false) (.seq (.cond (.t 12) .skip (.exit 0)) (.seq (.block 1 (.seq (.reg [⟨(some 13), (.mv (.t 11)), none, []⟩, ⟨(some 7), (.mv (.t 13)), none, [0, 0]⟩] false) (.seq (.block 2 (.loop (.seq (.seq (.reg [⟨(some 14), (.mv (.t 6)), none, []⟩, ⟨(some 15), (.mv (.t 6)), none, []⟩, ⟨(some 16), (.bin .mul (.t 14) (.t 15)), none, [0, 1]⟩, ⟨(some 17), (.mv (.t 7)), none, []⟩, ⟨(some 18), (.mv (.t 7)), none, []⟩, ⟨(some 19), (.bin .mul (.t 17) (.t 18)), none, [3, 4]⟩, ⟨(some 20), (.bin .add (.t 16) (.t 19)), none, [2, 5]⟩, ⟨(some 21), (.ld false 1 (.t 1)), none, []⟩, ⟨(some 22), (.ld false 1 (.t 1)), none, []⟩, ⟨(some 23), (.bin .mul (.t 21) (.t 22)), none, [7, 8]⟩, ⟨(some 24), (.bin .gtr (.t 20) (.t 23)), none, [6, 9]⟩] false) (.cond (.t 24) .skip (.exit 2))) (.block 3 (.reg [⟨(some 25), (.mv (.t 6)), none, []⟩, ⟨(some 26), (.bin .sub (.t 25) (.c (.int .i64 1))), none, [0]⟩, ⟨(some 6), (.mv (.t 26)), none, [1, 0, 1]⟩] false))))) (.seq (.reg [⟨(some 27), (.mv (.t 6)), none, []⟩, ⟨(some 28), (.mv (.t 6)), none, []⟩, ⟨(some 29), (.bin .mul (.t 27) (.t 28)), none, [0, 1]⟩, ⟨(some 30), (.mv (.t 7)), none, []⟩, ⟨(some 31), (.mv (.t 7)), none, []⟩, ⟨(some 32), (.bin .mul (.t 30) (.t 31)), none, [3, 4]⟩, ⟨(some 33), (.bin .add (.t 29) (.t 32)), none, [2, 5]⟩, ⟨(some 34), (.ld false 1 (.t 1)), none, []⟩, ⟨(some 35), (.ld false 1 (.t 1)), none, []⟩, ⟨(some 36), (.bin .mul (.t 34) (.t 35)), none, [7, 8]⟩, ⟨(some 37), (.bin .eql (.t 33) (.t 36)), none, [6, 9]⟩, ⟨(some 38), (.mv (.t 37)), none, [10]⟩, ⟨(some 39), (.mv (.t 0)), (some (38, true)), [11]⟩, ⟨(some 40), (.ld true 3 (.t 2)), (some (38, true)), [11]⟩, ⟨(some 41), (.ld true 3 (.t 3)), (some (38, true)), [11]⟩, ⟨(some 42), (.mv (.t 6)), (some (38, true)), [11]⟩, ⟨(some 43), (.call 103 [(.t 40), (.t 41), (.t 42)]), (some (38, true)), [13, 14, 15, 11, 11]⟩, ⟨(some 44), (.ld true 3 (.t 4)), (some (38, true)), [11]⟩, ⟨(some 45), (.mv (.t 7)), (some (38, true)), [11]⟩, ⟨(some 46), (.call 103 [(.t 43), (.t 44), (.t 45)]), (some (38, true)), [16, 17, 18, 16, 11]⟩, ⟨(some 47), (.callv (.t 39) [(.t 46)]), (some (38, true)), [12, 19, 19, 11]⟩, ⟨(some 48), (.un .not (.t 47)), (some (38, true)), [20, 11]⟩, ⟨(some 49), (.pick (.t 38) (.t 48) (.c (.bool false))), none, [11, 21]⟩] true) (.cond (.t 49) .ret .skip))))) (.reg [⟨(some 50), (.bin .add (.t 11) (.c (.int .i64 1))), none, []⟩, ⟨(some 11), (.mv (.t 50)), none, [0]⟩] false))))))))
theorem mcOk85 : (match Try.f114.body with | some c => compC Try.prog 51 c | none => none) = some mc85 := by kernel_rfl

theorem fc85_app (g : AV) (hg : ∀ D, scopedV D g = true) (c a b : V3) (r : Nat) (hc : Bd 100 c) (ha : Bd 100 a) (hb : Bd 100 b) (hr : r ≤ 100) (r0 : Loop) (h : Rec0 Try.prog 13 [7] as56 bd56 r0) : FC Try.prog 114 [.yl 900, .rp [iv (r : Int)], .rp (cV c), .rp (cV a), .rp (cV b)] [(900, .lp r0 [(6, g), (2, .ptr 2 0 0)]), (2, .cells 88 1 [[.sl 901 0 (([] : List V3)).length]] false), (901, .cells 80 3 ((([] : List V3)).map cV) true)] (.tup []) [(900, .lp r0 [(6, g), (2, .ptr 2 0 0)]), (2, .cells 88 1 [[.sl 903 0 (arcV c a b r (r + 1)).length]] false), (903, .cells 80 3 ((arcV c a b r (r + 1)).map cV) true), (901, .dead)] true := by
  refine fc_run (nt := 51) Try.func114 rfl rfl mcOk85 (Nat.le_of_ble_eq_true rfl) ?_
  delta mc85
  refine aw_seq ?_
  refine aw_reg ?_
  refine rs_ld_r rfl rfl rfl ?_
  refine rs_mv rfl rfl ?_
  refine rs_nil fun _ => ?_
  refine th_n ?_
  refine aw_seq ?_
  refine aw_reg ?_
  refine rs_ld_r rfl rfl rfl ?_
  refine rs_add rfl rfl rfl (by omega) ?_
  refine rs_mv rfl rfl ?_
  refine rs_nil fun _ => ?_
  refine th_n ?_
  refine aw_block ?_
  refine aw_fam (α := Nat) (fun j => r + 1 - j) (fun j => [(0, .yl 900), (1, .rp [iv (r : Int)]), (2, .rp (cV c)), (3, .rp (cV a)), (4, .rp (cV b)), (10, iv ((r : Int) + 1)), (6, iv ((iP r (j) : Nat) : Int)), (11, iv (((j) : Nat) : Int))]) (fun j => [(900, .lp r0 [(6, g), (2, .ptr 2 0 0)]), (2, .cells 88 1 [[.sl 903 0 (arcV c a b r (j)).length]] false), (903, .cells 80 3 ((arcV c a b r (j)).map cV) true), (901, .dead)]) (fun j => j ≤ r + 1) 0 (by omega)
    ((Weak.trans (F1 := [(0, .yl 900), (1, .rp [iv (r : Int)]), (2, .rp (cV c)), (3, .rp (cV a)), (4, .rp (cV b)), (10, iv ((r : Int) + 1)), (6, iv ((iP r (0) : Nat) : Int)), (11, iv (((0) : Nat) : Int))]) (H1 := [(900, .lp r0 [(6, g), (2, .ptr 2 0 0)]), (2, .cells 88 1 [[.sl 901 0 (([] : List V3)).length]] false), (901, .cells 80 3 ((([] : List V3)).map cV) true)]) (weak_to (.cons rfl (rc_same rfl (.inl rfl)) (.cons rfl (rc_same rfl (.inl rfl)) (.cons rfl (rc_same rfl (.inl rfl)) (.cons rfl (rc_same rfl (.inl rfl)) (.cons rfl (rc_same rfl (.inl rfl)) (.cons rfl (rc_same rfl (.inl rfl)) (.cons rfl (rc_same rfl (.inl rfl)) (.cons rfl (rc_same rfl (.inl rfl)) (.nil))))))))) (.keep (rfl) (by simp [scopedOb, scopedL, scopedV, hg, keysOf]) (.keep (rfl) rfl (.keep (rfl) rfl (.nil)))) (fun i hi => by simp [keysOf] at hi ⊢; omega)) (Weak.trans (F1 := [(0, .yl 900), (1, .rp [iv (r : Int)]), (2, .rp (cV c)), (3, .rp (cV a)), (4, .rp (cV b)), (10, iv ((r : Int) + 1)), (6, iv ((iP r (0) : Nat) : Int)), (11, iv (((0) : Nat) : Int))]) (weak_ren_cell (i := 901) (i' := 903) (k := 2) rfl rfl (.cons rfl (.same _) (.cons rfl (.same _) (.cons rfl (.same _) (.cons rfl (.same _) (.cons rfl (.same _) (.cons rfl (.same _) (.cons rfl (.same _) (.cons rfl (.same _) (.nil))))))))) (by decide) rfl (.sl _ _)) (weak_to (.cons rfl (rc_same rfl (.inl rfl)) (.cons rfl (rc_same rfl (.inl rfl)) (.cons rfl (rc_same rfl (.inl rfl)) (.cons rfl (rc_same rfl (.inl rfl)) (.cons rfl (rc_same rfl (.inl rfl)) (.cons rfl (rc_same rfl (.inl rfl)) (.cons rfl (rc_same rfl (.inl rfl)) (.cons rfl (rc_same rfl (.inl rfl)) (.nil))))))))) (.keep (rfl) (by simp [scopedOb, scopedL, scopedV, hg, keysOf]) (.keep (rfl) rfl (.keep (rfl) rfl (.keep (rfl) rfl (.nil))))) (fun i hi => by simp [keysOf] at hi ⊢; omega))))) ?_
  intro j hj
  have q3 := sq_le hr
  refine aw_seq ?_
  refine aw_reg ?_
  refine rs_lss rfl rfl rfl ?_
  refine rs_nil fun _ => ?_
  refine th_n ?_
  refine aw_seq ?_
  refine aw_cond rfl (fun h12 => ?_) (fun h12 => ?_)
  · replace h12 := of_decide_eq_true h12
    refine aw_skip ?_
    refine th_n ?_
    refine aw_seq ?_
    refine aw_block ?_
    refine aw_seq ?_
    refine aw_reg ?_
    refine rs_mv rfl rfl ?_
    refine rs_mv rfl rfl ?_
    refine rs_nil fun _ => ?_
    refine th_n ?_
    refine aw_seq ?_
    refine aw_block ?_
    refine aw_fam (α := Nat) (fun i => i) (fun i => [(0, .yl 900), (1, .rp [iv (r : Int)]), (2, .rp (cV c)), (3, .rp (cV a)), (4, .rp (cV b)), (10, iv ((r : Int) + 1)), (6, iv (((i) : Nat) : Int)), (7, iv (j : Int)), (11, iv (((j) : Nat) : Int))]) (fun i => [(900, .lp r0 [(6, g), (2, .ptr 2 0 0)]), (2, .cells 88 1 [[.sl 903 0 (arcV c a b r (j)).length]] false), (903, .cells 80 3 ((arcV c a b r (j)).map cV) true), (901, .dead)]) (fun i => dn r j i = iP r (j + 1) ∧ i ≤ r) (iP r j) (⟨rfl, iP_le r j⟩)
      (weak_to (.cons rfl (rc_same rfl (.inl rfl)) (.cons rfl (rc_same rfl (.inl rfl)) (.cons rfl (rc_same rfl (.inl rfl)) (.cons rfl (rc_same rfl (.inl rfl)) (.cons rfl (rc_same rfl (.inl rfl)) (.cons rfl (rc_same rfl (.inl rfl)) (.cons rfl (rc_same rfl (.inl rfl)) (.cons rfl (rc_same rfl (.inl rfl)) (.cons rfl (rc_same rfl (.inl rfl)) (.nil)))))))))) (.keep (rfl) (by simp [scopedOb, scopedL, scopedV, hg, keysOf]) (.keep (rfl) rfl (.keep (rfl) rfl (.keep (rfl) rfl (.nil))))) (fun i hi => by simp [keysOf] at hi ⊢; omega)) ?_
    rintro i ⟨hi, hir⟩
    have q1 := sq_le hir
    have q2 := sq_le (i := j) (r := r) (by omega)
    refine aw_seq ?_
    refine aw_seq ?_
    refine aw_reg ?_
    refine rs_mv rfl rfl ?_
    refine rs_mv rfl rfl ?_
    refine rs_mulw rfl rfl rfl (sqW (by omega)) ?_
    refine rs_mv rfl rfl ?_
    refine rs_mv rfl rfl ?_
    refine rs_mulw rfl rfl rfl (sqW (by omega)) ?_
    refine rs_add rfl rfl rfl (by omega) ?_
    refine rs_ld_r rfl rfl rfl ?_
    refine rs_ld_r rfl rfl rfl ?_
    refine rs_mulw rfl rfl rfl (sqW (by omega)) ?_
    refine rs_gtr rfl rfl rfl ?_
    refine rs_nil fun _ => ?_
    refine th_n ?_
    refine aw_cond rfl (fun h24 => ?_) (fun h24 => ?_)
    · replace h24 := of_decide_eq_true h24
      refine aw_skip ?_
      refine th_n ?_
      refine aw_block ?_
      refine aw_reg ?_
      refine rs_mv rfl rfl ?_
      refine rs_sub rfl rfl rfl (by omega) ?_
      refine rs_mv rfl rfl ?_
      refine rs_nil fun _ => ?_
      refine in_n ?_
      refine th_n ?_
      rcases Nat.eq_zero_or_pos i with h0 | h0
      · exfalso; subst h0; omega
      obtain ⟨i, rfl⟩ : ∃ i0, i = i0 + 1 := ⟨i - 1, by omega⟩
      have hdn := dn_next (r := r) (j := j) (i := i) (by rw [← Int.natCast_add] at h24; exact Int.ofNat_lt.1 h24)
      exact ⟨i, ⟨by rw [← hdn]; exact hi, by omega⟩, by omega, weak_to (.cons rfl (rc_same rfl (.inl rfl)) (.cons rfl (rc_same rfl (.inl rfl)) (.cons rfl (rc_same rfl (.inl rfl)) (.cons rfl (rc_same rfl (.inl rfl)) (.cons rfl (rc_same rfl (.inl rfl)) (.cons rfl (rc_same rfl (.inl rfl)) (.cons rfl (rc_int (by omega)) (.cons rfl (rc_same rfl (.inl rfl)) (.cons rfl (rc_same rfl (.inl rfl)) (.nil)))))))))) (.keep (rfl) (by simp [scopedOb, scopedL, scopedV, hg, keysOf]) (.keep (rfl) rfl (.keep (rfl) rfl (.keep (rfl) rfl (.nil))))) (fun i hi => by simp [keysOf] at hi ⊢; omega)⟩
    · replace h24 := of_decide_eq_false h24
      refine aw_exit ?_
      refine th_e ?_
      refine th_e ?_
      refine in_hit ?_
      refine th_n ?_
      refine aw_seq ?_
      refine aw_draw hmix ?_
      rw [dn_stop (by omega)] at hi
      subst hi
      refine rs_mv rfl rfl ?_
      refine rs_mv rfl rfl ?_
      refine rs_mulw rfl rfl rfl (sqW (by omega)) ?_
      refine rs_mv rfl rfl ?_
      refine rs_mv rfl rfl ?_
      refine rs_mulw rfl rfl rfl (sqW (by omega)) ?_
      refine rs_add rfl rfl rfl (by omega) ?_
      refine rs_ld_r rfl rfl rfl ?_
      refine rs_ld_r rfl rfl rfl ?_
      refine rs_mulw rfl rfl rfl (sqW (by omega)) ?_
      refine rs_cmp rfl rfl rfl rfl (fun h37 => ?_) (fun h37 => ?_)
      · skip
        have hcond : iP r (j + 1) * iP r (j + 1) + j * j = r * r := by rw [← Int.natCast_add] at h37; exact Int.ofNat_inj.1 h37
        refine rs_mv rfl rfl ?_
        refine rs_mv rfl rfl ?_
        refine rs_ld_ra rfl rfl (Nat.le_of_ble_eq_true rfl) rfl ?_
        refine rs_ld_ra rfl rfl (Nat.le_of_ble_eq_true rfl) rfl ?_
        refine rs_mv rfl rfl ?_
        refine rs_calln [] rfl rfl (fc78s hc.big ha.big (by omega)) (.cons (hv_same rfl) (.cons (hv_same rfl) (.cons (hv_same rfl) (.nil)))) rfl ?_
        refine rs_ld_ra rfl rfl (Nat.le_of_ble_eq_true rfl) rfl ?_
        refine rs_mv rfl rfl ?_
        refine rs_calln [] rfl rfl (fc78s (Bd.plus hc ha (q := 100) (by omega)).big hb.big (by omega)) (.cons (hv_same rfl) (.cons (hv_same rfl) (.cons (hv_same rfl) (.nil)))) rfl ?_
        refine rs_yield [(900, .lp r0 [(6, g), (2, .ptr 2 0 0)]), (2, .cells 88 1 [[.sl 903 0 (arcV c a b r (j)).length]] false), (903, .cells 80 3 ((arcV c a b r (j)).map cV) true)] rfl rfl rfl (y56 g hg (arcV c a b r (j)) (by have := arcV_len c a b r j; omega) (plus (plus c a ((iP r (j + 1) : Nat) : Int)) b (j : Int)) r0 h) (.cons (hv_same rfl) (.cons (hv_same rfl) .nil)) (.cons rfl (.cons rfl (.cons rfl (.nil)))) (by simp [scopedHs, scopedOb, scopedL, scopedV, scopedE, hg, keysOf]) rfl rfl ?_
        refine rs_not rfl rfl ?_
        refine rs_pick rfl rfl rfl ?_
        refine rs_nil ⟨by kernel_rfl, fun _ => ?_⟩
        refine th_n ?_
        refine aw_cond rfl (fun h => by cases h) (fun _ => ?_)
        refine aw_skip ?_
        refine in_n ?_
        refine th_n ?_
        refine aw_reg ?_
        refine rs_add rfl rfl rfl (by omega) ?_
        refine rs_mv rfl rfl ?_
        refine rs_nil fun _ => ?_
        refine th_n ?_
        (have e := arcV_t (c := c) (a := a) (b := b) rfl hcond
         exact ⟨j + 1, by omega, by omega, (Weak.trans (F1 := [(0, .yl 900), (1, .rp [iv (r : Int)]), (2, .rp (cV c)), (3, .rp (cV a)), (4, .rp (cV b)), (10, iv ((r : Int) + 1)), (6, iv ((iP r (j + 1) : Nat) : Int)), (11, iv (((j + 1) : Nat) : Int))]) (H1 := [(900, .lp r0 [(6, g), (2, .ptr 2 0 0)]), (2, .cells 88 1 [[.sl 11 0 (arcV c a b r (j) ++ [(plus (plus c a ((iP r (j + 1) : Nat) : Int)) b (j : Int))]).length]] false), (11, .cells 80 3 ((arcV c a b r (j) ++ [(plus (plus c a ((iP r (j + 1) : Nat) : Int)) b (j : Int))]).map cV) true), (901, .dead)]) (weak_to (.cons rfl (rc_same rfl (.inl rfl)) (.cons rfl (rc_same rfl (.inl rfl)) (.cons rfl (rc_same rfl (.inl rfl)) (.cons rfl (rc_same rfl (.inl rfl)) (.cons rfl (rc_same rfl (.inl rfl)) (.cons rfl (rc_same rfl (.inl rfl)) (.cons rfl (rc_same rfl (.inl rfl)) (.cons rfl (rc_same rfl (.inl rfl)) (.nil))))))))) (.keep (rfl) (by simp [scopedOb, scopedL, scopedV, hg, keysOf]) (.keep (rfl) rfl (.keep (rfl) rfl (.keep (rfl) rfl (.nil))))) (fun i hi => by simp [keysOf] at hi ⊢; omega)) (Weak.trans (F1 := [(0, .yl 900), (1, .rp [iv (r : Int)]), (2, .rp (cV c)), (3, .rp (cV a)), (4, .rp (cV b)), (10, iv ((r : Int) + 1)), (6, iv ((iP r (j + 1) : Nat) : Int)), (11, iv (((j + 1) : Nat) : Int))]) (weak_ren_cell (i := 11) (i' := 903) (k := 2) rfl rfl (.cons rfl (.same _) (.cons rfl (.same _) (.cons rfl (.same _) (.cons rfl (.same _) (.cons rfl (.same _) (.cons rfl (.same _) (.cons rfl (.same _) (.cons rfl (.same _) (.nil))))))))) (by decide) rfl (.sl _ _)) (weak_to (.cons rfl (rc_same rfl (.inl rfl)) (.cons rfl (rc_same rfl (.inl rfl)) (.cons rfl (rc_same rfl (.inl rfl)) (.cons rfl (rc_same rfl (.inl rfl)) (.cons rfl (rc_same rfl (.inl rfl)) (.cons rfl (rc_same rfl (.inl rfl)) (.cons rfl (rc_same rfl (.inl rfl)) (.cons rfl (rc_same rfl (.inl rfl)) (.nil))))))))) (.keep (rfl) (by simp [scopedOb, scopedL, scopedV, hg, keysOf]) (.keep (by rw [e]; rfl) rfl (.keep (by rw [e]; rfl) rfl (.keep (rfl) rfl (.nil))))) (fun i hi => by simp [keysOf] at hi ⊢; omega))))⟩)
      · skip
        have hcond : ¬ iP r (j + 1) * iP r (j + 1) + j * j = r * r := fun e => h37 (by rw [← Int.natCast_add, e])
        refine rs_mv rfl rfl ?_
        refine rs_skip rfl ?_
        refine rs_skip rfl ?_
        refine rs_skip rfl ?_
        refine rs_skip rfl ?_
        refine rs_skip rfl ?_
        refine rs_skip rfl ?_
        refine rs_skip rfl ?_
        refine rs_skip rfl ?_
        refine rs_skip rfl ?_
        refine rs_skip rfl ?_
        refine rs_pick rfl rfl rfl ?_
        refine rs_nil ⟨by kernel_rfl, fun _ => ?_⟩
        refine th_n ?_
        refine aw_cond rfl (fun h => by cases h) (fun _ => ?_)
        refine aw_skip ?_
        refine in_n ?_
        refine th_n ?_
        refine aw_reg ?_
        refine rs_add rfl rfl rfl (by omega) ?_
        refine rs_mv rfl rfl ?_
        refine rs_nil fun _ => ?_
        refine th_n ?_
        (have e := arcV_f (c := c) (a := a) (b := b) rfl hcond
         exact ⟨j + 1, by omega, by omega, weak_to (.cons rfl (rc_same rfl (.inl rfl)) (.cons rfl (rc_same rfl (.inl rfl)) (.cons rfl (rc_same rfl (.inl rfl)) (.cons rfl (rc_same rfl (.inl rfl)) (.cons rfl (rc_same rfl (.inl rfl)) (.cons rfl (rc_same rfl (.inl rfl)) (.cons rfl (rc_same rfl (.inl rfl)) (.cons rfl (rc_same rfl (.inl rfl)) (.nil))))))))) (.keep (rfl) (by simp [scopedOb, scopedL, scopedV, hg, keysOf]) (.keep (by rw [e]; rfl) rfl (.keep (by rw [e]; rfl) rfl (.keep (rfl) rfl (.nil))))) (fun i hi => by simp [keysOf] at hi ⊢; omega)⟩)
  · replace h12 := of_decide_eq_false h12
    refine aw_exit ?_
    refine th_e ?_
    refine th_e ?_
    refine in_hit ?_
    obtain rfl : j = r + 1 := by omega
    exact ret_own_e (by first | exact .inl rfl | exact .inr rfl) rfl (rc_same rfl (.inl rfl)) (.keep (rfl) (by simp [scopedOb, scopedL, scopedV, hg, keysOf]) (.keep (rfl) rfl (.keep (rfl) rfl (.keep (rfl) rfl (.nil))))) (.cons rfl rfl rfl (.cons rfl rfl rfl (.dead rfl rfl (.nil))))

end Go.Proofs.Ytigfcmcdjfmieaa

/-! Walks: M4. -/
namespace Go.Proofs.Ytigfcmcdjfmieaa
open Go.RowKit
set_option maxRecDepth 100000

theorem cenS_eq (m : Mv) : cenS m = sub (add m.fr m.to) m.co := by
  obtain ⟨h1, h2, h3⟩ := prim_mul (sA m)
  unfold cenS plus
  rw [Int.neg_mul, Int.neg_mul, Int.neg_mul, ← h1, ← h2, ← h3]
  simp only [sub, add, sA]
  congr 1 <;> omega
theorem cen_a (m : Mv) : sub m.fr (cenS m) = sA m := by
  rw [cenS_eq]; simp only [sub, add, sA]; congr 1 <;> omega
theorem cen_b (m : Mv) : sub m.to (cenS m) = sB m := by
  rw [cenS_eq]; simp only [sub, add, sB]; congr 1 <;> omega
theorem fc54c {m : Mv} (h : InM m) : FC Try.prog 78 [aM m] [] (aV (cenS m)) [] false := by
  have e : subW (addW m.fr m.to) m.co = cenS m := by rw [cenS_eq, addW_eq h.fr.big h.to.big, subW_eq (h.fr.add h.to).big h.co.big]
  rw [← e]; exact fc54 m
theorem fc50a {m : Mv} (h : InM m) : FC Try.prog 61 [aV m.fr, aV (cenS m)] [] (aV (sA m)) [] false := by
  rw [← cen_a m]; exact fc50s h.fr.big h.c.big
theorem fc50b {m : Mv} (h : InM m) : FC Try.prog 61 [aV m.to, aV (cenS m)] [] (aV (sB m)) [] false := by
  rw [← cen_b m]; exact fc50s h.to.big h.c.big
theorem fc13c (m : Mv) : FC Try.prog 55 [aM m] [] (iv (checkS m)) [] false := by rw [← check_eq]; exact fc13 m
theorem path_len (m : Mv) : (pathS m).length ≤ 49 := by
  unfold pathS
  split
  · rename_i h
    have hi := ck_in h
    split
    · have := arcV_len (cenS m) (primV (sA m)) (primV (sB m)) (gS (sA m)) (gS (sA m) + 1)
      have := gS_le (n := 48) hi.a48
      omega
    · rw [linQ_len]
      have := gS_le (n := 48) hi.d48
      omega
  · simp
theorem path_0 {m : Mv} (h : ¬ checkS m = 0) : pathS m = [] := if_neg h
theorem path_l {m : Mv} (h : checkS m = 0) (hk : m.kind = 1 ∨ m.kind = 2) : pathS m = linQ m.fr (primV (dS m)) (gS (dS m) + 1) := by unfold pathS; rw [if_pos h, if_neg (by omega)]
theorem path_n {m : Mv} (h : checkS m = 0) (hk : ¬ m.kind = 3) : pathS m = linQ m.fr (primV (dS m)) (gS (dS m) + 1) := by unfold pathS; rw [if_pos h, if_neg hk]
theorem path_a {m : Mv} (h : checkS m = 0) (hk : m.kind = 3) : pathS m = arcV (cenS m) (primV (sA m)) (primV (sB m)) (gS (sA m)) (gS (sA m) + 1) := by unfold pathS; rw [if_pos h, if_pos hk]
def stepsS (m : Mv) : Int := max (((pathS m).length : Int) - 1) 0
def atV (m : Mv) (s : Int) : V3 := if 0 ≤ s then ((pathS m)[s.toNat]?).getD ⟨0, 0, 0⟩ else ⟨0, 0, 0⟩
def atB (m : Mv) (s : Int) : Bool := decide (0 ≤ s ∧ s < (pathS m).length)
theorem at_no {m : Mv} {s : Int} (h : s < 0 ∨ ((pathS m).length : Int) ≤ s) : atV m s = ⟨0, 0, 0⟩ ∧ atB m s = false := by
  refine ⟨?_, decide_eq_false (by omega)⟩
  unfold atV
  split
  · rw [List.getElem?_eq_none (by omega)]; rfl
  · rfl
theorem at_yes {m : Mv} {k : Nat} {v : V3} (h : (pathS m)[k]? = some v) : atV m k = v ∧ atB m k = true := by
  have := lt_of_at h
  refine ⟨?_, decide_eq_true (by omega)⟩
  unfold atV
  rw [if_pos (by omega), Int.toNat_natCast, h]; rfl
def btwB (m : Mv) (i j : Int) : Bool := decide (0 ≤ i ∧ i ≤ j ∧ j < (pathS m).length)
def btwS (m : Mv) (i j : Int) : List V3 := if btwB m i j = true then ((pathS m).drop i.toNat).take ((j + 1).toNat - i.toNat) else []
def elS (m : Mv) (i : Int) : V3 := ((pathS m)[i.toNat]?).getD ⟨0, 0, 0⟩
def outS (m : Mv) (i j : Int) : List V3 := if btwB m i j = true then (if i = j then [elS m i] else if m.kind = 3 then [m.fr, m.co, m.to] else [elS m i, elS m j]) else []
def knS (m : Mv) (i j : Int) : List (V3 × V3) := if btwB m i j = true then (if m.kind = 3 then (btwS m i j).map fun v => (v, v) else [(elS m i, elS m j)]) else []
abbrev cP (p : V3 × V3) : List AV := [iv p.1.x, iv p.1.y, iv p.1.z, iv p.2.x, iv p.2.y, iv p.2.z]
theorem el_at {m : Mv} {i : Int} (h0 : 0 ≤ i) (h : i < (pathS m).length) : (pathS m)[i.toNat]? = some (elS m i) := by
  unfold elS
  rw [List.getElem?_eq_getElem (by omega)]
  rfl
theorem btw_len {m : Mv} {i j : Int} (h : btwB m i j = true) : ((btwS m i j).length : Int) = j - i + 1 := by
  have h1 := of_decide_eq_true h
  unfold btwS
  rw [if_pos h]
  simp
  omega
theorem btw_at {m : Mv} {i j : Int} (h : btwB m i j = true) {k : Nat} (hk : (k : Int) ≤ j - i) : (btwS m i j)[k]? = some (elS m (i + k)) := by
  have h1 := of_decide_eq_true h
  unfold btwS
  rw [if_pos h, List.getElem?_take, if_pos (by omega), List.getElem?_drop, ← el_at (by omega) (by omega)]
  congr 1
  omega
theorem btw_one {m : Mv} {i : Int} (h : btwB m i i = true) : btwS m i i = [elS m i] := by
  have h1 := btw_len h
  have h2 := btw_at (k := 0) h (by omega)
  match hb : btwS m i i, h1, h2 with
  | [v], _, h2 => simpa using h2
  | [], h1, _ => simp at h1
  | v :: w :: l, h1, _ => simp at h1; omega
theorem take_succ_at {α : Type} {l : List α} {k : Nat} {x : α} (h : l[k]? = some x) : l.take (k + 1) = l.take k ++ [x] := by
  obtain ⟨hk, rfl⟩ := List.getElem?_eq_some_iff.1 h
  rw [List.take_succ_eq_append_getElem hk]
/-- The reference's order of an arc's points. -/
def rowR (r i n : Nat) : List (Nat × Nat) := (List.range n).filterMap fun j => if i * i + j * j = r * r then some (i, j) else none
def arcRo (r d : Nat) : List (Nat × Nat) := (List.range d).flatMap fun q => rowR r (r - q) (r + 1)
def arcRV (c a b : V3) (r d j : Nat) : List V3 := (arcRo r d ++ rowR r (r - d) j).map fun p => plus (plus c a p.1) b p.2
theorem rowR_t {r i j : Nat} (h : i * i + j * j = r * r) : rowR r i (j + 1) = rowR r i j ++ [(i, j)] := by
  unfold rowR
  rw [List.range_succ, List.filterMap_append]
  simp [h]
theorem rowR_f {r i j : Nat} (h : ¬ i * i + j * j = r * r) : rowR r i (j + 1) = rowR r i j := by
  unfold rowR
  rw [List.range_succ, List.filterMap_append]
  simp [h]
theorem arcRV_t {c a b : V3} {r d j : Nat} (h : (r - d) * (r - d) + j * j = r * r) : arcRV c a b r d (j + 1) = arcRV c a b r d j ++ [plus (plus c a ((r - d : Nat) : Int)) b j] := by
  unfold arcRV; rw [rowR_t h, ← List.append_assoc, List.map_append]; rfl
theorem arcRV_f {c a b : V3} {r d j : Nat} (h : ¬ (r - d) * (r - d) + j * j = r * r) : arcRV c a b r d (j + 1) = arcRV c a b r d j := by
  unfold arcRV; rw [rowR_f h]
theorem arcRV_row {c a b : V3} {r d : Nat} : arcRV c a b r (d + 1) 0 = arcRV c a b r d (r + 1) := by
  unfold arcRV arcRo
  rw [List.range_succ, List.flatMap_append]
  simp [rowR]
theorem rowR_len (r i : Nat) : ∀ n, (rowR r i n).length ≤ n
  | 0 => Nat.le_refl _
  | n + 1 => by
    have := rowR_len r i n
    by_cases h : i * i + n * n = r * r
    · rw [rowR_t h]; simp; omega
    · rw [rowR_f h]; omega
theorem arcRo_len (r : Nat) : ∀ d, (arcRo r d).length ≤ d * (r + 1)
  | 0 => by simp [arcRo]
  | d + 1 => by
    have := arcRo_len r d
    have h2 := rowR_len r (r - d) (r + 1)
    have e : arcRo r (d + 1) = arcRo r d ++ rowR r (r - d) (r + 1) := by unfold arcRo; rw [List.range_succ, List.flatMap_append]; simp
    rw [e, List.length_append, Nat.add_mul]
    omega
theorem arcRV_len {c a b : V3} {r d j : Nat} (hr : r ≤ 100) (hd : d ≤ r) (hj : j ≤ r + 1) : (arcRV c a b r d j).length ≤ 20000 := by
  have h1 := arcRo_len r d
  have h2 := rowR_len r (r - d) j
  have h3 : d * (r + 1) ≤ 100 * 101 := Nat.mul_le_mul (by omega) (by omega)
  unfold arcRV
  rw [List.length_map, List.length_append]
  omega
theorem arc_same : ∀ r, r < 49 → arcRo r (r + 1) = arcQ r (r + 1) := by decide +kernel
theorem arc_eq {c a b : V3} {r : Nat} (h : r ≤ 48) : arcRV c a b r (r + 1) 0 = arcV c a b r (r + 1) := by
  unfold arcRV arcV
  rw [← arc_same r (by omega)]
  simp [rowR]

def mc56 : MC := (.seq (.reg [⟨(some 2), (.box 88 1 (.t 0)), none, []⟩, ⟨(some 4), (.mv (.c .nils)), none, []⟩] false) (.seq (.seq (.reg [⟨(some 6), (.mv (.t 1)), none, []⟩] false) (.block 0 (.rfunc (.t 6) [7] (.reg [⟨(some 5), (.alloc 80 3 [(.int .i64 0), (.int .i64 0), (.int .i64 0)]), none, []⟩, ⟨none, (.st 3 (.t 5) (.t 7)), none, [0, 0]⟩] false) (.block 1 (.reg [⟨(some 8), (.ld false 1 (.t 2)), none, []⟩, ⟨(some 9), (.ld true 3 (.t 5)), none, []⟩, ⟨(some 10), (.bslice 80 3 [(.int .i64 0), (.int .i64 0), (.int .i64 0)] 1 [(0, (.t 9))]), none, [1]⟩, ⟨(some 11), (.app 80 3 24 [(.int .i64 0), (.int .i64 0), (.int .i64 0)] (.t 8) (.t 10)), none, [0, 2]⟩, ⟨none, (.st 1 (.t 2) (.t 11)), none, [3, 3, 0, 1, 2, 3]⟩] false))))) (.seq (.reg [⟨(some 12), (.ld false 1 (.t 2)), none, []⟩, ⟨(some 4), (.mv (.t 12)), none, [0, 0]⟩] false) .ret)))
theorem mcOk56 : (match Try.f79.body with | some c => compC Try.prog 13 c | none => none) = some mc56 := by kernel_rfl

theorem fc56_l (m : Mv) (b : V3) (n : Nat) (hm : Bd 100 m.fr) (hb : Bd 100 b) (hn : n ≤ 100) : FC Try.prog 79 [.nils, (.fn (.func 102) [.rp [iv ((n : Nat) : Int)], .rp (cM m), .rp (cV b)])] [] (.rs 3 ((linQ m.fr b (n + 1)).map cV)) [] false := by
  refine fc_run (nt := 13) Try.func79 rfl rfl mcOk56 (Nat.le_of_ble_eq_true rfl) ?_
  delta mc56
  refine aw_seq ?_
  refine aw_reg ?_
  refine rs_box rfl rfl rfl rfl rfl rfl ?_
  refine rs_mv rfl rfl ?_
  refine rs_nil fun _ => ?_
  refine th_n ?_
  refine aw_seq ?_
  refine aw_seq ?_
  refine aw_reg ?_
  refine rs_mv rfl rfl ?_
  refine rs_nil fun _ => ?_
  refine th_n ?_
  refine aw_block ?_
  refine aw_weak (F0 := [(6, (.fn (.func 102) [.rp [iv ((n : Nat) : Int)], .rp (cM m), .rp (cV b)])), (2, .ptr 2 0 0)]) (H0 := [(2, .cells 88 1 [[.sl 901 0 (([] : List V3)).length]] false), (901, .cells 80 3 ((([] : List V3)).map cV) true)]) (Weak.trans (F1 := [(6, (.fn (.func 102) [.rp [iv ((n : Nat) : Int)], .rp (cM m), .rp (cV b)])), (2, .ptr 2 0 0)]) (H1 := [(2, .cells 88 1 [[.nils]] true)]) (weak_to (.cons rfl (rc_same rfl (.inl rfl)) (.cons rfl (rc_same rfl (.inl rfl)) (.nil))) (.keep (rfl) rfl (.nil)) (fun i h => by cases h)) (Weak.trans (F1 := [(6, (.fn (.func 102) [.rp [iv ((n : Nat) : Int)], .rp (cM m), .rp (cV b)])), (2, .ptr 2 0 0)]) (weak_seed (i := 901) (k := 2) (e := 88) (z := 1) (e2 := 80) (z2 := 3) (fl := true) (fl2 := true) rfl rfl) (weak_to (.cons rfl (rc_same rfl (.inl rfl)) (.cons rfl (rc_same rfl (.inl rfl)) (.nil))) (.keep (rfl) rfl (.keep (rfl) rfl (.nil))) (fun i h => by cases h)))) ?_
  refine aw_rfunc 900 [(2, .cells 88 1 [[.sl 901 0 (([] : List V3)).length]] false), (901, .cells 80 3 ((([] : List V3)).map cV) true)] [(2, .cells 88 1 [[.sl 903 0 (linQ m.fr b (n + 1)).length]] false), (903, .cells 80 3 ((linQ m.fr b (n + 1)).map cV) true), (901, .dead)] (.inl ⟨rfl, rfl⟩) rfl (by kernel_rfl) rfl rfl rfl (.cons rfl (.cons rfl (.nil))) rfl rfl rfl rfl (fun r0 hrec => ⟨r0, (by rw [hrec.state]; intro h; cases h), hrec.pending, fc77_app (.fn (.func 102) [.rp [iv ((n : Nat) : Int)], .rp (cM m), .rp (cV b)]) (fun D => rfl) m b n hm hb hn r0 hrec⟩) ?_
  refine in_n ?_
  refine th_n ?_
  refine aw_seq ?_
  refine aw_reg ?_
  refine rs_ld_p rfl rfl rfl rfl rfl ?_
  refine rs_mv rfl rfl ?_
  refine rs_nil fun _ => ?_
  refine th_n ?_
  refine aw_ret ?_
  exact ret_new rfl (rc_frz rfl rfl rfl (fun _ => rfl)) .nil

def mc53 : MC := (.seq (.reg [⟨(some 2), (.mv (.c .nils)), none, []⟩] false) (.seq (.reg [⟨(some 3), (.mv (.t 0)), none, []⟩, ⟨(some 4), (.call 79 [(.c .nils), (.t 3)]), none, [0]⟩, ⟨(some 2), (.mv (.t 4)), none, [1, 1, 0, 1]⟩] false) .ret))
theorem mcOk53 : (match Try.f68.body with | some c => compC Try.prog 5 c | none => none) = some mc53 := by kernel_rfl

theorem fc53_l (m : Mv) (b : V3) (n : Nat) (hm : Bd 100 m.fr) (hb : Bd 100 b) (hn : n ≤ 100) : FC Try.prog 68 [(.fn (.func 102) [.rp [iv ((n : Nat) : Int)], .rp (cM m), .rp (cV b)])] [] (.rs 3 ((linQ m.fr b (n + 1)).map cV)) [] true := by
  refine fc_run (nt := 5) Try.func68 rfl rfl mcOk53 (Nat.le_of_ble_eq_true rfl) ?_
  delta mc53
  refine aw_seq ?_
  refine aw_reg ?_
  refine rs_mv rfl rfl ?_
  refine rs_nil fun _ => ?_
  refine th_n ?_
  refine aw_seq ?_
  refine aw_reg ?_
  refine rs_mv rfl rfl ?_
  refine rs_calln [] rfl rfl (fc56_l m b n hm hb hn) (.cons (hv_same rfl) (.cons (hv_same rfl) (.nil))) rfl ?_
  refine rs_mv rfl rfl ?_
  refine rs_nil fun _ => ?_
  refine th_n ?_
  refine aw_ret ?_
  exact ret_pure rfl rfl rfl (.inl rfl)

theorem fc56_a (c a b : V3) (r : Nat) (hc : Bd 100 c) (ha : Bd 100 a) (hb : Bd 100 b) (hr : r ≤ 100) : FC Try.prog 79 [.nils, (.fn (.func 114) [.rp [iv ((r : Nat) : Int)], .rp (cV c), .rp (cV a), .rp (cV b)])] [] (.rs 3 ((arcV c a b r (r + 1)).map cV)) [] false := by
  refine fc_run (nt := 13) Try.func79 rfl rfl mcOk56 (Nat.le_of_ble_eq_true rfl) ?_
  delta mc56
  refine aw_seq ?_
  refine aw_reg ?_
  refine rs_box rfl rfl rfl rfl rfl rfl ?_
  refine rs_mv rfl rfl ?_
  refine rs_nil fun _ => ?_
  refine th_n ?_
  refine aw_seq ?_
  refine aw_seq ?_
  refine aw_reg ?_
  refine rs_mv rfl rfl ?_
  refine rs_nil fun _ => ?_
  refine th_n ?_
  refine aw_block ?_
  refine aw_weak (F0 := [(6, (.fn (.func 114) [.rp [iv ((r : Nat) : Int)], .rp (cV c), .rp (cV a), .rp (cV b)])), (2, .ptr 2 0 0)]) (H0 := [(2, .cells 88 1 [[.sl 901 0 (([] : List V3)).length]] false), (901, .cells 80 3 ((([] : List V3)).map cV) true)]) (Weak.trans (F1 := [(6, (.fn (.func 114) [.rp [iv ((r : Nat) : Int)], .rp (cV c), .rp (cV a), .rp (cV b)])), (2, .ptr 2 0 0)]) (H1 := [(2, .cells 88 1 [[.nils]] true)]) (weak_to (.cons rfl (rc_same rfl (.inl rfl)) (.cons rfl (rc_same rfl (.inl rfl)) (.nil))) (.keep (rfl) rfl (.nil)) (fun i h => by cases h)) (Weak.trans (F1 := [(6, (.fn (.func 114) [.rp [iv ((r : Nat) : Int)], .rp (cV c), .rp (cV a), .rp (cV b)])), (2, .ptr 2 0 0)]) (weak_seed (i := 901) (k := 2) (e := 88) (z := 1) (e2 := 80) (z2 := 3) (fl := true) (fl2 := true) rfl rfl) (weak_to (.cons rfl (rc_same rfl (.inl rfl)) (.cons rfl (rc_same rfl (.inl rfl)) (.nil))) (.keep (rfl) rfl (.keep (rfl) rfl (.nil))) (fun i h => by cases h)))) ?_
  refine aw_rfunc 900 [(2, .cells 88 1 [[.sl 901 0 (([] : List V3)).length]] false), (901, .cells 80 3 ((([] : List V3)).map cV) true)] [(2, .cells 88 1 [[.sl 903 0 (arcV c a b r (r + 1)).length]] false), (903, .cells 80 3 ((arcV c a b r (r + 1)).map cV) true), (901, .dead)] (.inl ⟨rfl, rfl⟩) rfl (by kernel_rfl) rfl rfl rfl (.cons rfl (.cons rfl (.nil))) rfl rfl rfl rfl (fun r0 hrec => ⟨r0, (by rw [hrec.state]; intro h; cases h), hrec.pending, fc85_app (.fn (.func 114) [.rp [iv ((r : Nat) : Int)], .rp (cV c), .rp (cV a), .rp (cV b)]) (fun D => rfl) c a b r hc ha hb hr r0 hrec⟩) ?_
  refine in_n ?_
  refine th_n ?_
  refine aw_seq ?_
  refine aw_reg ?_
  refine rs_ld_p rfl rfl rfl rfl rfl ?_
  refine rs_mv rfl rfl ?_
  refine rs_nil fun _ => ?_
  refine th_n ?_
  refine aw_ret ?_
  exact ret_new rfl (rc_frz rfl rfl rfl (fun _ => rfl)) .nil

theorem fc53_a (c a b : V3) (r : Nat) (hc : Bd 100 c) (ha : Bd 100 a) (hb : Bd 100 b) (hr : r ≤ 100) : FC Try.prog 68 [(.fn (.func 114) [.rp [iv ((r : Nat) : Int)], .rp (cV c), .rp (cV a), .rp (cV b)])] [] (.rs 3 ((arcV c a b r (r + 1)).map cV)) [] true := by
  refine fc_run (nt := 5) Try.func68 rfl rfl mcOk53 (Nat.le_of_ble_eq_true rfl) ?_
  delta mc53
  refine aw_seq ?_
  refine aw_reg ?_
  refine rs_mv rfl rfl ?_
  refine rs_nil fun _ => ?_
  refine th_n ?_
  refine aw_seq ?_
  refine aw_reg ?_
  refine rs_mv rfl rfl ?_
  refine rs_calln [] rfl rfl (fc56_a c a b r hc ha hb hr) (.cons (hv_same rfl) (.cons (hv_same rfl) (.nil))) rfl ?_
  refine rs_mv rfl rfl ?_
  refine rs_nil fun _ => ?_
  refine th_n ?_
  refine aw_ret ?_
  exact ret_pure rfl rfl rfl (.inl rfl)

def mc43 : MC := (.seq (.reg [⟨(some 1), (.box 82 11 (.t 0)), none, []⟩, ⟨(some 2), (.mv (.c .nils)), none, []⟩] false) (.seq (.seq (.reg [⟨(some 3), (.ld true 11 (.t 1)), none, []⟩, ⟨(some 4), (.call 54 [(.t 3)]), none, [0]⟩, ⟨(some 5), (.bin .neq (.t 4) (.c (.int .i64 0))), none, [1]⟩] false) (.cond (.t 5) (.seq (.reg [⟨(some 2), (.mv (.c .nils)), none, []⟩] false) .ret) .skip)) (.seq (.reg [⟨(some 6), (.ld true 11 (.t 1)), none, []⟩, ⟨(some 7), (.call 63 [(.t 6)]), none, [0]⟩, ⟨(some 8), (.inv "collet/move.steps" (.t 7) []), none, [1, 1]⟩, ⟨(some 9), (.call 68 [(.t 8)]), none, [2, 2]⟩, ⟨(some 2), (.mv (.t 9)), none, [3, 3, 0, 1, 2, 3]⟩] false) .ret)))
theorem mcOk43 : (match Try.f59.body with | some c => compC Try.prog 10 c | none => none) = some mc43 := by kernel_rfl

theorem fc43_l (m : Mv) (hk : m.kind = 1 ∨ m.kind = 2) : FC Try.prog 59 [aM m] [] (.rs 3 ((pathS m).map cV)) [] true := by
  refine fc_run (nt := 10) Try.func59 rfl rfl mcOk43 (Nat.le_of_ble_eq_true rfl) ?_
  delta mc43
  refine aw_seq ?_
  refine aw_reg ?_
  refine rs_box rfl rfl rfl rfl rfl rfl ?_
  refine rs_mv rfl rfl ?_
  refine rs_nil fun _ => ?_
  refine th_n ?_
  refine aw_seq ?_
  refine aw_seq ?_
  refine aw_reg ?_
  refine rs_ld_pa rfl rfl rfl rfl (Nat.le_of_ble_eq_true rfl) rfl ?_
  refine rs_calln [] rfl rfl (fc12 m) (.cons (hv_same rfl) (.nil)) rfl ?_
  refine rs_neq rfl rfl rfl ?_
  refine rs_nil fun _ => ?_
  refine th_n ?_
  refine aw_cond rfl (fun h5 => ?_) (fun h5 => ?_)
  · replace h5 := of_decide_eq_true h5
    refine aw_seq ?_
    refine aw_reg ?_
    refine rs_mv rfl rfl ?_
    refine rs_nil fun _ => ?_
    refine th_n ?_
    refine aw_ret ?_
    refine th_r ?_
    (rw [path_0 h5]; exact ret_new rfl rc_nils .nil)
  · replace h5 := of_decide_eq_false h5
    have h0 : checkS m = 0 := by omega
    have hi := ck_in h0
    have hg1 := gS_le (n := 48) hi.d48
    have hp := path_l h0 hk
    rw [hp]
    refine aw_skip ?_
    refine th_n ?_
    refine aw_seq ?_
    refine aw_reg ?_
    refine rs_ld_pa rfl rfl rfl rfl (Nat.le_of_ble_eq_true rfl) rfl ?_
    refine rs_calln [] rfl rfl (fc39_l m hk) (.cons (hv_same rfl) (.nil)) rfl ?_
    refine rs_invn [] rfl rfl (by kernel_rfl) (by kernel_rfl) rfl (fc76 m hi) (.cons (hv_same rfl) (.nil)) rfl ?_
    refine rs_callo [] rfl rfl (fc53_l m (primV (dS m)) (gS (dS m)) (hi.fr.mono (by omega)) ((prim_bd hi.d48).mono (by omega)) (by omega)) (.cons (hv_same rfl) (.nil)) (.nil) rfl rfl rfl ?_
    refine rs_mv rfl rfl ?_
    refine rs_nil fun _ => ?_
    refine th_n ?_
    refine aw_ret ?_
    exact ret_pure rfl rfl rfl (.inl rfl)

theorem fc43_a (m : Mv) (hk : m.kind = 3) : FC Try.prog 59 [aM m] [] (.rs 3 ((pathS m).map cV)) [] true := by
  refine fc_run (nt := 10) Try.func59 rfl rfl mcOk43 (Nat.le_of_ble_eq_true rfl) ?_
  delta mc43
  refine aw_seq ?_
  refine aw_reg ?_
  refine rs_box rfl rfl rfl rfl rfl rfl ?_
  refine rs_mv rfl rfl ?_
  refine rs_nil fun _ => ?_
  refine th_n ?_
  refine aw_seq ?_
  refine aw_seq ?_
  refine aw_reg ?_
  refine rs_ld_pa rfl rfl rfl rfl (Nat.le_of_ble_eq_true rfl) rfl ?_
  refine rs_calln [] rfl rfl (fc12 m) (.cons (hv_same rfl) (.nil)) rfl ?_
  refine rs_neq rfl rfl rfl ?_
  refine rs_nil fun _ => ?_
  refine th_n ?_
  refine aw_cond rfl (fun h5 => ?_) (fun h5 => ?_)
  · replace h5 := of_decide_eq_true h5
    refine aw_seq ?_
    refine aw_reg ?_
    refine rs_mv rfl rfl ?_
    refine rs_nil fun _ => ?_
    refine th_n ?_
    refine aw_ret ?_
    refine th_r ?_
    (rw [path_0 h5]; exact ret_new rfl rc_nils .nil)
  · replace h5 := of_decide_eq_false h5
    have h0 : checkS m = 0 := by omega
    have hi := ck_in h0
    have hg1 := gS_le (n := 48) hi.a48
    have hp := path_a h0 hk
    rw [hp]
    refine aw_skip ?_
    refine th_n ?_
    refine aw_seq ?_
    refine aw_reg ?_
    refine rs_ld_pa rfl rfl rfl rfl (Nat.le_of_ble_eq_true rfl) rfl ?_
    refine rs_calln [] rfl rfl (fc39_a m hk) (.cons (hv_same rfl) (.nil)) rfl ?_
    refine rs_invn [] rfl rfl (by kernel_rfl) (by kernel_rfl) rfl (fc82 m hi) (.cons (hv_same rfl) (.nil)) rfl ?_
    refine rs_callo [] rfl rfl (fc53_a (cenS m) (primV (sA m)) (primV (sB m)) (gS (sA m)) hi.c ((prim_bd hi.a48).mono (by omega)) ((prim_bd hi.b48).mono (by omega)) (by omega)) (.cons (hv_same rfl) (.nil)) (.nil) rfl rfl rfl ?_
    refine rs_mv rfl rfl ?_
    refine rs_nil fun _ => ?_
    refine th_n ?_
    refine aw_ret ?_
    exact ret_pure rfl rfl rfl (.inl rfl)

theorem fc43_n (m : Mv) (hk : ¬ m.kind = 1 ∧ ¬ m.kind = 2 ∧ ¬ m.kind = 3) : FC Try.prog 59 [aM m] [] (.rs 3 ((pathS m).map cV)) [] true := by
  refine fc_run (nt := 10) Try.func59 rfl rfl mcOk43 (Nat.le_of_ble_eq_true rfl) ?_
  delta mc43
  refine aw_seq ?_
  refine aw_reg ?_
  refine rs_box rfl rfl rfl rfl rfl rfl ?_
  refine rs_mv rfl rfl ?_
  refine rs_nil fun _ => ?_
  refine th_n ?_
  refine aw_seq ?_
  refine aw_seq ?_
  refine aw_reg ?_
  refine rs_ld_pa rfl rfl rfl rfl (Nat.le_of_ble_eq_true rfl) rfl ?_
  refine rs_calln [] rfl rfl (fc12 m) (.cons (hv_same rfl) (.nil)) rfl ?_
  refine rs_cmp_t rfl rfl rfl rfl (by rw [ck_n hk]; decide) ?_
  refine rs_nil fun _ => ?_
  refine th_n ?_
  refine aw_cond rfl (fun _ => ?_) (fun h => by cases h)
  refine aw_seq ?_
  refine aw_reg ?_
  refine rs_mv rfl rfl ?_
  refine rs_nil fun _ => ?_
  refine th_n ?_
  refine aw_ret ?_
  refine th_r ?_
  rw [path_0 (by rw [ck_n hk]; decide)]
  exact ret_new rfl rc_nils .nil

theorem fc43 (m : Mv) : FC Try.prog 59 [aM m] [] (.rs 3 ((pathS m).map cV)) [] true := by
  by_cases h1 : m.kind = 1 ∨ m.kind = 2
  · exact fc43_l m h1
  · by_cases h3 : m.kind = 3
    · exact fc43_a m h3
    · exact fc43_n m (by omega)

def mc14 : MC := (.seq (.reg [⟨(some 1), (.box 82 11 (.t 0)), none, []⟩, ⟨(some 2), (.mv (.c (.int .i64 0))), none, []⟩] false) (.seq (.reg [⟨(some 3), (.ld true 11 (.t 1)), none, []⟩, ⟨(some 4), (.call 59 [(.t 3)]), none, [0]⟩, ⟨(some 5), (.len (.t 4)), none, [1]⟩, ⟨(some 6), (.bin .sub (.t 5) (.c (.int .i64 1))), none, [2]⟩, ⟨(some 7), (.mx (.t 6) (.c (.int .i64 0))), none, [3]⟩, ⟨(some 2), (.mv (.t 7)), none, [4, 1, 0, 1, 2, 3, 4]⟩] false) .ret))
theorem mcOk14 : (match Try.f52.body with | some c => compC Try.prog 8 c | none => none) = some mc14 := by kernel_rfl

theorem fc14 (m : Mv) : FC Try.prog 52 [aM m] [] (iv (stepsS m)) [] false := by
  have hl := path_len m
  refine fc_run (nt := 8) Try.func52 rfl rfl mcOk14 (Nat.le_of_ble_eq_true rfl) ?_
  delta mc14
  refine aw_seq ?_
  refine aw_reg ?_
  refine rs_box rfl rfl rfl rfl rfl rfl ?_
  refine rs_mv rfl rfl ?_
  refine rs_nil fun _ => ?_
  refine th_n ?_
  refine aw_seq ?_
  refine aw_reg ?_
  refine rs_ld_pa rfl rfl rfl rfl (Nat.le_of_ble_eq_true rfl) rfl ?_
  refine rs_callo [] rfl rfl (fc43 m) (.cons (hv_same rfl) (.nil)) (.nil) rfl rfl rfl ?_
  refine rs_len_m rfl rfl ?_
  refine rs_sub rfl rfl rfl (by omega) ?_
  refine rs_mx rfl rfl rfl rfl ?_
  refine rs_mv rfl rfl ?_
  refine rs_nil fun _ => ?_
  refine th_n ?_
  refine aw_ret ?_
  exact ret_pure rfl rfl rfl (.inr rfl)

end Go.Proofs.Ytigfcmcdjfmieaa

/-! Walks: M5. -/
namespace Go.Proofs.Ytigfcmcdjfmieaa
open Go.RowKit
set_option maxRecDepth 100000

theorem btw_fst {m : Mv} {i j : Int} (h : btwB m i j = true) : (btwS m i j)[(0 : Int).toNat]? = some (elS m i) := by
  have h1 := of_decide_eq_true h
  have := btw_at (k := 0) h (by omega)
  simpa using this
theorem btw_lst {m : Mv} {i j : Int} (h : btwB m i j = true) : (btwS m i j)[(((btwS m i j).length : Int) - 1).toNat]? = some (elS m j) := by
  have h1 := of_decide_eq_true h
  have h2 := btw_len h
  have := btw_at (k := (((btwS m i j).length : Int) - 1).toNat) h (by omega)
  rw [this]
  congr 2
  omega
theorem btw_le (m : Mv) (i j : Int) : (btwS m i j).length ≤ 49 := by
  have := path_len m
  unfold btwS
  split
  · rw [List.length_take, List.length_drop]; omega
  · simp
theorem at_el {m : Mv} {s : Int} (h0 : 0 ≤ s) (h : s < (pathS m).length) : atV m s = elS m s ∧ atB m s = true := ⟨if_pos h0, decide_eq_true ⟨h0, h⟩⟩
theorem rs_aeqp {P : Program} {N : Nat} {F : Fr} {H : Hp} {ml : List MOper} {K : List Fp → Fr → Hp → Prop} {d : Nat} {g : Option (Nat × Bool)} {pre : List Nat} {neg : Bool} {x y : Arg} {u v : V3 × V3} (hg : gOK F g = true) (hx : aarg F x = some (.agg (cP u))) (hy : aarg F y = some (.agg (cP v)))
    (h : RS P N ml ((d, .bool (neg != decide (u = v))) :: F) H (fun fps => K (([], []) :: fps))) : RS P N (⟨some d, .aeq neg 6 x y, g, pre⟩ :: ml) F H K :=
  rs_aeq [u.1.x, u.1.y, u.1.z, u.2.x, u.2.y, u.2.z] [v.1.x, v.1.y, v.1.z, v.2.x, v.2.y, v.2.z] hg hx hy rfl rfl rfl rfl (by
    congr 1
    obtain ⟨⟨a, b, c⟩, ⟨d, e, f⟩⟩ := u
    obtain ⟨⟨a', b', c'⟩, ⟨d', e', f'⟩⟩ := v
    simp [and_assoc]) h

def mc44 : MC := (.seq (.reg [⟨(some 1), (.box 82 11 (.t 0)), none, []⟩, ⟨(some 2), (.mv (.c .nils)), none, []⟩] false) (.seq (.seq (.reg [⟨(some 14), (.ld true 11 (.t 1)), none, []⟩, ⟨(some 15), (.call 55 [(.t 14)]), none, [0]⟩, ⟨(some 16), (.bin .neq (.t 15) (.c (.int .i64 0))), none, [1]⟩] false) (.cond (.t 16) (.seq (.reg [⟨(some 2), (.mv (.c .nils)), none, []⟩] false) .ret) .skip)) (.seq (.reg [⟨(some 3), (.mv (.c .nils)), none, []⟩] false) (.seq (.seq (.reg [⟨(some 17), (.fa 0 (.t 1)), none, []⟩, ⟨(some 18), (.ld false 1 (.t 17)), none, [0]⟩, ⟨(some 19), (.bin .neq (.t 18) (.c (.int .i64 3))), none, [1]⟩] false) (.cond (.t 19) (.seq (.reg [⟨(some 21), (.fa 4 (.t 1)), none, []⟩, ⟨(some 22), (.ld true 3 (.t 21)), none, [0]⟩, ⟨(some 23), (.fa 1 (.t 1)), none, []⟩, ⟨(some 24), (.ld true 3 (.t 23)), none, [2]⟩, ⟨(some 25), (.call 61 [(.t 22), (.t 24)]), none, [1, 3]⟩, ⟨(some 26), (.call 77 [(.t 25)]), none, [4, 4]⟩, ⟨(some 20), (.mv (.t 26)), none, [5]⟩, ⟨(some 27), (.ext (.t 20) 0), none, [6]⟩, ⟨(some 28), (.ext (.t 20) 1), none, [6]⟩, ⟨(some 4), (.alloc 80 3 [(.int .i64 0), (.int .i64 0), (.int .i64 0)]), none, []⟩, ⟨none, (.st 3 (.t 4) (.t 27)), none, [9, 7, 5, 0, 1, 2, 3, 4, 5, 6, 7, 9]⟩, ⟨(some 5), (.mv (.t 28)), none, [8, 10, 0, 1, 2, 3, 4, 5, 6, 7, 8, 9, 10]⟩] false) (.seq (.seq (.reg [⟨(some 6), (.mv (.c (.int .i64 0))), none, []⟩] false) (.block 0 (.loop (.seq (.seq (.reg [⟨(some 29), (.mv (.t 6)), none, []⟩, ⟨(some 30), (.mv (.t 5)), none, []⟩, ⟨(some 31), (.bin .leq (.t 29) (.t 30)), none, [0, 1]⟩] false) (.cond (.t 31) .skip (.exit 0))) (.seq (.block 1 (.reg [⟨(some 34), (.mv (.t 3)), none, []⟩, ⟨(some 35), (.fa 1 (.t 1)), none, []⟩, ⟨(some 36), (.ld true 3 (.t 35)), none, [1]⟩, ⟨(some 37), (.ld true 3 (.t 4)), none, []⟩, ⟨(some 38), (.mv (.t 6)), none, []⟩, ⟨(some 39), (.call 71 [(.t 36), (.t 37), (.t 38)]), none, [2, 3, 4]⟩, ⟨(some 40), (.bslice 80 3 [(.int .i64 0), (.int .i64 0), (.int .i64 0)] 1 [(0, (.t 39))]), none, [5]⟩, ⟨(some 41), (.app 80 3 24 [(.int .i64 0), (.int .i64 0), (.int .i64 0)] (.t 34) (.t 40)), none, [0, 6, 5]⟩, ⟨(some 3), (.mv (.t 41)), none, [7, 7, 0, 1, 2, 3, 4, 5, 6, 7]⟩] false)) (.reg [⟨(some 32), (.mv (.t 6)), none, []⟩, ⟨(some 33), (.bin .add (.t 32) (.c (.int .i64 1))), none, [0]⟩, ⟨(some 6), (.mv (.t 33)), none, [1, 0, 1]⟩] false)))))) (.seq (.reg [⟨(some 42), (.mv (.t 3)), none, []⟩, ⟨(some 2), (.mv (.t 42)), none, [0, 0]⟩] false) .ret))) .skip)) (.seq (.reg [⟨(some 43), (.ld true 11 (.t 1)), none, []⟩, ⟨(some 44), (.call 78 [(.t 43)]), none, [0]⟩, ⟨(some 7), (.alloc 80 3 [(.int .i64 0), (.int .i64 0), (.int .i64 0)]), none, []⟩, ⟨none, (.st 3 (.t 7) (.t 44)), none, [2, 1, 1, 0, 1, 2]⟩] false) (.seq (.reg [⟨(some 46), (.fa 1 (.t 1)), none, []⟩, ⟨(some 47), (.ld true 3 (.t 46)), none, [0]⟩, ⟨(some 48), (.ld true 3 (.t 7)), none, []⟩, ⟨(some 49), (.call 61 [(.t 47), (.t 48)]), none, [1, 2]⟩, ⟨(some 50), (.call 77 [(.t 49)]), none, [3, 3]⟩, ⟨(some 45), (.mv (.t 50)), none, [4]⟩, ⟨(some 51), (.ext (.t 45) 0), none, [5]⟩, ⟨(some 52), (.ext (.t 45) 1), none, [5]⟩, ⟨(some 8), (.alloc 80 3 [(.int .i64 0), (.int .i64 0), (.int .i64 0)]), none, []⟩, ⟨none, (.st 3 (.t 8) (.t 51)), none, [8, 6, 4, 0, 1, 2, 3, 4, 5, 6, 8]⟩, ⟨(some 9), (.mv (.t 52)), none, [7, 9, 0, 1, 2, 3, 4, 5, 6, 7, 8, 9]⟩] false) (.seq (.reg [⟨(some 54), (.fa 4 (.t 1)), none, []⟩, ⟨(some 55), (.ld true 3 (.t 54)), none, [0]⟩, ⟨(some 56), (.ld true 3 (.t 7)), none, []⟩, ⟨(some 57), (.call 61 [(.t 55), (.t 56)]), none, [1, 2]⟩, ⟨(some 58), (.call 77 [(.t 57)]), none, [3, 3]⟩, ⟨(some 53), (.mv (.t 58)), none, [4]⟩, ⟨(some 59), (.ext (.t 53) 0), none, [5]⟩, ⟨(some 60), (.ext (.t 53) 1), none, [5]⟩, ⟨(some 10), (.alloc 80 3 [(.int .i64 0), (.int .i64 0), (.int .i64 0)]), none, []⟩, ⟨none, (.st 3 (.t 10) (.t 59)), none, [8, 6, 4, 0, 1, 2, 3, 4, 5, 6, 8]⟩, ⟨(some 11), (.mv (.t 60)), none, [7, 9, 0, 1, 2, 3, 4, 5, 6, 7, 8, 9]⟩] false) (.seq (.seq (.reg [⟨(some 61), (.mv (.t 9)), none, []⟩, ⟨(some 12), (.mv (.t 61)), none, [0, 0]⟩] false) (.block 2 (.loop (.seq (.seq (.reg [⟨(some 62), (.mv (.t 12)), none, []⟩, ⟨(some 63), (.bin .geq (.t 62) (.c (.int .i64 0))), none, [0]⟩] false) (.cond (.t 63) .skip (.exit 2))) (.seq (.block 3 (.seq (.reg [⟨(some 13), (.mv (.c (.int .i64 0))), none, []⟩] false) (.block 4 (.loop (.seq (.seq (.reg [⟨(some 66), (.mv (.t 13)), none, []⟩, ⟨(some 67), (.mv (.t 9)), none, []⟩, ⟨(some 68), (.bin .leq (.t 66) (.t 67)), none, [0, 1]⟩] false) (.cond (.t 68) .skip (.exit 4))) (.seq (.block 5 (.seq (.reg [⟨(some 71), (.mv (.t 12)), none, []⟩, ⟨(some 72), (.mv (.t 12)), none, []⟩, ⟨(some 73), (.bin .mul (.t 71) (.t 72)), none, [0, 1]⟩, ⟨(some 74), (.mv (.t 13)), none, []⟩, ⟨(some 75), (.mv (.t 13)), none, []⟩, ⟨(some 76), (.bin .mul (.t 74) (.t 75)), none, [3, 4]⟩, ⟨(some 77), (.bin .add (.t 73) (.t 76)), none, [2, 5]⟩, ⟨(some 78), (.mv (.t 9)), none, []⟩, ⟨(some 79), (.mv (.t 9)), none, []⟩, ⟨(some 80), (.bin .mul (.t 78) (.t 79)), none, [7, 8]⟩, ⟨(some 81), (.bin .eql (.t 77) (.t 80)), none, [6, 9]⟩] false) (.cond (.t 81) (.reg [⟨(some 82), (.mv (.t 3)), none, []⟩, ⟨(some 83), (.ld true 3 (.t 7)), none, []⟩, ⟨(some 84), (.ld true 3 (.t 8)), none, []⟩, ⟨(some 85), (.mv (.t 12)), none, []⟩, ⟨(some 86), (.call 71 [(.t 83), (.t 84), (.t 85)]), none, [1, 2, 3]⟩, ⟨(some 87), (.ld true 3 (.t 10)), none, []⟩, ⟨(some 88), (.mv (.t 13)), none, []⟩, ⟨(some 89), (.call 71 [(.t 86), (.t 87), (.t 88)]), none, [4, 5, 6, 4]⟩, ⟨(some 90), (.bslice 80 3 [(.int .i64 0), (.int .i64 0), (.int .i64 0)] 1 [(0, (.t 89))]), none, [7]⟩, ⟨(some 91), (.app 80 3 24 [(.int .i64 0), (.int .i64 0), (.int .i64 0)] (.t 82) (.t 90)), none, [0, 8, 7]⟩, ⟨(some 3), (.mv (.t 91)), none, [9, 9, 0, 1, 2, 3, 4, 5, 6, 7, 8, 9]⟩] true) .skip))) (.reg [⟨(some 69), (.mv (.t 13)), none, []⟩, ⟨(some 70), (.bin .add (.t 69) (.c (.int .i64 1))), none, [0]⟩, ⟨(some 13), (.mv (.t 70)), none, [1, 0, 1]⟩] false))))))) (.reg [⟨(some 64), (.mv (.t 12)), none, []⟩, ⟨(some 65), (.bin .sub (.t 64) (.c (.int .i64 1))), none, [0]⟩, ⟨(some 12), (.mv (.t 65)), none, [1, 0, 1]⟩] false)))))) (.seq (.reg [⟨(some 92), (.mv (.t 3)), none, []⟩, ⟨(some 2), (.mv (.t 92)), none, [0, 0]⟩] false) .ret)))))))))
theorem mcOk44 : (match Try.f67.body with | some c => compC Try.prog 93 c | none => none) = some mc44 := by kernel_rfl

theorem fc44 (m : Mv) : FC Try.prog 67 [aM m] [] (.rs 3 ((pathS m).map cV)) [] false := by
  refine fc_run (nt := 93) Try.func67 rfl rfl mcOk44 (Nat.le_of_ble_eq_true rfl) ?_
  delta mc44
  refine aw_seq ?_
  refine aw_reg ?_
  refine rs_box rfl rfl rfl rfl rfl rfl ?_
  refine rs_mv rfl rfl ?_
  refine rs_nil fun _ => ?_
  refine th_n ?_
  refine aw_seq ?_
  refine aw_seq ?_
  refine aw_reg ?_
  refine rs_ld_pa rfl rfl rfl rfl (Nat.le_of_ble_eq_true rfl) rfl ?_
  refine rs_calln [] rfl rfl (fc13c m) (.cons (hv_same rfl) (.nil)) rfl ?_
  refine rs_neq rfl rfl rfl ?_
  refine rs_nil fun _ => ?_
  refine th_n ?_
  refine aw_cond rfl (fun h16 => ?_) (fun h16 => ?_)
  · replace h16 := of_decide_eq_true h16
    refine aw_seq ?_
    refine aw_reg ?_
    refine rs_mv rfl rfl ?_
    refine rs_nil fun _ => ?_
    refine th_n ?_
    refine aw_ret ?_
    refine th_r ?_
    (rw [path_0 h16]; exact ret_new rfl rc_nils .nil)
  · replace h16 := of_decide_eq_false h16
    have h0 : checkS m = 0 := by omega
    have hi := ck_in h0
    refine aw_skip ?_
    refine th_n ?_
    refine aw_seq ?_
    refine aw_reg ?_
    refine rs_mv rfl rfl ?_
    refine rs_nil fun _ => ?_
    refine th_n ?_
    refine aw_seq ?_
    refine aw_seq ?_
    refine aw_reg ?_
    refine rs_fa_p rfl rfl ?_
    refine rs_ld_p rfl rfl rfl rfl rfl ?_
    refine rs_neq rfl rfl rfl ?_
    refine rs_nil fun _ => ?_
    refine th_n ?_
    refine aw_cond rfl (fun h19 => ?_) (fun h19 => ?_)
    · replace h19 := of_decide_eq_true h19
      refine aw_seq ?_
      refine aw_reg ?_
      refine rs_fa_p rfl rfl ?_
      refine rs_ld_pa rfl rfl rfl rfl (Nat.le_of_ble_eq_true rfl) rfl ?_
      refine rs_fa_p rfl rfl ?_
      refine rs_ld_pa rfl rfl rfl rfl (Nat.le_of_ble_eq_true rfl) rfl ?_
      refine rs_calln [] rfl rfl (fc50s hi.to.big hi.fr.big) (.cons (hv_same rfl) (.cons (hv_same rfl) (.nil))) rfl ?_
      refine rs_calln [] rfl rfl (fc32 (dS m) hi.d48.big) (.cons (hv_same rfl) (.nil)) rfl ?_
      refine rs_mv rfl rfl ?_
      have hg1 := gS_le (n := 48) hi.d48
      refine rs_ext rfl rfl rfl ?_
      refine rs_ext rfl rfl rfl ?_
      refine rs_alloc rfl rfl rfl ?_
      refine rs_st rfl rfl rfl rfl rfl rfl rfl (Nat.le_of_ble_eq_true rfl) rfl rfl ?_
      refine rs_mv rfl rfl ?_
      refine rs_nil fun _ => ?_
      refine th_n ?_
      refine aw_seq ?_
      refine aw_seq ?_
      refine aw_reg ?_
      refine rs_mv rfl rfl ?_
      refine rs_nil fun _ => ?_
      refine th_n ?_
      refine aw_block ?_
      refine aw_fam (α := Nat) (fun k => gS (dS m) + 1 - k) (fun k => [(1, .ptr 1 0 0), (4, .ptr 4 0 0), (5, iv (gS (dS m) : Int)), (6, iv (((k) : Nat) : Int)), (3, .sl 1003 0 (k))]) (fun k => [(1, .cells 82 11 [cM m] true), (4, .cells 80 3 [cV (primV (dS m))] true), (1003, .cells 80 3 ((linQ m.fr (primV (dS m)) (k)).map cV) true)]) (fun k => k ≤ gS (dS m) + 1) 0 (by omega)
        (weak_to (.cons rfl (rc_same rfl (.inl rfl)) (.cons rfl (rc_same rfl (.inl rfl)) (.cons rfl (rc_same rfl (.inl rfl)) (.cons rfl (rc_same rfl (.inl rfl)) (.cons rfl (rc_virt rfl rfl) (.nil)))))) (.keep (rfl) rfl (.keep (rfl) rfl (.virt rfl (.nil)))) (fun i h => by cases h)) ?_
      intro k hk
      refine aw_seq ?_
      refine aw_seq ?_
      refine aw_reg ?_
      refine rs_mv rfl rfl ?_
      refine rs_mv rfl rfl ?_
      refine rs_leq rfl rfl rfl ?_
      refine rs_nil fun _ => ?_
      refine th_n ?_
      refine aw_cond rfl (fun h31 => ?_) (fun h31 => ?_)
      · replace h31 := of_decide_eq_true h31
        refine aw_skip ?_
        refine th_n ?_
        refine aw_seq ?_
        refine aw_block ?_
        refine aw_reg ?_
        refine rs_mv rfl rfl ?_
        refine rs_fa_p rfl rfl ?_
        refine rs_ld_pa rfl rfl rfl rfl (Nat.le_of_ble_eq_true rfl) rfl ?_
        refine rs_ld_pa rfl rfl rfl rfl (Nat.le_of_ble_eq_true rfl) rfl ?_
        refine rs_mv rfl rfl ?_
        refine rs_calln [] rfl rfl (fc37s hi.fr.big (prim_bd hi.d48).big (by omega)) (.cons (hv_same rfl) (.cons (hv_same rfl) (.cons (hv_same rfl) (.nil)))) rfl ?_
        refine rs_bslice rfl rfl rfl rfl rfl rfl ?_
        refine rs_app_m (f := cV) (xs := linQ m.fr (primV (dS m)) k) (y := plus m.fr (primV (dS m)) k) rfl rfl rfl rfl (linQ_len _ _ _) rfl rfl rfl (by decide) rfl (by omega) (by omega) rfl ?_
        refine rs_mv rfl rfl ?_
        refine rs_nil fun _ => ?_
        refine in_n ?_
        refine th_n ?_
        refine aw_reg ?_
        refine rs_mv rfl rfl ?_
        refine rs_add rfl rfl rfl (by omega) ?_
        refine rs_mv rfl rfl ?_
        refine rs_nil fun _ => ?_
        refine th_n ?_
        exact ⟨k + 1, by omega, by omega, weak_to_ren (i := 41) (i' := 1003) (F1 := [(1, .ptr 1 0 0), (4, .ptr 4 0 0), (5, iv (gS (dS m) : Int)), (6, iv (((k + 1) : Nat) : Int)), (3, .sl 41 0 (k + 1))]) (H1 := [(1, .cells 82 11 [cM m] true), (4, .cells 80 3 [cV (primV (dS m))] true), (41, .cells 80 3 ((linQ m.fr (primV (dS m)) (k + 1)).map cV) true)]) (.cons rfl (rc_same rfl (.inl rfl)) (.cons rfl (rc_same rfl (.inl rfl)) (.cons rfl (rc_same rfl (.inl rfl)) (.cons rfl (rc_same rfl (.inl rfl)) (.cons rfl (rc_same rfl (.inl rfl)) (.nil)))))) (.keep (rfl) rfl (.keep (rfl) rfl (.keep ((by rw [linQ_succ]; rfl)) rfl (.nil)))) (fun i h => by cases h) rfl rfl (.cons rfl (.same _) (.cons rfl (.same _) (.cons rfl (.same _) (.cons rfl (.same _) (.cons rfl (.sl _ _) (.nil)))))) (.cons rfl (rc_same rfl (.inl rfl)) (.cons rfl (rc_same rfl (.inl rfl)) (.cons rfl (rc_same rfl (.inl rfl)) (.cons rfl (rc_same rfl (.inl rfl)) (.cons rfl (rc_same rfl (.inl rfl)) (.nil)))))) (.keep (rfl) rfl (.keep (rfl) rfl (.keep (rfl) rfl (.nil)))) (fun i h => by cases h)⟩
      · replace h31 := of_decide_eq_false h31
        refine aw_exit ?_
        refine th_e ?_
        refine th_e ?_
        refine in_hit ?_
        refine th_n ?_
        refine aw_seq ?_
        refine aw_reg ?_
        refine rs_mv rfl rfl ?_
        refine rs_mv rfl rfl ?_
        refine rs_nil fun _ => ?_
        refine th_n ?_
        refine aw_ret ?_
        refine th_r ?_
        (have hk2 : k = gS (dS m) + 1 := by omega
         subst hk2
         rw [path_n h0 h19]
         exact ret_new rfl (rc_frz rfl rfl (linQ_len _ _ _) (fun _ => rfl)) .nil)
    · replace h19 := of_decide_eq_false h19
      refine aw_skip ?_
      refine th_n ?_
      refine aw_seq ?_
      refine aw_reg ?_
      refine rs_ld_pa rfl rfl rfl rfl (Nat.le_of_ble_eq_true rfl) rfl ?_
      refine rs_calln [] rfl rfl (fc54c hi) (.cons (hv_same rfl) (.nil)) rfl ?_
      refine rs_alloc rfl rfl rfl ?_
      refine rs_st rfl rfl rfl rfl rfl rfl rfl (Nat.le_of_ble_eq_true rfl) rfl rfl ?_
      refine rs_nil fun _ => ?_
      refine th_n ?_
      refine aw_seq ?_
      refine aw_reg ?_
      refine rs_fa_p rfl rfl ?_
      refine rs_ld_pa rfl rfl rfl rfl (Nat.le_of_ble_eq_true rfl) rfl ?_
      refine rs_ld_pa rfl rfl rfl rfl (Nat.le_of_ble_eq_true rfl) rfl ?_
      refine rs_calln [] rfl rfl (fc50a hi) (.cons (hv_same rfl) (.cons (hv_same rfl) (.nil))) rfl ?_
      refine rs_calln [] rfl rfl (fc32 (sA m) hi.a48.big) (.cons (hv_same rfl) (.nil)) rfl ?_
      refine rs_mv rfl rfl ?_
      have hg1 := gS_le (n := 48) hi.a48
      refine rs_ext rfl rfl rfl ?_
      refine rs_ext rfl rfl rfl ?_
      refine rs_alloc rfl rfl rfl ?_
      refine rs_st rfl rfl rfl rfl rfl rfl rfl (Nat.le_of_ble_eq_true rfl) rfl rfl ?_
      refine rs_mv rfl rfl ?_
      refine rs_nil fun _ => ?_
      refine th_n ?_
      refine aw_seq ?_
      refine aw_reg ?_
      refine rs_fa_p rfl rfl ?_
      refine rs_ld_pa rfl rfl rfl rfl (Nat.le_of_ble_eq_true rfl) rfl ?_
      refine rs_ld_pa rfl rfl rfl rfl (Nat.le_of_ble_eq_true rfl) rfl ?_
      refine rs_calln [] rfl rfl (fc50b hi) (.cons (hv_same rfl) (.cons (hv_same rfl) (.nil))) rfl ?_
      refine rs_calln [] rfl rfl (fc32 (sB m) hi.b48.big) (.cons (hv_same rfl) (.nil)) rfl ?_
      refine rs_mv rfl rfl ?_
      refine rs_ext rfl rfl rfl ?_
      refine rs_ext rfl rfl rfl ?_
      refine rs_alloc rfl rfl rfl ?_
      refine rs_st rfl rfl rfl rfl rfl rfl rfl (Nat.le_of_ble_eq_true rfl) rfl rfl ?_
      refine rs_mv rfl rfl ?_
      refine rs_nil fun _ => ?_
      refine th_n ?_
      refine aw_seq ?_
      refine aw_seq ?_
      refine aw_reg ?_
      refine rs_mv rfl rfl ?_
      refine rs_mv rfl rfl ?_
      refine rs_nil fun _ => ?_
      refine th_n ?_
      refine aw_block ?_
      refine aw_fam (α := Nat) (fun d => gS (sA m) + 1 - d) (fun d => [(1, .ptr 1 0 0), (7, .ptr 7 0 0), (8, .ptr 8 0 0), (10, .ptr 10 0 0), (9, iv (gS (sA m) : Int)), (12, iv ((gS (sA m) : Int) - ((d : Nat) : Int))), (3, .sl 1003 0 (arcRV (cenS m) (primV (sA m)) (primV (sB m)) (gS (sA m)) (d) (0)).length)]) (fun d => [(1, .cells 82 11 [cM m] true), (7, .cells 80 3 [cV (cenS m)] true), (8, .cells 80 3 [cV (primV (sA m))] true), (10, .cells 80 3 [cV (primV (sB m))] true), (1003, .cells 80 3 ((arcRV (cenS m) (primV (sA m)) (primV (sB m)) (gS (sA m)) (d) (0)).map cV) true)]) (fun d => d ≤ gS (sA m) + 1) 0 (by omega)
        (weak_to (.cons rfl (rc_same rfl (.inl rfl)) (.cons rfl (rc_same rfl (.inl rfl)) (.cons rfl (rc_same rfl (.inl rfl)) (.cons rfl (rc_same rfl (.inl rfl)) (.cons rfl (rc_same rfl (.inl rfl)) (.cons rfl (rc_int (by omega)) (.cons rfl (rc_virt rfl rfl) (.nil)))))))) (.keep (rfl) rfl (.keep (rfl) rfl (.keep (rfl) rfl (.keep (rfl) rfl (.virt rfl (.nil)))))) (fun i h => by cases h)) ?_
      intro d hd
      refine aw_seq ?_
      refine aw_seq ?_
      refine aw_reg ?_
      refine rs_mv rfl rfl ?_
      refine rs_geq rfl rfl rfl ?_
      refine rs_nil fun _ => ?_
      refine th_n ?_
      refine aw_cond rfl (fun h63 => ?_) (fun h63 => ?_)
      · replace h63 := of_decide_eq_true h63
        refine aw_skip ?_
        refine th_n ?_
        refine aw_seq ?_
        refine aw_block ?_
        refine aw_seq ?_
        refine aw_reg ?_
        refine rs_mv rfl rfl ?_
        refine rs_nil fun _ => ?_
        refine th_n ?_
        refine aw_block ?_
        refine aw_fam (α := Nat) (fun j => gS (sA m) + 1 - j) (fun j => [(1, .ptr 1 0 0), (7, .ptr 7 0 0), (8, .ptr 8 0 0), (10, .ptr 10 0 0), (9, iv (gS (sA m) : Int)), (12, iv ((gS (sA m) - d : Nat) : Int)), (13, iv (((j) : Nat) : Int)), (3, .sl 1003 0 (arcRV (cenS m) (primV (sA m)) (primV (sB m)) (gS (sA m)) (d) (j)).length)]) (fun j => [(1, .cells 82 11 [cM m] true), (7, .cells 80 3 [cV (cenS m)] true), (8, .cells 80 3 [cV (primV (sA m))] true), (10, .cells 80 3 [cV (primV (sB m))] true), (1003, .cells 80 3 ((arcRV (cenS m) (primV (sA m)) (primV (sB m)) (gS (sA m)) (d) (j)).map cV) true)]) (fun j => j ≤ gS (sA m) + 1) 0 (by omega)
          (weak_to (.cons rfl (rc_same rfl (.inl rfl)) (.cons rfl (rc_same rfl (.inl rfl)) (.cons rfl (rc_same rfl (.inl rfl)) (.cons rfl (rc_same rfl (.inl rfl)) (.cons rfl (rc_same rfl (.inl rfl)) (.cons rfl (rc_int (by omega)) (.cons rfl (rc_same rfl (.inl rfl)) (.cons rfl (rc_same rfl (.inl rfl)) (.nil))))))))) (.keep (rfl) rfl (.keep (rfl) rfl (.keep (rfl) rfl (.keep (rfl) rfl (.keep (rfl) rfl (.nil)))))) (fun i h => by cases h)) ?_
        intro j hj
        have q1 := sq_le (i := gS (sA m) - d) (r := 48) (by omega)
        have q2 := sq_le (i := j) (r := 49) (by omega)
        refine aw_seq ?_
        refine aw_seq ?_
        refine aw_reg ?_
        refine rs_mv rfl rfl ?_
        refine rs_mv rfl rfl ?_
        refine rs_leq rfl rfl rfl ?_
        refine rs_nil fun _ => ?_
        refine th_n ?_
        refine aw_cond rfl (fun h68 => ?_) (fun h68 => ?_)
        · replace h68 := of_decide_eq_true h68
          refine aw_skip ?_
          refine th_n ?_
          refine aw_seq ?_
          refine aw_block ?_
          refine aw_seq ?_
          refine aw_reg ?_
          refine rs_mv rfl rfl ?_
          refine rs_mv rfl rfl ?_
          refine rs_mulw rfl rfl rfl (sqW (by omega)) ?_
          refine rs_mv rfl rfl ?_
          refine rs_mv rfl rfl ?_
          refine rs_mulw rfl rfl rfl (sqW (by omega)) ?_
          refine rs_add rfl rfl rfl (by omega) ?_
          refine rs_mv rfl rfl ?_
          refine rs_mv rfl rfl ?_
          refine rs_mulw rfl rfl rfl (sqW (by omega)) ?_
          refine rs_eql rfl rfl rfl ?_
          refine rs_nil fun _ => ?_
          refine th_n ?_
          refine aw_cond rfl (fun h81 => ?_) (fun h81 => ?_)
          · replace h81 := of_decide_eq_true h81
            have hcond : (gS (sA m) - d) * (gS (sA m) - d) + j * j = gS (sA m) * gS (sA m) := by rw [← Int.natCast_add] at h81; exact Int.ofNat_inj.1 h81
            refine aw_draw hmix ?_
            refine rs_mv rfl rfl ?_
            refine rs_ld_pa rfl rfl rfl rfl (Nat.le_of_ble_eq_true rfl) rfl ?_
            refine rs_ld_pa rfl rfl rfl rfl (Nat.le_of_ble_eq_true rfl) rfl ?_
            refine rs_mv rfl rfl ?_
            refine rs_calln [] rfl rfl (fc37s hi.c.big (prim_bd hi.a48).big (by omega)) (.cons (hv_same rfl) (.cons (hv_same rfl) (.cons (hv_same rfl) (.nil)))) rfl ?_
            refine rs_ld_pa rfl rfl rfl rfl (Nat.le_of_ble_eq_true rfl) rfl ?_
            refine rs_mv rfl rfl ?_
            refine rs_calln [] rfl rfl (fc37s (Bd.plus hi.c (prim_bd hi.a48) (q := 100) (by omega)).big (prim_bd hi.b48).big (by omega)) (.cons (hv_same rfl) (.cons (hv_same rfl) (.cons (hv_same rfl) (.nil)))) rfl ?_
            refine rs_bslice rfl rfl rfl rfl rfl rfl ?_
            have hlen := arcRV_len (c := cenS m) (a := primV (sA m)) (b := primV (sB m)) (r := gS (sA m)) (d := d) (j := j) (by omega) (by omega) (by omega)
            refine rs_app_m (f := cV) (xs := (arcRV (cenS m) (primV (sA m)) (primV (sB m)) (gS (sA m)) (d) (j))) (y := (plus (plus (cenS m) (primV (sA m)) ((gS (sA m) - d : Nat) : Int)) (primV (sB m)) (j : Int))) rfl rfl rfl rfl rfl rfl rfl rfl (by decide) rfl (by omega) (by omega) rfl ?_
            refine rs_mv rfl rfl ?_
            refine rs_nil ⟨by kernel_rfl, fun _ => ?_⟩
            refine in_n ?_
            refine th_n ?_
            refine aw_reg ?_
            refine rs_mv rfl rfl ?_
            refine rs_add rfl rfl rfl (by omega) ?_
            refine rs_mv rfl rfl ?_
            refine rs_nil fun _ => ?_
            refine th_n ?_
            (have e := arcRV_t (c := cenS m) (a := primV (sA m)) (b := primV (sB m)) hcond
             exact ⟨j + 1, by omega, by omega, weak_to_ren (i := 91) (i' := 1003) (F1 := [(1, .ptr 1 0 0), (7, .ptr 7 0 0), (8, .ptr 8 0 0), (10, .ptr 10 0 0), (9, iv (gS (sA m) : Int)), (12, iv ((gS (sA m) - d : Nat) : Int)), (13, iv (((j + 1) : Nat) : Int)), (3, .sl 91 0 (arcRV (cenS m) (primV (sA m)) (primV (sB m)) (gS (sA m)) (d) (j + 1)).length)]) (H1 := [(1, .cells 82 11 [cM m] true), (7, .cells 80 3 [cV (cenS m)] true), (8, .cells 80 3 [cV (primV (sA m))] true), (10, .cells 80 3 [cV (primV (sB m))] true), (91, .cells 80 3 ((arcRV (cenS m) (primV (sA m)) (primV (sB m)) (gS (sA m)) (d) (j + 1)).map cV) true)]) (.cons rfl (rc_same rfl (.inl rfl)) (.cons rfl (rc_same rfl (.inl rfl)) (.cons rfl (rc_same rfl (.inl rfl)) (.cons rfl (rc_same rfl (.inl rfl)) (.cons rfl (rc_same rfl (.inl rfl)) (.cons rfl (rc_same rfl (.inl rfl)) (.cons rfl (rc_same rfl (.inl rfl)) (.cons rfl (rc_eq (by rw [e]; simp) rfl) (.nil))))))))) (.keep (rfl) rfl (.keep (rfl) rfl (.keep (rfl) rfl (.keep (rfl) rfl (.keep ((by (rw [e]) <;> rfl)) rfl (.nil)))))) (fun i h => by cases h) rfl rfl (.cons rfl (.same _) (.cons rfl (.same _) (.cons rfl (.same _) (.cons rfl (.same _) (.cons rfl (.same _) (.cons rfl (.same _) (.cons rfl (.same _) (.cons rfl (.sl _ _) (.nil))))))))) (.cons rfl (rc_same rfl (.inl rfl)) (.cons rfl (rc_same rfl (.inl rfl)) (.cons rfl (rc_same rfl (.inl rfl)) (.cons rfl (rc_same rfl (.inl rfl)) (.cons rfl (rc_same rfl (.inl rfl)) (.cons rfl (rc_same rfl (.inl rfl)) (.cons rfl (rc_same rfl (.inl rfl)) (.cons rfl (rc_same rfl (.inl rfl)) (.nil))))))))) (.keep (rfl) rfl (.keep (rfl) rfl (.keep (rfl) rfl (.keep (rfl) rfl (.keep (rfl) rfl (.nil)))))) (fun i h => by cases h)⟩)
          · replace h81 := of_decide_eq_false h81
            have hcond : ¬ (gS (sA m) - d) * (gS (sA m) - d) + j * j = gS (sA m) * gS (sA m) := fun e => h81 (by rw [← Int.natCast_add, e])
            refine aw_skip ?_
            refine in_n ?_
            refine th_n ?_
            refine aw_reg ?_
            refine rs_mv rfl rfl ?_
            refine rs_add rfl rfl rfl (by omega) ?_
            refine rs_mv rfl rfl ?_
            refine rs_nil fun _ => ?_
            refine th_n ?_
            (have e := arcRV_f (c := cenS m) (a := primV (sA m)) (b := primV (sB m)) hcond
             exact ⟨j + 1, by omega, by omega, weak_to (.cons rfl (rc_same rfl (.inl rfl)) (.cons rfl (rc_same rfl (.inl rfl)) (.cons rfl (rc_same rfl (.inl rfl)) (.cons rfl (rc_same rfl (.inl rfl)) (.cons rfl (rc_same rfl (.inl rfl)) (.cons rfl (rc_same rfl (.inl rfl)) (.cons rfl (rc_same rfl (.inl rfl)) (.cons rfl (rc_eq (by rw [e]) rfl) (.nil))))))))) (.keep (rfl) rfl (.keep (rfl) rfl (.keep (rfl) rfl (.keep (rfl) rfl (.keep ((by (rw [e]) <;> rfl)) rfl (.nil)))))) (fun i h => by cases h)⟩)
        · replace h68 := of_decide_eq_false h68
          refine aw_exit ?_
          refine th_e ?_
          refine th_e ?_
          refine in_hit ?_
          refine in_n ?_
          refine th_n ?_
          refine aw_reg ?_
          refine rs_mv rfl rfl ?_
          refine rs_sub rfl rfl rfl (by omega) ?_
          refine rs_mv rfl rfl ?_
          refine rs_nil fun _ => ?_
          refine th_n ?_
          have hj2 : j = gS (sA m) + 1 := by omega
          subst hj2
          have e := arcRV_row (c := cenS m) (a := primV (sA m)) (b := primV (sB m)) (r := gS (sA m)) (d := d)
          exact ⟨d + 1, by omega, by omega, weak_to (.cons rfl (rc_same rfl (.inl rfl)) (.cons rfl (rc_same rfl (.inl rfl)) (.cons rfl (rc_same rfl (.inl rfl)) (.cons rfl (rc_same rfl (.inl rfl)) (.cons rfl (rc_same rfl (.inl rfl)) (.cons rfl (rc_int (by omega)) (.cons rfl (rc_eq (by rw [e]) rfl) (.nil)))))))) (.keep (rfl) rfl (.keep (rfl) rfl (.keep (rfl) rfl (.keep (rfl) rfl (.keep ((by (rw [e]) <;> rfl)) rfl (.nil)))))) (fun i h => by cases h)⟩
      · replace h63 := of_decide_eq_false h63
        refine aw_exit ?_
        refine th_e ?_
        refine th_e ?_
        refine in_hit ?_
        refine th_n ?_
        refine aw_seq ?_
        refine aw_reg ?_
        refine rs_mv rfl rfl ?_
        refine rs_mv rfl rfl ?_
        refine rs_nil fun _ => ?_
        refine th_n ?_
        refine aw_ret ?_
        (have hd2 : d = gS (sA m) + 1 := by omega
         subst hd2
         rw [path_a h0 (by omega), ← arc_eq (by omega)]
         exact ret_new rfl (rc_frz rfl rfl rfl (fun _ => rfl)) .nil)

def mc15 : MC := (.seq (.reg [⟨(some 1), (.box 82 11 (.t 0)), none, []⟩, ⟨(some 2), (.mv (.c (.int .i64 0))), none, []⟩] false) (.seq (.reg [⟨(some 3), (.ld true 11 (.t 1)), none, []⟩, ⟨(some 4), (.call 67 [(.t 3)]), none, [0]⟩, ⟨(some 5), (.len (.t 4)), none, [1]⟩, ⟨(some 6), (.bin .sub (.t 5) (.c (.int .i64 1))), none, [2]⟩, ⟨(some 7), (.mx (.t 6) (.c (.int .i64 0))), none, [3]⟩, ⟨(some 2), (.mv (.t 7)), none, [4, 1, 0, 1, 2, 3, 4]⟩] false) .ret))
theorem mcOk15 : (match Try.f56.body with | some c => compC Try.prog 8 c | none => none) = some mc15 := by kernel_rfl

theorem fc15 (m : Mv) : FC Try.prog 56 [aM m] [] (iv (stepsS m)) [] false := by
  have hl := path_len m
  refine fc_run (nt := 8) Try.func56 rfl rfl mcOk15 (Nat.le_of_ble_eq_true rfl) ?_
  delta mc15
  refine aw_seq ?_
  refine aw_reg ?_
  refine rs_box rfl rfl rfl rfl rfl rfl ?_
  refine rs_mv rfl rfl ?_
  refine rs_nil fun _ => ?_
  refine th_n ?_
  refine aw_seq ?_
  refine aw_reg ?_
  refine rs_ld_pa rfl rfl rfl rfl (Nat.le_of_ble_eq_true rfl) rfl ?_
  refine rs_calln [] rfl rfl (fc44 m) (.cons (hv_same rfl) (.nil)) rfl ?_
  refine rs_len_m rfl rfl ?_
  refine rs_sub rfl rfl rfl (by omega) ?_
  refine rs_mx rfl rfl rfl rfl ?_
  refine rs_mv rfl rfl ?_
  refine rs_nil fun _ => ?_
  refine th_n ?_
  refine aw_ret ?_
  exact ret_pure rfl rfl rfl (.inr rfl)

end Go.Proofs.Ytigfcmcdjfmieaa

/-! Walks: M6. -/
namespace Go.Proofs.Ytigfcmcdjfmieaa
open Go.RowKit
set_option maxRecDepth 100000

def axL : List V3 := [⟨1, 0, 0⟩, ⟨0, 1, 0⟩, ⟨0, 0, 1⟩, ⟨-1, 0, 0⟩, ⟨0, -1, 0⟩, ⟨0, 0, -1⟩]
def axS (n : Int) : V3 := (axL[(modS n 6).toNat]?).getD ⟨0, 0, 0⟩
theorem ax_at (n : Int) : axL[0 + (modS n 6).toNat]? = some (axS n) := by
  have h := modS_range n 6 (by omega)
  unfold axS
  generalize modS n 6 = t at h
  obtain rfl | rfl | rfl | rfl | rfl | rfl : t = 0 ∨ t = 1 ∨ t = 2 ∨ t = 3 ∨ t = 4 ∨ t = 5 := by omega
  all_goals rfl
theorem ax_mem (n : Int) : axS n ∈ axL := List.mem_of_getElem? (ax_at n)
theorem ax_bd (n : Int) : Bd 1 (axS n) := by
  have h := ax_mem n
  unfold axL at h
  simp only [List.mem_cons, List.not_mem_nil, or_false] at h
  rcases h with h | h | h | h | h | h <;> rw [h] <;> exact ⟨by decide, by decide, by decide⟩
def rS (t : Int) : Int := (([1, 2, 5, 5, 10] : List Int)[t.toNat]?).getD 0
theorem r_at (t : Int) (h0 : 0 ≤ t) (h1 : t < 5) : ([ci 1, ci 2, ci 5, ci 5, ci 10] : List (List AV))[0 + t.toNat]? = some (ci (rS t)) := by
  obtain rfl | rfl | rfl | rfl | rfl : t = 0 ∨ t = 1 ∨ t = 2 ∨ t = 3 ∨ t = 4 := by omega
  all_goals rfl
theorem r_range (t : Int) (h0 : 0 ≤ t) (h1 : t < 5) : rS t = 1 ∨ rS t = 2 ∨ rS t = 5 ∨ rS t = 10 := by
  obtain rfl | rfl | rfl | rfl | rfl : t = 0 ∨ t = 1 ∨ t = 2 ∨ t = 3 ∨ t = 4 := by omega
  all_goals decide
abbrev q1 (l : List Int) : Nat := nextA l 0
abbrev q2 (l : List Int) : Nat := vecA l (q1 l)
abbrev q3 (l : List Int) : Nat := nextA l (q2 l)
abbrev q4 (l : List Int) : Nat := nextA l (q3 l)
abbrev q5 (l : List Int) : Nat := nextA l (q4 l)
abbrev q6 (l : List Int) : Nat := nextA l (q5 l)
abbrev mK (l : List Int) : Int := nextV l 0 4
abbrev mF (l : List Int) : V3 := vecV l (q1 l) 8
abbrev mG (l : List Int) : Int := 1 + nextV l (q2 l) 100
abbrev mA (l : List Int) : Int := nextV l (q3 l) 6
abbrev mB (l : List Int) : Int := nextV l (q3 l) 6 + 1 + nextV l (q4 l) 2 + 3 * nextV l (q5 l) 2
abbrev mR (l : List Int) : Int := rS (nextV l (q6 l) 5)
abbrev mC (l : List Int) : V3 := plus (mF l) (axS (mA l)) (mR l)
abbrev mT (l : List Int) : V3 := plus (mC l) (axS (mB l)) (mR l)
abbrev mV (l : List Int) : V3 := vecV l (q3 l) 3
abbrev q4v (l : List Int) : Nat := vecA l (q3 l)
def mBy (l : List Int) : V3 := if mV l = ⟨0, 0, 0⟩ then axS (nextV l (q4v l) 6) else mV l
def q5v (l : List Int) : Nat := if mV l = ⟨0, 0, 0⟩ then nextA l (q4v l) else q4v l
def mN (l : List Int) : Int := 1 + nextV l (q5v l) 3
def mTo (l : List Int) : V3 := plus (mF l) (mBy l) (mN l)
def madeS (l : List Int) : Mv := if mK l = 3 then ⟨3, mF l, mT l, mC l, mG l⟩ else if mK l = 0 then ⟨1, mF l, mTo l, ⟨0, 0, 0⟩, 0⟩ else ⟨2, mF l, mTo l, ⟨0, 0, 0⟩, mG l⟩
def nS (a b : Int) : Int := (([b, 0, 1, 100, 101, -1, 24, 25, -25] : List Int)[(modS a 9).toNat]?).getD 0
theorem n_at (a b : Int) : ([ci b, ci 0, ci 1, ci 100, ci 101, ci (-1), ci 24, ci 25, ci (-25)] : List (List AV))[0 + (modS a 9).toNat]? = some (ci (nS a b)) := by
  have h := modS_range a 9 (by omega)
  unfold nS
  generalize modS a 9 = t at h
  obtain rfl | rfl | rfl | rfl | rfl | rfl | rfl | rfl | rfl : t = 0 ∨ t = 1 ∨ t = 2 ∨ t = 3 ∨ t = 4 ∨ t = 5 ∨ t = 6 ∨ t = 7 ∨ t = 8 := by omega
  all_goals rfl
def oddS (m : Mv) (a b c : Int) : Mv :=
  if modS a 8 = 0 then { m with kind := nS b c } else if modS a 8 = 1 then { m with feed := nS b c } else if modS a 8 = 2 then { m with fr := ⟨nS b c, m.fr.y, m.fr.z⟩ } else if modS a 8 = 3 then { m with to := ⟨m.to.x, nS b c, m.to.z⟩ }
  else if modS a 8 = 4 then { m with co := ⟨m.co.x, m.co.y, nS b c⟩ } else if modS a 8 = 5 then { m with to := m.fr } else if modS a 8 = 6 then { m with kind := 1 + modS m.kind 3 } else { m with co := ⟨0, 0, 0⟩ }

def mc38 : MC := (.seq (.reg [⟨(some 2), (.alloc 80 3 [(.int .i64 0), (.int .i64 0), (.int .i64 0)]), none, []⟩] false) (.seq (.reg [⟨(some 4), (.build [(.int .i64 0), (.int .i64 0), (.int .i64 0)] [(0, (1, (.c (.int .i64 1))))]), none, []⟩, ⟨(some 5), (.build [(.int .i64 0), (.int .i64 0), (.int .i64 0)] [(1, (1, (.c (.int .i64 1))))]), none, []⟩, ⟨(some 6), (.build [(.int .i64 0), (.int .i64 0), (.int .i64 0)] [(2, (1, (.c (.int .i64 1))))]), none, []⟩, ⟨(some 7), (.build [(.int .i64 0), (.int .i64 0), (.int .i64 0)] [(0, (1, (.c (.int .i64 (-1)))))]), none, []⟩, ⟨(some 8), (.build [(.int .i64 0), (.int .i64 0), (.int .i64 0)] [(1, (1, (.c (.int .i64 (-1)))))]), none, []⟩, ⟨(some 9), (.build [(.int .i64 0), (.int .i64 0), (.int .i64 0)] [(2, (1, (.c (.int .i64 (-1)))))]), none, []⟩, ⟨(some 10), (.bslice 80 3 [(.int .i64 0), (.int .i64 0), (.int .i64 0)] 6 [(0, (.t 4)), (1, (.t 5)), (2, (.t 6)), (3, (.t 7)), (4, (.t 8)), (5, (.t 9))]), none, [0, 1, 2, 3, 4, 5]⟩, ⟨(some 3), (.mv (.t 10)), none, [6, 0, 1, 2, 3, 4, 5, 6]⟩] false) (.seq (.reg [⟨(some 11), (.mv (.t 3)), none, []⟩, ⟨(some 12), (.mv (.t 0)), none, []⟩, ⟨(some 13), (.call 11 [(.t 12), (.c (.int .i64 6))]), none, [1]⟩, ⟨(some 14), (.ixsl 3 (.t 11) (.t 13)), none, [0, 2]⟩, ⟨(some 15), (.ld true 3 (.t 14)), none, [3]⟩, ⟨none, (.st 3 (.t 2) (.t 15)), none, [4, 2, 0, 1, 2, 3, 4]⟩] false) .ret)))
theorem mcOk38 : (match Try.f72.body with | some c => compC Try.prog 16 c | none => none) = some mc38 := by kernel_rfl

theorem fc38 (n : Int) : FC Try.prog 72 [iv n] [] (aV (axS n)) [] false := by
  have hw := modS_range n 6 (by omega)
  refine fc_run (nt := 16) Try.func72 rfl rfl mcOk38 (Nat.le_of_ble_eq_true rfl) ?_
  delta mc38
  refine aw_seq ?_
  refine aw_reg ?_
  refine rs_alloc rfl rfl rfl ?_
  refine rs_nil fun _ => ?_
  refine th_n ?_
  refine aw_seq ?_
  refine aw_reg ?_
  refine rs_build rfl rfl ?_
  refine rs_build rfl rfl ?_
  refine rs_build rfl rfl ?_
  refine rs_build rfl rfl ?_
  refine rs_build rfl rfl ?_
  refine rs_build rfl rfl ?_
  refine rs_bslice rfl rfl rfl rfl rfl rfl ?_
  refine rs_mv rfl rfl ?_
  refine rs_nil fun _ => ?_
  refine th_n ?_
  refine aw_seq ?_
  refine aw_reg ?_
  refine rs_mv rfl rfl ?_
  refine rs_mv rfl rfl ?_
  refine rs_calln [] rfl rfl (fc16 n 6 (by omega)) (.cons (hv_same rfl) (.cons (hv_same rfl) (.nil))) rfl ?_
  refine rs_ix_s rfl rfl rfl rfl hw.1 hw.2 ?_
  refine rs_ld_ga (f := cV) (xs := axL) (y := axS n) rfl rfl rfl (ax_at n) (Nat.le_of_ble_eq_true rfl) rfl ?_
  refine rs_st rfl rfl rfl rfl rfl rfl rfl (Nat.le_of_ble_eq_true rfl) rfl rfl ?_
  refine rs_nil fun _ => ?_
  refine th_n ?_
  refine aw_ret ?_
  exact ret_pure rfl rfl rfl (.inr rfl)

def mc10 : MC := (.seq (.reg [⟨(some 2), (.alloc 82 11 [(.int .i64 0), (.int .i64 0), (.int .i64 0), (.int .i64 0), (.int .i64 0), (.int .i64 0), (.int .i64 0), (.int .i64 0), (.int .i64 0), (.int .i64 0), (.int .i64 0)]), none, []⟩] false) (.seq (.reg [⟨(some 10), (.mv (.t 0)), none, []⟩, ⟨(some 11), (.build [.nils, (.int .i64 0)] [(0, (1, (.t 10)))]), none, [0]⟩, ⟨(some 12), (.box 103 2 (.t 11)), none, [1]⟩, ⟨(some 3), (.mv (.t 12)), none, [2, 0, 1, 2]⟩] false) (.seq (.reg [⟨(some 13), (.mv (.t 3)), none, []⟩, ⟨(some 14), (.call 69 [(.t 13), (.c (.int .i64 4))]), none, [0]⟩, ⟨(some 4), (.mv (.t 14)), none, [1, 1, 0, 1]⟩] false) (.seq (.reg [⟨(some 15), (.mv (.t 3)), none, []⟩, ⟨(some 16), (.call 70 [(.t 15), (.c (.int .i64 8))]), none, [0]⟩, ⟨(some 17), (.mv (.t 3)), none, []⟩, ⟨(some 18), (.call 69 [(.t 17), (.c (.int .i64 100))]), none, [2, 1]⟩, ⟨(some 19), (.bin .add (.c (.int .i64 1)) (.t 18)), none, [3]⟩, ⟨(some 20), (.build [(.int .i64 0), (.int .i64 0), (.int .i64 0), (.int .i64 0), (.int .i64 0), (.int .i64 0), (.int .i64 0), (.int .i64 0), (.int .i64 0), (.int .i64 0), (.int .i64 0)] [(0, (1, (.c (.int .i64 2)))), (1, (3, (.t 16))), (10, (1, (.t 19)))]), none, [1, 4]⟩, ⟨(some 5), (.alloc 82 11 [(.int .i64 0), (.int .i64 0), (.int .i64 0), (.int .i64 0), (.int .i64 0), (.int .i64 0), (.int .i64 0), (.int .i64 0), (.int .i64 0), (.int .i64 0), (.int .i64 0)]), none, []⟩, ⟨none, (.st 11 (.t 5) (.t 20)), none, [6, 5, 3, 0, 1, 2, 3, 4, 5, 6]⟩] false) (.seq (.seq (.reg [⟨(some 21), (.mv (.t 4)), none, []⟩, ⟨(some 22), (.bin .eql (.t 21) (.c (.int .i64 3))), none, [0]⟩] false) (.cond (.t 22) (.seq (.reg [⟨(some 23), (.mv (.t 3)), none, []⟩, ⟨(some 24), (.call 69 [(.t 23), (.c (.int .i64 6))]), none, [0]⟩, ⟨(some 6), (.mv (.t 24)), none, [1, 1, 0, 1]⟩] false) (.seq (.reg [⟨(some 25), (.mv (.t 6)), none, []⟩, ⟨(some 26), (.bin .add (.t 25) (.c (.int .i64 1))), none, [0]⟩, ⟨(some 27), (.mv (.t 3)), none, []⟩, ⟨(some 28), (.call 69 [(.t 27), (.c (.int .i64 2))]), none, [2]⟩, ⟨(some 29), (.bin .add (.t 26) (.t 28)), none, [1, 3]⟩, ⟨(some 30), (.mv (.t 3)), none, []⟩, ⟨(some 31), (.call 69 [(.t 30), (.c (.int .i64 2))]), none, [5, 3]⟩, ⟨(some 32), (.bin .mul (.c (.int .i64 3)) (.t 31)), none, [6]⟩, ⟨(some 33), (.bin .add (.t 29) (.t 32)), none, [4, 7]⟩, ⟨(some 7), (.mv (.t 33)), none, [8, 6, 0, 1, 2, 3, 4, 5, 6, 7, 8]⟩] false) (.seq (.reg [⟨(some 34), (.bslice 3 1 [(.int .i64 0)] 5 [(0, (.c (.int .i64 1))), (1, (.c (.int .i64 2))), (2, (.c (.int .i64 5))), (3, (.c (.int .i64 5))), (4, (.c (.int .i64 10)))]), none, []⟩, ⟨(some 35), (.mv (.t 3)), none, []⟩, ⟨(some 36), (.call 69 [(.t 35), (.c (.int .i64 5))]), none, [1]⟩, ⟨(some 37), (.ixsl 1 (.t 34) (.t 36)), none, [0, 2]⟩, ⟨(some 38), (.ld false 1 (.t 37)), none, [3]⟩, ⟨(some 8), (.mv (.t 38)), none, [4, 2, 0, 1, 2, 3, 4]⟩] false) (.seq (.reg [⟨(some 39), (.fa 0 (.t 5)), none, []⟩, ⟨none, (.st 1 (.t 39) (.c (.int .i64 3))), none, [0]⟩] false) (.seq (.reg [⟨(some 40), (.fa 1 (.t 5)), none, []⟩, ⟨(some 41), (.ld true 3 (.t 40)), none, [0]⟩, ⟨(some 42), (.mv (.t 6)), none, []⟩, ⟨(some 43), (.call 72 [(.t 42)]), none, [2]⟩, ⟨(some 44), (.mv (.t 8)), none, []⟩, ⟨(some 45), (.call 71 [(.t 41), (.t 43), (.t 44)]), none, [1, 3, 4, 3]⟩, ⟨(some 46), (.fa 7 (.t 5)), none, [0, 1, 2, 3, 4, 5]⟩, ⟨none, (.st 3 (.t 46) (.t 45)), none, [6, 5, 5, 0, 1, 2, 3, 4, 5]⟩] true) (.seq (.reg [⟨(some 47), (.fa 7 (.t 5)), none, []⟩, ⟨(some 48), (.ld true 3 (.t 47)), none, [0]⟩, ⟨(some 49), (.mv (.t 7)), none, []⟩, ⟨(some 50), (.call 72 [(.t 49)]), none, [2]⟩, ⟨(some 51), (.mv (.t 8)), none, []⟩, ⟨(some 52), (.call 71 [(.t 48), (.t 50), (.t 51)]), none, [1, 3, 4, 3]⟩, ⟨(some 53), (.fa 4 (.t 5)), none, [0, 1, 2, 3, 4, 5]⟩, ⟨none, (.st 3 (.t 53) (.t 52)), none, [6, 5, 5, 0, 1, 2, 3, 4, 5]⟩] true) (.seq (.reg [⟨(some 54), (.ld true 11 (.t 5)), none, []⟩, ⟨none, (.st 11 (.t 2) (.t 54)), none, [0, 0]⟩] false) .ret))))))) .skip)) (.seq (.reg [⟨(some 55), (.mv (.t 3)), none, []⟩, ⟨(some 56), (.call 70 [(.t 55), (.c (.int .i64 3))]), none, [0]⟩, ⟨(some 9), (.alloc 80 3 [(.int .i64 0), (.int .i64 0), (.int .i64 0)]), none, []⟩, ⟨none, (.st 3 (.t 9) (.t 56)), none, [2, 1, 1, 0, 1, 2]⟩] false) (.seq (.seq (.reg [⟨(some 57), (.ld true 3 (.t 9)), none, []⟩, ⟨(some 58), (.build [(.int .i64 0), (.int .i64 0), (.int .i64 0)] []), none, []⟩, ⟨(some 59), (.aeq false 3 (.t 57) (.t 58)), none, [0, 1]⟩] false) (.cond (.t 59) (.reg [⟨(some 60), (.mv (.t 3)), none, []⟩, ⟨(some 61), (.call 69 [(.t 60), (.c (.int .i64 6))]), none, [0]⟩, ⟨(some 62), (.call 72 [(.t 61)]), none, [1, 1]⟩, ⟨none, (.st 3 (.t 9) (.t 62)), none, [2, 2, 0, 1, 2]⟩] false) .skip)) (.seq (.reg [⟨(some 63), (.fa 1 (.t 5)), none, []⟩, ⟨(some 64), (.ld true 3 (.t 63)), none, [0]⟩, ⟨(some 65), (.ld true 3 (.t 9)), none, []⟩, ⟨(some 66), (.mv (.t 3)), none, []⟩, ⟨(some 67), (.call 69 [(.t 66), (.c (.int .i64 3))]), none, [3]⟩, ⟨(some 68), (.bin .add (.c (.int .i64 1)) (.t 67)), none, [4]⟩, ⟨(some 69), (.call 71 [(.t 64), (.t 65), (.t 68)]), none, [1, 2, 5, 4]⟩, ⟨(some 70), (.fa 4 (.t 5)), none, [0, 1, 2, 3, 4, 5, 6]⟩, ⟨none, (.st 3 (.t 70) (.t 69)), none, [7, 6, 6, 0, 1, 2, 3, 4, 5, 6]⟩] true) (.seq (.seq (.reg [⟨(some 71), (.mv (.t 4)), none, []⟩, ⟨(some 72), (.bin .eql (.t 71) (.c (.int .i64 0))), none, [0]⟩] false) (.cond (.t 72) (.seq (.reg [⟨(some 73), (.fa 0 (.t 5)), none, []⟩, ⟨none, (.st 1 (.t 73) (.c (.int .i64 1))), none, [0]⟩] false) (.reg [⟨(some 74), (.fa 10 (.t 5)), none, []⟩, ⟨none, (.st 1 (.t 74) (.c (.int .i64 0))), none, [0]⟩] false)) .skip)) (.seq (.reg [⟨(some 75), (.ld true 11 (.t 5)), none, []⟩, ⟨none, (.st 11 (.t 2) (.t 75)), none, [0, 0]⟩] false) .ret))))))))))
theorem mcOk10 : (match Try.f60.body with | some c => compC Try.prog 76 c | none => none) = some mc10 := by kernel_rfl

set_option maxHeartbeats 1600000 in
theorem fc10 (l : List Int) (hl : l.length ≤ 4611686018427387904) : FC Try.prog 60 [ints l] [] (aM (madeS l)) [] false := by
  have n0 := nextV_range l 0 4 (by omega)
  have n2 := nextV_range l (q2 l) 100 (by omega)
  have n3 := nextV_range l (q3 l) 6 (by omega)
  have n4 := nextV_range l (q4 l) 2 (by omega)
  have n5 := nextV_range l (q5 l) 2 (by omega)
  have n6 := nextV_range l (q6 l) 5 (by omega)
  have hbf := vecV_bd l (q1 l) 8 (by omega)
  have hbv := vecV_bd l (q3 l) 3 (by omega)
  have hr : mR l = 1 ∨ mR l = 2 ∨ mR l = 5 ∨ mR l = 10 := r_range (nextV l (q6 l) 5) n6.1 n6.2
  refine fc_run (nt := 76) Try.func60 rfl rfl mcOk10 (Nat.le_of_ble_eq_true rfl) ?_
  delta mc10
  refine aw_seq ?_
  refine aw_reg ?_
  refine rs_alloc rfl rfl rfl ?_
  refine rs_nil fun _ => ?_
  refine th_n ?_
  refine aw_seq ?_
  refine aw_reg ?_
  refine rs_mv rfl rfl ?_
  refine rs_build rfl rfl ?_
  refine rs_box rfl rfl rfl rfl rfl rfl ?_
  refine rs_mv rfl rfl ?_
  refine rs_nil fun _ => ?_
  refine th_n ?_
  refine aw_seq ?_
  refine aw_reg ?_
  refine rs_mv rfl rfl ?_
  refine rs_callo [(12, drawOb 103 l (0))] rfl rfl (fc35 12 103 l (0) 4 (by omega) hl) (.cons (hv_same rfl) (.cons (hv_same rfl) (.nil))) (.cons rfl (.nil)) rfl rfl rfl ?_
  refine rs_mv rfl rfl ?_
  refine rs_nil fun _ => ?_
  refine th_n ?_
  refine aw_seq ?_
  refine aw_reg ?_
  refine rs_mv rfl rfl ?_
  refine rs_callo [(12, drawOb 103 l (q1 l))] rfl rfl (fc36 12 103 l (q1 l) 8 (by omega) hl) (.cons (hv_same rfl) (.cons (hv_same rfl) (.nil))) (.cons rfl (.nil)) rfl rfl rfl ?_
  refine rs_mv rfl rfl ?_
  refine rs_callo [(12, drawOb 103 l (q2 l))] rfl rfl (fc35 12 103 l (q2 l) 100 (by omega) hl) (.cons (hv_same rfl) (.cons (hv_same rfl) (.nil))) (.cons rfl (.nil)) rfl rfl rfl ?_
  refine rs_add rfl rfl rfl (by omega) ?_
  refine rs_build rfl rfl ?_
  refine rs_alloc rfl rfl rfl ?_
  refine rs_st rfl rfl rfl rfl rfl rfl rfl (Nat.le_of_ble_eq_true rfl) rfl rfl ?_
  refine rs_nil fun _ => ?_
  refine th_n ?_
  refine aw_seq ?_
  refine aw_seq ?_
  refine aw_reg ?_
  refine rs_mv rfl rfl ?_
  refine rs_eql rfl rfl rfl ?_
  refine rs_nil fun _ => ?_
  refine th_n ?_
  refine aw_cond rfl (fun h22 => ?_) (fun h22 => ?_)
  · replace h22 := of_decide_eq_true h22
    refine aw_seq ?_
    refine aw_reg ?_
    refine rs_mv rfl rfl ?_
    refine rs_callo [(12, drawOb 103 l (q3 l))] rfl rfl (fc35 12 103 l (q3 l) 6 (by omega) hl) (.cons (hv_same rfl) (.cons (hv_same rfl) (.nil))) (.cons rfl (.nil)) rfl rfl rfl ?_
    refine rs_mv rfl rfl ?_
    refine rs_nil fun _ => ?_
    refine th_n ?_
    refine aw_seq ?_
    refine aw_reg ?_
    refine rs_mv rfl rfl ?_
    refine rs_add rfl rfl rfl (by omega) ?_
    refine rs_mv rfl rfl ?_
    refine rs_callo [(12, drawOb 103 l (q4 l))] rfl rfl (fc35 12 103 l (q4 l) 2 (by omega) hl) (.cons (hv_same rfl) (.cons (hv_same rfl) (.nil))) (.cons rfl (.nil)) rfl rfl rfl ?_
    refine rs_add rfl rfl rfl (by omega) ?_
    refine rs_mv rfl rfl ?_
    refine rs_callo [(12, drawOb 103 l (q5 l))] rfl rfl (fc35 12 103 l (q5 l) 2 (by omega) hl) (.cons (hv_same rfl) (.cons (hv_same rfl) (.nil))) (.cons rfl (.nil)) rfl rfl rfl ?_
    refine rs_mulw rfl rfl rfl (W_eq (by omega)) ?_
    refine rs_add rfl rfl rfl (by omega) ?_
    refine rs_mv rfl rfl ?_
    refine rs_nil fun _ => ?_
    refine th_n ?_
    refine aw_seq ?_
    refine aw_reg ?_
    refine rs_bslice rfl rfl rfl rfl rfl rfl ?_
    refine rs_mv rfl rfl ?_
    refine rs_callo [(12, drawOb 103 l (q6 l))] rfl rfl (fc35 12 103 l (q6 l) 5 (by omega) hl) (.cons (hv_same rfl) (.cons (hv_same rfl) (.nil))) (.cons rfl (.nil)) rfl rfl rfl ?_
    refine rs_ix_s rfl rfl rfl rfl n6.1 n6.2 ?_
    refine rs_ld_p rfl rfl rfl (el := ci (mR l)) (r_at _ n6.1 n6.2) rfl ?_
    refine rs_mv rfl rfl ?_
    refine rs_nil fun _ => ?_
    refine th_n ?_
    refine aw_seq ?_
    refine aw_reg ?_
    refine rs_fa_p rfl rfl ?_
    refine rs_st rfl rfl rfl rfl rfl rfl rfl (Nat.le_of_ble_eq_true rfl) rfl rfl ?_
    refine rs_nil fun _ => ?_
    refine th_n ?_
    refine aw_seq ?_
    refine aw_weak (F0 := [(2, .ptr 2 0 0), (5, .ptr 5 0 0), (6, iv (mA l)), (7, iv (mB l)), (8, iv (mR l))]) (H0 := [(2, .cells 82 11 [cM ⟨0, ⟨0, 0, 0⟩, ⟨0, 0, 0⟩, ⟨0, 0, 0⟩, 0⟩] true), (5, .cells 82 11 [cM ⟨3, mF l, ⟨0, 0, 0⟩, ⟨0, 0, 0⟩, mG l⟩] true)]) (weak_to (.cons rfl (rc_same rfl (.inl rfl)) (.cons rfl (rc_same rfl (.inl rfl)) (.cons rfl (rc_same rfl (.inl rfl)) (.cons rfl (rc_same rfl (.inl rfl)) (.cons rfl (rc_same rfl (.inl rfl)) (.nil)))))) (.keep (rfl) rfl (.keep (rfl) rfl (.nil))) (fun i h => by cases h)) ?_
    refine aw_draw hmix ?_
    refine rs_fa_p rfl rfl ?_
    refine rs_ld_pa rfl rfl rfl rfl (Nat.le_of_ble_eq_true rfl) rfl ?_
    refine rs_mv rfl rfl ?_
    refine rs_calln [] rfl rfl (fc38 (mA l)) (.cons (hv_same rfl) (.nil)) rfl ?_
    refine rs_mv rfl rfl ?_
    refine rs_calln [] rfl rfl (fc37s hbf.big (ax_bd _).big (by omega)) (.cons (hv_same rfl) (.cons (hv_same rfl) (.cons (hv_same rfl) (.nil)))) rfl ?_
    refine rs_fa_p rfl rfl ?_
    refine rs_st rfl rfl rfl rfl rfl rfl rfl (Nat.le_of_ble_eq_true rfl) rfl rfl ?_
    refine rs_nil ⟨by kernel_rfl, fun _ => ?_⟩
    refine th_n ?_
    refine aw_seq ?_
    refine aw_weak (F0 := [(2, .ptr 2 0 0), (5, .ptr 5 0 0), (7, iv (mB l)), (8, iv (mR l))]) (H0 := [(2, .cells 82 11 [cM ⟨0, ⟨0, 0, 0⟩, ⟨0, 0, 0⟩, ⟨0, 0, 0⟩, 0⟩] true), (5, .cells 82 11 [cM ⟨3, mF l, ⟨0, 0, 0⟩, mC l, mG l⟩] true)]) (weak_to (.cons rfl (rc_same rfl (.inl rfl)) (.cons rfl (rc_same rfl (.inl rfl)) (.cons rfl (rc_same rfl (.inl rfl)) (.cons rfl (rc_same rfl (.inl rfl)) (.nil))))) (.keep (rfl) rfl (.keep (rfl) rfl (.nil))) (fun i h => by cases h)) ?_
    refine aw_draw hmix ?_
    refine rs_fa_p rfl rfl ?_
    refine rs_ld_pa rfl rfl rfl rfl (Nat.le_of_ble_eq_true rfl) rfl ?_
    refine rs_mv rfl rfl ?_
    refine rs_calln [] rfl rfl (fc38 (mB l)) (.cons (hv_same rfl) (.nil)) rfl ?_
    refine rs_mv rfl rfl ?_
    refine rs_calln [] rfl rfl (fc37s (Bd.plus hbf (ax_bd _) (q := 10) (by omega)).big (ax_bd _).big (by omega)) (.cons (hv_same rfl) (.cons (hv_same rfl) (.cons (hv_same rfl) (.nil)))) rfl ?_
    refine rs_fa_p rfl rfl ?_
    refine rs_st rfl rfl rfl rfl rfl rfl rfl (Nat.le_of_ble_eq_true rfl) rfl rfl ?_
    refine rs_nil ⟨by kernel_rfl, fun _ => ?_⟩
    refine th_n ?_
    refine aw_seq ?_
    refine aw_weak (F0 := [(2, .ptr 2 0 0), (5, .ptr 5 0 0)]) (H0 := [(2, .cells 82 11 [cM ⟨0, ⟨0, 0, 0⟩, ⟨0, 0, 0⟩, ⟨0, 0, 0⟩, 0⟩] true), (5, .cells 82 11 [cM ⟨3, mF l, mT l, mC l, mG l⟩] true)]) (weak_to (.cons rfl (rc_same rfl (.inl rfl)) (.cons rfl (rc_same rfl (.inl rfl)) (.nil))) (.keep (rfl) rfl (.keep (rfl) rfl (.nil))) (fun i h => by cases h)) ?_
    refine aw_reg ?_
    refine rs_ld_pa rfl rfl rfl rfl (Nat.le_of_ble_eq_true rfl) rfl ?_
    refine rs_st rfl rfl rfl rfl rfl rfl rfl (Nat.le_of_ble_eq_true rfl) rfl rfl ?_
    refine rs_nil fun _ => ?_
    refine th_n ?_
    refine aw_ret ?_
    refine th_r ?_
    (rw [show madeS l = ⟨3, mF l, mT l, mC l, mG l⟩ from if_pos h22]; exact ret_pure rfl rfl rfl (.inr rfl))
  · replace h22 := of_decide_eq_false h22
    refine aw_skip ?_
    refine th_n ?_
    refine aw_seq ?_
    refine aw_reg ?_
    refine rs_mv rfl rfl ?_
    refine rs_callo [(12, drawOb 103 l (q3 l))] rfl rfl (fc36 12 103 l (q3 l) 3 (by omega) hl) (.cons (hv_same rfl) (.cons (hv_same rfl) (.nil))) (.cons rfl (.nil)) rfl rfl rfl ?_
    refine rs_alloc rfl rfl rfl ?_
    refine rs_st rfl rfl rfl rfl rfl rfl rfl (Nat.le_of_ble_eq_true rfl) rfl rfl ?_
    refine rs_nil fun _ => ?_
    refine th_n ?_
    refine aw_seq ?_
    refine aw_seq ?_
    refine aw_reg ?_
    refine rs_ld_pa rfl rfl rfl rfl (Nat.le_of_ble_eq_true rfl) rfl ?_
    refine rs_build rfl rfl ?_
    refine rs_aeqv (u := mV l) (v := ⟨0, 0, 0⟩) rfl rfl rfl ?_
    refine rs_nil fun _ => ?_
    refine th_n ?_
    refine aw_cond rfl (fun h59 => ?_) (fun h59 => ?_)
    · skip
      have hz : mV l = ⟨0, 0, 0⟩ := by simpa using h59
      have eb : mBy l = axS (nextV l (q4v l) 6) := if_pos hz
      have eq : q5v l = nextA l (q4v l) := if_pos hz
      have eT : mTo l = plus (mF l) (axS (nextV l (q4v l) 6)) (1 + nextV l (nextA l (q4v l)) 3) := by unfold mTo mN; rw [eb, eq]
      have n7 := nextV_range l (nextA l (q4v l)) 3 (by omega)
      refine aw_reg ?_
      refine rs_mv rfl rfl ?_
      refine rs_callo [(12, drawOb 103 l (q4v l))] rfl rfl (fc35 12 103 l (q4v l) 6 (by omega) hl) (.cons (hv_same rfl) (.cons (hv_same rfl) (.nil))) (.cons rfl (.nil)) rfl rfl rfl ?_
      refine rs_calln [] rfl rfl (fc38 _) (.cons (hv_same rfl) (.nil)) rfl ?_
      refine rs_st rfl rfl rfl rfl rfl rfl rfl (Nat.le_of_ble_eq_true rfl) rfl rfl ?_
      refine rs_nil fun _ => ?_
      refine th_n ?_
      refine aw_seq ?_
      refine aw_draw hmix ?_
      refine rs_fa_p rfl rfl ?_
      refine rs_ld_pa rfl rfl rfl rfl (Nat.le_of_ble_eq_true rfl) rfl ?_
      refine rs_ld_pa rfl rfl rfl rfl (Nat.le_of_ble_eq_true rfl) rfl ?_
      refine rs_mv rfl rfl ?_
      refine rs_callo [(12, drawOb 103 l (nextA l (q4v l)))] rfl rfl (fc35 12 103 l (nextA l (q4v l)) 3 (by omega) hl) (.cons (hv_same rfl) (.cons (hv_same rfl) (.nil))) (.cons rfl (.nil)) rfl rfl rfl ?_
      refine rs_add rfl rfl rfl (by omega) ?_
      refine rs_calln [] rfl rfl (fc37s hbf.big (ax_bd _).big (by omega)) (.cons (hv_same rfl) (.cons (hv_same rfl) (.cons (hv_same rfl) (.nil)))) rfl ?_
      refine rs_fa_p rfl rfl ?_
      refine rs_st rfl rfl rfl rfl rfl rfl rfl (Nat.le_of_ble_eq_true rfl) rfl rfl ?_
      refine rs_nil ⟨by kernel_rfl, fun _ => ?_⟩
      refine th_n ?_
      refine aw_seq ?_
      refine aw_seq ?_
      refine aw_weak (F0 := [(2, .ptr 2 0 0), (5, .ptr 5 0 0), (4, iv (mK l))]) (H0 := [(2, .cells 82 11 [cM ⟨0, ⟨0, 0, 0⟩, ⟨0, 0, 0⟩, ⟨0, 0, 0⟩, 0⟩] true), (5, .cells 82 11 [cM ⟨2, mF l, mTo l, ⟨0, 0, 0⟩, mG l⟩] true)]) (weak_to (.cons rfl (rc_same rfl (.inl rfl)) (.cons rfl (rc_same rfl (.inl rfl)) (.cons rfl (rc_same rfl (.inl rfl)) (.nil)))) (.keep (rfl) rfl (.keep ((by rw [eT]; rfl)) rfl (.nil))) (fun i h => by cases h)) ?_
      refine aw_reg ?_
      refine rs_mv rfl rfl ?_
      refine rs_eql rfl rfl rfl ?_
      refine rs_nil fun _ => ?_
      refine th_n ?_
      refine aw_cond rfl (fun h72 => ?_) (fun h72 => ?_)
      · replace h72 := of_decide_eq_true h72
        refine aw_seq ?_
        refine aw_reg ?_
        refine rs_fa_p rfl rfl ?_
        refine rs_st rfl rfl rfl rfl rfl rfl rfl (Nat.le_of_ble_eq_true rfl) rfl rfl ?_
        refine rs_nil fun _ => ?_
        refine th_n ?_
        refine aw_reg ?_
        refine rs_fa_p rfl rfl ?_
        refine rs_st rfl rfl rfl rfl rfl rfl rfl (Nat.le_of_ble_eq_true rfl) rfl rfl ?_
        refine rs_nil fun _ => ?_
        refine th_n ?_
        refine aw_seq ?_
        refine aw_reg ?_
        refine rs_ld_pa rfl rfl rfl rfl (Nat.le_of_ble_eq_true rfl) rfl ?_
        refine rs_st rfl rfl rfl rfl rfl rfl rfl (Nat.le_of_ble_eq_true rfl) rfl rfl ?_
        refine rs_nil fun _ => ?_
        refine th_n ?_
        refine aw_ret ?_
        (rw [show madeS l = ⟨1, mF l, mTo l, ⟨0, 0, 0⟩, 0⟩ by unfold madeS; rw [if_neg h22, if_pos h72]]; exact ret_pure rfl rfl rfl (.inr rfl))
      · replace h72 := of_decide_eq_false h72
        refine aw_skip ?_
        refine th_n ?_
        refine aw_seq ?_
        refine aw_reg ?_
        refine rs_ld_pa rfl rfl rfl rfl (Nat.le_of_ble_eq_true rfl) rfl ?_
        refine rs_st rfl rfl rfl rfl rfl rfl rfl (Nat.le_of_ble_eq_true rfl) rfl rfl ?_
        refine rs_nil fun _ => ?_
        refine th_n ?_
        refine aw_ret ?_
        (rw [show madeS l = ⟨2, mF l, mTo l, ⟨0, 0, 0⟩, mG l⟩ by unfold madeS; rw [if_neg h22, if_neg h72]]; exact ret_pure rfl rfl rfl (.inr rfl))
    · skip
      have hz : ¬ mV l = ⟨0, 0, 0⟩ := by simpa using h59
      have eb : mBy l = mV l := if_neg hz
      have eq : q5v l = q4v l := if_neg hz
      have eT : mTo l = plus (mF l) (mV l) (1 + nextV l (q4v l) 3) := by unfold mTo mN; rw [eb, eq]
      have n7 := nextV_range l (q4v l) 3 (by omega)
      refine aw_skip ?_
      refine th_n ?_
      refine aw_seq ?_
      refine aw_draw hmix ?_
      refine rs_fa_p rfl rfl ?_
      refine rs_ld_pa rfl rfl rfl rfl (Nat.le_of_ble_eq_true rfl) rfl ?_
      refine rs_ld_pa rfl rfl rfl rfl (Nat.le_of_ble_eq_true rfl) rfl ?_
      refine rs_mv rfl rfl ?_
      refine rs_callo [(12, drawOb 103 l (q4v l))] rfl rfl (fc35 12 103 l (q4v l) 3 (by omega) hl) (.cons (hv_same rfl) (.cons (hv_same rfl) (.nil))) (.cons rfl (.nil)) rfl rfl rfl ?_
      refine rs_add rfl rfl rfl (by omega) ?_
      refine rs_calln [] rfl rfl (fc37s hbf.big hbv.big (by omega)) (.cons (hv_same rfl) (.cons (hv_same rfl) (.cons (hv_same rfl) (.nil)))) rfl ?_
      refine rs_fa_p rfl rfl ?_
      refine rs_st rfl rfl rfl rfl rfl rfl rfl (Nat.le_of_ble_eq_true rfl) rfl rfl ?_
      refine rs_nil ⟨by kernel_rfl, fun _ => ?_⟩
      refine th_n ?_
      refine aw_seq ?_
      refine aw_seq ?_
      refine aw_weak (F0 := [(2, .ptr 2 0 0), (5, .ptr 5 0 0), (4, iv (mK l))]) (H0 := [(2, .cells 82 11 [cM ⟨0, ⟨0, 0, 0⟩, ⟨0, 0, 0⟩, ⟨0, 0, 0⟩, 0⟩] true), (5, .cells 82 11 [cM ⟨2, mF l, mTo l, ⟨0, 0, 0⟩, mG l⟩] true)]) (weak_to (.cons rfl (rc_same rfl (.inl rfl)) (.cons rfl (rc_same rfl (.inl rfl)) (.cons rfl (rc_same rfl (.inl rfl)) (.nil)))) (.keep (rfl) rfl (.keep ((by rw [eT]; rfl)) rfl (.nil))) (fun i h => by cases h)) ?_
      refine aw_reg ?_
      refine rs_mv rfl rfl ?_
      refine rs_eql rfl rfl rfl ?_
      refine rs_nil fun _ => ?_
      refine th_n ?_
      refine aw_cond rfl (fun h72 => ?_) (fun h72 => ?_)
      · replace h72 := of_decide_eq_true h72
        refine aw_seq ?_
        refine aw_reg ?_
        refine rs_fa_p rfl rfl ?_
        refine rs_st rfl rfl rfl rfl rfl rfl rfl (Nat.le_of_ble_eq_true rfl) rfl rfl ?_
        refine rs_nil fun _ => ?_
        refine th_n ?_
        refine aw_reg ?_
        refine rs_fa_p rfl rfl ?_
        refine rs_st rfl rfl rfl rfl rfl rfl rfl (Nat.le_of_ble_eq_true rfl) rfl rfl ?_
        refine rs_nil fun _ => ?_
        refine th_n ?_
        refine aw_seq ?_
        refine aw_reg ?_
        refine rs_ld_pa rfl rfl rfl rfl (Nat.le_of_ble_eq_true rfl) rfl ?_
        refine rs_st rfl rfl rfl rfl rfl rfl rfl (Nat.le_of_ble_eq_true rfl) rfl rfl ?_
        refine rs_nil fun _ => ?_
        refine th_n ?_
        refine aw_ret ?_
        (rw [show madeS l = ⟨1, mF l, mTo l, ⟨0, 0, 0⟩, 0⟩ by unfold madeS; rw [if_neg h22, if_pos h72]]; exact ret_pure rfl rfl rfl (.inr rfl))
      · replace h72 := of_decide_eq_false h72
        refine aw_skip ?_
        refine th_n ?_
        refine aw_seq ?_
        refine aw_reg ?_
        refine rs_ld_pa rfl rfl rfl rfl (Nat.le_of_ble_eq_true rfl) rfl ?_
        refine rs_st rfl rfl rfl rfl rfl rfl rfl (Nat.le_of_ble_eq_true rfl) rfl rfl ?_
        refine rs_nil fun _ => ?_
        refine th_n ?_
        refine aw_ret ?_
        (rw [show madeS l = ⟨2, mF l, mTo l, ⟨0, 0, 0⟩, mG l⟩ by unfold madeS; rw [if_neg h22, if_neg h72]]; exact ret_pure rfl rfl rfl (.inr rfl))

theorem odd_0 (m : Mv) (a b c : Int) (h : modS a 8 = 0) : oddS m a b c = { m with kind := nS b c } := by
  unfold oddS; rw [h]; rfl

theorem odd_1 (m : Mv) (a b c : Int) (h : modS a 8 = 1) : oddS m a b c = { m with feed := nS b c } := by
  unfold oddS; rw [h]; rfl

theorem odd_2 (m : Mv) (a b c : Int) (h : modS a 8 = 2) : oddS m a b c = { m with fr := ⟨nS b c, m.fr.y, m.fr.z⟩ } := by
  unfold oddS; rw [h]; rfl

theorem odd_3 (m : Mv) (a b c : Int) (h : modS a 8 = 3) : oddS m a b c = { m with to := ⟨m.to.x, nS b c, m.to.z⟩ } := by
  unfold oddS; rw [h]; rfl

theorem odd_4 (m : Mv) (a b c : Int) (h : modS a 8 = 4) : oddS m a b c = { m with co := ⟨m.co.x, m.co.y, nS b c⟩ } := by
  unfold oddS; rw [h]; rfl

theorem odd_5 (m : Mv) (a b c : Int) (h : modS a 8 = 5) : oddS m a b c = { m with to := m.fr } := by
  unfold oddS; rw [h]; rfl

theorem odd_6 (m : Mv) (a b c : Int) (h : modS a 8 = 6) : oddS m a b c = { m with kind := 1 + modS m.kind 3 } := by
  unfold oddS; rw [h]; rfl

theorem odd_7 (m : Mv) (a b c : Int) (h : modS a 8 = 7) : oddS m a b c = { m with co := ⟨0, 0, 0⟩ } := by
  unfold oddS; rw [h]; rfl

abbrev lineM : Mv := ⟨2, ⟨0, 0, 0⟩, ⟨6, -4, 2⟩, ⟨0, 0, 0⟩, 10⟩
abbrev arcM : Mv := ⟨3, ⟨5, 0, 0⟩, ⟨0, 5, 0⟩, ⟨5, 5, 0⟩, 10⟩
abbrev farM : Mv := ⟨3, ⟨5, 0, 0⟩, ⟨10, 5, 0⟩, ⟨5, 5, 0⟩, 10⟩
theorem fc14e {m : Mv} {n : Int} (h : stepsS m = n) : FC Try.prog 52 [aM m] [] (iv n) [] false := by rw [← h]; exact fc14 m
theorem fc12e {m : Mv} {n : Int} (h : checkS m = n) : FC Try.prog 54 [aM m] [] (iv n) [] false := by rw [← h]; exact fc12 m

end Go.Proofs.Ytigfcmcdjfmieaa

/-! Walks: C0. -/
namespace Go.Proofs.Ytigfcmcdjfmieaa
open Go.RowKit
set_option maxRecDepth 100000
set_option linter.unusedVariables false


structure St where
  rs : List Int
  sound : Int
  found : Bool
  all : Int
  every : Int
  feed : Int
  ran : Int
  since : Int
  made : Int
  broken : Bool
  breach : Int
  noticed : Bool
  over : Bool
  dark : Bool
  blind : Bool
abbrev tailC (s : St) : List AV := [iv s.sound, .bool s.found, iv s.all, iv s.every, iv s.feed, iv s.ran, iv s.since, iv s.made, .bool s.broken, iv s.breach, .bool s.noticed, .bool s.over, .bool s.dark, .bool s.blind]
abbrev ctlO (r : Nat) (s : St) : Ob := .cells 64 15 [.sl r 0 s.rs.length :: tailC s] false
abbrev rowO (l : List Int) : Ob := .cells 3 1 (l.map ci) true
abbrev cellsC (s : St) : AV := .rp (.rs 1 (s.rs.map ci) :: tailC s)
/-- How the reference's controller tells when the tool broke. -/
def brk (s : St) : Int := bif s.broken then s.breach + 1 else 0
abbrev refO (r : Nat) (s : St) : Ob := .cells 73 14 [[iv s.all, iv s.every, iv s.feed, iv s.ran, iv s.since, iv s.made, iv (brk s), .bool s.noticed, .bool s.over, .bool s.dark, .bool s.blind, .sl r 0 s.rs.length, iv s.sound, .bool s.found]] false
abbrev cellsR (s : St) : AV := .rp [iv s.all, iv s.every, iv s.feed, iv s.ran, iv s.since, iv s.made, iv (brk s), .bool s.noticed, .bool s.over, .bool s.dark, .bool s.blind, .rs 1 (s.rs.map ci), iv s.sound, .bool s.found]
abbrev hC (a r : Nat) (s : St) : Hp := [(a, ctlO r s), (r, rowO s.rs)]
abbrev hR (a r : Nat) (s : St) : Hp := [(a, refO r s), (r, rowO s.rs)]
abbrev hC2 (a r0 r : Nat) (s : St) : Hp := [(a, ctlO r s), (r, rowO s.rs), (r0, .dead)]
abbrev hR2 (a r0 r : Nat) (s : St) : Hp := [(a, refO r s), (r, rowO s.rs), (r0, .dead)]
/-- All numbers are small. -/
structure Sm (s : St) : Prop where
  len : s.rs.length ≤ 1000000
  all : 0 ≤ s.all ∧ s.all ≤ 1000000
  every : 1 ≤ s.every ∧ s.every ≤ 100
  feed : 1 ≤ s.feed ∧ s.feed ≤ 100
  ran : 0 ≤ s.ran ∧ s.ran ≤ 1000000
  since : 0 ≤ s.since ∧ s.since ≤ 1000000
  made : 0 ≤ s.made ∧ s.made ≤ 1000000
  breach : 0 ≤ s.breach ∧ s.breach ≤ 1000000
def recS (s : St) (n : Int) (b : Bool) : St := { s with rs := s.rs ++ [n], found := b, sound := bif b then s.sound else n }
/-- A step. -/
def stepS (s : St) : St :=
  let t : St := { s with made := s.made + 1, since := 0, over := decide (s.made + 1 = s.all) }
  if t.over = true ∨ (s.made + 1).tmod s.every = 0 then { recS t (s.made + 1) s.broken with noticed := s.broken } else t
/-- A tick: its error, and what comes of it. -/
def tickS (s : St) : Int × St :=
  if s.noticed = true then (41, s)
  else if s.over = true then (43, s)
  else
    let t : St := { s with ran := s.ran + 1, since := s.since + 1 }
    if s.since + 1 < s.feed then (0, t) else (0, stepS t)

theorem ret_pure_e {P : Program} {F : Fr} {H : Hp} {rs : List ResultVar} {r : AV} {vs : List AV} {al : Bool} {e : Exit} (h : RetQ P [] rs r [] al .ret F H) (he : e = .normal ∨ e = .ret) : RetQ P [] rs r [] al e F H :=
  ⟨he, h.2⟩

def mcc39 : MC := (.seq (.reg [⟨(some 2), (.mv (.c (.bool false))), none, []⟩] false) (.seq (.reg [⟨(some 3), (.mv (.t 0)), none, []⟩, ⟨(some 4), (.isnil false false (.t 3)), none, [0]⟩, ⟨(some 5), (.mv (.t 4)), none, [1]⟩, ⟨(some 6), (.mv (.t 0)), (some (5, false)), [2]⟩, ⟨(some 7), (.nilc (.t 6)), (some (5, false)), [3, 2]⟩, ⟨(some 8), (.fa 4 (.t 7)), (some (5, false)), [4, 2]⟩, ⟨(some 9), (.ld false 1 (.t 8)), (some (5, false)), [5, 2]⟩, ⟨(some 10), (.bin .eql (.t 9) (.c (.int .i64 0))), (some (5, false)), [6, 2]⟩, ⟨(some 11), (.pick (.t 5) (.c (.bool true)) (.t 10)), none, [2, 7]⟩, ⟨(some 2), (.mv (.t 11)), none, [8, 2, 0, 1, 2, 3, 4, 5, 6, 7, 8]⟩] false) .ret))
theorem mcOkc39 : (match Try.f39.body with | some c => compC Try.prog 12 c | none => none) = some mcc39 := by kernel_rfl

theorem gc39 (s : St) (h : s.every ≠ 0) : FC Try.prog 39 [cellsC s] [] (.bool false) [] false := by
  refine fc_run (nt := 12) Try.func39 rfl rfl mcOkc39 (Nat.le_of_ble_eq_true rfl) ?_
  delta mcc39
  refine aw_seq ?_
  refine aw_reg ?_
  refine rs_mv rfl rfl ?_
  refine rs_nil fun _ => ?_
  refine th_n ?_
  refine aw_seq ?_
  refine aw_reg ?_
  refine rs_mv rfl rfl ?_
  refine rs_nil_p rfl rfl (.inl ⟨_, rfl⟩) ?_
  refine rs_mv rfl rfl ?_
  refine rs_mv rfl rfl ?_
  refine rs_nilc_r rfl rfl ?_
  refine rs_fa_r rfl rfl rfl ?_
  refine rs_ld_r rfl rfl rfl ?_
  refine rs_cmp_f rfl rfl rfl rfl h ?_
  refine rs_pick rfl rfl rfl ?_
  refine rs_mv rfl rfl ?_
  refine rs_nil fun _ => ?_
  refine th_n ?_
  refine aw_ret ?_
  exact ret_pure rfl rfl rfl (.inr rfl)

theorem gc39z (s : St) (h : s.every = 0) : FC Try.prog 39 [cellsC s] [] (.bool true) [] false := by
  refine fc_run (nt := 12) Try.func39 rfl rfl mcOkc39 (Nat.le_of_ble_eq_true rfl) ?_
  delta mcc39
  refine aw_seq ?_
  refine aw_reg ?_
  refine rs_mv rfl rfl ?_
  refine rs_nil fun _ => ?_
  refine th_n ?_
  refine aw_seq ?_
  refine aw_reg ?_
  refine rs_mv rfl rfl ?_
  refine rs_nil_p rfl rfl (.inl ⟨_, rfl⟩) ?_
  refine rs_mv rfl rfl ?_
  refine rs_mv rfl rfl ?_
  refine rs_nilc_r rfl rfl ?_
  refine rs_fa_r rfl rfl rfl ?_
  refine rs_ld_r rfl rfl rfl ?_
  refine rs_cmp_t rfl rfl rfl rfl h ?_
  refine rs_pick rfl rfl rfl ?_
  refine rs_mv rfl rfl ?_
  refine rs_nil fun _ => ?_
  refine th_n ?_
  refine aw_ret ?_
  exact ret_pure rfl rfl rfl (.inr rfl)

theorem gc39n  : FC Try.prog 39 [.nilp] [] (.bool true) [] false := by
  refine fc_run (nt := 12) Try.func39 rfl rfl mcOkc39 (Nat.le_of_ble_eq_true rfl) ?_
  delta mcc39
  refine aw_seq ?_
  refine aw_reg ?_
  refine rs_mv rfl rfl ?_
  refine rs_nil fun _ => ?_
  refine th_n ?_
  refine aw_seq ?_
  refine aw_reg ?_
  refine rs_mv rfl rfl ?_
  refine rs_nil_n rfl rfl (.inr ⟨rfl, rfl⟩) ?_
  refine rs_mv rfl rfl ?_
  refine rs_skip rfl ?_
  refine rs_skip rfl ?_
  refine rs_skip rfl ?_
  refine rs_skip rfl ?_
  refine rs_skip rfl ?_
  refine rs_pick rfl rfl rfl ?_
  refine rs_mv rfl rfl ?_
  refine rs_nil fun _ => ?_
  refine th_n ?_
  refine aw_ret ?_
  exact ret_pure rfl rfl rfl (.inr rfl)

def mcc47 : MC := (.seq (.reg [⟨(some 2), (.mv (.c (.bool false))), none, []⟩] false) (.seq (.reg [⟨(some 3), (.mv (.t 0)), none, []⟩, ⟨(some 4), (.isnil false false (.t 3)), none, [0]⟩, ⟨(some 5), (.mv (.t 4)), none, [1]⟩, ⟨(some 6), (.mv (.t 0)), (some (5, false)), [2]⟩, ⟨(some 7), (.nilc (.t 6)), (some (5, false)), [3, 2]⟩, ⟨(some 8), (.fa 1 (.t 7)), (some (5, false)), [4, 2]⟩, ⟨(some 9), (.ld false 1 (.t 8)), (some (5, false)), [5, 2]⟩, ⟨(some 10), (.bin .eql (.t 9) (.c (.int .i64 0))), (some (5, false)), [6, 2]⟩, ⟨(some 11), (.pick (.t 5) (.c (.bool true)) (.t 10)), none, [2, 7]⟩, ⟨(some 2), (.mv (.t 11)), none, [8, 2, 0, 1, 2, 3, 4, 5, 6, 7, 8]⟩] false) .ret))
theorem mcOkc47 : (match Try.f47.body with | some c => compC Try.prog 12 c | none => none) = some mcc47 := by kernel_rfl

theorem gc47 (s : St) (h : s.every ≠ 0) : FC Try.prog 47 [cellsR s] [] (.bool false) [] false := by
  refine fc_run (nt := 12) Try.func47 rfl rfl mcOkc47 (Nat.le_of_ble_eq_true rfl) ?_
  delta mcc47
  refine aw_seq ?_
  refine aw_reg ?_
  refine rs_mv rfl rfl ?_
  refine rs_nil fun _ => ?_
  refine th_n ?_
  refine aw_seq ?_
  refine aw_reg ?_
  refine rs_mv rfl rfl ?_
  refine rs_nil_p rfl rfl (.inl ⟨_, rfl⟩) ?_
  refine rs_mv rfl rfl ?_
  refine rs_mv rfl rfl ?_
  refine rs_nilc_r rfl rfl ?_
  refine rs_fa_r rfl rfl rfl ?_
  refine rs_ld_r rfl rfl rfl ?_
  refine rs_cmp_f rfl rfl rfl rfl h ?_
  refine rs_pick rfl rfl rfl ?_
  refine rs_mv rfl rfl ?_
  refine rs_nil fun _ => ?_
  refine th_n ?_
  refine aw_ret ?_
  exact ret_pure rfl rfl rfl (.inr rfl)

def mcc57 : MC := (.seq (.reg [⟨(some 6), (.mv (.t 0)), none, []⟩, ⟨(some 7), (.mv (.t 0)), none, []⟩, ⟨(some 8), (.nilc (.t 7)), none, [1]⟩, ⟨(some 9), (.fa 0 (.t 8)), none, [2]⟩, ⟨(some 10), (.ld false 1 (.t 9)), none, [3]⟩, ⟨(some 11), (.mv (.t 1)), none, []⟩, ⟨(some 12), (.bslice 3 1 [(.int .i64 0)] 1 [(0, (.t 11))]), none, [5]⟩, ⟨(some 13), (.app 3 1 8 [(.int .i64 0)] (.t 10) (.t 12)), none, [4, 6]⟩, ⟨(some 14), (.nilc (.t 6)), none, [0, 0, 1, 2, 3, 4, 5, 6, 7]⟩, ⟨(some 15), (.fa 0 (.t 14)), none, [8, 0, 1, 2, 3, 4, 5, 6, 7]⟩, ⟨none, (.st 1 (.t 15) (.t 13)), none, [9, 7, 7, 0, 1, 2, 3, 4, 5, 6, 7]⟩] false) (.seq (.reg [⟨(some 16), (.mv (.t 0)), none, []⟩, ⟨(some 17), (.mv (.t 2)), none, []⟩, ⟨(some 18), (.nilc (.t 16)), none, [0, 0, 1]⟩, ⟨(some 19), (.fa 2 (.t 18)), none, [2, 0, 1]⟩, ⟨none, (.st 1 (.t 19) (.t 17)), none, [3, 1, 0, 1]⟩] false) (.seq (.reg [⟨(some 20), (.mv (.t 2)), none, []⟩, ⟨(some 21), (.un .not (.t 20)), none, [0]⟩] false) (.cond (.t 21) (.reg [⟨(some 22), (.mv (.t 0)), none, []⟩, ⟨(some 23), (.mv (.t 1)), none, []⟩, ⟨(some 24), (.nilc (.t 22)), none, [0, 0, 1]⟩, ⟨(some 25), (.fa 1 (.t 24)), none, [2, 0, 1]⟩, ⟨none, (.st 1 (.t 25) (.t 23)), none, [3, 1, 0, 1]⟩] false) .skip))))
theorem mcOkc57 : (match Try.f57.body with | some c => compC Try.prog 26 c | none => none) = some mcc57 := by kernel_rfl

theorem gc57 (s : St) (n : Int) (b : Bool) (hl : s.rs.length ≤ 1000000) : FC Try.prog 57 [.ptr 900 0 0, iv n, .bool b] (hC 900 901 s) (.tup []) (hC2 900 901 902 (recS s n b)) true := by
  have e1 : (recS s n b).rs.length = s.rs.length + 1 := by simp [recS]
  refine fc_run (nt := 26) Try.func57 rfl rfl mcOkc57 (Nat.le_of_ble_eq_true rfl) ?_
  delta mcc57
  refine aw_seq ?_
  refine aw_reg ?_
  refine rs_mv rfl rfl ?_
  refine rs_mv rfl rfl ?_
  refine rs_nilc_p rfl rfl ?_
  refine rs_fa_p rfl rfl ?_
  refine rs_ld_p rfl rfl rfl rfl rfl ?_
  refine rs_mv rfl rfl ?_
  refine rs_bslice (l := ([n]).flatMap ci) (els := ([n]).map ci) (fl := true) rfl (by kernel_rfl) rfl rfl (by kernel_rfl) (by kernel_rfl) ?_
  refine rs_app_m (xs := s.rs) (f := ci) (y := n) (fl' := true) rfl rfl rfl rfl rfl rfl rfl rfl (by decide) rfl (by omega) (by omega) rfl ?_
  refine rs_nilc_p rfl rfl ?_
  refine rs_fa_p rfl rfl ?_
  refine rs_st rfl rfl rfl rfl rfl rfl rfl (Nat.le_of_ble_eq_true rfl) rfl rfl ?_
  refine rs_nil fun _ => ?_
  refine th_n ?_
  refine aw_seq ?_
  refine aw_weak (weak_ren_row (i := 13) (i' := 902) (k := 900) (F0 := [(0, _), (1, _), (2, _)]) rfl rfl (.cons rfl (.same _) (.cons rfl (.same _) (.cons rfl (.same _) (.nil)))) (by decide) rfl (.cons (.sl _ _) (RenL.refl _ _ _))) ?_
  refine aw_reg ?_
  refine rs_mv rfl rfl ?_
  refine rs_mv rfl rfl ?_
  refine rs_nilc_p rfl rfl ?_
  refine rs_fa_p rfl rfl ?_
  refine rs_st rfl rfl rfl rfl rfl rfl rfl (Nat.le_of_ble_eq_true rfl) rfl rfl ?_
  refine rs_nil fun _ => ?_
  refine th_n ?_
  refine aw_seq ?_
  refine aw_reg ?_
  refine rs_mv rfl rfl ?_
  refine rs_not rfl rfl ?_
  refine rs_nil fun _ => ?_
  refine th_n ?_
  refine aw_cond rfl (fun h21 => ?_) (fun h21 => ?_)
  · skip
    refine aw_reg ?_
    refine rs_mv rfl rfl ?_
    refine rs_mv rfl rfl ?_
    refine rs_nilc_p rfl rfl ?_
    refine rs_fa_p rfl rfl ?_
    refine rs_st rfl rfl rfl rfl rfl rfl rfl (Nat.le_of_ble_eq_true rfl) rfl rfl ?_
    refine rs_nil fun _ => ?_
    (obtain rfl : b = false := by simpa using h21
     exact ret_own_e (.inl rfl) rfl (rc_same rfl (.inl rfl)) (.keep (by simp only [ctlO, e1]; rfl) rfl (.keep rfl rfl (.keep rfl rfl .nil))) (.cons rfl rfl rfl (.dead rfl rfl .nil)))
  · skip
    refine aw_skip ?_
    (obtain rfl : b = true := by simpa using h21
     exact ret_own_e (.inl rfl) rfl (rc_same rfl (.inl rfl)) (.keep (by simp only [ctlO, e1]; rfl) rfl (.keep rfl rfl (.keep rfl rfl .nil))) (.cons rfl rfl rfl (.dead rfl rfl .nil)))

end Go.Proofs.Ytigfcmcdjfmieaa

/-! Walks: C1. -/
namespace Go.Proofs.Ytigfcmcdjfmieaa
open Go.RowKit
set_option maxRecDepth 100000
set_option linter.unusedVariables false

theorem bt {b : Bool} (h : b = true) : (b = true) = True := eq_true h
theorem bf {b : Bool} (h : b = false) : (b = true) = False := eq_false (by simp [h])
def lastS (l : List Int) : Int := match l.getLast? with
  | some x => x
  | none => 0
theorem last_at {l : List Int} {y : Int} (h : l[l.length - 1]? = some y) : y = lastS l := by
  unfold lastS
  rw [List.getLast?_eq_getElem?, h]
theorem last_nil {l : List Int} (h : (l.length : Int) = 0) : (0 : Int) = lastS l := by
  have : l = [] := List.eq_nil_of_length_eq_zero (by omega)
  subst this; rfl
theorem brk_t {s : St} (h : s.broken = true) (hb : 0 ≤ s.breach) : brk s > 0 := by simp [brk, h]; omega
theorem brk_f {s : St} (h : s.broken = false) : brk s = 0 := by simp [brk, h]

def mcc50 : MC := (.seq (.reg [⟨(some 2), (.mv (.c (.int .i64 0))), none, []⟩] false) (.seq (.seq (.reg [⟨(some 3), (.mv (.t 0)), none, []⟩, ⟨(some 4), (.nilc (.t 3)), none, [0]⟩, ⟨(some 5), (.fa 0 (.t 4)), none, [1]⟩, ⟨(some 6), (.ld false 1 (.t 5)), none, [2]⟩, ⟨(some 7), (.len (.t 6)), none, [3]⟩, ⟨(some 8), (.bin .eql (.t 7) (.c (.int .i64 0))), none, [4]⟩] false) (.cond (.t 8) (.seq (.reg [⟨(some 2), (.mv (.c (.int .i64 0))), none, []⟩] false) .ret) .skip)) (.seq (.reg [⟨(some 9), (.mv (.t 0)), none, []⟩, ⟨(some 10), (.nilc (.t 9)), none, [0]⟩, ⟨(some 11), (.fa 0 (.t 10)), none, [1]⟩, ⟨(some 12), (.ld false 1 (.t 11)), none, [2]⟩, ⟨(some 13), (.mv (.t 0)), none, []⟩, ⟨(some 14), (.nilc (.t 13)), none, [4]⟩, ⟨(some 15), (.fa 0 (.t 14)), none, [5]⟩, ⟨(some 16), (.ld false 1 (.t 15)), none, [6]⟩, ⟨(some 17), (.len (.t 16)), none, [7]⟩, ⟨(some 18), (.bin .sub (.t 17) (.c (.int .i64 1))), none, [8]⟩, ⟨(some 19), (.ixsl 1 (.t 12) (.t 18)), none, [3, 9]⟩, ⟨(some 20), (.ld false 1 (.t 19)), none, [10]⟩, ⟨(some 2), (.mv (.t 20)), none, [11, 0, 1, 2, 3, 4, 5, 6, 7, 8, 9, 10, 11]⟩] true) .ret)))
theorem mcOkc50 : (match Try.f50.body with | some c => compC Try.prog 21 c | none => none) = some mcc50 := by kernel_rfl

theorem gc50 (s : St) (hs : s.rs.length ≤ 1000000) : FC Try.prog 50 [cellsC s] [] (iv (lastS s.rs)) [] false := by
  refine fc_run (nt := 21) Try.func50 rfl rfl mcOkc50 (Nat.le_of_ble_eq_true rfl) ?_
  delta mcc50
  refine aw_seq ?_
  refine aw_reg ?_
  refine rs_mv rfl rfl ?_
  refine rs_nil fun _ => ?_
  refine th_n ?_
  refine aw_seq ?_
  refine aw_seq ?_
  refine aw_reg ?_
  refine rs_mv rfl rfl ?_
  refine rs_nilc_r rfl rfl ?_
  refine rs_fa_r rfl rfl rfl ?_
  refine rs_ld_r rfl rfl rfl ?_
  refine rs_len_m rfl rfl ?_
  refine rs_eql rfl rfl rfl ?_
  refine rs_nil fun _ => ?_
  refine th_n ?_
  refine aw_cond rfl (fun h8 => ?_) (fun h8 => ?_)
  · replace h8 := of_decide_eq_true h8
    refine aw_seq ?_
    refine aw_reg ?_
    refine rs_mv rfl rfl ?_
    refine rs_nil fun _ => ?_
    refine th_n ?_
    refine aw_ret ?_
    refine th_r ?_
    exact ret_pure rfl (congrArg iv (last_nil h8)) rfl (.inr rfl)
  · replace h8 := of_decide_eq_false h8
    obtain ⟨y, hy, _⟩ := at_some (L := s.rs) (k := s.rs.length - 1) (by omega)
    refine aw_skip ?_
    refine th_n ?_
    refine aw_seq ?_
    refine aw_draw hmix ?_
    refine rs_mv rfl rfl ?_
    refine rs_nilc_r rfl rfl ?_
    refine rs_fa_r rfl rfl rfl ?_
    refine rs_ld_r rfl rfl rfl ?_
    refine rs_mv rfl rfl ?_
    refine rs_nilc_r rfl rfl ?_
    refine rs_fa_r rfl rfl rfl ?_
    refine rs_ld_r rfl rfl rfl ?_
    refine rs_len_m rfl rfl ?_
    refine rs_sub rfl rfl rfl (by omega) ?_
    refine rs_ix_g (f := ci) (y := y) rfl rfl rfl (by omega) (by rw [show ((s.rs.length : Int) - 1).toNat = s.rs.length - 1 by omega]; exact hy) ?_
    refine rs_ld_r rfl rfl rfl ?_
    refine rs_mv rfl rfl ?_
    refine rs_nil ⟨by kernel_rfl, fun _ => ?_⟩
    refine th_n ?_
    refine aw_ret ?_
    exact ret_pure rfl (congrArg iv (last_at hy)) rfl (.inr rfl)

def mcc40 : MC := (.seq (.reg [⟨(some 4), (.mv (.c (.int .i64 0))), none, []⟩] false) (.seq (.block 0 (.seq (.reg [⟨(some 6), (.mv (.t 0)), none, []⟩, ⟨(some 7), (.nilc (.t 6)), none, [0]⟩, ⟨(some 8), (.fa 11 (.t 7)), none, [1]⟩, ⟨(some 9), (.ld false 1 (.t 8)), none, [2]⟩, ⟨(some 5), (.mv (.t 9)), none, [3]⟩] false) (.cond (.t 5) (.seq (.reg [⟨(some 4), (.mv (.c (.int .i64 41))), none, []⟩] false) .ret) (.seq (.reg [⟨(some 11), (.mv (.t 0)), none, []⟩, ⟨(some 12), (.nilc (.t 11)), none, [0]⟩, ⟨(some 13), (.fa 12 (.t 12)), none, [1]⟩, ⟨(some 14), (.ld false 1 (.t 13)), none, [2]⟩, ⟨(some 10), (.mv (.t 14)), none, [3]⟩] false) (.cond (.t 10) (.seq (.reg [⟨(some 4), (.mv (.c (.int .i64 43))), none, []⟩] false) .ret) .skip))))) (.seq (.reg [⟨(some 15), (.mv (.t 0)), none, []⟩, ⟨(some 16), (.nilc (.t 15)), none, [0]⟩, ⟨(some 17), (.fa 6 (.t 16)), none, [1]⟩, ⟨(some 18), (.ld false 1 (.t 17)), none, [2]⟩, ⟨(some 19), (.bin .add (.t 18) (.c (.int .i64 1))), none, [3]⟩, ⟨(some 20), (.nilc (.t 15)), none, [0, 0, 1, 2, 3, 4]⟩, ⟨(some 21), (.fa 6 (.t 20)), none, [5, 0, 1, 2, 3, 4]⟩, ⟨none, (.st 1 (.t 21) (.t 19)), none, [6, 4, 0, 1, 2, 3, 4]⟩] false) (.seq (.seq (.reg [⟨(some 22), (.mv (.t 0)), none, []⟩, ⟨(some 23), (.nilc (.t 22)), none, [0]⟩, ⟨(some 24), (.fa 7 (.t 23)), none, [1]⟩, ⟨(some 25), (.ld false 1 (.t 24)), none, [2]⟩, ⟨(some 26), (.bin .add (.t 25) (.c (.int .i64 1))), none, [3]⟩, ⟨(some 27), (.nilc (.t 22)), none, [0, 0, 1, 2, 3, 4]⟩, ⟨(some 28), (.fa 7 (.t 27)), none, [5, 0, 1, 2, 3, 4]⟩, ⟨none, (.st 1 (.t 28) (.t 26)), none, [6, 4, 0, 1, 2, 3, 4]⟩] false) (.seq (.reg [⟨(some 29), (.mv (.t 0)), none, []⟩, ⟨(some 30), (.nilc (.t 29)), none, [0]⟩, ⟨(some 31), (.fa 7 (.t 30)), none, [1]⟩, ⟨(some 32), (.ld false 1 (.t 31)), none, [2]⟩, ⟨(some 33), (.mv (.t 0)), none, []⟩, ⟨(some 34), (.nilc (.t 33)), none, [4]⟩, ⟨(some 35), (.fa 5 (.t 34)), none, [5]⟩, ⟨(some 36), (.ld false 1 (.t 35)), none, [6]⟩, ⟨(some 37), (.bin .lss (.t 32) (.t 36)), none, [3, 7]⟩] true) (.cond (.t 37) (.seq (.reg [⟨(some 4), (.mv (.c (.int .i64 0))), none, []⟩] false) .ret) .skip))) (.seq (.reg [⟨(some 38), (.mv (.t 0)), none, []⟩, ⟨(some 39), (.mv (.t 0)), none, []⟩, ⟨(some 40), (.mv (.t 0)), none, []⟩, ⟨(some 41), (.nilc (.t 40)), none, [2]⟩, ⟨(some 42), (.fa 8 (.t 41)), none, [3]⟩, ⟨(some 43), (.ld false 1 (.t 42)), none, [4]⟩, ⟨(some 44), (.bin .add (.t 43) (.c (.int .i64 1))), none, [5]⟩, ⟨(some 45), (.nilc (.t 38)), none, [0, 0, 2, 3, 4, 5, 6]⟩, ⟨(some 46), (.fa 8 (.t 45)), none, [7, 0, 2, 3, 4, 5, 6]⟩, ⟨none, (.st 1 (.t 46) (.t 44)), none, [8, 6, 0, 2, 3, 4, 5, 6]⟩, ⟨(some 47), (.nilc (.t 39)), none, [1, 0, 1, 2, 3, 4, 5, 6, 7, 8, 9]⟩, ⟨(some 48), (.fa 7 (.t 47)), none, [10, 0, 1, 2, 3, 4, 5, 6, 7, 8, 9]⟩, ⟨none, (.st 1 (.t 48) (.c (.int .i64 0))), none, [11, 9, 0, 1, 2, 3, 4, 5, 6, 7, 8, 9]⟩] false) (.seq (.reg [⟨(some 49), (.mv (.t 0)), none, []⟩, ⟨(some 50), (.mv (.t 0)), none, []⟩, ⟨(some 51), (.nilc (.t 50)), none, [1]⟩, ⟨(some 52), (.fa 8 (.t 51)), none, [2]⟩, ⟨(some 53), (.ld false 1 (.t 52)), none, [3]⟩, ⟨(some 54), (.mv (.t 0)), none, []⟩, ⟨(some 55), (.nilc (.t 54)), none, [5]⟩, ⟨(some 56), (.fa 3 (.t 55)), none, [6]⟩, ⟨(some 57), (.ld false 1 (.t 56)), none, [7]⟩, ⟨(some 58), (.bin .eql (.t 53) (.t 57)), none, [4, 8]⟩, ⟨(some 59), (.nilc (.t 49)), none, [0, 0, 1, 2, 3, 4, 5, 6, 7, 8, 9]⟩, ⟨(some 60), (.fa 12 (.t 59)), none, [10, 0, 1, 2, 3, 4, 5, 6, 7, 8, 9]⟩, ⟨none, (.st 1 (.t 60) (.t 58)), none, [11, 9, 0, 1, 2, 3, 4, 5, 6, 7, 8, 9]⟩] true) (.seq (.seq (.reg [⟨(some 61), (.mv (.t 0)), none, []⟩, ⟨(some 62), (.nilc (.t 61)), none, [0]⟩, ⟨(some 63), (.fa 12 (.t 62)), none, [1]⟩, ⟨(some 64), (.ld false 1 (.t 63)), none, [2]⟩, ⟨(some 65), (.mv (.t 64)), none, [3]⟩, ⟨(some 66), (.mv (.t 0)), (some (65, false)), [4]⟩, ⟨(some 67), (.nilc (.t 66)), (some (65, false)), [5, 4]⟩, ⟨(some 68), (.fa 8 (.t 67)), (some (65, false)), [6, 4]⟩, ⟨(some 69), (.ld false 1 (.t 68)), (some (65, false)), [7, 4]⟩, ⟨(some 70), (.mv (.t 0)), (some (65, false)), [4]⟩, ⟨(some 71), (.nilc (.t 70)), (some (65, false)), [9, 4]⟩, ⟨(some 72), (.fa 4 (.t 71)), (some (65, false)), [10, 4]⟩, ⟨(some 73), (.ld false 1 (.t 72)), (some (65, false)), [11, 4]⟩, ⟨(some 74), (.bin .rem (.t 69) (.t 73)), (some (65, false)), [8, 12, 4]⟩, ⟨(some 75), (.bin .eql (.t 74) (.c (.int .i64 0))), (some (65, false)), [13, 4]⟩, ⟨(some 76), (.pick (.t 65) (.c (.bool true)) (.t 75)), none, [4, 14]⟩] true) (.cond (.t 76) (.seq (.reg [⟨(some 77), (.mv (.t 0)), none, []⟩, ⟨(some 78), (.nilc (.t 77)), none, [0]⟩, ⟨(some 79), (.fa 0 (.t 78)), none, [1]⟩, ⟨(some 80), (.mv (.t 0)), none, []⟩, ⟨(some 81), (.nilc (.t 80)), none, [3]⟩, ⟨(some 82), (.fa 8 (.t 81)), none, [4]⟩, ⟨(some 83), (.ld false 1 (.t 82)), none, [5]⟩, ⟨(some 84), (.mv (.t 0)), none, []⟩, ⟨(some 85), (.nilc (.t 84)), none, [7]⟩, ⟨(some 86), (.fa 9 (.t 85)), none, [8]⟩, ⟨(some 87), (.ld false 1 (.t 86)), none, [9]⟩, ⟨(some 88), (.call 57 [(.t 79), (.t 83), (.t 87)]), none, [2, 6, 10]⟩] true) (.reg [⟨(some 89), (.mv (.t 0)), none, []⟩, ⟨(some 90), (.mv (.t 0)), none, []⟩, ⟨(some 91), (.nilc (.t 90)), none, [1]⟩, ⟨(some 92), (.fa 9 (.t 91)), none, [2]⟩, ⟨(some 93), (.ld false 1 (.t 92)), none, [3]⟩, ⟨(some 94), (.nilc (.t 89)), none, [0, 0, 1, 2, 3, 4]⟩, ⟨(some 95), (.fa 11 (.t 94)), none, [5, 0, 1, 2, 3, 4]⟩, ⟨none, (.st 1 (.t 95) (.t 93)), none, [6, 4, 0, 1, 2, 3, 4]⟩] false)) .skip)) (.seq (.reg [⟨(some 4), (.mv (.c (.int .i64 0))), none, []⟩] false) .ret))))))))
theorem mcOkc40 : (match Try.f40.body with | some c => compC Try.prog 96 c | none => none) = some mcc40 := by kernel_rfl

theorem gc40 (s s' : St) (n e : Int) (hs : Sm s) (ht : tickS s = (e, s')) : FC Try.prog 40 [.ptr 900 0 0, iv n] (hC 900 901 s) (iv e) (hC2 900 901 902 s') true := by
  have hs0 := hs
  obtain ⟨hl, ha, hev, hfe, hra, hsi, hma, hbr⟩ := hs
  refine fc_run (nt := 96) Try.func40 rfl rfl mcOkc40 (Nat.le_of_ble_eq_true rfl) ?_
  delta mcc40
  refine aw_seq ?_
  refine aw_reg ?_
  refine rs_mv rfl rfl ?_
  refine rs_nil fun _ => ?_
  refine th_n ?_
  refine aw_seq ?_
  refine aw_block ?_
  refine aw_seq ?_
  refine aw_reg ?_
  refine rs_mv rfl rfl ?_
  refine rs_nilc_p rfl rfl ?_
  refine rs_fa_p rfl rfl ?_
  refine rs_ld_p rfl rfl rfl rfl rfl ?_
  refine rs_mv rfl rfl ?_
  refine rs_nil fun _ => ?_
  refine th_n ?_
  refine aw_cond rfl (fun h5 => ?_) (fun h5 => ?_)
  · skip
    have q5 := bt h5
    refine aw_seq ?_
    refine aw_reg ?_
    refine rs_mv rfl rfl ?_
    refine rs_nil fun _ => ?_
    refine th_n ?_
    refine aw_weak (weak_ren_row (i := 901) (i' := 902) (k := 900) (F0 := [(4, _)]) rfl rfl (.cons rfl (.same _) (.nil)) (by decide) rfl (.cons (.sl _ _) (RenL.refl _ _ _))) ?_
    refine aw_ret ?_
    refine in_r ?_
    refine th_r ?_
    (simp only [tickS, stepS, recS, q5, if_true, if_false, ↓reduceIte, reduceCtorEq, or_true, true_or, or_false, false_or, and_true, true_and, and_false, false_and, Prod.mk.injEq] at ht
     obtain ⟨rfl, rfl⟩ := ht
     exact ret_own rfl (rc_same rfl (.inl rfl)) (.keep (rfl) rfl (.keep (rfl) rfl (.keep (rfl) rfl (.nil)))) (.cons rfl rfl rfl (.dead rfl rfl .nil)))
  · skip
    have q5 := bf h5
    refine aw_seq ?_
    refine aw_reg ?_
    refine rs_mv rfl rfl ?_
    refine rs_nilc_p rfl rfl ?_
    refine rs_fa_p rfl rfl ?_
    refine rs_ld_p rfl rfl rfl rfl rfl ?_
    refine rs_mv rfl rfl ?_
    refine rs_nil fun _ => ?_
    refine th_n ?_
    refine aw_cond rfl (fun h10 => ?_) (fun h10 => ?_)
    · skip
      have q10 := bt h10
      refine aw_seq ?_
      refine aw_reg ?_
      refine rs_mv rfl rfl ?_
      refine rs_nil fun _ => ?_
      refine th_n ?_
      refine aw_weak (weak_ren_row (i := 901) (i' := 902) (k := 900) (F0 := [(4, _)]) rfl rfl (.cons rfl (.same _) (.nil)) (by decide) rfl (.cons (.sl _ _) (RenL.refl _ _ _))) ?_
      refine aw_ret ?_
      refine in_r ?_
      refine th_r ?_
      (simp only [tickS, stepS, recS, q5, q10, if_true, if_false, ↓reduceIte, reduceCtorEq, or_true, true_or, or_false, false_or, and_true, true_and, and_false, false_and, Prod.mk.injEq] at ht
       obtain ⟨rfl, rfl⟩ := ht
       exact ret_own rfl (rc_same rfl (.inl rfl)) (.keep (rfl) rfl (.keep (rfl) rfl (.keep (rfl) rfl (.nil)))) (.cons rfl rfl rfl (.dead rfl rfl .nil)))
    · skip
      have q10 := bf h10
      refine aw_skip ?_
      refine in_n ?_
      refine th_n ?_
      refine aw_seq ?_
      refine aw_reg ?_
      refine rs_mv rfl rfl ?_
      refine rs_nilc_p rfl rfl ?_
      refine rs_fa_p rfl rfl ?_
      refine rs_ld_p rfl rfl rfl rfl rfl ?_
      refine rs_add rfl rfl rfl (by omega) ?_
      refine rs_nilc_p rfl rfl ?_
      refine rs_fa_p rfl rfl ?_
      refine rs_st rfl rfl rfl rfl rfl rfl rfl (Nat.le_of_ble_eq_true rfl) rfl rfl ?_
      refine rs_nil fun _ => ?_
      refine th_n ?_
      refine aw_seq ?_
      refine aw_seq ?_
      refine aw_reg ?_
      refine rs_mv rfl rfl ?_
      refine rs_nilc_p rfl rfl ?_
      refine rs_fa_p rfl rfl ?_
      refine rs_ld_p rfl rfl rfl rfl rfl ?_
      refine rs_add rfl rfl rfl (by omega) ?_
      refine rs_nilc_p rfl rfl ?_
      refine rs_fa_p rfl rfl ?_
      refine rs_st rfl rfl rfl rfl rfl rfl rfl (Nat.le_of_ble_eq_true rfl) rfl rfl ?_
      refine rs_nil fun _ => ?_
      refine th_n ?_
      refine aw_seq ?_
      refine aw_draw hmix ?_
      refine rs_mv rfl rfl ?_
      refine rs_nilc_p rfl rfl ?_
      refine rs_fa_p rfl rfl ?_
      refine rs_ld_p rfl rfl rfl rfl rfl ?_
      refine rs_mv rfl rfl ?_
      refine rs_nilc_p rfl rfl ?_
      refine rs_fa_p rfl rfl ?_
      refine rs_ld_p rfl rfl rfl rfl rfl ?_
      refine rs_lss rfl rfl rfl ?_
      refine rs_nil ⟨by kernel_rfl, fun _ => ?_⟩
      refine th_n ?_
      refine aw_cond rfl (fun h37 => ?_) (fun h37 => ?_)
      · replace h37 := of_decide_eq_true h37
        refine aw_seq ?_
        refine aw_reg ?_
        refine rs_mv rfl rfl ?_
        refine rs_nil fun _ => ?_
        refine th_n ?_
        refine aw_weak (weak_ren_row (i := 901) (i' := 902) (k := 900) (F0 := [(4, _)]) rfl rfl (.cons rfl (.same _) (.nil)) (by decide) rfl (.cons (.sl _ _) (RenL.refl _ _ _))) ?_
        refine aw_ret ?_
        refine th_r ?_
        (simp only [tickS, stepS, recS, q5, q10, h37, if_true, if_false, ↓reduceIte, reduceCtorEq, or_true, true_or, or_false, false_or, and_true, true_and, and_false, false_and, Prod.mk.injEq] at ht
         obtain ⟨rfl, rfl⟩ := ht
         exact ret_own rfl (rc_same rfl (.inl rfl)) (.keep (rfl) rfl (.keep (rfl) rfl (.keep (rfl) rfl (.nil)))) (.cons rfl rfl rfl (.dead rfl rfl .nil)))
      · replace h37 := of_decide_eq_false h37
        refine aw_skip ?_
        refine th_n ?_
        refine aw_seq ?_
        refine aw_reg ?_
        refine rs_mv rfl rfl ?_
        refine rs_mv rfl rfl ?_
        refine rs_mv rfl rfl ?_
        refine rs_nilc_p rfl rfl ?_
        refine rs_fa_p rfl rfl ?_
        refine rs_ld_p rfl rfl rfl rfl rfl ?_
        refine rs_add rfl rfl rfl (by omega) ?_
        refine rs_nilc_p rfl rfl ?_
        refine rs_fa_p rfl rfl ?_
        refine rs_st rfl rfl rfl rfl rfl rfl rfl (Nat.le_of_ble_eq_true rfl) rfl rfl ?_
        refine rs_nilc_p rfl rfl ?_
        refine rs_fa_p rfl rfl ?_
        refine rs_st rfl rfl rfl rfl rfl rfl rfl (Nat.le_of_ble_eq_true rfl) rfl rfl ?_
        refine rs_nil fun _ => ?_
        refine th_n ?_
        refine aw_seq ?_
        refine aw_draw hmix ?_
        refine rs_mv rfl rfl ?_
        refine rs_mv rfl rfl ?_
        refine rs_nilc_p rfl rfl ?_
        refine rs_fa_p rfl rfl ?_
        refine rs_ld_p rfl rfl rfl rfl rfl ?_
        refine rs_mv rfl rfl ?_
        refine rs_nilc_p rfl rfl ?_
        refine rs_fa_p rfl rfl ?_
        refine rs_ld_p rfl rfl rfl rfl rfl ?_
        refine rs_eql rfl rfl rfl ?_
        refine rs_nilc_p rfl rfl ?_
        refine rs_fa_p rfl rfl ?_
        refine rs_st rfl rfl rfl rfl rfl rfl rfl (Nat.le_of_ble_eq_true rfl) rfl rfl ?_
        refine rs_nil ⟨by kernel_rfl, fun _ => ?_⟩
        refine th_n ?_
        refine aw_seq ?_
        refine aw_seq ?_
        refine aw_draw hmix ?_
        refine rs_mv rfl rfl ?_
        refine rs_nilc_p rfl rfl ?_
        refine rs_fa_p rfl rfl ?_
        refine rs_ld_p rfl rfl rfl rfl rfl ?_
        cases h64 : decide (s.made + 1 = s.all)
        · skip
          refine rs_mv rfl rfl ?_
          refine rs_mv rfl rfl ?_
          refine rs_nilc_p rfl rfl ?_
          refine rs_fa_p rfl rfl ?_
          refine rs_ld_p rfl rfl rfl rfl rfl ?_
          refine rs_mv rfl rfl ?_
          refine rs_nilc_p rfl rfl ?_
          refine rs_fa_p rfl rfl ?_
          refine rs_ld_p rfl rfl rfl rfl rfl ?_
          refine rs_rem rfl rfl rfl (by omega) rfl ?_
          refine rs_cmp rfl rfl rfl rfl (fun h75 => ?_) (fun h75 => ?_)
          · skip
            refine rs_pick rfl rfl rfl ?_
            refine rs_nil ⟨by kernel_rfl, fun _ => ?_⟩
            refine th_n ?_
            refine aw_cond rfl (fun _ => ?_) (fun h => by cases h)
            refine aw_seq ?_
            refine aw_draw hmix ?_
            refine rs_mv rfl rfl ?_
            refine rs_nilc_p rfl rfl ?_
            refine rs_fa_p rfl rfl ?_
            refine rs_mv rfl rfl ?_
            refine rs_nilc_p rfl rfl ?_
            refine rs_fa_p rfl rfl ?_
            refine rs_ld_p rfl rfl rfl rfl rfl ?_
            refine rs_mv rfl rfl ?_
            refine rs_nilc_p rfl rfl ?_
            refine rs_fa_p rfl rfl ?_
            refine rs_ld_p rfl rfl rfl rfl rfl ?_
            refine rs_callo (hC 900 901 { s with ran := s.ran + 1, since := 0, made := s.made + 1, over := false }) rfl rfl (gc57 { s with ran := s.ran + 1, since := 0, made := s.made + 1, over := false } (s.made + 1) s.broken hl) (.cons (hv_same rfl) (.cons (hv_same rfl) (.cons (hv_same rfl) (.nil)))) (.cons rfl (.cons rfl (.nil))) rfl rfl rfl ?_
            refine rs_nil ⟨by kernel_rfl, fun _ => ?_⟩
            refine th_n ?_
            refine aw_reg ?_
            refine rs_mv rfl rfl ?_
            refine rs_mv rfl rfl ?_
            refine rs_nilc_p rfl rfl ?_
            refine rs_fa_p rfl rfl ?_
            refine rs_ld_p rfl rfl rfl rfl rfl ?_
            refine rs_nilc_p rfl rfl ?_
            refine rs_fa_p rfl rfl ?_
            refine rs_st rfl rfl rfl rfl rfl rfl rfl (Nat.le_of_ble_eq_true rfl) rfl rfl ?_
            refine rs_nil fun _ => ?_
            refine th_n ?_
            refine aw_seq ?_
            refine aw_reg ?_
            refine rs_mv rfl rfl ?_
            refine rs_nil fun _ => ?_
            refine th_n ?_
            refine aw_ret ?_
            (simp only [tickS, stepS, recS, q5, q10, h37, h64, h75, if_true, if_false, ↓reduceIte, reduceCtorEq, or_true, true_or, or_false, false_or, and_true, true_and, and_false, false_and, Prod.mk.injEq] at ht
             obtain ⟨rfl, rfl⟩ := ht
             exact ret_own rfl (rc_same rfl (.inl rfl)) (.keep (rfl) rfl (.keep (rfl) rfl (.keep (rfl) rfl (.nil)))) (.cons rfl rfl rfl (.dead rfl rfl .nil)))
          · skip
            refine rs_pick rfl rfl rfl ?_
            refine rs_nil ⟨by kernel_rfl, fun _ => ?_⟩
            refine th_n ?_
            refine aw_cond rfl (fun h => by cases h) (fun _ => ?_)
            refine aw_skip ?_
            refine th_n ?_
            refine aw_seq ?_
            refine aw_reg ?_
            refine rs_mv rfl rfl ?_
            refine rs_nil fun _ => ?_
            refine th_n ?_
            refine aw_weak (weak_ren_row (i := 901) (i' := 902) (k := 900) (F0 := [(4, _)]) rfl rfl (.cons rfl (.same _) (.nil)) (by decide) rfl (.cons (.sl _ _) (RenL.refl _ _ _))) ?_
            refine aw_ret ?_
            (simp only [tickS, stepS, recS, q5, q10, h37, h64, h75, if_true, if_false, ↓reduceIte, reduceCtorEq, or_true, true_or, or_false, false_or, and_true, true_and, and_false, false_and, Prod.mk.injEq] at ht
             obtain ⟨rfl, rfl⟩ := ht
             exact ret_own rfl (rc_same rfl (.inl rfl)) (.keep (rfl) rfl (.keep (rfl) rfl (.keep (rfl) rfl (.nil)))) (.cons rfl rfl rfl (.dead rfl rfl .nil)))
        · skip
          refine rs_mv rfl rfl ?_
          refine rs_skip rfl ?_
          refine rs_skip rfl ?_
          refine rs_skip rfl ?_
          refine rs_skip rfl ?_
          refine rs_skip rfl ?_
          refine rs_skip rfl ?_
          refine rs_skip rfl ?_
          refine rs_skip rfl ?_
          refine rs_skip rfl ?_
          refine rs_skip rfl ?_
          refine rs_pick rfl rfl rfl ?_
          refine rs_nil ⟨by kernel_rfl, fun _ => ?_⟩
          refine th_n ?_
          refine aw_cond rfl (fun _ => ?_) (fun h => by cases h)
          refine aw_seq ?_
          refine aw_draw hmix ?_
          refine rs_mv rfl rfl ?_
          refine rs_nilc_p rfl rfl ?_
          refine rs_fa_p rfl rfl ?_
          refine rs_mv rfl rfl ?_
          refine rs_nilc_p rfl rfl ?_
          refine rs_fa_p rfl rfl ?_
          refine rs_ld_p rfl rfl rfl rfl rfl ?_
          refine rs_mv rfl rfl ?_
          refine rs_nilc_p rfl rfl ?_
          refine rs_fa_p rfl rfl ?_
          refine rs_ld_p rfl rfl rfl rfl rfl ?_
          refine rs_callo (hC 900 901 { s with ran := s.ran + 1, since := 0, made := s.made + 1, over := true }) rfl rfl (gc57 { s with ran := s.ran + 1, since := 0, made := s.made + 1, over := true } (s.made + 1) s.broken hl) (.cons (hv_same rfl) (.cons (hv_same rfl) (.cons (hv_same rfl) (.nil)))) (.cons rfl (.cons rfl (.nil))) rfl rfl rfl ?_
          refine rs_nil ⟨by kernel_rfl, fun _ => ?_⟩
          refine th_n ?_
          refine aw_reg ?_
          refine rs_mv rfl rfl ?_
          refine rs_mv rfl rfl ?_
          refine rs_nilc_p rfl rfl ?_
          refine rs_fa_p rfl rfl ?_
          refine rs_ld_p rfl rfl rfl rfl rfl ?_
          refine rs_nilc_p rfl rfl ?_
          refine rs_fa_p rfl rfl ?_
          refine rs_st rfl rfl rfl rfl rfl rfl rfl (Nat.le_of_ble_eq_true rfl) rfl rfl ?_
          refine rs_nil fun _ => ?_
          refine th_n ?_
          refine aw_seq ?_
          refine aw_reg ?_
          refine rs_mv rfl rfl ?_
          refine rs_nil fun _ => ?_
          refine th_n ?_
          refine aw_ret ?_
          (simp only [tickS, stepS, recS, q5, q10, h37, h64, if_true, if_false, ↓reduceIte, reduceCtorEq, or_true, true_or, or_false, false_or, and_true, true_and, and_false, false_and, Prod.mk.injEq] at ht
           obtain ⟨rfl, rfl⟩ := ht
           exact ret_own rfl (rc_same rfl (.inl rfl)) (.keep (rfl) rfl (.keep (rfl) rfl (.keep (rfl) rfl (.nil)))) (.cons rfl rfl rfl (.dead rfl rfl .nil)))

end Go.Proofs.Ytigfcmcdjfmieaa

/-! Walks: C2. -/
namespace Go.Proofs.Ytigfcmcdjfmieaa
open Go.RowKit
set_option maxRecDepth 100000
set_option linter.unusedVariables false

/-- What an event does that is permitted. -/
def handS (s : St) (k n : Int) : Int × St :=
  if k = 1 then tickS s
  else if k = 2 then (0, { s with over := true, dark := true, blind := true })
  else if k = 3 then (0, { s with dark := false })
  else if k = 4 then (if s.broken = true then (41, s) else (0, { s with broken := true, breach := s.made }))
  else if k = 5 then (0, { s with feed := n })
  else if k = 6 then (0, { s with over := true })
  else (0, { s with noticed := s.noticed || s.broken })
/-- The errors that come first. -/
def chkS (s : St) (k n : Int) : Int :=
  if k < 1 ∨ k > 7 then 4
  else if k = 5 ∧ (n < 1 ∨ n > 100) then 3
  else if ¬ k = 5 ∧ ¬ n = 0 then 1
  else if s.dark = true ∧ ¬ k = 3 then 40
  else if s.dark = false ∧ k = 3 then 7
  else 0
/-- An event: its error, and what comes of it. -/
def doS (s : St) (k n : Int) : Int × St := if chkS s k n = 0 then handS s k n else (chkS s k n, s)
theorem doS_err {s s' : St} {k n e c : Int} (h : doS s k n = (e, s')) (hc : chkS s k n = c) (h0 : c ≠ 0) : e = c ∧ s' = s := by
  rw [doS, if_neg (by rw [hc]; exact h0), hc] at h
  exact ⟨(Prod.mk.inj h).1.symm, (Prod.mk.inj h).2.symm⟩
theorem doS_ok {s s' : St} {k n e : Int} (h : doS s k n = (e, s')) (hc : chkS s k n = 0) : handS s k n = (e, s') := by
  rwa [doS, if_pos hc] at h
theorem chk_0 {s : St} {k n : Int} (h0 : 1 ≤ k ∧ k ≤ 7) (h5 : k = 5 → 1 ≤ n ∧ n ≤ 100) (h6 : ¬ k = 5 → n = 0) (h1 : s.dark = true → k = 3) (h2 : s.dark = false → ¬ k = 3) : chkS s k n = 0 := by
  rw [chkS, if_neg (by omega), if_neg (by omega), if_neg (by omega), if_neg (fun h => h.2 (h1 h.1)), if_neg (fun h => h2 h.1 h.2)]
theorem chk_4 {s : St} {k n : Int} (h0 : k < 1 ∨ k > 7) : chkS s k n = 4 := by rw [chkS, if_pos h0]
theorem chk_3 {s : St} {k n : Int} (h0 : k = 5) (h : n < 1 ∨ n > 100) : chkS s k n = 3 := by rw [chkS, if_neg (by omega), if_pos ⟨h0, h⟩]
theorem chk_1 {s : St} {k n : Int} (h0 : 1 ≤ k ∧ k ≤ 7) (h5 : ¬ k = 5) (h6 : ¬ n = 0) : chkS s k n = 1 := by rw [chkS, if_neg (by omega), if_neg (by omega), if_pos ⟨h5, h6⟩]
theorem chk_40 {s : St} {k n : Int} (h0 : 1 ≤ k ∧ k ≤ 7) (h5 : k = 5 → 1 ≤ n ∧ n ≤ 100) (h6 : ¬ k = 5 → n = 0) (h1 : s.dark = true) (h2 : ¬ k = 3) : chkS s k n = 40 := by
  rw [chkS, if_neg (by omega), if_neg (by omega), if_neg (by omega), if_pos ⟨h1, h2⟩]
theorem chk_7 {s : St} {k n : Int} (h0 : 1 ≤ k ∧ k ≤ 7) (h5 : k = 5 → 1 ≤ n ∧ n ≤ 100) (h6 : ¬ k = 5 → n = 0) (h1 : s.dark = false) (h2 : k = 3) : chkS s k n = 7 := by
  rw [chkS, if_neg (by omega), if_neg (by omega), if_neg (by omega), if_neg (by rw [h1]; rintro ⟨h, _⟩; cases h), if_pos ⟨h1, h2⟩]
abbrev KV : List (Int × AV) := [(1, .bnd (.func 40) (.ptr 900 0 0)), (2, .bnd (.func 41) (.ptr 900 0 0)), (3, .bnd (.func 42) (.ptr 900 0 0)), (4, .bnd (.func 43) (.ptr 900 0 0)), (5, .bnd (.func 44) (.ptr 900 0 0)), (6, .bnd (.func 45) (.ptr 900 0 0)), (7, .bnd (.func 46) (.ptr 900 0 0))]

def mcc41 : MC := (.seq (.reg [⟨(some 4), (.mv (.c (.int .i64 0))), none, []⟩] false) (.seq (.reg [⟨(some 5), (.mv (.t 0)), none, []⟩, ⟨(some 6), (.mv (.t 0)), none, []⟩, ⟨(some 7), (.mv (.t 0)), none, []⟩, ⟨(some 8), (.nilc (.t 5)), none, [0, 0]⟩, ⟨(some 9), (.fa 13 (.t 8)), none, [3, 0]⟩, ⟨none, (.st 1 (.t 9) (.c (.bool true))), none, [4, 0]⟩, ⟨(some 10), (.nilc (.t 6)), none, [1, 0, 1, 3, 4, 5]⟩, ⟨(some 11), (.fa 14 (.t 10)), none, [6, 0, 1, 3, 4, 5]⟩, ⟨none, (.st 1 (.t 11) (.c (.bool true))), none, [7, 5, 0, 1, 3, 4, 5]⟩, ⟨(some 12), (.nilc (.t 7)), none, [2, 0, 1, 2, 3, 4, 5, 6, 7, 8]⟩, ⟨(some 13), (.fa 12 (.t 12)), none, [9, 0, 1, 2, 3, 4, 5, 6, 7, 8]⟩, ⟨none, (.st 1 (.t 13) (.c (.bool true))), none, [10, 8, 0, 1, 2, 3, 4, 5, 6, 7, 8]⟩] false) (.seq (.reg [⟨(some 4), (.mv (.c (.int .i64 0))), none, []⟩] false) .ret)))
theorem mcOkc41 : (match Try.f41.body with | some c => compC Try.prog 14 c | none => none) = some mcc41 := by kernel_rfl

theorem gc41 (s : St) (n : Int) : FC Try.prog 41 [.ptr 900 0 0, iv n] (hC 900 901 s) (iv 0) (hC2 900 901 902 { s with over := true, dark := true, blind := true }) true := by
  refine fc_run (nt := 14) Try.func41 rfl rfl mcOkc41 (Nat.le_of_ble_eq_true rfl) ?_
  delta mcc41
  refine aw_seq ?_
  refine aw_reg ?_
  refine rs_mv rfl rfl ?_
  refine rs_nil fun _ => ?_
  refine th_n ?_
  refine aw_seq ?_
  refine aw_reg ?_
  refine rs_mv rfl rfl ?_
  refine rs_mv rfl rfl ?_
  refine rs_mv rfl rfl ?_
  refine rs_nilc_p rfl rfl ?_
  refine rs_fa_p rfl rfl ?_
  refine rs_st rfl rfl rfl rfl rfl rfl rfl (Nat.le_of_ble_eq_true rfl) rfl rfl ?_
  refine rs_nilc_p rfl rfl ?_
  refine rs_fa_p rfl rfl ?_
  refine rs_st rfl rfl rfl rfl rfl rfl rfl (Nat.le_of_ble_eq_true rfl) rfl rfl ?_
  refine rs_nilc_p rfl rfl ?_
  refine rs_fa_p rfl rfl ?_
  refine rs_st rfl rfl rfl rfl rfl rfl rfl (Nat.le_of_ble_eq_true rfl) rfl rfl ?_
  refine rs_nil fun _ => ?_
  refine th_n ?_
  refine aw_seq ?_
  refine aw_reg ?_
  refine rs_mv rfl rfl ?_
  refine rs_nil fun _ => ?_
  refine th_n ?_
  refine aw_weak (weak_ren_row (i := 901) (i' := 902) (k := 900) (F0 := [(4, _)]) rfl rfl (.cons rfl (.same _) (.nil)) (by decide) rfl (.cons (.sl _ _) (RenL.refl _ _ _))) ?_
  refine aw_ret ?_
  exact ret_own rfl (rc_same rfl (.inl rfl)) (.keep (rfl) rfl (.keep (rfl) rfl (.keep (rfl) rfl (.nil)))) (.cons rfl rfl rfl (.dead rfl rfl .nil))

def mcc42 : MC := (.seq (.reg [⟨(some 4), (.mv (.c (.int .i64 0))), none, []⟩] false) (.seq (.reg [⟨(some 5), (.mv (.t 0)), none, []⟩, ⟨(some 6), (.nilc (.t 5)), none, [0, 0]⟩, ⟨(some 7), (.fa 13 (.t 6)), none, [1, 0]⟩, ⟨none, (.st 1 (.t 7) (.c (.bool false))), none, [2, 0]⟩] false) (.seq (.reg [⟨(some 4), (.mv (.c (.int .i64 0))), none, []⟩] false) .ret)))
theorem mcOkc42 : (match Try.f42.body with | some c => compC Try.prog 8 c | none => none) = some mcc42 := by kernel_rfl

theorem gc42 (s : St) (n : Int) : FC Try.prog 42 [.ptr 900 0 0, iv n] (hC 900 901 s) (iv 0) (hC2 900 901 902 { s with dark := false }) true := by
  refine fc_run (nt := 8) Try.func42 rfl rfl mcOkc42 (Nat.le_of_ble_eq_true rfl) ?_
  delta mcc42
  refine aw_seq ?_
  refine aw_reg ?_
  refine rs_mv rfl rfl ?_
  refine rs_nil fun _ => ?_
  refine th_n ?_
  refine aw_seq ?_
  refine aw_reg ?_
  refine rs_mv rfl rfl ?_
  refine rs_nilc_p rfl rfl ?_
  refine rs_fa_p rfl rfl ?_
  refine rs_st rfl rfl rfl rfl rfl rfl rfl (Nat.le_of_ble_eq_true rfl) rfl rfl ?_
  refine rs_nil fun _ => ?_
  refine th_n ?_
  refine aw_seq ?_
  refine aw_reg ?_
  refine rs_mv rfl rfl ?_
  refine rs_nil fun _ => ?_
  refine th_n ?_
  refine aw_weak (weak_ren_row (i := 901) (i' := 902) (k := 900) (F0 := [(4, _)]) rfl rfl (.cons rfl (.same _) (.nil)) (by decide) rfl (.cons (.sl _ _) (RenL.refl _ _ _))) ?_
  refine aw_ret ?_
  exact ret_own rfl (rc_same rfl (.inl rfl)) (.keep (rfl) rfl (.keep (rfl) rfl (.keep (rfl) rfl (.nil)))) (.cons rfl rfl rfl (.dead rfl rfl .nil))

def mcc43 : MC := (.seq (.reg [⟨(some 4), (.mv (.c (.int .i64 0))), none, []⟩] false) (.seq (.seq (.reg [⟨(some 5), (.mv (.t 0)), none, []⟩, ⟨(some 6), (.nilc (.t 5)), none, [0]⟩, ⟨(some 7), (.fa 9 (.t 6)), none, [1]⟩, ⟨(some 8), (.ld false 1 (.t 7)), none, [2]⟩] false) (.cond (.t 8) (.seq (.reg [⟨(some 4), (.mv (.c (.int .i64 41))), none, []⟩] false) .ret) .skip)) (.seq (.reg [⟨(some 9), (.mv (.t 0)), none, []⟩, ⟨(some 10), (.mv (.t 0)), none, []⟩, ⟨(some 11), (.mv (.t 0)), none, []⟩, ⟨(some 12), (.nilc (.t 11)), none, [2]⟩, ⟨(some 13), (.fa 8 (.t 12)), none, [3]⟩, ⟨(some 14), (.ld false 1 (.t 13)), none, [4]⟩, ⟨(some 15), (.nilc (.t 9)), none, [0, 0, 5]⟩, ⟨(some 16), (.fa 9 (.t 15)), none, [6, 0, 5]⟩, ⟨none, (.st 1 (.t 16) (.c (.bool true))), none, [7, 0, 5]⟩, ⟨(some 17), (.nilc (.t 10)), none, [1, 0, 1, 2, 3, 4, 5, 6, 7, 8]⟩, ⟨(some 18), (.fa 10 (.t 17)), none, [9, 0, 1, 2, 3, 4, 5, 6, 7, 8]⟩, ⟨none, (.st 1 (.t 18) (.t 14)), none, [10, 5, 8, 0, 1, 2, 3, 4, 5, 6, 7, 8]⟩] false) (.seq (.reg [⟨(some 4), (.mv (.c (.int .i64 0))), none, []⟩] false) .ret))))
theorem mcOkc43 : (match Try.f43.body with | some c => compC Try.prog 19 c | none => none) = some mcc43 := by kernel_rfl

theorem gc43 (s s' : St) (n e : Int) (h : (if s.broken = true then ((41 : Int), s) else (0, { s with broken := true, breach := s.made })) = (e, s')) : FC Try.prog 43 [.ptr 900 0 0, iv n] (hC 900 901 s) (iv e) (hC2 900 901 902 s') true := by
  refine fc_run (nt := 19) Try.func43 rfl rfl mcOkc43 (Nat.le_of_ble_eq_true rfl) ?_
  delta mcc43
  refine aw_seq ?_
  refine aw_reg ?_
  refine rs_mv rfl rfl ?_
  refine rs_nil fun _ => ?_
  refine th_n ?_
  refine aw_seq ?_
  refine aw_seq ?_
  refine aw_reg ?_
  refine rs_mv rfl rfl ?_
  refine rs_nilc_p rfl rfl ?_
  refine rs_fa_p rfl rfl ?_
  refine rs_ld_p rfl rfl rfl rfl rfl ?_
  refine rs_nil fun _ => ?_
  refine th_n ?_
  refine aw_cond rfl (fun h8 => ?_) (fun h8 => ?_)
  · skip
    have q8 := bt h8
    refine aw_seq ?_
    refine aw_reg ?_
    refine rs_mv rfl rfl ?_
    refine rs_nil fun _ => ?_
    refine th_n ?_
    refine aw_weak (weak_ren_row (i := 901) (i' := 902) (k := 900) (F0 := [(4, _)]) rfl rfl (.cons rfl (.same _) (.nil)) (by decide) rfl (.cons (.sl _ _) (RenL.refl _ _ _))) ?_
    refine aw_ret ?_
    refine th_r ?_
    (simp only [q8, if_true, if_false, ↓reduceIte, reduceCtorEq, or_true, true_or, or_false, false_or, and_true, true_and, and_false, false_and, Prod.mk.injEq] at h
     obtain ⟨rfl, rfl⟩ := h
     exact ret_own rfl (rc_same rfl (.inl rfl)) (.keep (rfl) rfl (.keep (rfl) rfl (.keep (rfl) rfl (.nil)))) (.cons rfl rfl rfl (.dead rfl rfl .nil)))
  · skip
    have q8 := bf h8
    refine aw_skip ?_
    refine th_n ?_
    refine aw_seq ?_
    refine aw_reg ?_
    refine rs_mv rfl rfl ?_
    refine rs_mv rfl rfl ?_
    refine rs_mv rfl rfl ?_
    refine rs_nilc_p rfl rfl ?_
    refine rs_fa_p rfl rfl ?_
    refine rs_ld_p rfl rfl rfl rfl rfl ?_
    refine rs_nilc_p rfl rfl ?_
    refine rs_fa_p rfl rfl ?_
    refine rs_st rfl rfl rfl rfl rfl rfl rfl (Nat.le_of_ble_eq_true rfl) rfl rfl ?_
    refine rs_nilc_p rfl rfl ?_
    refine rs_fa_p rfl rfl ?_
    refine rs_st rfl rfl rfl rfl rfl rfl rfl (Nat.le_of_ble_eq_true rfl) rfl rfl ?_
    refine rs_nil fun _ => ?_
    refine th_n ?_
    refine aw_seq ?_
    refine aw_reg ?_
    refine rs_mv rfl rfl ?_
    refine rs_nil fun _ => ?_
    refine th_n ?_
    refine aw_weak (weak_ren_row (i := 901) (i' := 902) (k := 900) (F0 := [(4, _)]) rfl rfl (.cons rfl (.same _) (.nil)) (by decide) rfl (.cons (.sl _ _) (RenL.refl _ _ _))) ?_
    refine aw_ret ?_
    (simp only [q8, if_true, if_false, ↓reduceIte, reduceCtorEq, or_true, true_or, or_false, false_or, and_true, true_and, and_false, false_and, Prod.mk.injEq] at h
     obtain ⟨rfl, rfl⟩ := h
     exact ret_own rfl (rc_same rfl (.inl rfl)) (.keep (rfl) rfl (.keep (rfl) rfl (.keep (rfl) rfl (.nil)))) (.cons rfl rfl rfl (.dead rfl rfl .nil)))

def mcc44 : MC := (.seq (.reg [⟨(some 4), (.mv (.c (.int .i64 0))), none, []⟩] false) (.seq (.reg [⟨(some 5), (.mv (.t 0)), none, []⟩, ⟨(some 6), (.mv (.t 1)), none, []⟩, ⟨(some 7), (.nilc (.t 5)), none, [0, 0, 1]⟩, ⟨(some 8), (.fa 5 (.t 7)), none, [2, 0, 1]⟩, ⟨none, (.st 1 (.t 8) (.t 6)), none, [3, 1, 0, 1]⟩] false) (.seq (.reg [⟨(some 4), (.mv (.c (.int .i64 0))), none, []⟩] false) .ret)))
theorem mcOkc44 : (match Try.f44.body with | some c => compC Try.prog 9 c | none => none) = some mcc44 := by kernel_rfl

theorem gc44 (s : St) (n : Int) : FC Try.prog 44 [.ptr 900 0 0, iv n] (hC 900 901 s) (iv 0) (hC2 900 901 902 { s with feed := n }) true := by
  refine fc_run (nt := 9) Try.func44 rfl rfl mcOkc44 (Nat.le_of_ble_eq_true rfl) ?_
  delta mcc44
  refine aw_seq ?_
  refine aw_reg ?_
  refine rs_mv rfl rfl ?_
  refine rs_nil fun _ => ?_
  refine th_n ?_
  refine aw_seq ?_
  refine aw_reg ?_
  refine rs_mv rfl rfl ?_
  refine rs_mv rfl rfl ?_
  refine rs_nilc_p rfl rfl ?_
  refine rs_fa_p rfl rfl ?_
  refine rs_st rfl rfl rfl rfl rfl rfl rfl (Nat.le_of_ble_eq_true rfl) rfl rfl ?_
  refine rs_nil fun _ => ?_
  refine th_n ?_
  refine aw_seq ?_
  refine aw_reg ?_
  refine rs_mv rfl rfl ?_
  refine rs_nil fun _ => ?_
  refine th_n ?_
  refine aw_weak (weak_ren_row (i := 901) (i' := 902) (k := 900) (F0 := [(4, _)]) rfl rfl (.cons rfl (.same _) (.nil)) (by decide) rfl (.cons (.sl _ _) (RenL.refl _ _ _))) ?_
  refine aw_ret ?_
  exact ret_own rfl (rc_same rfl (.inl rfl)) (.keep (rfl) rfl (.keep (rfl) rfl (.keep (rfl) rfl (.nil)))) (.cons rfl rfl rfl (.dead rfl rfl .nil))

def mcc45 : MC := (.seq (.reg [⟨(some 4), (.mv (.c (.int .i64 0))), none, []⟩] false) (.seq (.reg [⟨(some 5), (.mv (.t 0)), none, []⟩, ⟨(some 6), (.nilc (.t 5)), none, [0, 0]⟩, ⟨(some 7), (.fa 12 (.t 6)), none, [1, 0]⟩, ⟨none, (.st 1 (.t 7) (.c (.bool true))), none, [2, 0]⟩] false) (.seq (.reg [⟨(some 4), (.mv (.c (.int .i64 0))), none, []⟩] false) .ret)))
theorem mcOkc45 : (match Try.f45.body with | some c => compC Try.prog 8 c | none => none) = some mcc45 := by kernel_rfl

theorem gc45 (s : St) (n : Int) : FC Try.prog 45 [.ptr 900 0 0, iv n] (hC 900 901 s) (iv 0) (hC2 900 901 902 { s with over := true }) true := by
  refine fc_run (nt := 8) Try.func45 rfl rfl mcOkc45 (Nat.le_of_ble_eq_true rfl) ?_
  delta mcc45
  refine aw_seq ?_
  refine aw_reg ?_
  refine rs_mv rfl rfl ?_
  refine rs_nil fun _ => ?_
  refine th_n ?_
  refine aw_seq ?_
  refine aw_reg ?_
  refine rs_mv rfl rfl ?_
  refine rs_nilc_p rfl rfl ?_
  refine rs_fa_p rfl rfl ?_
  refine rs_st rfl rfl rfl rfl rfl rfl rfl (Nat.le_of_ble_eq_true rfl) rfl rfl ?_
  refine rs_nil fun _ => ?_
  refine th_n ?_
  refine aw_seq ?_
  refine aw_reg ?_
  refine rs_mv rfl rfl ?_
  refine rs_nil fun _ => ?_
  refine th_n ?_
  refine aw_weak (weak_ren_row (i := 901) (i' := 902) (k := 900) (F0 := [(4, _)]) rfl rfl (.cons rfl (.same _) (.nil)) (by decide) rfl (.cons (.sl _ _) (RenL.refl _ _ _))) ?_
  refine aw_ret ?_
  exact ret_own rfl (rc_same rfl (.inl rfl)) (.keep (rfl) rfl (.keep (rfl) rfl (.keep (rfl) rfl (.nil)))) (.cons rfl rfl rfl (.dead rfl rfl .nil))

def mcc46 : MC := (.seq (.reg [⟨(some 4), (.mv (.c (.int .i64 0))), none, []⟩] false) (.seq (.reg [⟨(some 5), (.mv (.t 0)), none, []⟩, ⟨(some 6), (.mv (.t 0)), none, []⟩, ⟨(some 7), (.nilc (.t 6)), none, [1]⟩, ⟨(some 8), (.fa 11 (.t 7)), none, [2]⟩, ⟨(some 9), (.ld false 1 (.t 8)), none, [3]⟩, ⟨(some 10), (.mv (.t 9)), none, [4]⟩, ⟨(some 11), (.mv (.t 0)), (some (10, false)), [5]⟩, ⟨(some 12), (.nilc (.t 11)), (some (10, false)), [6, 5]⟩, ⟨(some 13), (.fa 9 (.t 12)), (some (10, false)), [7, 5]⟩, ⟨(some 14), (.ld false 1 (.t 13)), (some (10, false)), [8, 5]⟩, ⟨(some 15), (.pick (.t 10) (.c (.bool true)) (.t 14)), none, [5, 9]⟩, ⟨(some 16), (.nilc (.t 5)), none, [0, 0, 1, 2, 3, 4, 5, 6, 7, 8, 9, 10]⟩, ⟨(some 17), (.fa 11 (.t 16)), none, [11, 0, 1, 2, 3, 4, 5, 6, 7, 8, 9, 10]⟩, ⟨none, (.st 1 (.t 17) (.t 15)), none, [12, 10, 5, 0, 1, 2, 3, 4, 5, 6, 7, 8, 9, 10]⟩] false) (.seq (.reg [⟨(some 4), (.mv (.c (.int .i64 0))), none, []⟩] false) .ret)))
theorem mcOkc46 : (match Try.f46.body with | some c => compC Try.prog 18 c | none => none) = some mcc46 := by kernel_rfl

theorem gc46 (s : St) (n : Int) (b : Bool) (hb : (s.noticed || s.broken) = b) : FC Try.prog 46 [.ptr 900 0 0, iv n] (hC 900 901 s) (iv 0) (hC2 900 901 902 { s with noticed := b }) true := by
  refine fc_run (nt := 18) Try.func46 rfl rfl mcOkc46 (Nat.le_of_ble_eq_true rfl) ?_
  delta mcc46
  refine aw_seq ?_
  refine aw_reg ?_
  refine rs_mv rfl rfl ?_
  refine rs_nil fun _ => ?_
  refine th_n ?_
  refine aw_seq ?_
  refine aw_reg ?_
  refine rs_mv rfl rfl ?_
  refine rs_mv rfl rfl ?_
  refine rs_nilc_p rfl rfl ?_
  refine rs_fa_p rfl rfl ?_
  refine rs_ld_p rfl rfl rfl rfl rfl ?_
  cases h9 : s.noticed
  · skip
    refine rs_mv rfl rfl ?_
    refine rs_mv rfl rfl ?_
    refine rs_nilc_p rfl rfl ?_
    refine rs_fa_p rfl rfl ?_
    refine rs_ld_p rfl rfl rfl rfl rfl ?_
    refine rs_pick rfl rfl rfl ?_
    refine rs_nilc_p rfl rfl ?_
    refine rs_fa_p rfl rfl ?_
    refine rs_st rfl rfl rfl rfl rfl rfl rfl (Nat.le_of_ble_eq_true rfl) rfl rfl ?_
    refine rs_nil fun _ => ?_
    refine th_n ?_
    refine aw_seq ?_
    refine aw_reg ?_
    refine rs_mv rfl rfl ?_
    refine rs_nil fun _ => ?_
    refine th_n ?_
    refine aw_weak (weak_ren_row (i := 901) (i' := 902) (k := 900) (F0 := [(4, _)]) rfl rfl (.cons rfl (.same _) (.nil)) (by decide) rfl (.cons (.sl _ _) (RenL.refl _ _ _))) ?_
    refine aw_ret ?_
    (obtain rfl : s.broken = b := by rw [← hb, h9]; rfl
     exact ret_own rfl (rc_same rfl (.inl rfl)) (.keep (rfl) rfl (.keep (rfl) rfl (.keep (rfl) rfl (.nil)))) (.cons rfl rfl rfl (.dead rfl rfl .nil)))
  · skip
    refine rs_mv rfl rfl ?_
    refine rs_skip rfl ?_
    refine rs_skip rfl ?_
    refine rs_skip rfl ?_
    refine rs_skip rfl ?_
    refine rs_pick rfl rfl rfl ?_
    refine rs_nilc_p rfl rfl ?_
    refine rs_fa_p rfl rfl ?_
    refine rs_st rfl rfl rfl rfl rfl rfl rfl (Nat.le_of_ble_eq_true rfl) rfl rfl ?_
    refine rs_nil fun _ => ?_
    refine th_n ?_
    refine aw_seq ?_
    refine aw_reg ?_
    refine rs_mv rfl rfl ?_
    refine rs_nil fun _ => ?_
    refine th_n ?_
    refine aw_weak (weak_ren_row (i := 901) (i' := 902) (k := 900) (F0 := [(4, _)]) rfl rfl (.cons rfl (.same _) (.nil)) (by decide) rfl (.cons (.sl _ _) (RenL.refl _ _ _))) ?_
    refine aw_ret ?_
    (obtain rfl : b = true := by rw [← hb, h9]; rfl
     exact ret_own rfl (rc_same rfl (.inl rfl)) (.keep (rfl) rfl (.keep (rfl) rfl (.keep (rfl) rfl (.nil)))) (.cons rfl rfl rfl (.dead rfl rfl .nil)))

def mcc15 : MC := (.seq (.reg [⟨(some 3), (.box 39 2 (.t 1)), none, []⟩, ⟨(some 4), (.mv (.c (.int .i64 0))), none, []⟩] false) (.seq (.seq (.reg [⟨(some 7), (.mv (.t 0)), none, []⟩, ⟨(some 8), (.call 39 [(.t 7)]), none, [0]⟩] false) (.cond (.t 8) (.seq (.reg [⟨(some 4), (.mv (.c (.int .i64 1))), none, []⟩] false) .ret) .skip)) (.seq (.reg [⟨(some 10), .mkmap, none, []⟩, ⟨(some 11), (.mv (.t 0)), none, []⟩, ⟨(some 12), (.mkbnd 40 (.t 11)), none, [1]⟩, ⟨none, (.fins (.t 10) (.c (.int .i64 1)) (.t 12)), none, [0, 2]⟩, ⟨(some 13), (.mv (.t 0)), none, []⟩, ⟨(some 14), (.mkbnd 41 (.t 13)), none, [4]⟩, ⟨none, (.fins (.t 10) (.c (.int .i64 2)) (.t 14)), none, [0, 5]⟩, ⟨(some 15), (.mv (.t 0)), none, []⟩, ⟨(some 16), (.mkbnd 42 (.t 15)), none, [7]⟩, ⟨none, (.fins (.t 10) (.c (.int .i64 3)) (.t 16)), none, [0, 8]⟩, ⟨(some 17), (.mv (.t 0)), none, []⟩, ⟨(some 18), (.mkbnd 43 (.t 17)), none, [10]⟩, ⟨none, (.fins (.t 10) (.c (.int .i64 4)) (.t 18)), none, [0, 11]⟩, ⟨(some 19), (.mv (.t 0)), none, []⟩, ⟨(some 20), (.mkbnd 44 (.t 19)), none, [13]⟩, ⟨none, (.fins (.t 10) (.c (.int .i64 5)) (.t 20)), none, [0, 14]⟩, ⟨(some 21), (.mv (.t 0)), none, []⟩, ⟨(some 22), (.mkbnd 45 (.t 21)), none, [16]⟩, ⟨none, (.fins (.t 10) (.c (.int .i64 6)) (.t 22)), none, [0, 17]⟩, ⟨(some 23), (.mv (.t 0)), none, []⟩, ⟨(some 24), (.mkbnd 46 (.t 23)), none, [19]⟩, ⟨none, (.fins (.t 10) (.c (.int .i64 7)) (.t 24)), none, [0, 20]⟩, ⟨(some 25), (.mv (.t 10)), none, [0, 1, 2, 3, 4, 5, 6, 7, 8, 9, 10, 11, 12, 13, 14, 15, 16, 17, 18, 19, 20, 21]⟩, ⟨(some 26), (.fa 0 (.t 3)), none, []⟩, ⟨(some 27), (.ld false 1 (.t 26)), none, [23]⟩, ⟨(some 28), (.flk (.t 25) (.t 27)), none, [22, 24]⟩, ⟨(some 9), (.mv (.t 28)), none, [25]⟩, ⟨(some 29), (.ext (.t 9) 0), none, [26]⟩, ⟨(some 30), (.ext (.t 9) 1), none, [26]⟩, ⟨(some 5), (.mv (.t 29)), none, [27, 0, 1, 2, 3, 4, 5, 6, 7, 8, 9, 10, 11, 12, 13, 14, 15, 16, 17, 18, 19, 20, 21, 22, 23, 24, 25, 26, 27]⟩, ⟨(some 6), (.mv (.t 30)), none, [28, 29, 0, 1, 2, 3, 4, 5, 6, 7, 8, 9, 10, 11, 12, 13, 14, 15, 16, 17, 18, 19, 20, 21, 22, 23, 24, 25, 26, 27, 28, 29]⟩] false) (.seq (.block 0 (.seq (.reg [⟨(some 32), (.mv (.t 6)), none, []⟩, ⟨(some 33), (.un .not (.t 32)), none, [0]⟩, ⟨(some 31), (.mv (.t 33)), none, [1]⟩] false) (.cond (.t 31) (.seq (.reg [⟨(some 4), (.mv (.c (.int .i64 4))), none, []⟩] false) .ret) (.seq (.reg [⟨(some 35), (.fa 0 (.t 3)), none, []⟩, ⟨(some 36), (.ld false 1 (.t 35)), none, [0]⟩, ⟨(some 37), (.bin .eql (.t 36) (.c (.int .i64 5))), none, [1]⟩, ⟨(some 38), (.mv (.t 37)), none, [2]⟩, ⟨(some 39), (.fa 1 (.t 3)), (some (38, true)), [3]⟩, ⟨(some 40), (.ld false 1 (.t 39)), (some (38, true)), [4, 3]⟩, ⟨(some 41), (.bin .lss (.t 40) (.c (.int .i64 1))), (some (38, true)), [5, 3]⟩, ⟨(some 42), (.mv (.t 41)), (some (38, true)), [6, 3, 3]⟩, ⟨(some 43), (.fa 1 (.t 3)), (some (42, false)), [7]⟩, ⟨(some 44), (.ld false 1 (.t 43)), (some (42, false)), [8, 7]⟩, ⟨(some 45), (.bin .gtr (.t 44) (.c (.int .i64 100))), (some (42, false)), [9, 7]⟩, ⟨(some 46), (.pick (.t 42) (.c (.bool true)) (.t 45)), (some (38, true)), [7, 10, 3]⟩, ⟨(some 47), (.pick (.t 38) (.t 46) (.c (.bool false))), none, [3, 11]⟩, ⟨(some 34), (.mv (.t 47)), none, [12, 7]⟩] false) (.cond (.t 34) (.seq (.reg [⟨(some 4), (.mv (.c (.int .i64 3))), none, []⟩] false) .ret) (.seq (.reg [⟨(some 49), (.fa 0 (.t 3)), none, []⟩, ⟨(some 50), (.ld false 1 (.t 49)), none, [0]⟩, ⟨(some 51), (.bin .neq (.t 50) (.c (.int .i64 5))), none, [1]⟩, ⟨(some 52), (.mv (.t 51)), none, [2]⟩, ⟨(some 53), (.fa 1 (.t 3)), (some (52, true)), [3]⟩, ⟨(some 54), (.ld false 1 (.t 53)), (some (52, true)), [4, 3]⟩, ⟨(some 55), (.bin .neq (.t 54) (.c (.int .i64 0))), (some (52, true)), [5, 3]⟩, ⟨(some 56), (.pick (.t 52) (.t 55) (.c (.bool false))), none, [3, 6]⟩, ⟨(some 48), (.mv (.t 56)), none, [7, 3]⟩] false) (.cond (.t 48) (.seq (.reg [⟨(some 4), (.mv (.c (.int .i64 1))), none, []⟩] false) .ret) (.seq (.reg [⟨(some 58), (.mv (.t 0)), none, []⟩, ⟨(some 59), (.nilc (.t 58)), none, [0]⟩, ⟨(some 60), (.fa 13 (.t 59)), none, [1]⟩, ⟨(some 61), (.ld false 1 (.t 60)), none, [2]⟩, ⟨(some 62), (.mv (.t 61)), none, [3]⟩, ⟨(some 63), (.fa 0 (.t 3)), (some (62, true)), [4]⟩, ⟨(some 64), (.ld false 1 (.t 63)), (some (62, true)), [5, 4]⟩, ⟨(some 65), (.bin .neq (.t 64) (.c (.int .i64 3))), (some (62, true)), [6, 4]⟩, ⟨(some 66), (.pick (.t 62) (.t 65) (.c (.bool false))), none, [4, 7]⟩, ⟨(some 57), (.mv (.t 66)), none, [8, 4]⟩] false) (.cond (.t 57) (.seq (.reg [⟨(some 4), (.mv (.c (.int .i64 40))), none, []⟩] false) .ret) (.seq (.reg [⟨(some 68), (.mv (.t 0)), none, []⟩, ⟨(some 69), (.nilc (.t 68)), none, [0]⟩, ⟨(some 70), (.fa 13 (.t 69)), none, [1]⟩, ⟨(some 71), (.ld false 1 (.t 70)), none, [2]⟩, ⟨(some 72), (.un .not (.t 71)), none, [3]⟩, ⟨(some 73), (.mv (.t 72)), none, [4]⟩, ⟨(some 74), (.fa 0 (.t 3)), (some (73, true)), [5]⟩, ⟨(some 75), (.ld false 1 (.t 74)), (some (73, true)), [6, 5]⟩, ⟨(some 76), (.bin .eql (.t 75) (.c (.int .i64 3))), (some (73, true)), [7, 5]⟩, ⟨(some 77), (.pick (.t 73) (.t 76) (.c (.bool false))), none, [5, 8]⟩, ⟨(some 67), (.mv (.t 77)), none, [9, 5]⟩] false) (.cond (.t 67) (.seq (.reg [⟨(some 4), (.mv (.c (.int .i64 7))), none, []⟩] false) .ret) .skip))))))))))) (.seq (.reg [⟨(some 78), (.mv (.t 5)), none, []⟩, ⟨(some 79), (.fa 1 (.t 3)), none, []⟩, ⟨(some 80), (.ld false 1 (.t 79)), none, [1]⟩, ⟨(some 81), (.callv (.t 78) [(.t 80)]), none, [0, 2]⟩, ⟨(some 4), (.mv (.t 81)), none, [3, 3, 0, 1, 2, 3]⟩] false) .ret)))))
theorem mcOkc15 : (match Try.f15.body with | some c => compC Try.prog 82 c | none => none) = some mcc15 := by kernel_rfl

theorem gc15h (f : Nat) (s s' : St) (k n e : Int) (hs : Sm s) (hk : 1 ≤ k ∧ k ≤ 7) (hlk : lkF KV k = .tup [.bnd (.func f) (.ptr 900 0 0), .bool true]) (hent : entered Try.prog f = true) (hf : chkS s k n = 0 → FC Try.prog f [.ptr 900 0 0, iv n] (hC 900 901 s) (iv e) (hC2 900 901 902 s') true) (hd : doS s k n = (e, s')) : FC Try.prog 15 [.ptr 900 0 0, .agg [iv k, iv n]] (hC 900 901 s) (iv e) (hC2 900 901 902 s') true := by
  have hs0 := hs
  obtain ⟨hl, ha, hev, hfe, hra, hsi, hma, hbr⟩ := hs
  refine fc_run (nt := 82) Try.func15 rfl rfl mcOkc15 (Nat.le_of_ble_eq_true rfl) ?_
  delta mcc15
  refine aw_seq ?_
  refine aw_reg ?_
  refine rs_box rfl rfl rfl rfl rfl rfl ?_
  refine rs_mv rfl rfl ?_
  refine rs_nil fun _ => ?_
  refine th_n ?_
  refine aw_seq ?_
  refine aw_seq ?_
  refine aw_reg ?_
  refine rs_mv rfl rfl ?_
  refine rs_calln [900, 901] rfl rfl (gc39 s (by omega)) (.cons (hv_obj (by simp) rfl (.sl (by simp) rfl (by simp) (.int (.bool (.int (.int (.int (.int (.int (.int (.bool (.int (.bool (.bool (.bool (.bool .nil)))))))))))))))) (.nil)) rfl ?_
  refine rs_nil fun _ => ?_
  refine th_n ?_
  refine aw_cond rfl (fun h => by cases h) (fun _ => ?_)
  refine aw_skip ?_
  refine th_n ?_
  refine aw_seq ?_
  refine aw_reg ?_
  refine rs_mkmap rfl rfl ?_
  refine rs_mv rfl rfl ?_
  refine rs_mkbnd rfl rfl ?_
  refine rs_fins0 rfl rfl rfl rfl rfl ?_
  refine rs_mv rfl rfl ?_
  refine rs_mkbnd rfl rfl ?_
  refine rs_fins rfl rfl rfl rfl rfl rfl ?_
  refine rs_mv rfl rfl ?_
  refine rs_mkbnd rfl rfl ?_
  refine rs_fins rfl rfl rfl rfl rfl rfl ?_
  refine rs_mv rfl rfl ?_
  refine rs_mkbnd rfl rfl ?_
  refine rs_fins rfl rfl rfl rfl rfl rfl ?_
  refine rs_mv rfl rfl ?_
  refine rs_mkbnd rfl rfl ?_
  refine rs_fins rfl rfl rfl rfl rfl rfl ?_
  refine rs_mv rfl rfl ?_
  refine rs_mkbnd rfl rfl ?_
  refine rs_fins rfl rfl rfl rfl rfl rfl ?_
  refine rs_mv rfl rfl ?_
  refine rs_mkbnd rfl rfl ?_
  refine rs_fins rfl rfl rfl rfl rfl rfl ?_
  refine rs_mv rfl rfl ?_
  refine rs_fa_p rfl rfl ?_
  refine rs_ld_p rfl rfl rfl rfl rfl ?_
  refine rs_flk rfl rfl rfl rfl rfl hlk ?_
  refine rs_mv rfl rfl ?_
  refine rs_ext rfl rfl rfl ?_
  refine rs_ext rfl rfl rfl ?_
  refine rs_mv rfl rfl ?_
  refine rs_mv rfl rfl ?_
  refine rs_nil fun _ => ?_
  refine th_n ?_
  refine aw_seq ?_
  refine aw_block ?_
  refine aw_seq ?_
  refine aw_reg ?_
  refine rs_mv rfl rfl ?_
  refine rs_not rfl rfl ?_
  refine rs_mv rfl rfl ?_
  refine rs_nil fun _ => ?_
  refine th_n ?_
  refine aw_cond rfl (fun h => by cases h) (fun _ => ?_)
  refine aw_seq ?_
  refine aw_reg ?_
  refine rs_fa_p rfl rfl ?_
  refine rs_ld_p rfl rfl rfl rfl rfl ?_
  refine rs_cmp rfl rfl rfl rfl (fun h37 => ?_) (fun h37 => ?_)
  · skip
    refine rs_mv rfl rfl ?_
    refine rs_fa_p rfl rfl ?_
    refine rs_ld_p rfl rfl rfl rfl rfl ?_
    refine rs_cmp rfl rfl rfl rfl (fun h41 => ?_) (fun h41 => ?_)
    · skip
      refine rs_mv rfl rfl ?_
      refine rs_skip rfl ?_
      refine rs_skip rfl ?_
      refine rs_skip rfl ?_
      refine rs_pick rfl rfl rfl ?_
      refine rs_pick rfl rfl rfl ?_
      refine rs_mv rfl rfl ?_
      refine rs_nil fun _ => ?_
      refine th_n ?_
      refine aw_cond rfl (fun _ => ?_) (fun h => by cases h)
      refine aw_seq ?_
      refine aw_reg ?_
      refine rs_mv rfl rfl ?_
      refine rs_nil fun _ => ?_
      refine th_n ?_
      refine aw_weak (weak_ren_row (i := 901) (i' := 902) (k := 900) (F0 := [(4, _)]) rfl rfl (.cons rfl (.same _) (.nil)) (by decide) rfl (.cons (.sl _ _) (RenL.refl _ _ _))) ?_
      refine aw_ret ?_
      refine in_r ?_
      refine th_r ?_
      (have hx := doS_err (c := 3) hd (chk_3 (by omega) (by omega)) (by decide)
       obtain ⟨rfl, rfl⟩ := hx
       exact ret_own rfl (rc_same rfl (.inl rfl)) (.keep (rfl) rfl (.keep (rfl) rfl (.keep (rfl) rfl (.nil)))) (.cons rfl rfl rfl (.dead rfl rfl .nil)))
    · skip
      refine rs_mv rfl rfl ?_
      refine rs_fa_p rfl rfl ?_
      refine rs_ld_p rfl rfl rfl rfl rfl ?_
      refine rs_cmp rfl rfl rfl rfl (fun h45 => ?_) (fun h45 => ?_)
      · skip
        refine rs_pick rfl rfl rfl ?_
        refine rs_pick rfl rfl rfl ?_
        refine rs_mv rfl rfl ?_
        refine rs_nil fun _ => ?_
        refine th_n ?_
        refine aw_cond rfl (fun _ => ?_) (fun h => by cases h)
        refine aw_seq ?_
        refine aw_reg ?_
        refine rs_mv rfl rfl ?_
        refine rs_nil fun _ => ?_
        refine th_n ?_
        refine aw_weak (weak_ren_row (i := 901) (i' := 902) (k := 900) (F0 := [(4, _)]) rfl rfl (.cons rfl (.same _) (.nil)) (by decide) rfl (.cons (.sl _ _) (RenL.refl _ _ _))) ?_
        refine aw_ret ?_
        refine in_r ?_
        refine th_r ?_
        (have hx := doS_err (c := 3) hd (chk_3 (by omega) (by omega)) (by decide)
         obtain ⟨rfl, rfl⟩ := hx
         exact ret_own rfl (rc_same rfl (.inl rfl)) (.keep (rfl) rfl (.keep (rfl) rfl (.keep (rfl) rfl (.nil)))) (.cons rfl rfl rfl (.dead rfl rfl .nil)))
      · skip
        refine rs_pick rfl rfl rfl ?_
        refine rs_pick rfl rfl rfl ?_
        refine rs_mv rfl rfl ?_
        refine rs_nil fun _ => ?_
        refine th_n ?_
        refine aw_cond rfl (fun h => by cases h) (fun _ => ?_)
        refine aw_seq ?_
        refine aw_reg ?_
        refine rs_fa_p rfl rfl ?_
        refine rs_ld_p rfl rfl rfl rfl rfl ?_
        refine rs_cmp rfl rfl rfl rfl (fun h51 => ?_) (fun h51 => ?_)
        · skip
          refine rs_mv rfl rfl ?_
          refine rs_fa_p rfl rfl ?_
          refine rs_ld_p rfl rfl rfl rfl rfl ?_
          refine rs_cmp rfl rfl rfl rfl (fun h55 => ?_) (fun h55 => ?_)
          · skip
            refine rs_pick rfl rfl rfl ?_
            refine rs_mv rfl rfl ?_
            refine rs_nil fun _ => ?_
            refine th_n ?_
            refine aw_cond rfl (fun _ => ?_) (fun h => by cases h)
            refine aw_seq ?_
            refine aw_reg ?_
            refine rs_mv rfl rfl ?_
            refine rs_nil fun _ => ?_
            refine th_n ?_
            refine aw_weak (weak_ren_row (i := 901) (i' := 902) (k := 900) (F0 := [(4, _)]) rfl rfl (.cons rfl (.same _) (.nil)) (by decide) rfl (.cons (.sl _ _) (RenL.refl _ _ _))) ?_
            refine aw_ret ?_
            refine in_r ?_
            refine th_r ?_
            (have hx := doS_err (c := 1) hd (chk_1 hk (by omega) (by omega)) (by decide)
             obtain ⟨rfl, rfl⟩ := hx
             exact ret_own rfl (rc_same rfl (.inl rfl)) (.keep (rfl) rfl (.keep (rfl) rfl (.keep (rfl) rfl (.nil)))) (.cons rfl rfl rfl (.dead rfl rfl .nil)))
          · skip
            refine rs_pick rfl rfl rfl ?_
            refine rs_mv rfl rfl ?_
            refine rs_nil fun _ => ?_
            refine th_n ?_
            refine aw_cond rfl (fun h => by cases h) (fun _ => ?_)
            refine aw_seq ?_
            refine aw_reg ?_
            refine rs_mv rfl rfl ?_
            refine rs_nilc_p rfl rfl ?_
            refine rs_fa_p rfl rfl ?_
            refine rs_ld_p rfl rfl rfl rfl rfl ?_
            cases h61 : s.dark
            · skip
              refine rs_mv rfl rfl ?_
              refine rs_skip rfl ?_
              refine rs_skip rfl ?_
              refine rs_skip rfl ?_
              refine rs_pick rfl rfl rfl ?_
              refine rs_mv rfl rfl ?_
              refine rs_nil fun _ => ?_
              refine th_n ?_
              refine aw_cond rfl (fun h => by cases h) (fun _ => ?_)
              refine aw_seq ?_
              refine aw_reg ?_
              refine rs_mv rfl rfl ?_
              refine rs_nilc_p rfl rfl ?_
              refine rs_fa_p rfl rfl ?_
              refine rs_ld_p (v := .bool false) rfl rfl rfl rfl (congrArg (fun b => some (AV.bool b)) h61) ?_
              refine rs_not rfl rfl ?_
              refine rs_mv rfl rfl ?_
              refine rs_fa_p rfl rfl ?_
              refine rs_ld_p rfl rfl rfl rfl rfl ?_
              refine rs_cmp rfl rfl rfl rfl (fun h76 => ?_) (fun h76 => ?_)
              · skip
                refine rs_pick rfl rfl rfl ?_
                refine rs_mv rfl rfl ?_
                refine rs_nil fun _ => ?_
                refine th_n ?_
                refine aw_cond rfl (fun _ => ?_) (fun h => by cases h)
                refine aw_seq ?_
                refine aw_reg ?_
                refine rs_mv rfl rfl ?_
                refine rs_nil fun _ => ?_
                refine th_n ?_
                refine aw_weak (weak_ren_row (i := 901) (i' := 902) (k := 900) (F0 := [(4, _)]) rfl rfl (.cons rfl (.same _) (.nil)) (by decide) rfl (.cons (.sl _ _) (RenL.refl _ _ _))) ?_
                refine aw_ret ?_
                refine in_r ?_
                refine th_r ?_
                (have hx := doS_err (c := 7) hd (chk_7 hk (fun _ => by omega) (fun _ => by omega) h61 (by omega)) (by decide)
                 obtain ⟨rfl, rfl⟩ := hx
                 exact ret_own rfl (rc_same rfl (.inl rfl)) (.keep (rfl) rfl (.keep (rfl) rfl (.keep (rfl) rfl (.nil)))) (.cons rfl rfl rfl (.dead rfl rfl .nil)))
              · skip
                refine rs_pick rfl rfl rfl ?_
                refine rs_mv rfl rfl ?_
                refine rs_nil fun _ => ?_
                refine th_n ?_
                refine aw_cond rfl (fun h => by cases h) (fun _ => ?_)
                refine aw_skip ?_
                refine in_n ?_
                refine th_n ?_
                refine aw_seq ?_
                refine aw_reg ?_
                refine rs_mv rfl rfl ?_
                refine rs_fa_p rfl rfl ?_
                refine rs_ld_p rfl rfl rfl rfl rfl ?_
                refine rs_callb (hC 900 901 s) rfl rfl hent rfl (hf (chk_0 hk (fun _ => by omega) (fun _ => by omega) (fun h => by first | omega | (rw [h61] at h; cases h)) (fun h => by first | omega | (rw [h61] at h; cases h)))) (.cons (hv_same rfl) (.cons (hv_same rfl) (.nil))) (.cons rfl (.cons rfl .nil)) rfl rfl rfl ?_
                refine rs_mv rfl rfl ?_
                refine rs_nil fun _ => ?_
                refine th_n ?_
                refine aw_ret ?_
                exact ret_own rfl (rc_same rfl (.inl rfl)) (.keep (rfl) rfl (.keep (rfl) rfl (.keep (rfl) rfl (.nil)))) (.cons rfl rfl rfl (.dead rfl rfl .nil))
            · skip
              refine rs_mv rfl rfl ?_
              refine rs_fa_p rfl rfl ?_
              refine rs_ld_p rfl rfl rfl rfl rfl ?_
              refine rs_cmp rfl rfl rfl rfl (fun h65 => ?_) (fun h65 => ?_)
              · skip
                refine rs_pick rfl rfl rfl ?_
                refine rs_mv rfl rfl ?_
                refine rs_nil fun _ => ?_
                refine th_n ?_
                refine aw_cond rfl (fun _ => ?_) (fun h => by cases h)
                refine aw_seq ?_
                refine aw_reg ?_
                refine rs_mv rfl rfl ?_
                refine rs_nil fun _ => ?_
                refine th_n ?_
                refine aw_weak (weak_ren_row (i := 901) (i' := 902) (k := 900) (F0 := [(4, _)]) rfl rfl (.cons rfl (.same _) (.nil)) (by decide) rfl (.cons (.sl _ _) (RenL.refl _ _ _))) ?_
                refine aw_ret ?_
                refine in_r ?_
                refine th_r ?_
                (have hx := doS_err (c := 40) hd (chk_40 hk (fun _ => by omega) (fun _ => by omega) h61 (by omega)) (by decide)
                 obtain ⟨rfl, rfl⟩ := hx
                 exact ret_own rfl (rc_same rfl (.inl rfl)) (.keep (rfl) rfl (.keep (rfl) rfl (.keep (rfl) rfl (.nil)))) (.cons rfl rfl rfl (.dead rfl rfl .nil)))
              · skip
                refine rs_pick rfl rfl rfl ?_
                refine rs_mv rfl rfl ?_
                refine rs_nil fun _ => ?_
                refine th_n ?_
                refine aw_cond rfl (fun h => by cases h) (fun _ => ?_)
                refine aw_seq ?_
                refine aw_reg ?_
                refine rs_mv rfl rfl ?_
                refine rs_nilc_p rfl rfl ?_
                refine rs_fa_p rfl rfl ?_
                refine rs_ld_p (v := .bool true) rfl rfl rfl rfl (congrArg (fun b => some (AV.bool b)) h61) ?_
                refine rs_not rfl rfl ?_
                refine rs_mv rfl rfl ?_
                refine rs_skip rfl ?_
                refine rs_skip rfl ?_
                refine rs_skip rfl ?_
                refine rs_pick rfl rfl rfl ?_
                refine rs_mv rfl rfl ?_
                refine rs_nil fun _ => ?_
                refine th_n ?_
                refine aw_cond rfl (fun h => by cases h) (fun _ => ?_)
                refine aw_skip ?_
                refine in_n ?_
                refine th_n ?_
                refine aw_seq ?_
                refine aw_reg ?_
                refine rs_mv rfl rfl ?_
                refine rs_fa_p rfl rfl ?_
                refine rs_ld_p rfl rfl rfl rfl rfl ?_
                refine rs_callb (hC 900 901 s) rfl rfl hent rfl (hf (chk_0 hk (fun _ => by omega) (fun _ => by omega) (fun h => by first | omega | (rw [h61] at h; cases h)) (fun h => by first | omega | (rw [h61] at h; cases h)))) (.cons (hv_same rfl) (.cons (hv_same rfl) (.nil))) (.cons rfl (.cons rfl .nil)) rfl rfl rfl ?_
                refine rs_mv rfl rfl ?_
                refine rs_nil fun _ => ?_
                refine th_n ?_
                refine aw_ret ?_
                exact ret_own rfl (rc_same rfl (.inl rfl)) (.keep (rfl) rfl (.keep (rfl) rfl (.keep (rfl) rfl (.nil)))) (.cons rfl rfl rfl (.dead rfl rfl .nil))
        · skip
          refine rs_mv rfl rfl ?_
          refine rs_skip rfl ?_
          refine rs_skip rfl ?_
          refine rs_skip rfl ?_
          refine rs_pick rfl rfl rfl ?_
          refine rs_mv rfl rfl ?_
          refine rs_nil fun _ => ?_
          refine th_n ?_
          refine aw_cond rfl (fun h => by cases h) (fun _ => ?_)
          refine aw_seq ?_
          refine aw_reg ?_
          refine rs_mv rfl rfl ?_
          refine rs_nilc_p rfl rfl ?_
          refine rs_fa_p rfl rfl ?_
          refine rs_ld_p rfl rfl rfl rfl rfl ?_
          cases h61 : s.dark
          · skip
            refine rs_mv rfl rfl ?_
            refine rs_skip rfl ?_
            refine rs_skip rfl ?_
            refine rs_skip rfl ?_
            refine rs_pick rfl rfl rfl ?_
            refine rs_mv rfl rfl ?_
            refine rs_nil fun _ => ?_
            refine th_n ?_
            refine aw_cond rfl (fun h => by cases h) (fun _ => ?_)
            refine aw_seq ?_
            refine aw_reg ?_
            refine rs_mv rfl rfl ?_
            refine rs_nilc_p rfl rfl ?_
            refine rs_fa_p rfl rfl ?_
            refine rs_ld_p (v := .bool false) rfl rfl rfl rfl (congrArg (fun b => some (AV.bool b)) h61) ?_
            refine rs_not rfl rfl ?_
            refine rs_mv rfl rfl ?_
            refine rs_fa_p rfl rfl ?_
            refine rs_ld_p rfl rfl rfl rfl rfl ?_
            refine rs_cmp rfl rfl rfl rfl (fun h76 => ?_) (fun h76 => ?_)
            · skip
              refine rs_pick rfl rfl rfl ?_
              refine rs_mv rfl rfl ?_
              refine rs_nil fun _ => ?_
              refine th_n ?_
              refine aw_cond rfl (fun _ => ?_) (fun h => by cases h)
              refine aw_seq ?_
              refine aw_reg ?_
              refine rs_mv rfl rfl ?_
              refine rs_nil fun _ => ?_
              refine th_n ?_
              refine aw_weak (weak_ren_row (i := 901) (i' := 902) (k := 900) (F0 := [(4, _)]) rfl rfl (.cons rfl (.same _) (.nil)) (by decide) rfl (.cons (.sl _ _) (RenL.refl _ _ _))) ?_
              refine aw_ret ?_
              refine in_r ?_
              refine th_r ?_
              (have hx := doS_err (c := 7) hd (chk_7 hk (fun _ => by omega) (fun _ => by omega) h61 (by omega)) (by decide)
               obtain ⟨rfl, rfl⟩ := hx
               exact ret_own rfl (rc_same rfl (.inl rfl)) (.keep (rfl) rfl (.keep (rfl) rfl (.keep (rfl) rfl (.nil)))) (.cons rfl rfl rfl (.dead rfl rfl .nil)))
            · skip
              refine rs_pick rfl rfl rfl ?_
              refine rs_mv rfl rfl ?_
              refine rs_nil fun _ => ?_
              refine th_n ?_
              refine aw_cond rfl (fun h => by cases h) (fun _ => ?_)
              refine aw_skip ?_
              refine in_n ?_
              refine th_n ?_
              refine aw_seq ?_
              refine aw_reg ?_
              refine rs_mv rfl rfl ?_
              refine rs_fa_p rfl rfl ?_
              refine rs_ld_p rfl rfl rfl rfl rfl ?_
              refine rs_callb (hC 900 901 s) rfl rfl hent rfl (hf (chk_0 hk (fun _ => by omega) (fun _ => by omega) (fun h => by first | omega | (rw [h61] at h; cases h)) (fun h => by first | omega | (rw [h61] at h; cases h)))) (.cons (hv_same rfl) (.cons (hv_same rfl) (.nil))) (.cons rfl (.cons rfl .nil)) rfl rfl rfl ?_
              refine rs_mv rfl rfl ?_
              refine rs_nil fun _ => ?_
              refine th_n ?_
              refine aw_ret ?_
              exact ret_own rfl (rc_same rfl (.inl rfl)) (.keep (rfl) rfl (.keep (rfl) rfl (.keep (rfl) rfl (.nil)))) (.cons rfl rfl rfl (.dead rfl rfl .nil))
          · skip
            refine rs_mv rfl rfl ?_
            refine rs_fa_p rfl rfl ?_
            refine rs_ld_p rfl rfl rfl rfl rfl ?_
            refine rs_cmp rfl rfl rfl rfl (fun h65 => ?_) (fun h65 => ?_)
            · skip
              refine rs_pick rfl rfl rfl ?_
              refine rs_mv rfl rfl ?_
              refine rs_nil fun _ => ?_
              refine th_n ?_
              refine aw_cond rfl (fun _ => ?_) (fun h => by cases h)
              refine aw_seq ?_
              refine aw_reg ?_
              refine rs_mv rfl rfl ?_
              refine rs_nil fun _ => ?_
              refine th_n ?_
              refine aw_weak (weak_ren_row (i := 901) (i' := 902) (k := 900) (F0 := [(4, _)]) rfl rfl (.cons rfl (.same _) (.nil)) (by decide) rfl (.cons (.sl _ _) (RenL.refl _ _ _))) ?_
              refine aw_ret ?_
              refine in_r ?_
              refine th_r ?_
              (have hx := doS_err (c := 40) hd (chk_40 hk (fun _ => by omega) (fun _ => by omega) h61 (by omega)) (by decide)
               obtain ⟨rfl, rfl⟩ := hx
               exact ret_own rfl (rc_same rfl (.inl rfl)) (.keep (rfl) rfl (.keep (rfl) rfl (.keep (rfl) rfl (.nil)))) (.cons rfl rfl rfl (.dead rfl rfl .nil)))
            · skip
              refine rs_pick rfl rfl rfl ?_
              refine rs_mv rfl rfl ?_
              refine rs_nil fun _ => ?_
              refine th_n ?_
              refine aw_cond rfl (fun h => by cases h) (fun _ => ?_)
              refine aw_seq ?_
              refine aw_reg ?_
              refine rs_mv rfl rfl ?_
              refine rs_nilc_p rfl rfl ?_
              refine rs_fa_p rfl rfl ?_
              refine rs_ld_p (v := .bool true) rfl rfl rfl rfl (congrArg (fun b => some (AV.bool b)) h61) ?_
              refine rs_not rfl rfl ?_
              refine rs_mv rfl rfl ?_
              refine rs_skip rfl ?_
              refine rs_skip rfl ?_
              refine rs_skip rfl ?_
              refine rs_pick rfl rfl rfl ?_
              refine rs_mv rfl rfl ?_
              refine rs_nil fun _ => ?_
              refine th_n ?_
              refine aw_cond rfl (fun h => by cases h) (fun _ => ?_)
              refine aw_skip ?_
              refine in_n ?_
              refine th_n ?_
              refine aw_seq ?_
              refine aw_reg ?_
              refine rs_mv rfl rfl ?_
              refine rs_fa_p rfl rfl ?_
              refine rs_ld_p rfl rfl rfl rfl rfl ?_
              refine rs_callb (hC 900 901 s) rfl rfl hent rfl (hf (chk_0 hk (fun _ => by omega) (fun _ => by omega) (fun h => by first | omega | (rw [h61] at h; cases h)) (fun h => by first | omega | (rw [h61] at h; cases h)))) (.cons (hv_same rfl) (.cons (hv_same rfl) (.nil))) (.cons rfl (.cons rfl .nil)) rfl rfl rfl ?_
              refine rs_mv rfl rfl ?_
              refine rs_nil fun _ => ?_
              refine th_n ?_
              refine aw_ret ?_
              exact ret_own rfl (rc_same rfl (.inl rfl)) (.keep (rfl) rfl (.keep (rfl) rfl (.keep (rfl) rfl (.nil)))) (.cons rfl rfl rfl (.dead rfl rfl .nil))
  · skip
    refine rs_mv rfl rfl ?_
    refine rs_skip rfl ?_
    refine rs_skip rfl ?_
    refine rs_skip rfl ?_
    refine rs_skip rfl ?_
    refine rs_skip rfl ?_
    refine rs_skip rfl ?_
    refine rs_skip rfl ?_
    refine rs_skip rfl ?_
    refine rs_pick rfl rfl rfl ?_
    refine rs_mv rfl rfl ?_
    refine rs_nil fun _ => ?_
    refine th_n ?_
    refine aw_cond rfl (fun h => by cases h) (fun _ => ?_)
    refine aw_seq ?_
    refine aw_reg ?_
    refine rs_fa_p rfl rfl ?_
    refine rs_ld_p rfl rfl rfl rfl rfl ?_
    refine rs_cmp rfl rfl rfl rfl (fun h51 => ?_) (fun h51 => ?_)
    · skip
      refine rs_mv rfl rfl ?_
      refine rs_fa_p rfl rfl ?_
      refine rs_ld_p rfl rfl rfl rfl rfl ?_
      refine rs_cmp rfl rfl rfl rfl (fun h55 => ?_) (fun h55 => ?_)
      · skip
        refine rs_pick rfl rfl rfl ?_
        refine rs_mv rfl rfl ?_
        refine rs_nil fun _ => ?_
        refine th_n ?_
        refine aw_cond rfl (fun _ => ?_) (fun h => by cases h)
        refine aw_seq ?_
        refine aw_reg ?_
        refine rs_mv rfl rfl ?_
        refine rs_nil fun _ => ?_
        refine th_n ?_
        refine aw_weak (weak_ren_row (i := 901) (i' := 902) (k := 900) (F0 := [(4, _)]) rfl rfl (.cons rfl (.same _) (.nil)) (by decide) rfl (.cons (.sl _ _) (RenL.refl _ _ _))) ?_
        refine aw_ret ?_
        refine in_r ?_
        refine th_r ?_
        (have hx := doS_err (c := 1) hd (chk_1 hk (by omega) (by omega)) (by decide)
         obtain ⟨rfl, rfl⟩ := hx
         exact ret_own rfl (rc_same rfl (.inl rfl)) (.keep (rfl) rfl (.keep (rfl) rfl (.keep (rfl) rfl (.nil)))) (.cons rfl rfl rfl (.dead rfl rfl .nil)))
      · skip
        refine rs_pick rfl rfl rfl ?_
        refine rs_mv rfl rfl ?_
        refine rs_nil fun _ => ?_
        refine th_n ?_
        refine aw_cond rfl (fun h => by cases h) (fun _ => ?_)
        refine aw_seq ?_
        refine aw_reg ?_
        refine rs_mv rfl rfl ?_
        refine rs_nilc_p rfl rfl ?_
        refine rs_fa_p rfl rfl ?_
        refine rs_ld_p rfl rfl rfl rfl rfl ?_
        cases h61 : s.dark
        · skip
          refine rs_mv rfl rfl ?_
          refine rs_skip rfl ?_
          refine rs_skip rfl ?_
          refine rs_skip rfl ?_
          refine rs_pick rfl rfl rfl ?_
          refine rs_mv rfl rfl ?_
          refine rs_nil fun _ => ?_
          refine th_n ?_
          refine aw_cond rfl (fun h => by cases h) (fun _ => ?_)
          refine aw_seq ?_
          refine aw_reg ?_
          refine rs_mv rfl rfl ?_
          refine rs_nilc_p rfl rfl ?_
          refine rs_fa_p rfl rfl ?_
          refine rs_ld_p (v := .bool false) rfl rfl rfl rfl (congrArg (fun b => some (AV.bool b)) h61) ?_
          refine rs_not rfl rfl ?_
          refine rs_mv rfl rfl ?_
          refine rs_fa_p rfl rfl ?_
          refine rs_ld_p rfl rfl rfl rfl rfl ?_
          refine rs_cmp rfl rfl rfl rfl (fun h76 => ?_) (fun h76 => ?_)
          · skip
            refine rs_pick rfl rfl rfl ?_
            refine rs_mv rfl rfl ?_
            refine rs_nil fun _ => ?_
            refine th_n ?_
            refine aw_cond rfl (fun _ => ?_) (fun h => by cases h)
            refine aw_seq ?_
            refine aw_reg ?_
            refine rs_mv rfl rfl ?_
            refine rs_nil fun _ => ?_
            refine th_n ?_
            refine aw_weak (weak_ren_row (i := 901) (i' := 902) (k := 900) (F0 := [(4, _)]) rfl rfl (.cons rfl (.same _) (.nil)) (by decide) rfl (.cons (.sl _ _) (RenL.refl _ _ _))) ?_
            refine aw_ret ?_
            refine in_r ?_
            refine th_r ?_
            (have hx := doS_err (c := 7) hd (chk_7 hk (fun _ => by omega) (fun _ => by omega) h61 (by omega)) (by decide)
             obtain ⟨rfl, rfl⟩ := hx
             exact ret_own rfl (rc_same rfl (.inl rfl)) (.keep (rfl) rfl (.keep (rfl) rfl (.keep (rfl) rfl (.nil)))) (.cons rfl rfl rfl (.dead rfl rfl .nil)))
          · skip
            refine rs_pick rfl rfl rfl ?_
            refine rs_mv rfl rfl ?_
            refine rs_nil fun _ => ?_
            refine th_n ?_
            refine aw_cond rfl (fun h => by cases h) (fun _ => ?_)
            refine aw_skip ?_
            refine in_n ?_
            refine th_n ?_
            refine aw_seq ?_
            refine aw_reg ?_
            refine rs_mv rfl rfl ?_
            refine rs_fa_p rfl rfl ?_
            refine rs_ld_p rfl rfl rfl rfl rfl ?_
            refine rs_callb (hC 900 901 s) rfl rfl hent rfl (hf (chk_0 hk (fun _ => by omega) (fun _ => by omega) (fun h => by first | omega | (rw [h61] at h; cases h)) (fun h => by first | omega | (rw [h61] at h; cases h)))) (.cons (hv_same rfl) (.cons (hv_same rfl) (.nil))) (.cons rfl (.cons rfl .nil)) rfl rfl rfl ?_
            refine rs_mv rfl rfl ?_
            refine rs_nil fun _ => ?_
            refine th_n ?_
            refine aw_ret ?_
            exact ret_own rfl (rc_same rfl (.inl rfl)) (.keep (rfl) rfl (.keep (rfl) rfl (.keep (rfl) rfl (.nil)))) (.cons rfl rfl rfl (.dead rfl rfl .nil))
        · skip
          refine rs_mv rfl rfl ?_
          refine rs_fa_p rfl rfl ?_
          refine rs_ld_p rfl rfl rfl rfl rfl ?_
          refine rs_cmp rfl rfl rfl rfl (fun h65 => ?_) (fun h65 => ?_)
          · skip
            refine rs_pick rfl rfl rfl ?_
            refine rs_mv rfl rfl ?_
            refine rs_nil fun _ => ?_
            refine th_n ?_
            refine aw_cond rfl (fun _ => ?_) (fun h => by cases h)
            refine aw_seq ?_
            refine aw_reg ?_
            refine rs_mv rfl rfl ?_
            refine rs_nil fun _ => ?_
            refine th_n ?_
            refine aw_weak (weak_ren_row (i := 901) (i' := 902) (k := 900) (F0 := [(4, _)]) rfl rfl (.cons rfl (.same _) (.nil)) (by decide) rfl (.cons (.sl _ _) (RenL.refl _ _ _))) ?_
            refine aw_ret ?_
            refine in_r ?_
            refine th_r ?_
            (have hx := doS_err (c := 40) hd (chk_40 hk (fun _ => by omega) (fun _ => by omega) h61 (by omega)) (by decide)
             obtain ⟨rfl, rfl⟩ := hx
             exact ret_own rfl (rc_same rfl (.inl rfl)) (.keep (rfl) rfl (.keep (rfl) rfl (.keep (rfl) rfl (.nil)))) (.cons rfl rfl rfl (.dead rfl rfl .nil)))
          · skip
            refine rs_pick rfl rfl rfl ?_
            refine rs_mv rfl rfl ?_
            refine rs_nil fun _ => ?_
            refine th_n ?_
            refine aw_cond rfl (fun h => by cases h) (fun _ => ?_)
            refine aw_seq ?_
            refine aw_reg ?_
            refine rs_mv rfl rfl ?_
            refine rs_nilc_p rfl rfl ?_
            refine rs_fa_p rfl rfl ?_
            refine rs_ld_p (v := .bool true) rfl rfl rfl rfl (congrArg (fun b => some (AV.bool b)) h61) ?_
            refine rs_not rfl rfl ?_
            refine rs_mv rfl rfl ?_
            refine rs_skip rfl ?_
            refine rs_skip rfl ?_
            refine rs_skip rfl ?_
            refine rs_pick rfl rfl rfl ?_
            refine rs_mv rfl rfl ?_
            refine rs_nil fun _ => ?_
            refine th_n ?_
            refine aw_cond rfl (fun h => by cases h) (fun _ => ?_)
            refine aw_skip ?_
            refine in_n ?_
            refine th_n ?_
            refine aw_seq ?_
            refine aw_reg ?_
            refine rs_mv rfl rfl ?_
            refine rs_fa_p rfl rfl ?_
            refine rs_ld_p rfl rfl rfl rfl rfl ?_
            refine rs_callb (hC 900 901 s) rfl rfl hent rfl (hf (chk_0 hk (fun _ => by omega) (fun _ => by omega) (fun h => by first | omega | (rw [h61] at h; cases h)) (fun h => by first | omega | (rw [h61] at h; cases h)))) (.cons (hv_same rfl) (.cons (hv_same rfl) (.nil))) (.cons rfl (.cons rfl .nil)) rfl rfl rfl ?_
            refine rs_mv rfl rfl ?_
            refine rs_nil fun _ => ?_
            refine th_n ?_
            refine aw_ret ?_
            exact ret_own rfl (rc_same rfl (.inl rfl)) (.keep (rfl) rfl (.keep (rfl) rfl (.keep (rfl) rfl (.nil)))) (.cons rfl rfl rfl (.dead rfl rfl .nil))
    · skip
      refine rs_mv rfl rfl ?_
      refine rs_skip rfl ?_
      refine rs_skip rfl ?_
      refine rs_skip rfl ?_
      refine rs_pick rfl rfl rfl ?_
      refine rs_mv rfl rfl ?_
      refine rs_nil fun _ => ?_
      refine th_n ?_
      refine aw_cond rfl (fun h => by cases h) (fun _ => ?_)
      refine aw_seq ?_
      refine aw_reg ?_
      refine rs_mv rfl rfl ?_
      refine rs_nilc_p rfl rfl ?_
      refine rs_fa_p rfl rfl ?_
      refine rs_ld_p rfl rfl rfl rfl rfl ?_
      cases h61 : s.dark
      · skip
        refine rs_mv rfl rfl ?_
        refine rs_skip rfl ?_
        refine rs_skip rfl ?_
        refine rs_skip rfl ?_
        refine rs_pick rfl rfl rfl ?_
        refine rs_mv rfl rfl ?_
        refine rs_nil fun _ => ?_
        refine th_n ?_
        refine aw_cond rfl (fun h => by cases h) (fun _ => ?_)
        refine aw_seq ?_
        refine aw_reg ?_
        refine rs_mv rfl rfl ?_
        refine rs_nilc_p rfl rfl ?_
        refine rs_fa_p rfl rfl ?_
        refine rs_ld_p (v := .bool false) rfl rfl rfl rfl (congrArg (fun b => some (AV.bool b)) h61) ?_
        refine rs_not rfl rfl ?_
        refine rs_mv rfl rfl ?_
        refine rs_fa_p rfl rfl ?_
        refine rs_ld_p rfl rfl rfl rfl rfl ?_
        refine rs_cmp rfl rfl rfl rfl (fun h76 => ?_) (fun h76 => ?_)
        · skip
          refine rs_pick rfl rfl rfl ?_
          refine rs_mv rfl rfl ?_
          refine rs_nil fun _ => ?_
          refine th_n ?_
          refine aw_cond rfl (fun _ => ?_) (fun h => by cases h)
          refine aw_seq ?_
          refine aw_reg ?_
          refine rs_mv rfl rfl ?_
          refine rs_nil fun _ => ?_
          refine th_n ?_
          refine aw_weak (weak_ren_row (i := 901) (i' := 902) (k := 900) (F0 := [(4, _)]) rfl rfl (.cons rfl (.same _) (.nil)) (by decide) rfl (.cons (.sl _ _) (RenL.refl _ _ _))) ?_
          refine aw_ret ?_
          refine in_r ?_
          refine th_r ?_
          (have hx := doS_err (c := 7) hd (chk_7 hk (fun _ => by omega) (fun _ => by omega) h61 (by omega)) (by decide)
           obtain ⟨rfl, rfl⟩ := hx
           exact ret_own rfl (rc_same rfl (.inl rfl)) (.keep (rfl) rfl (.keep (rfl) rfl (.keep (rfl) rfl (.nil)))) (.cons rfl rfl rfl (.dead rfl rfl .nil)))
        · skip
          refine rs_pick rfl rfl rfl ?_
          refine rs_mv rfl rfl ?_
          refine rs_nil fun _ => ?_
          refine th_n ?_
          refine aw_cond rfl (fun h => by cases h) (fun _ => ?_)
          refine aw_skip ?_
          refine in_n ?_
          refine th_n ?_
          refine aw_seq ?_
          refine aw_reg ?_
          refine rs_mv rfl rfl ?_
          refine rs_fa_p rfl rfl ?_
          refine rs_ld_p rfl rfl rfl rfl rfl ?_
          refine rs_callb (hC 900 901 s) rfl rfl hent rfl (hf (chk_0 hk (fun _ => by omega) (fun _ => by omega) (fun h => by first | omega | (rw [h61] at h; cases h)) (fun h => by first | omega | (rw [h61] at h; cases h)))) (.cons (hv_same rfl) (.cons (hv_same rfl) (.nil))) (.cons rfl (.cons rfl .nil)) rfl rfl rfl ?_
          refine rs_mv rfl rfl ?_
          refine rs_nil fun _ => ?_
          refine th_n ?_
          refine aw_ret ?_
          exact ret_own rfl (rc_same rfl (.inl rfl)) (.keep (rfl) rfl (.keep (rfl) rfl (.keep (rfl) rfl (.nil)))) (.cons rfl rfl rfl (.dead rfl rfl .nil))
      · skip
        refine rs_mv rfl rfl ?_
        refine rs_fa_p rfl rfl ?_
        refine rs_ld_p rfl rfl rfl rfl rfl ?_
        refine rs_cmp rfl rfl rfl rfl (fun h65 => ?_) (fun h65 => ?_)
        · skip
          refine rs_pick rfl rfl rfl ?_
          refine rs_mv rfl rfl ?_
          refine rs_nil fun _ => ?_
          refine th_n ?_
          refine aw_cond rfl (fun _ => ?_) (fun h => by cases h)
          refine aw_seq ?_
          refine aw_reg ?_
          refine rs_mv rfl rfl ?_
          refine rs_nil fun _ => ?_
          refine th_n ?_
          refine aw_weak (weak_ren_row (i := 901) (i' := 902) (k := 900) (F0 := [(4, _)]) rfl rfl (.cons rfl (.same _) (.nil)) (by decide) rfl (.cons (.sl _ _) (RenL.refl _ _ _))) ?_
          refine aw_ret ?_
          refine in_r ?_
          refine th_r ?_
          (have hx := doS_err (c := 40) hd (chk_40 hk (fun _ => by omega) (fun _ => by omega) h61 (by omega)) (by decide)
           obtain ⟨rfl, rfl⟩ := hx
           exact ret_own rfl (rc_same rfl (.inl rfl)) (.keep (rfl) rfl (.keep (rfl) rfl (.keep (rfl) rfl (.nil)))) (.cons rfl rfl rfl (.dead rfl rfl .nil)))
        · skip
          refine rs_pick rfl rfl rfl ?_
          refine rs_mv rfl rfl ?_
          refine rs_nil fun _ => ?_
          refine th_n ?_
          refine aw_cond rfl (fun h => by cases h) (fun _ => ?_)
          refine aw_seq ?_
          refine aw_reg ?_
          refine rs_mv rfl rfl ?_
          refine rs_nilc_p rfl rfl ?_
          refine rs_fa_p rfl rfl ?_
          refine rs_ld_p (v := .bool true) rfl rfl rfl rfl (congrArg (fun b => some (AV.bool b)) h61) ?_
          refine rs_not rfl rfl ?_
          refine rs_mv rfl rfl ?_
          refine rs_skip rfl ?_
          refine rs_skip rfl ?_
          refine rs_skip rfl ?_
          refine rs_pick rfl rfl rfl ?_
          refine rs_mv rfl rfl ?_
          refine rs_nil fun _ => ?_
          refine th_n ?_
          refine aw_cond rfl (fun h => by cases h) (fun _ => ?_)
          refine aw_skip ?_
          refine in_n ?_
          refine th_n ?_
          refine aw_seq ?_
          refine aw_reg ?_
          refine rs_mv rfl rfl ?_
          refine rs_fa_p rfl rfl ?_
          refine rs_ld_p rfl rfl rfl rfl rfl ?_
          refine rs_callb (hC 900 901 s) rfl rfl hent rfl (hf (chk_0 hk (fun _ => by omega) (fun _ => by omega) (fun h => by first | omega | (rw [h61] at h; cases h)) (fun h => by first | omega | (rw [h61] at h; cases h)))) (.cons (hv_same rfl) (.cons (hv_same rfl) (.nil))) (.cons rfl (.cons rfl .nil)) rfl rfl rfl ?_
          refine rs_mv rfl rfl ?_
          refine rs_nil fun _ => ?_
          refine th_n ?_
          refine aw_ret ?_
          exact ret_own rfl (rc_same rfl (.inl rfl)) (.keep (rfl) rfl (.keep (rfl) rfl (.keep (rfl) rfl (.nil)))) (.cons rfl rfl rfl (.dead rfl rfl .nil))

theorem gc15u (s s' : St) (k n e : Int) (hs : Sm s) (hk : k < 1 ∨ k > 7) (hlk : lkF KV k = .tup [.nilf, .bool false]) (hd : doS s k n = (e, s')) : FC Try.prog 15 [.ptr 900 0 0, .agg [iv k, iv n]] (hC 900 901 s) (iv e) (hC2 900 901 902 s') true := by
  have hs0 := hs
  obtain ⟨hl, ha, hev, hfe, hra, hsi, hma, hbr⟩ := hs
  refine fc_run (nt := 82) Try.func15 rfl rfl mcOkc15 (Nat.le_of_ble_eq_true rfl) ?_
  delta mcc15
  refine aw_seq ?_
  refine aw_reg ?_
  refine rs_box rfl rfl rfl rfl rfl rfl ?_
  refine rs_mv rfl rfl ?_
  refine rs_nil fun _ => ?_
  refine th_n ?_
  refine aw_seq ?_
  refine aw_seq ?_
  refine aw_reg ?_
  refine rs_mv rfl rfl ?_
  refine rs_calln [900, 901] rfl rfl (gc39 s (by omega)) (.cons (hv_obj (by simp) rfl (.sl (by simp) rfl (by simp) (.int (.bool (.int (.int (.int (.int (.int (.int (.bool (.int (.bool (.bool (.bool (.bool .nil)))))))))))))))) (.nil)) rfl ?_
  refine rs_nil fun _ => ?_
  refine th_n ?_
  refine aw_cond rfl (fun h => by cases h) (fun _ => ?_)
  refine aw_skip ?_
  refine th_n ?_
  refine aw_seq ?_
  refine aw_reg ?_
  refine rs_mkmap rfl rfl ?_
  refine rs_mv rfl rfl ?_
  refine rs_mkbnd rfl rfl ?_
  refine rs_fins0 rfl rfl rfl rfl rfl ?_
  refine rs_mv rfl rfl ?_
  refine rs_mkbnd rfl rfl ?_
  refine rs_fins rfl rfl rfl rfl rfl rfl ?_
  refine rs_mv rfl rfl ?_
  refine rs_mkbnd rfl rfl ?_
  refine rs_fins rfl rfl rfl rfl rfl rfl ?_
  refine rs_mv rfl rfl ?_
  refine rs_mkbnd rfl rfl ?_
  refine rs_fins rfl rfl rfl rfl rfl rfl ?_
  refine rs_mv rfl rfl ?_
  refine rs_mkbnd rfl rfl ?_
  refine rs_fins rfl rfl rfl rfl rfl rfl ?_
  refine rs_mv rfl rfl ?_
  refine rs_mkbnd rfl rfl ?_
  refine rs_fins rfl rfl rfl rfl rfl rfl ?_
  refine rs_mv rfl rfl ?_
  refine rs_mkbnd rfl rfl ?_
  refine rs_fins rfl rfl rfl rfl rfl rfl ?_
  refine rs_mv rfl rfl ?_
  refine rs_fa_p rfl rfl ?_
  refine rs_ld_p rfl rfl rfl rfl rfl ?_
  refine rs_flk rfl rfl rfl rfl rfl hlk ?_
  refine rs_mv rfl rfl ?_
  refine rs_ext rfl rfl rfl ?_
  refine rs_ext rfl rfl rfl ?_
  refine rs_mv rfl rfl ?_
  refine rs_mv rfl rfl ?_
  refine rs_nil fun _ => ?_
  refine th_n ?_
  refine aw_seq ?_
  refine aw_block ?_
  refine aw_seq ?_
  refine aw_reg ?_
  refine rs_mv rfl rfl ?_
  refine rs_not rfl rfl ?_
  refine rs_mv rfl rfl ?_
  refine rs_nil fun _ => ?_
  refine th_n ?_
  refine aw_cond rfl (fun _ => ?_) (fun h => by cases h)
  refine aw_seq ?_
  refine aw_reg ?_
  refine rs_mv rfl rfl ?_
  refine rs_nil fun _ => ?_
  refine th_n ?_
  refine aw_weak (weak_ren_row (i := 901) (i' := 902) (k := 900) (F0 := [(4, _)]) rfl rfl (.cons rfl (.same _) (.nil)) (by decide) rfl (.cons (.sl _ _) (RenL.refl _ _ _))) ?_
  refine aw_ret ?_
  refine in_r ?_
  refine th_r ?_
  (have hx := doS_err (c := 4) hd (chk_4 hk) (by decide)
   obtain ⟨rfl, rfl⟩ := hx
   exact ret_own rfl (rc_same rfl (.inl rfl)) (.keep (rfl) rfl (.keep (rfl) rfl (.keep (rfl) rfl (.nil)))) (.cons rfl rfl rfl (.dead rfl rfl .nil)))

end Go.Proofs.Ytigfcmcdjfmieaa

/-! Walks: C3. -/
namespace Go.Proofs.Ytigfcmcdjfmieaa
open Go.RowKit
set_option maxRecDepth 100000
set_option linter.unusedVariables false

/-- One event. -/
theorem gc15 (s : St) (k n : Int) (hs : Sm s) : FC Try.prog 15 [.ptr 900 0 0, .agg [iv k, iv n]] (hC 900 901 s) (iv (doS s k n).1) (hC2 900 901 902 (doS s k n).2) true := by
  by_cases hk : 1 ≤ k ∧ k ≤ 7
  · have hd : ∀ {c : Int × St}, chkS s k n = 0 → handS s k n = c → doS s k n = c := fun hc h => by rw [doS, if_pos hc, h]
    obtain rfl | rfl | rfl | rfl | rfl | rfl | rfl : k = 1 ∨ k = 2 ∨ k = 3 ∨ k = 4 ∨ k = 5 ∨ k = 6 ∨ k = 7 := by omega
    · exact gc15h 40 s _ 1 n _ hs hk rfl (by kernel_rfl) (fun hc => by rw [hd hc rfl]; exact gc40 s _ n _ hs rfl) rfl
    · exact gc15h 41 s _ 2 n _ hs hk rfl (by kernel_rfl) (fun hc => by rw [hd hc rfl]; exact gc41 s n) rfl
    · exact gc15h 42 s _ 3 n _ hs hk rfl (by kernel_rfl) (fun hc => by rw [hd hc rfl]; exact gc42 s n) rfl
    · exact gc15h 43 s _ 4 n _ hs hk rfl (by kernel_rfl) (fun hc => by rw [hd hc rfl]; exact gc43 s _ n _ rfl) rfl
    · exact gc15h 44 s _ 5 n _ hs hk rfl (by kernel_rfl) (fun hc => by rw [hd hc rfl]; exact gc44 s n) rfl
    · exact gc15h 45 s _ 6 n _ hs hk rfl (by kernel_rfl) (fun hc => by rw [hd hc rfl]; exact gc45 s n) rfl
    · exact gc15h 46 s _ 7 n _ hs hk rfl (by kernel_rfl) (fun hc => by rw [hd hc rfl]; exact gc46 s n _ rfl) rfl
  · refine gc15u s _ k n _ hs (by omega) ?_ rfl
    have h1 : ((1 : Int) == k) = false := by simp; omega
    have h2 : ((2 : Int) == k) = false := by simp; omega
    have h3 : ((3 : Int) == k) = false := by simp; omega
    have h4 : ((4 : Int) == k) = false := by simp; omega
    have h5 : ((5 : Int) == k) = false := by simp; omega
    have h6 : ((6 : Int) == k) = false := by simp; omega
    have h7 : ((7 : Int) == k) = false := by simp; omega
    simp only [lkF, KV, List.find?, h1, h2, h3, h4, h5, h6, h7]
/-- What holds of a controller that was broken or not. -/
structure Fnd (s : St) : Prop where
  f : s.broken = false → s.found = false

end Go.Proofs.Ytigfcmcdjfmieaa

/-! Walks: C4. -/
namespace Go.Proofs.Ytigfcmcdjfmieaa
open Go.RowKit
set_option maxRecDepth 100000
set_option linter.unusedVariables false

theorem et {p : Prop} (h : p) : p = True := eq_true h
/-! ### contracts under other names -/
theorem renVs_closed {σ : Nat → Nat} {l : List AV} (h : ∀ v, v ∈ l → scopedV [] v = true) : RenVs σ l l := by
  induction l with
  | nil => exact .nil
  | cons v l ih => exact .cons (.closed (h v List.mem_cons_self)) (ih fun u hu => h u (List.mem_cons_of_mem _ hu))
theorem tailC_closed (s : St) : ∀ v, v ∈ tailC s → scopedV [] v = true := fun v hv => by
  simp only [tailC, List.mem_cons, List.not_mem_nil, or_false] at hv
  rcases hv with rfl | rfl | rfl | rfl | rfl | rfl | rfl | rfl | rfl | rfl | rfl | rfl | rfl | rfl <;> rfl
theorem renL_at {σ : Nat → Nat} {el el' : List AV} {e z : Nat} (h : RenVs σ el el') : RenOb σ (.cells e z [el] false) (.cells e z [el'] false) := by
  obtain ⟨h1, h2⟩ := h.at_
  refine .cells (fl := false) rfl fun j a a' ha ha' => ?_
  have hj : j = 0 := by have := (List.getElem?_eq_some_iff.1 ha).1; simpa using this
  subst hj
  simp at ha ha'
  subst ha ha'
  exact ⟨h1, h2⟩
theorem renO_ctl {σ : Nat → Nat} {r r' : Nat} (h : σ r = r') (s : St) : RenOb σ (ctlO r s) (ctlO r' s) := renL_at (.cons (.sl h) (renVs_closed (tailC_closed s)))
theorem renO_ref {σ : Nat → Nat} {r r' : Nat} (h : σ r = r') (s : St) : RenOb σ (refO r s) (refO r' s) :=
  renL_at (.cons (.closed rfl) (.cons (.closed rfl) (.cons (.closed rfl) (.cons (.closed rfl) (.cons (.closed rfl) (.cons (.closed rfl) (.cons (.closed rfl) (.cons (.closed rfl) (.cons (.closed rfl) (.cons (.closed rfl) (.cons (.closed rfl) (.cons (.sl h) (.cons (.closed rfl) (.cons (.closed rfl) .nil))))))))))))))
theorem fc_ctl {P : Program} {f : Nat} {args : List AV} {r : AV} {s s' : St} (σ : Nat → Nat) (hσ : ∀ k, σ (σ k) = k) {a b c : Nat} (ha : σ 900 = a) (hb : σ 901 = b) (hc : σ 902 = c) (hargs : ∀ v, v ∈ args → scopedV [] v = true) (hr : scopedV [] r = true)
    (h : FC P f (.ptr 900 0 0 :: args) (hC 900 901 s) r (hC2 900 901 902 s') true) : FC P f (.ptr a 0 0 :: args) (hC a b s) r (hC2 a b c s') true :=
  fc_ren σ hσ h (.cons (.ptr ha) (renVs_closed hargs)) (.cons ha (renO_ctl hb s) (.cons hb .flat .nil)) (.closed hr) (.cons ha (renO_ctl hc s') (.cons hc .flat (.cons hb .dead .nil)))
theorem fc_ctr {P : Program} {f : Nat} {args : List AV} {r : AV} {s s' : St} (σ : Nat → Nat) (hσ : ∀ k, σ (σ k) = k) {a b c : Nat} (ha : σ 900 = a) (hb : σ 901 = b) (hc : σ 902 = c) (hargs : ∀ v, v ∈ args → scopedV [] v = true) (hr : scopedV [] r = true)
    (h : FC P f (.ptr 900 0 0 :: args) (hR 900 901 s) r (hR2 900 901 902 s') true) : FC P f (.ptr a 0 0 :: args) (hR a b s) r (hR2 a b c s') true :=
  fc_ren σ hσ h (.cons (.ptr ha) (renVs_closed hargs)) (.cons ha (renO_ref hb s) (.cons hb .flat .nil)) (.closed hr) (.cons ha (renO_ref hc s') (.cons hc .flat (.cons hb .dead .nil)))
/-- The names d further on. -/
def shf (d : Nat) (k : Nat) : Nat := if 900 ≤ k ∧ k < 910 then k + d else if 900 + d ≤ k ∧ k < 910 + d then k - d else k
theorem shf_shf (d : Nat) (hd : d = 0 ∨ 10 ≤ d) (k : Nat) : shf d (shf d k) = k := by
  unfold shf
  repeat' split
  all_goals omega
/-! ### what is read -/
def brkV (s : St) : Int := bif s.broken then s.breach else -1
theorem brk_brkV (s : St) : brk s - 1 = brkV s := by
  unfold brk brkV
  cases s.broken <;> simp
def spanS (s : St) : Int × Int :=
  if s.blind = true then (if s.found = true ∨ lastS s.rs = s.all then (lastS s.rs, lastS s.rs) else (lastS s.rs, min (lastS s.rs + s.every) s.all - 1)) else (s.made, s.made)
/-- What is known of the last record. -/
structure Lst (s : St) : Prop where
  b : 0 ≤ lastS s.rs ∧ lastS s.rs ≤ 1000000
  m : lastS s.rs = s.all ∨ (lastS s.rs).tmod s.every = 0

def mcc17 : MC := (.seq (.reg [⟨(some 2), (.mv (.c (.int .i64 0))), none, []⟩, ⟨(some 3), (.mv (.c (.int .i64 0))), none, [0]⟩] false) (.seq (.block 0 (.seq (.reg [⟨(some 5), (.mv (.t 0)), none, []⟩, ⟨(some 6), (.call 39 [(.t 5)]), none, [0]⟩, ⟨(some 4), (.mv (.t 6)), none, [1, 1]⟩] false) (.cond (.t 4) (.seq (.reg [⟨(some 2), (.mv (.c (.int .i64 0))), none, []⟩, ⟨(some 3), (.mv (.c (.int .i64 (-1)))), none, [0, 0]⟩] false) .ret) (.seq (.reg [⟨(some 8), (.mv (.t 0)), none, []⟩, ⟨(some 9), (.nilc (.t 8)), none, [0]⟩, ⟨(some 10), (.fa 9 (.t 9)), none, [1]⟩, ⟨(some 11), (.ld false 1 (.t 10)), none, [2]⟩, ⟨(some 7), (.mv (.t 11)), none, [3]⟩] false) (.cond (.t 7) (.seq (.reg [⟨(some 12), (.mv (.t 0)), none, []⟩, ⟨(some 13), (.nilc (.t 12)), none, [0]⟩, ⟨(some 14), (.fa 8 (.t 13)), none, [1]⟩, ⟨(some 15), (.ld false 1 (.t 14)), none, [2]⟩, ⟨(some 16), (.mv (.t 0)), none, []⟩, ⟨(some 17), (.nilc (.t 16)), none, [4]⟩, ⟨(some 18), (.fa 10 (.t 17)), none, [5]⟩, ⟨(some 19), (.ld false 1 (.t 18)), none, [6]⟩, ⟨(some 2), (.mv (.t 15)), none, [3, 0, 1, 2, 3]⟩, ⟨(some 3), (.mv (.t 19)), none, [7, 8, 0, 1, 2, 3, 4, 5, 6, 7, 8]⟩] true) .ret) .skip))))) (.seq (.reg [⟨(some 20), (.mv (.t 0)), none, []⟩, ⟨(some 21), (.nilc (.t 20)), none, [0]⟩, ⟨(some 22), (.fa 8 (.t 21)), none, [1]⟩, ⟨(some 23), (.ld false 1 (.t 22)), none, [2]⟩, ⟨(some 2), (.mv (.t 23)), none, [3, 0, 1, 2, 3]⟩, ⟨(some 3), (.mv (.c (.int .i64 (-1)))), none, [4, 0, 1, 2, 3, 4]⟩] false) .ret)))
theorem mcOkc17 : (match Try.f17.body with | some c => compC Try.prog 24 c | none => none) = some mcc17 := by kernel_rfl

theorem gc17 (s : St) (hs : Sm s) : FC Try.prog 17 [cellsC s] [] (.tup [iv s.made, iv (brkV s)]) [] false := by
  have hev := hs.every
  refine fc_run (nt := 24) Try.func17 rfl rfl mcOkc17 (Nat.le_of_ble_eq_true rfl) ?_
  delta mcc17
  refine aw_seq ?_
  refine aw_reg ?_
  refine rs_mv rfl rfl ?_
  refine rs_mv rfl rfl ?_
  refine rs_nil fun _ => ?_
  refine th_n ?_
  refine aw_seq ?_
  refine aw_block ?_
  refine aw_seq ?_
  refine aw_reg ?_
  refine rs_mv rfl rfl ?_
  refine rs_calln [] rfl rfl (gc39 s (by omega)) (.cons (hv_same rfl) (.nil)) rfl ?_
  refine rs_mv rfl rfl ?_
  refine rs_nil fun _ => ?_
  refine th_n ?_
  refine aw_cond rfl (fun h => by cases h) (fun _ => ?_)
  refine aw_seq ?_
  refine aw_reg ?_
  refine rs_mv rfl rfl ?_
  refine rs_nilc_r rfl rfl ?_
  refine rs_fa_r rfl rfl rfl ?_
  refine rs_ld_r rfl rfl rfl ?_
  refine rs_mv rfl rfl ?_
  refine rs_nil fun _ => ?_
  refine th_n ?_
  refine aw_cond rfl (fun h7 => ?_) (fun h7 => ?_)
  · skip
    refine aw_seq ?_
    refine aw_draw hmix ?_
    refine rs_mv rfl rfl ?_
    refine rs_nilc_r rfl rfl ?_
    refine rs_fa_r rfl rfl rfl ?_
    refine rs_ld_r rfl rfl rfl ?_
    refine rs_mv rfl rfl ?_
    refine rs_nilc_r rfl rfl ?_
    refine rs_fa_r rfl rfl rfl ?_
    refine rs_ld_r rfl rfl rfl ?_
    refine rs_mv rfl rfl ?_
    refine rs_mv rfl rfl ?_
    refine rs_nil ⟨by kernel_rfl, fun _ => ?_⟩
    refine th_n ?_
    refine aw_ret ?_
    refine in_r ?_
    refine th_r ?_
    exact ret_pure rfl (congrArg (fun x => AV.tup [iv s.made, iv x]) (by unfold brkV; rw [h7]; rfl)) rfl (.inr rfl)
  · skip
    refine aw_skip ?_
    refine in_n ?_
    refine th_n ?_
    refine aw_seq ?_
    refine aw_reg ?_
    refine rs_mv rfl rfl ?_
    refine rs_nilc_r rfl rfl ?_
    refine rs_fa_r rfl rfl rfl ?_
    refine rs_ld_r rfl rfl rfl ?_
    refine rs_mv rfl rfl ?_
    refine rs_mv rfl rfl ?_
    refine rs_nil fun _ => ?_
    refine th_n ?_
    refine aw_ret ?_
    exact ret_pure rfl (congrArg (fun x => AV.tup [iv s.made, iv x]) (by unfold brkV; rw [h7]; rfl)) rfl (.inr rfl)

def mcc23 : MC := (.seq (.reg [⟨(some 2), (.mv (.c (.int .i64 0))), none, []⟩] false) (.seq (.seq (.reg [⟨(some 3), (.mv (.t 0)), none, []⟩, ⟨(some 4), (.call 39 [(.t 3)]), none, [0]⟩] false) (.cond (.t 4) (.seq (.reg [⟨(some 2), (.mv (.c (.int .i64 0))), none, []⟩] false) .ret) .skip)) (.seq (.reg [⟨(some 5), (.mv (.t 0)), none, []⟩, ⟨(some 6), (.nilc (.t 5)), none, [0]⟩, ⟨(some 7), (.fa 6 (.t 6)), none, [1]⟩, ⟨(some 8), (.ld false 1 (.t 7)), none, [2]⟩, ⟨(some 2), (.mv (.t 8)), none, [3, 0, 1, 2, 3]⟩] false) .ret)))
theorem mcOkc23 : (match Try.f23.body with | some c => compC Try.prog 9 c | none => none) = some mcc23 := by kernel_rfl

theorem gc23 (s : St) (hs : Sm s) : FC Try.prog 23 [cellsC s] [] (iv s.ran) [] false := by
  have hev := hs.every
  refine fc_run (nt := 9) Try.func23 rfl rfl mcOkc23 (Nat.le_of_ble_eq_true rfl) ?_
  delta mcc23
  refine aw_seq ?_
  refine aw_reg ?_
  refine rs_mv rfl rfl ?_
  refine rs_nil fun _ => ?_
  refine th_n ?_
  refine aw_seq ?_
  refine aw_seq ?_
  refine aw_reg ?_
  refine rs_mv rfl rfl ?_
  refine rs_calln [] rfl rfl (gc39 s (by omega)) (.cons (hv_same rfl) (.nil)) rfl ?_
  refine rs_nil fun _ => ?_
  refine th_n ?_
  refine aw_cond rfl (fun h => by cases h) (fun _ => ?_)
  refine aw_skip ?_
  refine th_n ?_
  refine aw_seq ?_
  refine aw_reg ?_
  refine rs_mv rfl rfl ?_
  refine rs_nilc_r rfl rfl ?_
  refine rs_fa_r rfl rfl rfl ?_
  refine rs_ld_r rfl rfl rfl ?_
  refine rs_mv rfl rfl ?_
  refine rs_nil fun _ => ?_
  refine th_n ?_
  refine aw_ret ?_
  exact ret_pure rfl rfl rfl (.inr rfl)

def mcc19 : MC := (.seq (.reg [⟨(some 2), (.alloc 45 2 [(.int .i64 0), (.int .i64 0)]), none, []⟩] false) (.seq (.seq (.reg [⟨(some 4), (.mv (.t 0)), none, []⟩, ⟨(some 5), (.call 39 [(.t 4)]), none, [0]⟩] false) (.cond (.t 5) (.seq (.reg [⟨(some 6), (.build [(.int .i64 0), (.int .i64 0)] []), none, []⟩, ⟨none, (.st 2 (.t 2) (.t 6)), none, [0, 0]⟩] false) .ret) .skip)) (.seq (.reg [⟨(some 7), (.mv (.t 0)), none, []⟩, ⟨(some 8), (.nilc (.t 7)), none, [0]⟩, ⟨(some 9), (.fa 0 (.t 8)), none, [1]⟩, ⟨(some 10), (.call 50 [(.t 9)]), none, [2]⟩, ⟨(some 3), (.mv (.t 10)), none, [3, 3, 0, 1, 2, 3]⟩] false) (.seq (.block 0 (.seq (.reg [⟨(some 12), (.mv (.t 0)), none, []⟩, ⟨(some 13), (.nilc (.t 12)), none, [0]⟩, ⟨(some 14), (.fa 14 (.t 13)), none, [1]⟩, ⟨(some 15), (.ld false 1 (.t 14)), none, [2]⟩, ⟨(some 16), (.un .not (.t 15)), none, [3]⟩, ⟨(some 11), (.mv (.t 16)), none, [4]⟩] false) (.cond (.t 11) (.seq (.reg [⟨(some 17), (.mv (.t 0)), none, []⟩, ⟨(some 18), (.nilc (.t 17)), none, [0]⟩, ⟨(some 19), (.fa 8 (.t 18)), none, [1]⟩, ⟨(some 20), (.ld false 1 (.t 19)), none, [2]⟩, ⟨(some 21), (.mv (.t 0)), none, []⟩, ⟨(some 22), (.nilc (.t 21)), none, [4]⟩, ⟨(some 23), (.fa 8 (.t 22)), none, [5]⟩, ⟨(some 24), (.ld false 1 (.t 23)), none, [6]⟩, ⟨(some 25), (.build [(.int .i64 0), (.int .i64 0)] [(0, (1, (.t 20))), (1, (1, (.t 24)))]), none, [3, 7]⟩, ⟨none, (.st 2 (.t 2) (.t 25)), none, [8, 0, 1, 2, 3, 4, 5, 6, 7, 8]⟩] true) .ret) (.seq (.reg [⟨(some 27), (.mv (.t 0)), none, []⟩, ⟨(some 28), (.nilc (.t 27)), none, [0]⟩, ⟨(some 29), (.fa 0 (.t 28)), none, [1]⟩, ⟨(some 30), (.fa 2 (.t 29)), none, [2]⟩, ⟨(some 31), (.ld false 1 (.t 30)), none, [3]⟩, ⟨(some 32), (.mv (.t 31)), none, [4]⟩, ⟨(some 33), (.mv (.t 3)), (some (32, false)), [5]⟩, ⟨(some 34), (.mv (.t 0)), (some (32, false)), [5]⟩, ⟨(some 35), (.nilc (.t 34)), (some (32, false)), [7, 5]⟩, ⟨(some 36), (.fa 3 (.t 35)), (some (32, false)), [8, 5]⟩, ⟨(some 37), (.ld false 1 (.t 36)), (some (32, false)), [9, 5]⟩, ⟨(some 38), (.bin .eql (.t 33) (.t 37)), (some (32, false)), [6, 10, 5]⟩, ⟨(some 39), (.pick (.t 32) (.c (.bool true)) (.t 38)), none, [5, 11]⟩, ⟨(some 26), (.mv (.t 39)), none, [12, 5]⟩] false) (.cond (.t 26) (.seq (.reg [⟨(some 40), (.mv (.t 3)), none, []⟩, ⟨(some 41), (.mv (.t 3)), none, []⟩, ⟨(some 42), (.build [(.int .i64 0), (.int .i64 0)] [(0, (1, (.t 40))), (1, (1, (.t 41)))]), none, [0, 1]⟩, ⟨none, (.st 2 (.t 2) (.t 42)), none, [2, 0, 1, 2]⟩] false) .ret) .skip))))) (.seq (.reg [⟨(some 43), (.mv (.t 3)), none, []⟩, ⟨(some 44), (.mv (.t 3)), none, []⟩, ⟨(some 45), (.mv (.t 0)), none, []⟩, ⟨(some 46), (.nilc (.t 45)), none, [2]⟩, ⟨(some 47), (.fa 4 (.t 46)), none, [3]⟩, ⟨(some 48), (.ld false 1 (.t 47)), none, [4]⟩, ⟨(some 49), (.bin .add (.t 44) (.t 48)), none, [1, 5]⟩, ⟨(some 50), (.mv (.t 0)), none, []⟩, ⟨(some 51), (.nilc (.t 50)), none, [7]⟩, ⟨(some 52), (.fa 3 (.t 51)), none, [8]⟩, ⟨(some 53), (.ld false 1 (.t 52)), none, [9]⟩, ⟨(some 54), (.mn (.t 49) (.t 53)), none, [6, 10]⟩, ⟨(some 55), (.bin .sub (.t 54) (.c (.int .i64 1))), none, [11]⟩, ⟨(some 56), (.build [(.int .i64 0), (.int .i64 0)] [(0, (1, (.t 43))), (1, (1, (.t 55)))]), none, [0, 12]⟩, ⟨none, (.st 2 (.t 2) (.t 56)), none, [13, 0, 1, 2, 3, 4, 5, 6, 7, 8, 9, 10, 11, 12, 13]⟩] true) .ret)))))
theorem mcOkc19 : (match Try.f19.body with | some c => compC Try.prog 57 c | none => none) = some mcc19 := by kernel_rfl

theorem gc19 (s : St) (a b : Int) (hs : Sm s) (hl : Lst s) (h : spanS s = (a, b)) : FC Try.prog 19 [cellsC s] [] (.agg [iv a, iv b]) [] false := by
  have hev := hs.every
  have hla := hl.b
  have hal := hs.all
  refine fc_run (nt := 57) Try.func19 rfl rfl mcOkc19 (Nat.le_of_ble_eq_true rfl) ?_
  delta mcc19
  refine aw_seq ?_
  refine aw_reg ?_
  refine rs_alloc rfl rfl rfl ?_
  refine rs_nil fun _ => ?_
  refine th_n ?_
  refine aw_seq ?_
  refine aw_seq ?_
  refine aw_reg ?_
  refine rs_mv rfl rfl ?_
  refine rs_calln [] rfl rfl (gc39 s (by omega)) (.cons (hv_same rfl) (.nil)) rfl ?_
  refine rs_nil fun _ => ?_
  refine th_n ?_
  refine aw_cond rfl (fun h => by cases h) (fun _ => ?_)
  refine aw_skip ?_
  refine th_n ?_
  refine aw_seq ?_
  refine aw_reg ?_
  refine rs_mv rfl rfl ?_
  refine rs_nilc_r rfl rfl ?_
  refine rs_fa_r rfl rfl rfl ?_
  refine rs_calln [] rfl rfl (gc50 s hs.len) (.cons (hv_same rfl) (.nil)) rfl ?_
  refine rs_mv rfl rfl ?_
  refine rs_nil fun _ => ?_
  refine th_n ?_
  refine aw_seq ?_
  refine aw_block ?_
  refine aw_seq ?_
  refine aw_reg ?_
  refine rs_mv rfl rfl ?_
  refine rs_nilc_r rfl rfl ?_
  refine rs_fa_r rfl rfl rfl ?_
  refine rs_ld_r rfl rfl rfl ?_
  refine rs_not rfl rfl ?_
  refine rs_mv rfl rfl ?_
  refine rs_nil fun _ => ?_
  refine th_n ?_
  refine aw_cond rfl (fun h11 => ?_) (fun h11 => ?_)
  · skip
    have q11 : s.blind = false := by simpa using h11
    refine aw_seq ?_
    refine aw_draw hmix ?_
    refine rs_mv rfl rfl ?_
    refine rs_nilc_r rfl rfl ?_
    refine rs_fa_r rfl rfl rfl ?_
    refine rs_ld_r rfl rfl rfl ?_
    refine rs_mv rfl rfl ?_
    refine rs_nilc_r rfl rfl ?_
    refine rs_fa_r rfl rfl rfl ?_
    refine rs_ld_r rfl rfl rfl ?_
    refine rs_build rfl rfl ?_
    refine rs_st rfl rfl rfl rfl rfl rfl rfl (Nat.le_of_ble_eq_true rfl) rfl rfl ?_
    refine rs_nil ⟨by kernel_rfl, fun _ => ?_⟩
    refine th_n ?_
    refine aw_ret ?_
    refine in_r ?_
    refine th_r ?_
    (simp only [spanS, bf q11, if_true, if_false, ↓reduceIte, reduceCtorEq, or_true, true_or, or_false, false_or, and_true, true_and, and_false, false_and, Prod.mk.injEq] at h
     obtain ⟨rfl, rfl⟩ := h
     exact ret_pure rfl rfl rfl (.inr rfl))
  · skip
    have q11 : s.blind = true := by simpa using h11
    refine aw_seq ?_
    refine aw_reg ?_
    refine rs_mv rfl rfl ?_
    refine rs_nilc_r rfl rfl ?_
    refine rs_fa_r rfl rfl rfl ?_
    refine rs_fa_r rfl rfl rfl ?_
    refine rs_ld_r rfl rfl rfl ?_
    cases h31 : s.found
    · skip
      refine rs_mv rfl rfl ?_
      refine rs_mv rfl rfl ?_
      refine rs_mv rfl rfl ?_
      refine rs_nilc_r rfl rfl ?_
      refine rs_fa_r rfl rfl rfl ?_
      refine rs_ld_r rfl rfl rfl ?_
      refine rs_cmp rfl rfl rfl rfl (fun h38 => ?_) (fun h38 => ?_)
      · skip
        refine rs_pick rfl rfl rfl ?_
        refine rs_mv rfl rfl ?_
        refine rs_nil fun _ => ?_
        refine th_n ?_
        refine aw_cond rfl (fun _ => ?_) (fun h => by cases h)
        refine aw_seq ?_
        refine aw_reg ?_
        refine rs_mv rfl rfl ?_
        refine rs_mv rfl rfl ?_
        refine rs_build rfl rfl ?_
        refine rs_st rfl rfl rfl rfl rfl rfl rfl (Nat.le_of_ble_eq_true rfl) rfl rfl ?_
        refine rs_nil fun _ => ?_
        refine th_n ?_
        refine aw_ret ?_
        refine in_r ?_
        refine th_r ?_
        (simp only [spanS, bt q11, bf h31, et h38, Bool.false_eq_true, if_true, if_false, ↓reduceIte, reduceCtorEq, or_true, true_or, or_false, false_or, and_true, true_and, and_false, false_and, Prod.mk.injEq] at h
         obtain ⟨rfl, rfl⟩ := h
         exact ret_pure rfl rfl rfl (.inr rfl))
      · skip
        refine rs_pick rfl rfl rfl ?_
        refine rs_mv rfl rfl ?_
        refine rs_nil fun _ => ?_
        refine th_n ?_
        refine aw_cond rfl (fun h => by cases h) (fun _ => ?_)
        refine aw_skip ?_
        refine in_n ?_
        refine th_n ?_
        refine aw_seq ?_
        refine aw_draw hmix ?_
        refine rs_mv rfl rfl ?_
        refine rs_mv rfl rfl ?_
        refine rs_mv rfl rfl ?_
        refine rs_nilc_r rfl rfl ?_
        refine rs_fa_r rfl rfl rfl ?_
        refine rs_ld_r rfl rfl rfl ?_
        refine rs_add rfl rfl rfl (by omega) ?_
        refine rs_mv rfl rfl ?_
        refine rs_nilc_r rfl rfl ?_
        refine rs_fa_r rfl rfl rfl ?_
        refine rs_ld_r rfl rfl rfl ?_
        refine rs_mn rfl rfl rfl rfl ?_
        refine rs_sub rfl rfl rfl (by omega) ?_
        refine rs_build rfl rfl ?_
        refine rs_st rfl rfl rfl rfl rfl rfl rfl (Nat.le_of_ble_eq_true rfl) rfl rfl ?_
        refine rs_nil ⟨by kernel_rfl, fun _ => ?_⟩
        refine th_n ?_
        refine aw_ret ?_
        (simp only [spanS, bt q11, bf h31, h38, Bool.false_eq_true, if_true, if_false, ↓reduceIte, reduceCtorEq, or_true, true_or, or_false, false_or, and_true, true_and, and_false, false_and, Prod.mk.injEq] at h
         obtain ⟨rfl, rfl⟩ := h
         exact ret_pure rfl rfl rfl (.inr rfl))
    · skip
      refine rs_mv rfl rfl ?_
      refine rs_skip rfl ?_
      refine rs_skip rfl ?_
      refine rs_skip rfl ?_
      refine rs_skip rfl ?_
      refine rs_skip rfl ?_
      refine rs_skip rfl ?_
      refine rs_pick rfl rfl rfl ?_
      refine rs_mv rfl rfl ?_
      refine rs_nil fun _ => ?_
      refine th_n ?_
      refine aw_cond rfl (fun _ => ?_) (fun h => by cases h)
      refine aw_seq ?_
      refine aw_reg ?_
      refine rs_mv rfl rfl ?_
      refine rs_mv rfl rfl ?_
      refine rs_build rfl rfl ?_
      refine rs_st rfl rfl rfl rfl rfl rfl rfl (Nat.le_of_ble_eq_true rfl) rfl rfl ?_
      refine rs_nil fun _ => ?_
      refine th_n ?_
      refine aw_ret ?_
      refine in_r ?_
      refine th_r ?_
      (simp only [spanS, bt q11, bt h31, if_true, if_false, ↓reduceIte, reduceCtorEq, or_true, true_or, or_false, false_or, and_true, true_and, and_false, false_and, Prod.mk.injEq] at h
       obtain ⟨rfl, rfl⟩ := h
       exact ret_pure rfl rfl rfl (.inr rfl))

def mcc21 : MC := (.seq (.reg [⟨(some 2), (.alloc 45 2 [(.int .i64 0), (.int .i64 0)]), none, []⟩] false) (.seq (.seq (.reg [⟨(some 3), (.mv (.t 0)), none, []⟩, ⟨(some 4), (.call 39 [(.t 3)]), none, [0]⟩] false) (.cond (.t 4) (.seq (.reg [⟨(some 5), (.build [(.int .i64 0), (.int .i64 0)] []), none, []⟩, ⟨none, (.st 2 (.t 2) (.t 5)), none, [0, 0]⟩] false) .ret) .skip)) (.seq (.reg [⟨(some 6), (.mv (.t 0)), none, []⟩, ⟨(some 7), (.nilc (.t 6)), none, [0]⟩, ⟨(some 8), (.fa 0 (.t 7)), none, [1]⟩, ⟨(some 9), (.fa 1 (.t 8)), none, [2]⟩, ⟨(some 10), (.ld false 1 (.t 9)), none, [3]⟩, ⟨(some 11), (.mv (.t 0)), none, []⟩, ⟨(some 12), (.call 19 [(.t 11)]), none, [5]⟩, ⟨(some 13), (.fld false 1 1 (.t 12)), none, [6]⟩, ⟨(some 14), (.build [(.int .i64 0), (.int .i64 0)] [(0, (1, (.t 10))), (1, (1, (.t 13)))]), none, [4, 7]⟩, ⟨none, (.st 2 (.t 2) (.t 14)), none, [8, 6, 0, 1, 2, 3, 4, 5, 6, 7, 8]⟩] true) .ret)))
theorem mcOkc21 : (match Try.f21.body with | some c => compC Try.prog 15 c | none => none) = some mcc21 := by kernel_rfl

theorem gc21 (s : St) (a b : Int) (hs : Sm s) (hl : Lst s) (h : spanS s = (a, b)) : FC Try.prog 21 [cellsC s] [] (.agg [iv s.sound, iv b]) [] false := by
  have hev := hs.every
  refine fc_run (nt := 15) Try.func21 rfl rfl mcOkc21 (Nat.le_of_ble_eq_true rfl) ?_
  delta mcc21
  refine aw_seq ?_
  refine aw_reg ?_
  refine rs_alloc rfl rfl rfl ?_
  refine rs_nil fun _ => ?_
  refine th_n ?_
  refine aw_seq ?_
  refine aw_seq ?_
  refine aw_reg ?_
  refine rs_mv rfl rfl ?_
  refine rs_calln [] rfl rfl (gc39 s (by omega)) (.cons (hv_same rfl) (.nil)) rfl ?_
  refine rs_nil fun _ => ?_
  refine th_n ?_
  refine aw_cond rfl (fun h => by cases h) (fun _ => ?_)
  refine aw_skip ?_
  refine th_n ?_
  refine aw_seq ?_
  refine aw_draw hmix ?_
  refine rs_mv rfl rfl ?_
  refine rs_nilc_r rfl rfl ?_
  refine rs_fa_r rfl rfl rfl ?_
  refine rs_fa_r rfl rfl rfl ?_
  refine rs_ld_r rfl rfl rfl ?_
  refine rs_mv rfl rfl ?_
  refine rs_calln [] rfl rfl (gc19 s a b hs hl h) (.cons (hv_same rfl) (.nil)) rfl ?_
  refine rs_fld rfl rfl rfl ?_
  refine rs_build rfl rfl ?_
  refine rs_st rfl rfl rfl rfl rfl rfl rfl (Nat.le_of_ble_eq_true rfl) rfl rfl ?_
  refine rs_nil ⟨by kernel_rfl, fun _ => ?_⟩
  refine th_n ?_
  refine aw_ret ?_
  exact ret_pure rfl rfl rfl (.inr rfl)

def mcc51 : MC := (.seq (.reg [⟨(some 2), (.mv (.c .nils)), none, []⟩] false) (.seq (.seq (.reg [⟨(some 3), (.mv (.t 0)), none, []⟩, ⟨(some 4), (.isnil true false (.t 3)), none, [0]⟩] false) (.cond (.t 4) (.seq (.reg [⟨(some 2), (.mv (.c .nils)), none, []⟩] false) .ret) .skip)) (.seq (.reg [⟨(some 5), (.bslice 3 1 [(.int .i64 0)] 0 []), none, []⟩, ⟨(some 6), (.mv (.t 0)), none, []⟩, ⟨(some 7), (.app 3 1 8 [(.int .i64 0)] (.t 5) (.t 6)), none, [0, 1]⟩, ⟨(some 2), (.mv (.t 7)), none, [2, 2, 0, 1, 2]⟩] false) .ret)))
theorem mcOkc51 : (match Try.f51.body with | some c => compC Try.prog 8 c | none => none) = some mcc51 := by kernel_rfl

theorem gc51_c (x : Int) (l : List Int) (hl : (x :: l).length ≤ 1000000) : FC Try.prog 51 [.rs 1 ((x :: l).map ci)] [] (.sl 7 0 (x :: l).length) [(7, rowO (x :: l))] false := by
  refine fc_run (nt := 8) Try.func51 rfl rfl mcOkc51 (Nat.le_of_ble_eq_true rfl) ?_
  delta mcc51
  refine aw_seq ?_
  refine aw_reg ?_
  refine rs_mv rfl rfl ?_
  refine rs_nil fun _ => ?_
  refine th_n ?_
  refine aw_seq ?_
  refine aw_seq ?_
  refine aw_reg ?_
  refine rs_mv rfl rfl ?_
  refine rs_nil_f rfl rfl (.inl ⟨_, _, _, rfl⟩) ?_
  refine rs_nil fun _ => ?_
  refine th_n ?_
  refine aw_cond rfl (fun h => by cases h) (fun _ => ?_)
  refine aw_skip ?_
  refine th_n ?_
  refine aw_seq ?_
  refine aw_reg ?_
  refine rs_bslice (l := []) (els := []) (fl := true) rfl rfl rfl rfl rfl rfl ?_
  refine rs_mv rfl rfl ?_
  refine rs_app_e (ys := x :: l) (f := ci) rfl rfl rfl rfl rfl rfl rfl (by decide) (fun _ => rfl) rfl (by first | omega | simp) (by first | omega | simp) (fun _ => rfl) ?_
  refine rs_mv rfl rfl ?_
  refine rs_nil fun _ => ?_
  refine th_n ?_
  refine aw_ret ?_
  exact ret_new rfl (rc_same rfl (.inr rfl)) (.keep rfl rfl (noROE_map (fun _ => rfl) _) .nil)

theorem gc51_n  : FC Try.prog 51 [.rs 1 (([] : List Int).map ci)] [] (.sl 7 0 0) [(7, rowO [])] false := by
  refine fc_run (nt := 8) Try.func51 rfl rfl mcOkc51 (Nat.le_of_ble_eq_true rfl) ?_
  delta mcc51
  refine aw_seq ?_
  refine aw_reg ?_
  refine rs_mv rfl rfl ?_
  refine rs_nil fun _ => ?_
  refine th_n ?_
  refine aw_seq ?_
  refine aw_seq ?_
  refine aw_reg ?_
  refine rs_mv rfl rfl ?_
  refine rs_nil_any rfl rfl (.inl ⟨_, rfl⟩) ?_
  refine rs_nil fun _ => ?_
  refine th_n ?_
  refine aw_condany rfl ?_ ?_
  · skip
    refine aw_seq ?_
    refine aw_reg ?_
    refine rs_mv rfl rfl ?_
    refine rs_nil fun _ => ?_
    refine th_n ?_
    refine aw_ret ?_
    refine th_r ?_
    exact ret_new rfl (rc_virt rfl rfl) (.virt rfl .nil)
  · skip
    refine aw_skip ?_
    refine th_n ?_
    refine aw_seq ?_
    refine aw_reg ?_
    refine rs_bslice (l := []) (els := []) (fl := true) rfl rfl rfl rfl rfl rfl ?_
    refine rs_mv rfl rfl ?_
    refine rs_app_e (ys := ([] : List Int)) (f := ci) rfl rfl rfl rfl rfl rfl rfl (by decide) (fun _ => rfl) rfl (by first | omega | simp) (by first | omega | simp) (fun _ => rfl) ?_
    refine rs_mv rfl rfl ?_
    refine rs_nil fun _ => ?_
    refine th_n ?_
    refine aw_ret ?_
    exact ret_new rfl (rc_same rfl (.inr rfl)) (.keep rfl rfl (noROE_map (fun _ => rfl) _) .nil)

theorem gc51 (l : List Int) (hl : l.length ≤ 1000000) : FC Try.prog 51 [ints l] [] (.sl 7 0 l.length) [(7, rowO l)] false := by
  cases l with
  | nil => exact gc51_n
  | cons x l => exact gc51_c x l hl

def mcc26 : MC := (.seq (.reg [⟨(some 2), (.mv (.c .nils)), none, []⟩] false) (.seq (.seq (.reg [⟨(some 3), (.mv (.t 0)), none, []⟩, ⟨(some 4), (.call 39 [(.t 3)]), none, [0]⟩] false) (.cond (.t 4) (.seq (.reg [⟨(some 2), (.mv (.c .nils)), none, []⟩] false) .ret) .skip)) (.seq (.reg [⟨(some 5), (.mv (.t 0)), none, []⟩, ⟨(some 6), (.nilc (.t 5)), none, [0]⟩, ⟨(some 7), (.fa 0 (.t 6)), none, [1]⟩, ⟨(some 8), (.fa 0 (.t 7)), none, [2]⟩, ⟨(some 9), (.ld false 1 (.t 8)), none, [3]⟩, ⟨(some 10), (.call 51 [(.t 9)]), none, [4]⟩, ⟨(some 2), (.mv (.t 10)), none, [5, 5, 0, 1, 2, 3, 4, 5]⟩] false) .ret)))
theorem mcOkc26 : (match Try.f26.body with | some c => compC Try.prog 11 c | none => none) = some mcc26 := by kernel_rfl

theorem gc26 (s : St) (hs : Sm s) : FC Try.prog 26 [cellsC s] [] (ints s.rs) [] false := by
  have hev := hs.every
  refine fc_run (nt := 11) Try.func26 rfl rfl mcOkc26 (Nat.le_of_ble_eq_true rfl) ?_
  delta mcc26
  refine aw_seq ?_
  refine aw_reg ?_
  refine rs_mv rfl rfl ?_
  refine rs_nil fun _ => ?_
  refine th_n ?_
  refine aw_seq ?_
  refine aw_seq ?_
  refine aw_reg ?_
  refine rs_mv rfl rfl ?_
  refine rs_calln [] rfl rfl (gc39 s (by omega)) (.cons (hv_same rfl) (.nil)) rfl ?_
  refine rs_nil fun _ => ?_
  refine th_n ?_
  refine aw_cond rfl (fun h => by cases h) (fun _ => ?_)
  refine aw_skip ?_
  refine th_n ?_
  refine aw_seq ?_
  refine aw_reg ?_
  refine rs_mv rfl rfl ?_
  refine rs_nilc_r rfl rfl ?_
  refine rs_fa_r rfl rfl rfl ?_
  refine rs_fa_r rfl rfl rfl ?_
  refine rs_ld_r rfl rfl rfl ?_
  refine rs_calln [] rfl rfl (gc51 s.rs hs.len) (.cons (hv_same rfl) (.nil)) rfl ?_
  refine rs_mv rfl rfl ?_
  refine rs_nil fun _ => ?_
  refine th_n ?_
  refine aw_ret ?_
  exact ret_new rfl (rc_frz rfl rfl rfl (fun _ => rfl)) .nil

def mcc25 : MC := (.seq (.reg [⟨(some 4), (.mv (.c (.bool false))), none, []⟩] false) (.seq (.seq (.reg [⟨(some 6), (.mv (.t 0)), none, []⟩, ⟨(some 7), (.len (.t 6)), none, [0]⟩, ⟨(some 8), (.mv (.t 1)), none, []⟩, ⟨(some 9), (.len (.t 8)), none, [2]⟩, ⟨(some 10), (.bin .neq (.t 7) (.t 9)), none, [1, 3]⟩] false) (.cond (.t 10) (.seq (.reg [⟨(some 4), (.mv (.c (.bool false))), none, []⟩] false) .ret) .skip)) (.seq (.seq (.reg [⟨(some 5), (.mv (.c (.int .i64 0))), none, []⟩] false) (.block 0 (.loop (.seq (.seq (.reg [⟨(some 11), (.mv (.t 5)), none, []⟩, ⟨(some 12), (.mv (.t 0)), none, []⟩, ⟨(some 13), (.len (.t 12)), none, [1]⟩, ⟨(some 14), (.bin .lss (.t 11) (.t 13)), none, [0, 2]⟩] false) (.cond (.t 14) .skip (.exit 0))) (.seq (.block 1 (.seq (.reg [⟨(some 17), (.mv (.t 0)), none, []⟩, ⟨(some 18), (.mv (.t 5)), none, []⟩, ⟨(some 19), (.ixsl 1 (.t 17) (.t 18)), none, [0, 1]⟩, ⟨(some 20), (.ld false 1 (.t 19)), none, [2]⟩, ⟨(some 21), (.mv (.t 1)), none, []⟩, ⟨(some 22), (.mv (.t 5)), none, []⟩, ⟨(some 23), (.ixsl 1 (.t 21) (.t 22)), none, [4, 5]⟩, ⟨(some 24), (.ld false 1 (.t 23)), none, [6]⟩, ⟨(some 25), (.bin .neq (.t 20) (.t 24)), none, [3, 7]⟩] true) (.cond (.t 25) (.seq (.reg [⟨(some 4), (.mv (.c (.bool false))), none, []⟩] false) .ret) .skip))) (.reg [⟨(some 15), (.mv (.t 5)), none, []⟩, ⟨(some 16), (.bin .add (.t 15) (.c (.int .i64 1))), none, [0]⟩, ⟨(some 5), (.mv (.t 16)), none, [1, 0, 1]⟩] false)))))) (.seq (.reg [⟨(some 4), (.mv (.c (.bool true))), none, []⟩] false) .ret))))
theorem mcOkc25 : (match Try.f25.body with | some c => compC Try.prog 26 c | none => none) = some mcc25 := by kernel_rfl

theorem gc25 (xs ys : List Int) (hx : xs.length ≤ 4611686018427387904) : FC Try.prog 25 [ints xs, ints ys] [] (.bool (decide (xs = ys))) [] false := by
  refine fc_run (nt := 26) Try.func25 rfl rfl mcOkc25 (Nat.le_of_ble_eq_true rfl) ?_
  delta mcc25
  refine aw_seq ?_
  refine aw_reg ?_
  refine rs_mv rfl rfl ?_
  refine rs_nil fun _ => ?_
  refine th_n ?_
  refine aw_seq ?_
  refine aw_seq ?_
  refine aw_reg ?_
  refine rs_mv rfl rfl ?_
  refine rs_len_m rfl rfl ?_
  refine rs_mv rfl rfl ?_
  refine rs_len_m rfl rfl ?_
  refine rs_neq rfl rfl rfl ?_
  refine rs_nil fun _ => ?_
  refine th_n ?_
  refine aw_cond rfl (fun h10 => ?_) (fun h10 => ?_)
  · replace h10 := of_decide_eq_true h10
    refine aw_seq ?_
    refine aw_reg ?_
    refine rs_mv rfl rfl ?_
    refine rs_nil fun _ => ?_
    refine th_n ?_
    refine aw_ret ?_
    refine th_r ?_
    exact ret_pure rfl (congrArg AV.bool (Eq.symm (decide_eq_false (fun e => by subst e; omega)))) rfl (.inr rfl)
  · replace h10 := of_decide_eq_false h10
    refine aw_skip ?_
    refine th_n ?_
    refine aw_seq ?_
    refine aw_seq ?_
    refine aw_reg ?_
    refine rs_mv rfl rfl ?_
    refine rs_nil fun _ => ?_
    refine th_n ?_
    refine aw_block ?_
    refine aw_fam (α := Nat) (fun k => xs.length - k) (fun k => [(0, ints xs), (1, ints ys), (5, .int .i64 (k : Int))]) (fun _ => []) (fun k => k ≤ xs.length ∧ ∀ j, j < k → xs[j]? = ys[j]?) 0 ⟨by omega, fun j h => by omega⟩
      (weak_to (.cons rfl (rc_same rfl (.inl rfl)) (.cons rfl (rc_same rfl (.inl rfl)) (.cons rfl (rc_same rfl (.inl rfl)) (.nil)))) .nil (fun i h => by cases h)) ?_
    rintro k ⟨hk, hj⟩
    have hlen : xs.length = ys.length := by omega
    refine aw_seq ?_
    refine aw_seq ?_
    refine aw_reg ?_
    refine rs_mv rfl rfl ?_
    refine rs_mv rfl rfl ?_
    refine rs_len_m rfl rfl ?_
    refine rs_lss rfl rfl rfl ?_
    refine rs_nil fun _ => ?_
    refine th_n ?_
    refine aw_cond rfl (fun h14 => ?_) (fun h14 => ?_)
    · replace h14 := of_decide_eq_true h14
      refine aw_skip ?_
      refine th_n ?_
      refine aw_seq ?_
      refine aw_block ?_
      refine aw_seq ?_
      refine aw_draw hmix ?_
      refine rs_mv rfl rfl ?_
      refine rs_mv rfl rfl ?_
      refine rs_ix_m rfl rfl rfl (by omega) ?_
      refine rs_ld_r rfl rfl rfl ?_
      refine rs_mv rfl rfl ?_
      refine rs_mv rfl rfl ?_
      refine rs_ix_m rfl rfl rfl (by omega) ?_
      refine rs_ld_r rfl rfl rfl ?_
      refine rs_neq rfl rfl rfl ?_
      refine rs_nil ⟨by kernel_rfl, fun _ => ?_⟩
      refine th_n ?_
      refine aw_cond rfl (fun h25 => ?_) (fun h25 => ?_)
      · replace h25 := of_decide_eq_true h25
        refine aw_seq ?_
        refine aw_reg ?_
        refine rs_mv rfl rfl ?_
        refine rs_nil fun _ => ?_
        refine th_n ?_
        refine aw_ret ?_
        refine in_r ?_
        refine th_r ?_
        refine th_r ?_
        refine in_r ?_
        refine th_r ?_
        exact ret_pure rfl (congrArg AV.bool (Eq.symm (decide_eq_false (fun e => by subst e; omega)))) rfl (.inr rfl)
      · replace h25 := of_decide_eq_false h25
        refine aw_skip ?_
        refine in_n ?_
        refine th_n ?_
        refine aw_reg ?_
        refine rs_mv rfl rfl ?_
        refine rs_add rfl rfl rfl (by omega) ?_
        refine rs_mv rfl rfl ?_
        refine rs_nil fun _ => ?_
        refine th_n ?_
        refine ⟨k + 1, ⟨by omega, fun j hj1 => ?_⟩, by omega, weak_to (.cons rfl (rc_same rfl (.inl rfl)) (.cons rfl (rc_same rfl (.inl rfl)) (.cons rfl (rc_same rfl (.inl rfl)) (.nil)))) .nil (fun i h => by cases h)⟩
        by_cases e : j = k
        · subst e; rw [List.getElem?_eq_getElem (by omega), List.getElem?_eq_getElem (by omega)]; exact congrArg some (by omega)
        · exact hj j (by omega)
    · replace h14 := of_decide_eq_false h14
      refine aw_exit ?_
      refine th_e ?_
      refine th_e ?_
      refine in_hit ?_
      refine th_n ?_
      refine aw_seq ?_
      refine aw_reg ?_
      refine rs_mv rfl rfl ?_
      refine rs_nil fun _ => ?_
      refine th_n ?_
      refine aw_ret ?_
      first
        | exact ret_pure rfl (congrArg AV.bool (Eq.symm (decide_eq_false (fun e => by subst e; omega)))) rfl (.inr rfl)
        | exact ret_pure rfl (congrArg AV.bool (Eq.symm (decide_eq_true (List.ext_getElem? fun j => by
            by_cases e : j < k
            · exact hj j e
            · rw [List.getElem?_eq_none (by omega), List.getElem?_eq_none (by omega)])))) rfl (.inr rfl)

theorem gc17n  : FC Try.prog 17 [.nilp] [] (.tup [iv 0, iv (-1)]) [] false := by
  refine fc_run (nt := 24) Try.func17 rfl rfl mcOkc17 (Nat.le_of_ble_eq_true rfl) ?_
  delta mcc17
  refine aw_seq ?_
  refine aw_reg ?_
  refine rs_mv rfl rfl ?_
  refine rs_mv rfl rfl ?_
  refine rs_nil fun _ => ?_
  refine th_n ?_
  refine aw_seq ?_
  refine aw_block ?_
  refine aw_seq ?_
  refine aw_reg ?_
  refine rs_mv rfl rfl ?_
  refine rs_calln [] rfl rfl (gc39n) (.cons (hv_same rfl) (.nil)) rfl ?_
  refine rs_mv rfl rfl ?_
  refine rs_nil fun _ => ?_
  refine th_n ?_
  refine aw_cond rfl (fun _ => ?_) (fun h => by cases h)
  refine aw_seq ?_
  refine aw_reg ?_
  refine rs_mv rfl rfl ?_
  refine rs_mv rfl rfl ?_
  refine rs_nil fun _ => ?_
  refine th_n ?_
  refine aw_ret ?_
  refine in_r ?_
  refine th_r ?_
  exact ret_pure rfl rfl rfl (.inr rfl)

theorem gc19n  : FC Try.prog 19 [.nilp] [] (.agg [iv 0, iv 0]) [] false := by
  refine fc_run (nt := 57) Try.func19 rfl rfl mcOkc19 (Nat.le_of_ble_eq_true rfl) ?_
  delta mcc19
  refine aw_seq ?_
  refine aw_reg ?_
  refine rs_alloc rfl rfl rfl ?_
  refine rs_nil fun _ => ?_
  refine th_n ?_
  refine aw_seq ?_
  refine aw_seq ?_
  refine aw_reg ?_
  refine rs_mv rfl rfl ?_
  refine rs_calln [] rfl rfl (gc39n) (.cons (hv_same rfl) (.nil)) rfl ?_
  refine rs_nil fun _ => ?_
  refine th_n ?_
  refine aw_cond rfl (fun _ => ?_) (fun h => by cases h)
  refine aw_seq ?_
  refine aw_reg ?_
  refine rs_build rfl rfl ?_
  refine rs_st rfl rfl rfl rfl rfl rfl rfl (Nat.le_of_ble_eq_true rfl) rfl rfl ?_
  refine rs_nil fun _ => ?_
  refine th_n ?_
  refine aw_ret ?_
  refine th_r ?_
  exact ret_pure rfl rfl rfl (.inr rfl)

theorem gc21n  : FC Try.prog 21 [.nilp] [] (.agg [iv 0, iv 0]) [] false := by
  refine fc_run (nt := 15) Try.func21 rfl rfl mcOkc21 (Nat.le_of_ble_eq_true rfl) ?_
  delta mcc21
  refine aw_seq ?_
  refine aw_reg ?_
  refine rs_alloc rfl rfl rfl ?_
  refine rs_nil fun _ => ?_
  refine th_n ?_
  refine aw_seq ?_
  refine aw_seq ?_
  refine aw_reg ?_
  refine rs_mv rfl rfl ?_
  refine rs_calln [] rfl rfl (gc39n) (.cons (hv_same rfl) (.nil)) rfl ?_
  refine rs_nil fun _ => ?_
  refine th_n ?_
  refine aw_cond rfl (fun _ => ?_) (fun h => by cases h)
  refine aw_seq ?_
  refine aw_reg ?_
  refine rs_build rfl rfl ?_
  refine rs_st rfl rfl rfl rfl rfl rfl rfl (Nat.le_of_ble_eq_true rfl) rfl rfl ?_
  refine rs_nil fun _ => ?_
  refine th_n ?_
  refine aw_ret ?_
  refine th_r ?_
  exact ret_pure rfl rfl rfl (.inr rfl)

theorem gc23n  : FC Try.prog 23 [.nilp] [] (iv 0) [] false := by
  refine fc_run (nt := 9) Try.func23 rfl rfl mcOkc23 (Nat.le_of_ble_eq_true rfl) ?_
  delta mcc23
  refine aw_seq ?_
  refine aw_reg ?_
  refine rs_mv rfl rfl ?_
  refine rs_nil fun _ => ?_
  refine th_n ?_
  refine aw_seq ?_
  refine aw_seq ?_
  refine aw_reg ?_
  refine rs_mv rfl rfl ?_
  refine rs_calln [] rfl rfl (gc39n) (.cons (hv_same rfl) (.nil)) rfl ?_
  refine rs_nil fun _ => ?_
  refine th_n ?_
  refine aw_cond rfl (fun _ => ?_) (fun h => by cases h)
  refine aw_seq ?_
  refine aw_reg ?_
  refine rs_mv rfl rfl ?_
  refine rs_nil fun _ => ?_
  refine th_n ?_
  refine aw_ret ?_
  refine th_r ?_
  exact ret_pure rfl rfl rfl (.inr rfl)

theorem gc26n  : FC Try.prog 26 [.nilp] [] (ints []) [] false := by
  refine fc_run (nt := 11) Try.func26 rfl rfl mcOkc26 (Nat.le_of_ble_eq_true rfl) ?_
  delta mcc26
  refine aw_seq ?_
  refine aw_reg ?_
  refine rs_mv rfl rfl ?_
  refine rs_nil fun _ => ?_
  refine th_n ?_
  refine aw_seq ?_
  refine aw_seq ?_
  refine aw_reg ?_
  refine rs_mv rfl rfl ?_
  refine rs_calln [] rfl rfl (gc39n) (.cons (hv_same rfl) (.nil)) rfl ?_
  refine rs_nil fun _ => ?_
  refine th_n ?_
  refine aw_cond rfl (fun _ => ?_) (fun h => by cases h)
  refine aw_seq ?_
  refine aw_reg ?_
  refine rs_mv rfl rfl ?_
  refine rs_nil fun _ => ?_
  refine th_n ?_
  refine aw_ret ?_
  refine th_r ?_
  exact ret_new rfl rc_nils .nil

theorem gc15n  (k n : Int) : FC Try.prog 15 [.nilp, .agg [iv k, iv n]] [] (iv 1) [] false := by
  refine fc_run (nt := 82) Try.func15 rfl rfl mcOkc15 (Nat.le_of_ble_eq_true rfl) ?_
  delta mcc15
  refine aw_seq ?_
  refine aw_reg ?_
  refine rs_box rfl rfl rfl rfl rfl rfl ?_
  refine rs_mv rfl rfl ?_
  refine rs_nil fun _ => ?_
  refine th_n ?_
  refine aw_seq ?_
  refine aw_seq ?_
  refine aw_reg ?_
  refine rs_mv rfl rfl ?_
  refine rs_calln [] rfl rfl (gc39n) (.cons (hv_same rfl) (.nil)) rfl ?_
  refine rs_nil fun _ => ?_
  refine th_n ?_
  refine aw_cond rfl (fun _ => ?_) (fun h => by cases h)
  refine aw_seq ?_
  refine aw_reg ?_
  refine rs_mv rfl rfl ?_
  refine rs_nil fun _ => ?_
  refine th_n ?_
  refine aw_ret ?_
  refine th_r ?_
  exact ret_pure rfl rfl rfl (.inr rfl)

theorem gc17z (s : St) (h : s.every = 0) : FC Try.prog 17 [cellsC s] [] (.tup [iv 0, iv (-1)]) [] false := by
  refine fc_run (nt := 24) Try.func17 rfl rfl mcOkc17 (Nat.le_of_ble_eq_true rfl) ?_
  delta mcc17
  refine aw_seq ?_
  refine aw_reg ?_
  refine rs_mv rfl rfl ?_
  refine rs_mv rfl rfl ?_
  refine rs_nil fun _ => ?_
  refine th_n ?_
  refine aw_seq ?_
  refine aw_block ?_
  refine aw_seq ?_
  refine aw_reg ?_
  refine rs_mv rfl rfl ?_
  refine rs_calln [] rfl rfl (gc39z s h) (.cons (hv_same rfl) (.nil)) rfl ?_
  refine rs_mv rfl rfl ?_
  refine rs_nil fun _ => ?_
  refine th_n ?_
  refine aw_cond rfl (fun _ => ?_) (fun h => by cases h)
  refine aw_seq ?_
  refine aw_reg ?_
  refine rs_mv rfl rfl ?_
  refine rs_mv rfl rfl ?_
  refine rs_nil fun _ => ?_
  refine th_n ?_
  refine aw_ret ?_
  refine in_r ?_
  refine th_r ?_
  exact ret_pure rfl rfl rfl (.inr rfl)

theorem gc19z (s : St) (h : s.every = 0) : FC Try.prog 19 [cellsC s] [] (.agg [iv 0, iv 0]) [] false := by
  refine fc_run (nt := 57) Try.func19 rfl rfl mcOkc19 (Nat.le_of_ble_eq_true rfl) ?_
  delta mcc19
  refine aw_seq ?_
  refine aw_reg ?_
  refine rs_alloc rfl rfl rfl ?_
  refine rs_nil fun _ => ?_
  refine th_n ?_
  refine aw_seq ?_
  refine aw_seq ?_
  refine aw_reg ?_
  refine rs_mv rfl rfl ?_
  refine rs_calln [] rfl rfl (gc39z s h) (.cons (hv_same rfl) (.nil)) rfl ?_
  refine rs_nil fun _ => ?_
  refine th_n ?_
  refine aw_cond rfl (fun _ => ?_) (fun h => by cases h)
  refine aw_seq ?_
  refine aw_reg ?_
  refine rs_build rfl rfl ?_
  refine rs_st rfl rfl rfl rfl rfl rfl rfl (Nat.le_of_ble_eq_true rfl) rfl rfl ?_
  refine rs_nil fun _ => ?_
  refine th_n ?_
  refine aw_ret ?_
  refine th_r ?_
  exact ret_pure rfl rfl rfl (.inr rfl)

theorem gc21z (s : St) (h : s.every = 0) : FC Try.prog 21 [cellsC s] [] (.agg [iv 0, iv 0]) [] false := by
  refine fc_run (nt := 15) Try.func21 rfl rfl mcOkc21 (Nat.le_of_ble_eq_true rfl) ?_
  delta mcc21
  refine aw_seq ?_
  refine aw_reg ?_
  refine rs_alloc rfl rfl rfl ?_
  refine rs_nil fun _ => ?_
  refine th_n ?_
  refine aw_seq ?_
  refine aw_seq ?_
  refine aw_reg ?_
  refine rs_mv rfl rfl ?_
  refine rs_calln [] rfl rfl (gc39z s h) (.cons (hv_same rfl) (.nil)) rfl ?_
  refine rs_nil fun _ => ?_
  refine th_n ?_
  refine aw_cond rfl (fun _ => ?_) (fun h => by cases h)
  refine aw_seq ?_
  refine aw_reg ?_
  refine rs_build rfl rfl ?_
  refine rs_st rfl rfl rfl rfl rfl rfl rfl (Nat.le_of_ble_eq_true rfl) rfl rfl ?_
  refine rs_nil fun _ => ?_
  refine th_n ?_
  refine aw_ret ?_
  refine th_r ?_
  exact ret_pure rfl rfl rfl (.inr rfl)

theorem gc23z (s : St) (h : s.every = 0) : FC Try.prog 23 [cellsC s] [] (iv 0) [] false := by
  refine fc_run (nt := 9) Try.func23 rfl rfl mcOkc23 (Nat.le_of_ble_eq_true rfl) ?_
  delta mcc23
  refine aw_seq ?_
  refine aw_reg ?_
  refine rs_mv rfl rfl ?_
  refine rs_nil fun _ => ?_
  refine th_n ?_
  refine aw_seq ?_
  refine aw_seq ?_
  refine aw_reg ?_
  refine rs_mv rfl rfl ?_
  refine rs_calln [] rfl rfl (gc39z s h) (.cons (hv_same rfl) (.nil)) rfl ?_
  refine rs_nil fun _ => ?_
  refine th_n ?_
  refine aw_cond rfl (fun _ => ?_) (fun h => by cases h)
  refine aw_seq ?_
  refine aw_reg ?_
  refine rs_mv rfl rfl ?_
  refine rs_nil fun _ => ?_
  refine th_n ?_
  refine aw_ret ?_
  refine th_r ?_
  exact ret_pure rfl rfl rfl (.inr rfl)

theorem gc26z (s : St) (h : s.every = 0) : FC Try.prog 26 [cellsC s] [] (ints []) [] false := by
  refine fc_run (nt := 11) Try.func26 rfl rfl mcOkc26 (Nat.le_of_ble_eq_true rfl) ?_
  delta mcc26
  refine aw_seq ?_
  refine aw_reg ?_
  refine rs_mv rfl rfl ?_
  refine rs_nil fun _ => ?_
  refine th_n ?_
  refine aw_seq ?_
  refine aw_seq ?_
  refine aw_reg ?_
  refine rs_mv rfl rfl ?_
  refine rs_calln [] rfl rfl (gc39z s h) (.cons (hv_same rfl) (.nil)) rfl ?_
  refine rs_nil fun _ => ?_
  refine th_n ?_
  refine aw_cond rfl (fun _ => ?_) (fun h => by cases h)
  refine aw_seq ?_
  refine aw_reg ?_
  refine rs_mv rfl rfl ?_
  refine rs_nil fun _ => ?_
  refine th_n ?_
  refine aw_ret ?_
  refine th_r ?_
  exact ret_new rfl rc_nils .nil

theorem gc15z (s : St) (h : s.every = 0) (k n : Int) : FC Try.prog 15 [cellsC s, .agg [iv k, iv n]] [] (iv 1) [] false := by
  refine fc_run (nt := 82) Try.func15 rfl rfl mcOkc15 (Nat.le_of_ble_eq_true rfl) ?_
  delta mcc15
  refine aw_seq ?_
  refine aw_reg ?_
  refine rs_box rfl rfl rfl rfl rfl rfl ?_
  refine rs_mv rfl rfl ?_
  refine rs_nil fun _ => ?_
  refine th_n ?_
  refine aw_seq ?_
  refine aw_seq ?_
  refine aw_reg ?_
  refine rs_mv rfl rfl ?_
  refine rs_calln [] rfl rfl (gc39z s h) (.cons (hv_same rfl) (.nil)) rfl ?_
  refine rs_nil fun _ => ?_
  refine th_n ?_
  refine aw_cond rfl (fun _ => ?_) (fun h => by cases h)
  refine aw_seq ?_
  refine aw_reg ?_
  refine rs_mv rfl rfl ?_
  refine rs_nil fun _ => ?_
  refine th_n ?_
  refine aw_ret ?_
  refine th_r ?_
  exact ret_pure rfl rfl rfl (.inr rfl)

end Go.Proofs.Ytigfcmcdjfmieaa
