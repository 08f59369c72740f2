/-
  Walks: A7.
-/
import Derived.Test.YtadjdnhnbkcakaaA6
namespace Go.Proofs.Ytadjdnhnbkcakaa
open Go.RowKit

/-- The least and the greatest values out of the limits. -/
def lowL (x : List Int) (n : Nat) : List Int := (List.range n).map fun i => x.getD i 0
def highL (x : List Int) (n : Nat) : List Int := (List.range n).map fun i => x.getD (6 + i) 0
theorem getD_setL : ∀ (cs l : List Int) (o i : Nat), o + cs.length ≤ l.length → (setL l o cs).getD i 0 = if o ≤ i ∧ i < o + cs.length then cs.getD (i - o) 0 else l.getD i 0
  | [], l, o, i, h => by simp [setL]; omega
  | c :: cs, l, o, i, h => by
    simp only [List.length_cons] at h
    rw [setL, getD_setL cs (l.set o c) (o + 1) i (by simp; omega)]
    by_cases h1 : i = o
    · subst h1
      rw [if_neg (by omega), if_pos (by simp)]
      simp [show i < l.length by omega]
    · by_cases h2 : o + 1 ≤ i ∧ i < o + 1 + cs.length
      · rw [if_pos h2, if_pos (by simp only [List.length_cons]; omega), show i - o = (i - (o + 1)) + 1 by omega]
        simp
      · rw [if_neg h2, if_neg (by simp only [List.length_cons]; omega)]
        simp only [List.getD_eq_getElem?_getD]
        rw [List.getElem?_set_ne (by omega)]
theorem lowL_of (lo hi : List Int) (n : Nat) (h1 : lo.length = n) (h2 : hi.length = n) (hn : n ≤ 6) : lowL (ofS lo hi) n = lo := by
  apply List.ext_getElem (by simp [lowL, h1])
  intro i h3 h4
  simp only [lowL, List.getElem_map, List.getElem_range, ofS]
  rw [getD_setL _ _ _ _ (by simp [length_setL]; omega), if_neg (by omega), getD_setL _ _ _ _ (by simp; omega), if_pos (by omega)]
  simp [h4]
theorem highL_of (lo hi : List Int) (n : Nat) (h1 : lo.length = n) (h2 : hi.length = n) (hn : n ≤ 6) : highL (ofS lo hi) n = hi := by
  apply List.ext_getElem (by simp [highL, h2])
  intro i h3 h4
  simp only [highL, List.getElem_map, List.getElem_range, ofS]
  rw [getD_setL _ _ _ _ (by simp [length_setL]; omega), if_pos (by omega)]
  simp [h4]
theorem ofS_12 (lo hi : List Int) (n : Nat) (h1 : lo.length = n) (h2 : hi.length = n) (hn : n ≤ 6) : (ofS lo hi).getD 12 0 = (n : Int) := by
  rw [ofS, getD_setL _ _ _ _ (by simp [length_setL]; omega), if_neg (by omega), getD_setL _ _ _ _ (by simp; omega), if_neg (by omega)]
  simp [h1]
theorem lowL_step (s : Nat) (x : List Int) (r : Rd) (n : Nat) (hx : x.length = 13) (hn : n ≤ 6) (h : 0 ≤ r.of_ ∧ r.of_ < n) (hh : hasS s r.probe.toNat = false) : (lowL x n).set r.of_.toNat (max ((lowL x n)[r.of_.toNat]'(by simp [lowL]; omega)) r.lo) = lowL (wstep s x r) n := by
  apply List.ext_getElem (by simp [lowL])
  intro i h1 h2
  have hi : i < n := by simpa [lowL] using h2
  rw [List.getElem_set]
  simp only [lowL, List.getElem_map, List.getElem_range, wstep, hh, Bool.false_eq_true, if_false, List.getD_eq_getElem?_getD]
  rw [List.getElem?_set_ne (by omega)]
  split
  · rename_i e; subst e; rw [List.getElem?_set_self (by omega)]; rfl
  · rename_i e; rw [List.getElem?_set_ne e]
theorem highL_step (s : Nat) (x : List Int) (r : Rd) (n : Nat) (hx : x.length = 13) (hn : n ≤ 6) (h : 0 ≤ r.of_ ∧ r.of_ < n) (hh : hasS s r.probe.toNat = false) : (highL x n).set r.of_.toNat (min ((highL x n)[r.of_.toNat]'(by simp [highL]; omega)) r.hi) = highL (wstep s x r) n := by
  apply List.ext_getElem (by simp [highL])
  intro i h1 h2
  have hi : i < n := by simpa [highL] using h2
  rw [List.getElem_set]
  simp only [highL, List.getElem_map, List.getElem_range, wstep, hh, Bool.false_eq_true, if_false, List.getD_eq_getElem?_getD]
  split
  · rename_i e; subst e; rw [List.getElem?_set_self (by simp; omega)]; rfl
  · rename_i e; rw [List.getElem?_set_ne (by omega), List.getElem?_set_ne (by omega)]
def lowR (x : List Int) (n : Nat) : List Int := if emptyS x n = true then [] else lowL x n
def highR (x : List Int) (n : Nat) : List Int := if emptyS x n = true then [] else highL x n
theorem has_bits_w (s : Nat) (hs : s < 256) (p : Int) (h0 : 0 ≤ p) (h8 : p < 8) : FC Try.prog 55 [.int .i64 (s : Int), .int .i64 p] [] (.bool (hasS s p.toNat)) [] false := by
  have := fc55 s p.toNat hs (by omega)
  rwa [Int.toNat_of_nonneg h0] at this

def mc52 : MC := (.seq (.reg [⟨(some 8), (.mv (.c .nils)), none, []⟩, ⟨(some 9), (.mv (.c .nils)), none, [0]⟩, ⟨(some 10), (.mv (.c (.bool false))), none, [1]⟩] false) (.seq (.reg [⟨(some 15), (.bslice 3 1 [(.int .i64 0)] 0 []), none, []⟩, ⟨(some 16), (.mv (.t 1)), none, []⟩, ⟨(some 17), (.app 3 1 8 [(.int .i64 0)] (.t 15) (.t 16)), none, [0, 1]⟩, ⟨(some 11), (.mv (.t 17)), none, [2, 2, 0, 1, 2]⟩] false) (.seq (.reg [⟨(some 18), (.bslice 3 1 [(.int .i64 0)] 0 []), none, []⟩, ⟨(some 19), (.mv (.t 2)), none, []⟩, ⟨(some 20), (.app 3 1 8 [(.int .i64 0)] (.t 18) (.t 19)), none, [0, 1]⟩, ⟨(some 12), (.mv (.t 20)), none, [2, 2, 0, 1, 2]⟩] false) (.seq (.seq (.reg [⟨(some 13), (.mv (.c (.int .i64 0))), none, []⟩] false) (.block 0 (.loop (.seq (.seq (.reg [⟨(some 21), (.mv (.t 13)), none, []⟩, ⟨(some 22), (.mv (.t 0)), none, []⟩, ⟨(some 23), (.len (.t 22)), none, [1]⟩, ⟨(some 24), (.bin .lss (.t 21) (.t 23)), none, [0, 2]⟩] false) (.cond (.t 24) .skip (.exit 0))) (.seq (.block 1 (.seq (.reg [⟨(some 27), (.mv (.t 3)), none, []⟩, ⟨(some 28), (.mv (.t 0)), none, []⟩, ⟨(some 29), (.mv (.t 13)), none, []⟩, ⟨(some 30), (.ixsl 4 (.t 28) (.t 29)), none, [1, 2]⟩, ⟨(some 31), (.fa 0 (.t 30)), none, [3]⟩, ⟨(some 32), (.ld false 1 (.t 31)), none, [4]⟩, ⟨(some 33), (.call 55 [(.t 27), (.t 32)]), none, [0, 5]⟩, ⟨(some 34), (.un .not (.t 33)), none, [6]⟩] false) (.cond (.t 34) (.seq (.reg [⟨(some 35), (.mv (.t 11)), none, []⟩, ⟨(some 36), (.mv (.t 0)), none, []⟩, ⟨(some 37), (.mv (.t 13)), none, []⟩, ⟨(some 38), (.ixsl 4 (.t 36) (.t 37)), none, [1, 2]⟩, ⟨(some 39), (.fa 1 (.t 38)), none, [3]⟩, ⟨(some 40), (.ld false 1 (.t 39)), none, [4]⟩, ⟨(some 41), (.mv (.t 11)), none, []⟩, ⟨(some 42), (.mv (.t 0)), none, []⟩, ⟨(some 43), (.mv (.t 13)), none, []⟩, ⟨(some 44), (.ixsl 4 (.t 42) (.t 43)), none, [7, 8]⟩, ⟨(some 45), (.fa 1 (.t 44)), none, [9]⟩, ⟨(some 46), (.ld false 1 (.t 45)), none, [10]⟩, ⟨(some 47), (.ixsl 1 (.t 41) (.t 46)), none, [6, 11]⟩, ⟨(some 48), (.ld false 1 (.t 47)), none, [12]⟩, ⟨(some 49), (.mv (.t 0)), none, []⟩, ⟨(some 50), (.mv (.t 13)), none, []⟩, ⟨(some 51), (.ixsl 4 (.t 49) (.t 50)), none, [14, 15]⟩, ⟨(some 52), (.fa 2 (.t 51)), none, [16]⟩, ⟨(some 53), (.ld false 1 (.t 52)), none, [17]⟩, ⟨(some 54), (.mx (.t 48) (.t 53)), none, [13, 18]⟩, ⟨(some 55), (.ixsl 1 (.t 35) (.t 40)), none, [0, 5, 0, 1, 2, 3, 4, 5, 6, 7, 8, 9, 10, 11, 12, 13, 14, 15, 16, 17, 18, 19]⟩, ⟨none, (.st 1 (.t 55) (.t 54)), none, [20, 19, 0, 1, 2, 3, 4, 5, 6, 7, 8, 9, 10, 11, 12, 13, 14, 15, 16, 17, 18, 19]⟩] true) (.reg [⟨(some 56), (.mv (.t 12)), none, []⟩, ⟨(some 57), (.mv (.t 0)), none, []⟩, ⟨(some 58), (.mv (.t 13)), none, []⟩, ⟨(some 59), (.ixsl 4 (.t 57) (.t 58)), none, [1, 2]⟩, ⟨(some 60), (.fa 1 (.t 59)), none, [3]⟩, ⟨(some 61), (.ld false 1 (.t 60)), none, [4]⟩, ⟨(some 62), (.mv (.t 12)), none, []⟩, ⟨(some 63), (.mv (.t 0)), none, []⟩, ⟨(some 64), (.mv (.t 13)), none, []⟩, ⟨(some 65), (.ixsl 4 (.t 63) (.t 64)), none, [7, 8]⟩, ⟨(some 66), (.fa 1 (.t 65)), none, [9]⟩, ⟨(some 67), (.ld false 1 (.t 66)), none, [10]⟩, ⟨(some 68), (.ixsl 1 (.t 62) (.t 67)), none, [6, 11]⟩, ⟨(some 69), (.ld false 1 (.t 68)), none, [12]⟩, ⟨(some 70), (.mv (.t 0)), none, []⟩, ⟨(some 71), (.mv (.t 13)), none, []⟩, ⟨(some 72), (.ixsl 4 (.t 70) (.t 71)), none, [14, 15]⟩, ⟨(some 73), (.fa 3 (.t 72)), none, [16]⟩, ⟨(some 74), (.ld false 1 (.t 73)), none, [17]⟩, ⟨(some 75), (.mn (.t 69) (.t 74)), none, [13, 18]⟩, ⟨(some 76), (.ixsl 1 (.t 56) (.t 61)), none, [0, 5, 0, 1, 2, 3, 4, 5, 6, 7, 8, 9, 10, 11, 12, 13, 14, 15, 16, 17, 18, 19]⟩, ⟨none, (.st 1 (.t 76) (.t 75)), none, [20, 19, 0, 1, 2, 3, 4, 5, 6, 7, 8, 9, 10, 11, 12, 13, 14, 15, 16, 17, 18, 19]⟩] true)) .skip))) (.reg [⟨(some 25), (.mv (.t 13)), none, []⟩, ⟨(some 26), (.bin .add (.t 25) (.c (.int .i64 1))), none, [0]⟩, ⟨(some 13), (.mv (.t 26)), none, [1, 0, 1]⟩] false)))))) (.seq (.seq (.reg [⟨(some 14), (.mv (.c (.int .i64 0))), none, []⟩] false) (.block 2 (.loop (.seq (.seq (.reg [⟨(some 77), (.mv (.t 14)), none, []⟩, ⟨(some 78), (.mv (.t 11)), none, []⟩, ⟨(some 79), (.len (.t 78)), none, [1]⟩, ⟨(some 80), (.bin .lss (.t 77) (.t 79)), none, [0, 2]⟩] false) (.cond (.t 80) .skip (.exit 2))) (.seq (.block 3 (.seq (.reg [⟨(some 83), (.mv (.t 11)), none, []⟩, ⟨(some 84), (.mv (.t 14)), none, []⟩, ⟨(some 85), (.ixsl 1 (.t 83) (.t 84)), none, [0, 1]⟩, ⟨(some 86), (.ld false 1 (.t 85)), none, [2]⟩, ⟨(some 87), (.mv (.t 12)), none, []⟩, ⟨(some 88), (.mv (.t 14)), none, []⟩, ⟨(some 89), (.ixsl 1 (.t 87) (.t 88)), none, [4, 5]⟩, ⟨(some 90), (.ld false 1 (.t 89)), none, [6]⟩, ⟨(some 91), (.bin .gtr (.t 86) (.t 90)), none, [3, 7]⟩] true) (.cond (.t 91) (.seq (.reg [⟨(some 8), (.mv (.c .nils)), none, []⟩, ⟨(some 9), (.mv (.c .nils)), none, [0, 0]⟩, ⟨(some 10), (.mv (.c (.bool false))), none, [1, 0, 1]⟩] false) .ret) .skip))) (.reg [⟨(some 81), (.mv (.t 14)), none, []⟩, ⟨(some 82), (.bin .add (.t 81) (.c (.int .i64 1))), none, [0]⟩, ⟨(some 14), (.mv (.t 82)), none, [1, 0, 1]⟩] false)))))) (.seq (.reg [⟨(some 92), (.mv (.t 11)), none, []⟩, ⟨(some 93), (.mv (.t 12)), none, []⟩, ⟨(some 8), (.mv (.t 92)), none, [0, 0]⟩, ⟨(some 9), (.mv (.t 93)), none, [1, 2, 0, 1, 2]⟩, ⟨(some 10), (.mv (.c (.bool true))), none, [3, 0, 1, 2, 3]⟩] false) .ret))))))
theorem mcOk52 : (match Try.f52.body with | some c => compC Try.prog 94 c | none => none) = some mc52 := by kernel_rfl

theorem fc52 (l : List Rd) (lo hi : List Int) (s n : Nat) (h1 : lo.length = n) (h2 : hi.length = n) (hn : n ≤ 6) (hs : s < 256) (hl : l.length ≤ 4611686018427387904) (hr : ∀ r ∈ l, 0 ≤ r.probe ∧ r.probe < 8 ∧ 0 ≤ r.of_ ∧ r.of_ < n) : FC Try.prog 52 [.rs 4 (l.map cR), ints lo, ints hi, .int .i64 (s : Int)] [] (.tup [.sl 17 0 (lowR (withoutS l s (ofS lo hi)) n).length, .sl 20 0 (highR (withoutS l s (ofS lo hi)) n).length, .bool (!emptyS (withoutS l s (ofS lo hi)) n)]) [(17, .cells 3 1 ((lowR (withoutS l s (ofS lo hi)) n).map ci) true), (20, .cells 3 1 ((highR (withoutS l s (ofS lo hi)) n).map ci) true)] false := by
  have hla : ∀ x, (lowL x n).length = n := fun x => by simp [lowL]
  have hlb : ∀ x, (highL x n).length = n := fun x => by simp [highL]
  refine fc_run (nt := 94) Try.func52 rfl rfl mcOk52 (Nat.le_of_ble_eq_true rfl) ?_
  delta mc52
  refine aw_seq ?_
  refine aw_reg ?_
  refine rs_mv rfl rfl ?_
  refine rs_mv rfl rfl ?_
  refine rs_mv rfl rfl ?_
  refine rs_nil fun _ => ?_
  refine th_n ?_
  refine aw_seq ?_
  refine aw_reg ?_
  refine rs_bslice rfl rfl rfl rfl rfl rfl ?_
  refine rs_mv rfl rfl ?_
  refine rs_app_e (ys := lo) (n := n) (f := ci) (rd := []) rfl rfl rfl rfl rfl rfl rfl (by simp) (fun _ => rfl) h1 (by omega) (by omega) flat_ci ?_
  refine rs_mv rfl rfl ?_
  refine rs_nil fun _ => ?_
  refine th_n ?_
  refine aw_seq ?_
  refine aw_reg ?_
  refine rs_bslice rfl rfl rfl rfl rfl rfl ?_
  refine rs_mv rfl rfl ?_
  refine rs_app_e (ys := hi) (n := n) (f := ci) (rd := []) rfl rfl rfl rfl rfl rfl rfl (by simp) (fun _ => rfl) h2 (by omega) (by omega) flat_ci ?_
  refine rs_mv rfl rfl ?_
  refine rs_nil fun _ => ?_
  refine th_n ?_
  refine aw_seq ?_
  refine aw_seq ?_
  refine aw_reg ?_
  refine rs_mv rfl rfl ?_
  refine rs_nil fun _ => ?_
  refine th_n ?_
  refine aw_block ?_
  refine aw_fam (α := Nat) (fun k => l.length - k) (fun k => [(0, .rs 4 (l.map cR)), (1, ints lo), (2, ints hi), (3, .int .i64 (s : Int)), (11, .sl 17 0 n), (12, .sl 20 0 n), (13, iv (((k) : Nat) : Int))]) (fun k => [(17, .cells 3 1 ((lowL ((l.take (k)).foldl (wstep s) (ofS lo hi)) n).map ci) true), (20, .cells 3 1 ((highL ((l.take (k)).foldl (wstep s) (ofS lo hi)) n).map ci) true)]) (fun k => k ≤ l.length) 0 (by omega)
    (weak_to (.cons rfl (rc_same rfl (.inl rfl)) (.cons rfl (rc_same rfl (.inl rfl)) (.cons rfl (rc_same rfl (.inl rfl)) (.cons rfl (rc_same rfl (.inl rfl)) (.cons rfl (rc_same rfl (.inl rfl)) (.cons rfl (rc_same rfl (.inl rfl)) (.cons rfl (rc_same rfl (.inl rfl)) (.nil)))))))) (.keep ((by (rw [show (l.take 0).foldl (wstep s) (ofS lo hi) = ofS lo hi from rfl, lowL_of lo hi n h1 h2 hn]) <;> rfl)) rfl (.keep ((by (rw [show (l.take 0).foldl (wstep s) (ofS lo hi) = ofS lo hi from rfl, highL_of lo hi n h1 h2 hn]) <;> rfl)) rfl (.nil))) (fun i h => by cases h)) ?_
  intro k hk
  refine aw_seq ?_
  refine aw_seq ?_
  refine aw_reg ?_
  refine rs_mv rfl rfl ?_
  refine rs_mv rfl rfl ?_
  first | refine rs_len_m rfl rfl ?_ | refine rs_len_s rfl rfl ?_ | refine rs_len_n rfl rfl ?_ | refine rs_len_r rfl rfl rfl ?_
  refine rs_lss rfl rfl rfl ?_
  refine rs_nil fun _ => ?_
  refine th_n ?_
  refine aw_cond rfl (fun h24 => ?_) (fun h24 => ?_)
  · first | replace h24 := of_decide_eq_true h24 | skip
    refine aw_skip ?_
    refine th_n ?_
    refine aw_seq ?_
    refine aw_block ?_
    refine aw_seq ?_
    refine aw_reg ?_
    have hkl : k < l.length := by omega
    have hk1 := hr l[k] (List.getElem_mem _)
    have hlen := length_fold s (l.take k) (ofS lo hi)
    rw [length_ofS] at hlen
    have hst := fold_take (wstep s) (ofS lo hi) l k hkl
    refine rs_mv rfl rfl ?_
    refine rs_mv rfl rfl ?_
    refine rs_mv rfl rfl ?_
    first | refine rs_ix_m rfl rfl rfl (by omega) ?_ | refine rs_ix_sm rfl rfl rfl rfl (by omega) ?_
    first | refine rs_fa_p rfl rfl ?_ | refine rs_fa_r rfl rfl rfl ?_
    first | refine rs_ld_r rfl rfl rfl ?_ | refine rs_ld_p rfl rfl rfl rfl rfl ?_ | refine rs_ld_m rfl rfl rfl (by omega) rfl ?_
    refine rs_calln [] rfl rfl (has_bits_w s hs _ hk1.1 hk1.2.1) (.cons (hv_same rfl) (.cons (hv_same rfl) (.nil))) rfl ?_
    refine rs_not rfl rfl ?_
    refine rs_nil fun _ => ?_
    refine th_n ?_
    refine aw_cond rfl (fun h34 => ?_) (fun h34 => ?_)
    · first | replace h34 := of_decide_eq_true h34 | skip
      refine aw_seq ?_
      refine aw_draw hmix ?_
      refine rs_mv rfl rfl ?_
      refine rs_mv rfl rfl ?_
      refine rs_mv rfl rfl ?_
      first | refine rs_ix_m rfl rfl rfl (by omega) ?_ | refine rs_ix_sm rfl rfl rfl rfl (by omega) ?_
      first | refine rs_fa_p rfl rfl ?_ | refine rs_fa_r rfl rfl rfl ?_
      first | refine rs_ld_r rfl rfl rfl ?_ | refine rs_ld_p rfl rfl rfl rfl rfl ?_ | refine rs_ld_m rfl rfl rfl (by omega) rfl ?_
      refine rs_mv rfl rfl ?_
      refine rs_mv rfl rfl ?_
      refine rs_mv rfl rfl ?_
      first | refine rs_ix_m rfl rfl rfl (by omega) ?_ | refine rs_ix_sm rfl rfl rfl rfl (by omega) ?_
      first | refine rs_fa_p rfl rfl ?_ | refine rs_fa_r rfl rfl rfl ?_
      first | refine rs_ld_r rfl rfl rfl ?_ | refine rs_ld_p rfl rfl rfl rfl rfl ?_ | refine rs_ld_m rfl rfl rfl (by omega) rfl ?_
      refine rs_ix_sm (t := l[k].of_.toNat) rfl rfl (congrArg (fun x => some (AV.int .i64 x)) (Int.toNat_of_nonneg hk1.2.2.1).symm) rfl (by omega) ?_
      refine rs_ld_m rfl rfl rfl (by rw [hla]; omega) rfl ?_
      refine rs_mv rfl rfl ?_
      refine rs_mv rfl rfl ?_
      first | refine rs_ix_m rfl rfl rfl (by omega) ?_ | refine rs_ix_sm rfl rfl rfl rfl (by omega) ?_
      first | refine rs_fa_p rfl rfl ?_ | refine rs_fa_r rfl rfl rfl ?_
      first | refine rs_ld_r rfl rfl rfl ?_ | refine rs_ld_p rfl rfl rfl rfl rfl ?_ | refine rs_ld_m rfl rfl rfl (by omega) rfl ?_
      refine rs_mx rfl rfl rfl rfl ?_
      refine rs_ix_sm (t := l[k].of_.toNat) rfl rfl (congrArg (fun x => some (AV.int .i64 x)) (Int.toNat_of_nonneg hk1.2.2.1).symm) rfl (by omega) ?_
      refine rs_st_m (fl' := true) rfl rfl rfl rfl (by rw [hla]; omega) rfl rfl (Nat.le_of_ble_eq_true rfl) rfl rfl ?_
      refine rs_nil ⟨by kernel_rfl, fun _ => ?_⟩
      refine th_n ?_
      refine aw_draw hmix ?_
      refine rs_mv rfl rfl ?_
      refine rs_mv rfl rfl ?_
      refine rs_mv rfl rfl ?_
      first | refine rs_ix_m rfl rfl rfl (by omega) ?_ | refine rs_ix_sm rfl rfl rfl rfl (by omega) ?_
      first | refine rs_fa_p rfl rfl ?_ | refine rs_fa_r rfl rfl rfl ?_
      first | refine rs_ld_r rfl rfl rfl ?_ | refine rs_ld_p rfl rfl rfl rfl rfl ?_ | refine rs_ld_m rfl rfl rfl (by omega) rfl ?_
      refine rs_mv rfl rfl ?_
      refine rs_mv rfl rfl ?_
      refine rs_mv rfl rfl ?_
      first | refine rs_ix_m rfl rfl rfl (by omega) ?_ | refine rs_ix_sm rfl rfl rfl rfl (by omega) ?_
      first | refine rs_fa_p rfl rfl ?_ | refine rs_fa_r rfl rfl rfl ?_
      first | refine rs_ld_r rfl rfl rfl ?_ | refine rs_ld_p rfl rfl rfl rfl rfl ?_ | refine rs_ld_m rfl rfl rfl (by omega) rfl ?_
      refine rs_ix_sm (t := l[k].of_.toNat) rfl rfl (congrArg (fun x => some (AV.int .i64 x)) (Int.toNat_of_nonneg hk1.2.2.1).symm) rfl (by omega) ?_
      refine rs_ld_m rfl rfl rfl (by rw [hlb]; omega) rfl ?_
      refine rs_mv rfl rfl ?_
      refine rs_mv rfl rfl ?_
      first | refine rs_ix_m rfl rfl rfl (by omega) ?_ | refine rs_ix_sm rfl rfl rfl rfl (by omega) ?_
      first | refine rs_fa_p rfl rfl ?_ | refine rs_fa_r rfl rfl rfl ?_
      first | refine rs_ld_r rfl rfl rfl ?_ | refine rs_ld_p rfl rfl rfl rfl rfl ?_ | refine rs_ld_m rfl rfl rfl (by omega) rfl ?_
      refine rs_mn rfl rfl rfl rfl ?_
      refine rs_ix_sm (t := l[k].of_.toNat) rfl rfl (congrArg (fun x => some (AV.int .i64 x)) (Int.toNat_of_nonneg hk1.2.2.1).symm) rfl (by omega) ?_
      refine rs_st_m (fl' := true) rfl rfl rfl rfl (by rw [hlb]; omega) rfl rfl (Nat.le_of_ble_eq_true rfl) rfl rfl ?_
      refine rs_nil ⟨by kernel_rfl, fun _ => ?_⟩
      refine in_n ?_
      refine th_n ?_
      refine aw_reg ?_
      refine rs_mv rfl rfl ?_
      first | refine rs_add rfl rfl rfl (by omega) ?_ | refine rs_addw rfl rfl rfl rfl ?_
      refine rs_mv rfl rfl ?_
      refine rs_nil fun _ => ?_
      refine th_n ?_
      refine ⟨k + 1, by omega, by omega, ?_⟩
      first
        | (have hh : hasS s l[k].probe.toNat = false := (by simpa using h34); exact weak_to (.cons rfl (rc_same rfl (.inl rfl)) (.cons rfl (rc_same rfl (.inl rfl)) (.cons rfl (rc_same rfl (.inl rfl)) (.cons rfl (rc_same rfl (.inl rfl)) (.cons rfl (rc_same rfl (.inl rfl)) (.cons rfl (rc_same rfl (.inl rfl)) (.cons rfl (rc_same rfl (.inl rfl)) (.nil)))))))) (.keep ((by (rw [hst, ← lowL_step s _ _ n hlen hn hk1.2.2 hh]) <;> rfl)) rfl (.keep ((by (rw [hst, ← highL_step s _ _ n hlen hn hk1.2.2 hh]) <;> rfl)) rfl (.nil))) (fun i h => by cases h))
        | (have hh : hasS s l[k].probe.toNat = true := (by simpa using h34); exact weak_to (.cons rfl (rc_same rfl (.inl rfl)) (.cons rfl (rc_same rfl (.inl rfl)) (.cons rfl (rc_same rfl (.inl rfl)) (.cons rfl (rc_same rfl (.inl rfl)) (.cons rfl (rc_same rfl (.inl rfl)) (.cons rfl (rc_same rfl (.inl rfl)) (.cons rfl (rc_same rfl (.inl rfl)) (.nil)))))))) (.keep ((by (rw [hst, wstep, if_pos hh]) <;> rfl)) rfl (.keep ((by (rw [hst, wstep, if_pos hh]) <;> rfl)) rfl (.nil))) (fun i h => by cases h))
    · first | replace h34 := of_decide_eq_false h34 | skip
      refine aw_skip ?_
      refine in_n ?_
      refine th_n ?_
      refine aw_reg ?_
      refine rs_mv rfl rfl ?_
      first | refine rs_add rfl rfl rfl (by omega) ?_ | refine rs_addw rfl rfl rfl rfl ?_
      refine rs_mv rfl rfl ?_
      refine rs_nil fun _ => ?_
      refine th_n ?_
      refine ⟨k + 1, by omega, by omega, ?_⟩
      first
        | (have hh : hasS s l[k].probe.toNat = false := (by simpa using h34); exact weak_to (.cons rfl (rc_same rfl (.inl rfl)) (.cons rfl (rc_same rfl (.inl rfl)) (.cons rfl (rc_same rfl (.inl rfl)) (.cons rfl (rc_same rfl (.inl rfl)) (.cons rfl (rc_same rfl (.inl rfl)) (.cons rfl (rc_same rfl (.inl rfl)) (.cons rfl (rc_same rfl (.inl rfl)) (.nil)))))))) (.keep ((by (rw [hst, ← lowL_step s _ _ n hlen hn hk1.2.2 hh]) <;> rfl)) rfl (.keep ((by (rw [hst, ← highL_step s _ _ n hlen hn hk1.2.2 hh]) <;> rfl)) rfl (.nil))) (fun i h => by cases h))
        | (have hh : hasS s l[k].probe.toNat = true := (by simpa using h34); exact weak_to (.cons rfl (rc_same rfl (.inl rfl)) (.cons rfl (rc_same rfl (.inl rfl)) (.cons rfl (rc_same rfl (.inl rfl)) (.cons rfl (rc_same rfl (.inl rfl)) (.cons rfl (rc_same rfl (.inl rfl)) (.cons rfl (rc_same rfl (.inl rfl)) (.cons rfl (rc_same rfl (.inl rfl)) (.nil)))))))) (.keep ((by (rw [hst, wstep, if_pos hh]) <;> rfl)) rfl (.keep ((by (rw [hst, wstep, if_pos hh]) <;> rfl)) rfl (.nil))) (fun i h => by cases h))
  · first | replace h24 := of_decide_eq_false h24 | skip
    refine aw_exit ?_
    refine th_e ?_
    refine th_e ?_
    refine in_hit ?_
    refine th_n ?_
    refine aw_seq ?_
    refine aw_seq ?_
    refine aw_reg ?_
    refine rs_mv rfl rfl ?_
    refine rs_nil fun _ => ?_
    refine th_n ?_
    refine aw_block ?_
    have hfin : withoutS l s (ofS lo hi) = (l.take k).foldl (wstep s) (ofS lo hi) := by (rw [List.take_of_length_le (by omega)]) <;> rfl
    refine aw_fam (α := Nat) (fun q => n - q) (fun q => [(11, .sl 17 0 n), (12, .sl 20 0 n), (14, iv (((q) : Nat) : Int))]) (fun q => [(17, .cells 3 1 ((lowL (withoutS l s (ofS lo hi)) n).map ci) true), (20, .cells 3 1 ((highL (withoutS l s (ofS lo hi)) n).map ci) true)]) (fun q => q ≤ n ∧ ∀ j, j < q → ¬ ((withoutS l s (ofS lo hi)).getD j 0 > (withoutS l s (ofS lo hi)).getD (6 + j) 0)) 0 (⟨by omega, fun j h => by omega⟩)
      (weak_to (.cons rfl (rc_same rfl (.inl rfl)) (.cons rfl (rc_same rfl (.inl rfl)) (.cons rfl (rc_same rfl (.inl rfl)) (.nil)))) (.keep ((by (rw [hfin]) <;> rfl)) rfl (.keep ((by (rw [hfin]) <;> rfl)) rfl (.nil))) (fun i h => by cases h)) ?_
    rintro q ⟨hq, hj⟩
    refine aw_seq ?_
    refine aw_seq ?_
    refine aw_reg ?_
    refine rs_mv rfl rfl ?_
    refine rs_mv rfl rfl ?_
    first | refine rs_len_m rfl rfl ?_ | refine rs_len_s rfl rfl ?_ | refine rs_len_n rfl rfl ?_ | refine rs_len_r rfl rfl rfl ?_
    refine rs_lss rfl rfl rfl ?_
    refine rs_nil fun _ => ?_
    refine th_n ?_
    refine aw_cond rfl (fun h80 => ?_) (fun h80 => ?_)
    · first | replace h80 := of_decide_eq_true h80 | skip
      refine aw_skip ?_
      refine th_n ?_
      refine aw_seq ?_
      refine aw_block ?_
      refine aw_seq ?_
      refine aw_draw hmix ?_
      refine rs_mv rfl rfl ?_
      refine rs_mv rfl rfl ?_
      refine rs_ix_sm (t := q) rfl rfl rfl rfl (by omega) ?_
      refine rs_ld_m rfl rfl rfl (by rw [hla]; omega) rfl ?_
      refine rs_mv rfl rfl ?_
      refine rs_mv rfl rfl ?_
      refine rs_ix_sm (t := q) rfl rfl rfl rfl (by omega) ?_
      refine rs_ld_m rfl rfl rfl (by rw [hlb]; omega) rfl ?_
      have ea : (lowL (withoutS l s (ofS lo hi)) n)[q]'(by rw [hla]; omega) = (withoutS l s (ofS lo hi)).getD q 0 := by simp [lowL]
      have eb : (highL (withoutS l s (ofS lo hi)) n)[q]'(by rw [hlb]; omega) = (withoutS l s (ofS lo hi)).getD (6 + q) 0 := by simp [highL]
      refine rs_gtr rfl rfl rfl ?_
      refine rs_nil ⟨by kernel_rfl, fun _ => ?_⟩
      refine th_n ?_
      refine aw_cond rfl (fun h91 => ?_) (fun h91 => ?_)
      · first | replace h91 := of_decide_eq_true h91 | skip
        refine aw_seq ?_
        refine aw_reg ?_
        refine rs_mv rfl rfl ?_
        refine rs_mv rfl rfl ?_
        refine rs_mv rfl rfl ?_
        refine rs_nil fun _ => ?_
        refine th_n ?_
        first | refine aw_weak (F0 := [(8, .nils), (9, .nils), (10, .bool false)]) (H0 := []) (weak_to (.cons rfl (rc_same rfl (.inl rfl)) (.cons rfl (rc_same rfl (.inl rfl)) (.cons rfl (rc_same rfl (.inl rfl)) (.nil)))) .nil (fun i h => by cases h)) ?_ | skip
        refine aw_ret ?_
        refine in_r ?_
        refine th_r ?_
        refine th_r ?_
        refine in_r ?_
        refine th_r ?_
        first
          | (have he : emptyS (withoutS l s (ofS lo hi)) n = true := List.any_eq_true.2 ⟨q, List.mem_range.2 (by omega), decide_eq_true (by rw [← ea, ← eb]; exact h91)⟩
             simp only [lowR, highR, he, if_true]
             exact ret_new rfl (rc_tup (.cons (rc_virt rfl rfl) (.cons (rc_virt rfl rfl) (.cons (rc_same rfl (.inr rfl)) .nil)))) (.virt rfl (.virt rfl .nil)))
          | (have he : emptyS (withoutS l s (ofS lo hi)) n = false := Bool.eq_false_iff.2 fun h => by
               obtain ⟨j, h1, h2⟩ := List.any_eq_true.1 h
               exact hj j (by have := List.mem_range.1 h1; omega) (of_decide_eq_true h2)
             simp only [lowR, highR, he, Bool.false_eq_true, if_false, hla, hlb]
             exact ret_new rfl (rc_same rfl (.inr rfl)) (.keep rfl rfl (noROE_map (fun _ => rfl) _) (.keep rfl rfl (noROE_map (fun _ => rfl) _) .nil)))
      · first | replace h91 := of_decide_eq_false h91 | skip
        refine aw_skip ?_
        refine in_n ?_
        refine th_n ?_
        refine aw_reg ?_
        refine rs_mv rfl rfl ?_
        first | refine rs_add rfl rfl rfl (by omega) ?_ | refine rs_addw rfl rfl rfl rfl ?_
        refine rs_mv rfl rfl ?_
        refine rs_nil fun _ => ?_
        refine th_n ?_
        refine ⟨q + 1, ⟨by omega, fun j hj1 => ?_⟩, by omega, weak_to (.cons rfl (rc_same rfl (.inl rfl)) (.cons rfl (rc_same rfl (.inl rfl)) (.cons rfl (rc_same rfl (.inl rfl)) (.nil)))) (.keep (rfl) rfl (.keep (rfl) rfl (.nil))) (fun i h => by cases h)⟩
        by_cases e : j = q
        · subst e; rw [← ea, ← eb]; omega
        · exact hj j (by omega)
    · first | replace h80 := of_decide_eq_false h80 | skip
      refine aw_exit ?_
      refine th_e ?_
      refine th_e ?_
      refine in_hit ?_
      refine th_n ?_
      refine aw_seq ?_
      refine aw_reg ?_
      refine rs_mv rfl rfl ?_
      refine rs_mv rfl rfl ?_
      refine rs_mv rfl rfl ?_
      refine rs_mv rfl rfl ?_
      refine rs_mv rfl rfl ?_
      refine rs_nil fun _ => ?_
      refine th_n ?_
      first | refine aw_weak (F0 := [(8, .nils), (9, .nils), (10, .bool false)]) (H0 := []) (weak_to (.cons rfl (rc_same rfl (.inl rfl)) (.cons rfl (rc_same rfl (.inl rfl)) (.cons rfl (rc_same rfl (.inl rfl)) (.nil)))) .nil (fun i h => by cases h)) ?_ | skip
      refine aw_ret ?_
      first
        | (have he : emptyS (withoutS l s (ofS lo hi)) n = true := List.any_eq_true.2 ⟨q, List.mem_range.2 (by omega), decide_eq_true (by rw [← ea, ← eb]; exact h91)⟩
           simp only [lowR, highR, he, if_true]
           exact ret_new rfl (rc_tup (.cons (rc_virt rfl rfl) (.cons (rc_virt rfl rfl) (.cons (rc_same rfl (.inr rfl)) .nil)))) (.virt rfl (.virt rfl .nil)))
        | (have he : emptyS (withoutS l s (ofS lo hi)) n = false := Bool.eq_false_iff.2 fun h => by
             obtain ⟨j, h1, h2⟩ := List.any_eq_true.1 h
             exact hj j (by have := List.mem_range.1 h1; omega) (of_decide_eq_true h2)
           simp only [lowR, highR, he, Bool.false_eq_true, if_false, hla, hlb]
           exact ret_new rfl (rc_same rfl (.inr rfl)) (.keep rfl rfl (noROE_map (fun _ => rfl) _) (.keep rfl rfl (noROE_map (fun _ => rfl) _) .nil)))

end Go.Proofs.Ytadjdnhnbkcakaa
