/-
  Walks: A5.
-/
import Derived.Test.YtadjdnhnbkcakaaA4
namespace Go.Proofs.Ytadjdnhnbkcakaa
open Go.RowKit

def setL : List Int → Nat → List Int → List Int
  | l, _, [] => l
  | l, o, c :: cs => setL (l.set o c) (o + 1) cs
theorem length_setL : ∀ (cs l : List Int) (o : Nat), (setL l o cs).length = l.length
  | [], l, o => rfl
  | c :: cs, l, o => by rw [setL, length_setL]; simp
theorem setAt_iv : ∀ (cs L : List Int) (o : Nat), setAt (L.map iv) o (cs.map iv) = (setL L o cs).map iv
  | [], L, o => rfl
  | c :: cs, L, o => by
    show setAt ((L.map iv).set o (iv c)) (o + 1) (cs.map iv) = _
    rw [← List.map_set]; exact setAt_iv cs (L.set o c) (o + 1)
theorem flatten_ci : ∀ xs : List Int, (xs.map ci).flatten = xs.map iv
  | [] => rfl
  | x :: xs => by simp only [List.map_cons, List.flatten_cons, flatten_ci xs]; rfl
section
variable {P : Program} {N : Nat} {Z : List Nat} {F : Fr} {H : Hp} {ml : List MOper} {K : List Fp → Fr → Hp → Prop} {d : Nat} {g : Option (Nat × Bool)} {pre : List Nat}
theorem rs_cpy_l {i o n e z k : Nat} {x y : Arg} {L xs : List Int} (hg : gOK F g = true) (hx : aarg F x = some (.sa i 0 o n)) (hy : aarg F y = some (ints xs)) (hi : get H i = some (.cells e z [L.map iv] true)) (hk : o = k) (hn : xs.length ≤ n) (ho : k + xs.length ≤ L.length)
    (h : RS P N ml ((d, .int .i64 xs.length) :: F) ((i, .cells e z [(setL L k xs).map iv] true) :: H) (fun fps => K (([], [i]) :: fps))) : RS P N (⟨some d, .cpy x y, g, pre⟩ :: ml) F H K :=
  rs_cpy (m := xs.length) (fl' := true) (el := L.map iv) (rd := []) (news := xs.map ci) hg hx hy hi rfl rfl (by simp) (by simp) (by simp) hn (by subst hk; simpa using ho)
    (by subst hk; rw [flatten_ci, setAt_iv]; rfl) (by rw [flat_map (fun _ => rfl)]; rfl) h
theorem ret_own_n {rs : List ResultVar} {r : AV} {vs : List AV} {H' : Hp} (h : resVs P F H rs = some vs) (hr : RC H H' true (resOne vs) r) (hk : KeptHs H (keysOf H') H') (hz : ZL H H' Z) : RetQ P Z rs r H' true .normal F H :=
  ⟨.inl rfl, vs, h, hr, hk.keptH, hz.at_⟩
end
/-- The limits of quantities. -/
def ofS (lo hi : List Int) : List Int := setL (setL [0, 0, 0, 0, 0, 0, 0, 0, 0, 0, 0, 0, (lo.length : Int)] 0 lo) 6 hi
theorem length_ofS (lo hi : List Int) : (ofS lo hi).length = 13 := by simp [ofS, length_setL]

def mc50 : MC := (.seq (.reg [⟨(some 4), (.alloc 92 13 [(.int .i64 0), (.int .i64 0), (.int .i64 0), (.int .i64 0), (.int .i64 0), (.int .i64 0), (.int .i64 0), (.int .i64 0), (.int .i64 0), (.int .i64 0), (.int .i64 0), (.int .i64 0), (.int .i64 0)]), none, []⟩] false) (.seq (.reg [⟨(some 6), (.mv (.t 0)), none, []⟩, ⟨(some 7), (.len (.t 6)), none, [0]⟩, ⟨(some 8), (.build [(.int .i64 0), (.int .i64 0), (.int .i64 0), (.int .i64 0), (.int .i64 0), (.int .i64 0), (.int .i64 0), (.int .i64 0), (.int .i64 0), (.int .i64 0), (.int .i64 0), (.int .i64 0), (.int .i64 0)] [(12, (1, (.t 7)))]), none, [1]⟩, ⟨(some 5), (.alloc 92 13 [(.int .i64 0), (.int .i64 0), (.int .i64 0), (.int .i64 0), (.int .i64 0), (.int .i64 0), (.int .i64 0), (.int .i64 0), (.int .i64 0), (.int .i64 0), (.int .i64 0), (.int .i64 0), (.int .i64 0)]), none, []⟩, ⟨none, (.st 13 (.t 5) (.t 8)), none, [3, 2, 0, 1, 2, 3]⟩] false) (.seq (.reg [⟨(some 9), (.fa 0 (.t 5)), none, []⟩, ⟨(some 10), (.slarr 6 (.t 9) none none), none, [0]⟩, ⟨(some 11), (.mv (.t 0)), none, []⟩, ⟨(some 12), (.cpy (.t 10) (.t 11)), none, [1, 2]⟩] false) (.seq (.reg [⟨(some 13), (.fa 6 (.t 5)), none, []⟩, ⟨(some 14), (.slarr 6 (.t 13) none none), none, [0]⟩, ⟨(some 15), (.mv (.t 1)), none, []⟩, ⟨(some 16), (.cpy (.t 14) (.t 15)), none, [1, 2]⟩] false) (.seq (.reg [⟨(some 17), (.ld true 13 (.t 5)), none, []⟩, ⟨none, (.st 13 (.t 4) (.t 17)), none, [0, 0]⟩] false) .ret)))))
theorem mcOk50 : (match Try.f50.body with | some c => compC Try.prog 18 c | none => none) = some mc50 := by kernel_rfl

theorem fc50 (lo hi : List Int) (h1 : lo.length ≤ 6) (h2 : hi.length ≤ 6) : FC Try.prog 50 [ints lo, ints hi] [] (.agg ((ofS lo hi).map iv)) [] false := by
  refine fc_run (nt := 18) Try.func50 rfl rfl mcOk50 (Nat.le_of_ble_eq_true rfl) ?_
  delta mc50
  refine aw_seq ?_
  refine aw_reg ?_
  refine rs_alloc rfl rfl rfl ?_
  refine rs_nil fun _ => ?_
  refine th_n ?_
  refine aw_seq ?_
  refine aw_reg ?_
  refine rs_mv rfl rfl ?_
  first | refine rs_len_m rfl rfl ?_ | refine rs_len_s rfl rfl ?_ | refine rs_len_n rfl rfl ?_ | refine rs_len_r rfl rfl rfl ?_
  refine rs_build rfl rfl ?_
  refine rs_alloc rfl rfl rfl ?_
  refine rs_st rfl rfl rfl rfl rfl rfl rfl (Nat.le_of_ble_eq_true rfl) rfl rfl ?_
  refine rs_nil fun _ => ?_
  refine th_n ?_
  refine aw_seq ?_
  refine aw_reg ?_
  first | refine rs_fa_p rfl rfl ?_ | refine rs_fa_r rfl rfl rfl ?_
  refine rs_slarr (l := 0) (q := 6) rfl rfl rfl rfl (by decide) (.inl rfl) (by decide) (by decide) ?_
  refine rs_mv rfl rfl ?_
  refine rs_cpy_l (L := [0, 0, 0, 0, 0, 0, 0, 0, 0, 0, 0, 0, (lo.length : Int)]) (k := 0) rfl rfl rfl rfl rfl (by simpa using h1) (by simp; omega) ?_
  refine rs_nil fun _ => ?_
  refine th_n ?_
  refine aw_seq ?_
  refine aw_reg ?_
  first | refine rs_fa_p rfl rfl ?_ | refine rs_fa_r rfl rfl rfl ?_
  refine rs_slarr (l := 0) (q := 6) rfl rfl rfl rfl (by decide) (.inl rfl) (by decide) (by decide) ?_
  refine rs_mv rfl rfl ?_
  refine rs_cpy_l (L := setL [0, 0, 0, 0, 0, 0, 0, 0, 0, 0, 0, 0, (lo.length : Int)] 0 lo) (k := 6) rfl rfl rfl rfl rfl (by simpa using h2) (by simp [length_setL]; omega) ?_
  refine rs_nil fun _ => ?_
  refine th_n ?_
  refine aw_seq ?_
  refine aw_reg ?_
  refine rs_ld_pa (cs := (ofS lo hi).map iv) rfl rfl rfl rfl (by simp [length_setL]) (by show List.take 13 (List.drop 0 ((ofS lo hi).map iv)) = _; exact List.take_of_length_le (by simp [length_ofS])) ?_
  refine rs_st (els' := [(ofS lo hi).map iv]) (fl' := true) rfl rfl rfl rfl rfl rfl (by simp [length_ofS]) (Nat.le_of_ble_eq_true rfl) (by show [setAt _ 0 _] = _; rw [setAt_all (by simp [length_ofS])]) (by rw [closed_iv]; rfl) ?_
  refine rs_nil fun _ => ?_
  refine th_n ?_
  refine aw_ret ?_
  exact ret_pure (resVs_cell (n := 13) rfl rfl (by kernel_rfl) (by kernel_rfl) (by simp [length_ofS])) rfl (scoped_iv _ _) (.inr (noRO_iv _))

/-- The limits that a further set of liars leaves, up to the k-th. -/
def minK (a y : List Int) (k : Nat) : List Int := (List.range a.length).map fun i => if i < k then min (a.getD i 0) (y.getD i 0) else a.getD i 0
def maxK (b y : List Int) (k : Nat) : List Int := (List.range b.length).map fun i => if i < k then max (b.getD i 0) (y.getD (6 + i) 0) else b.getD i 0
theorem minK_0 (a y : List Int) : minK a y 0 = a := by
  apply List.ext_getElem (by simp [minK])
  intro i h1 h2
  simp [minK, h2]
theorem maxK_0 (a y : List Int) : maxK a y 0 = a := by
  apply List.ext_getElem (by simp [maxK])
  intro i h1 h2
  simp [maxK, h2]
theorem minK_set (a y : List Int) (k : Nat) (hk : k < a.length) : (minK a y k).set k (min ((minK a y k)[k]'(by simpa [minK] using hk)) (y.getD k 0)) = minK a y (k + 1) := by
  apply List.ext_getElem (by simp [minK])
  intro i h1 h2
  have hi : i < a.length := by simpa [minK] using h2
  rw [List.getElem_set]
  split
  · rename_i e; subst e; simp [minK, hi]
  · rename_i e
    simp only [minK, List.getElem_map, List.getElem_range]
    by_cases h : i < k
    · rw [if_pos h, if_pos (by omega)]
    · rw [if_neg h, if_neg (by omega)]
theorem maxK_set (a y : List Int) (k : Nat) (hk : k < a.length) : (maxK a y k).set k (max ((maxK a y k)[k]'(by simpa [maxK] using hk)) (y.getD (6 + k) 0)) = maxK a y (k + 1) := by
  apply List.ext_getElem (by simp [maxK])
  intro i h1 h2
  have hi : i < a.length := by simpa [maxK] using h2
  rw [List.getElem_set]
  split
  · rename_i e; subst e; simp [maxK, hi]
  · rename_i e
    simp only [maxK, List.getElem_map, List.getElem_range]
    by_cases h : i < k
    · rw [if_pos h, if_pos (by omega)]
    · rw [if_neg h, if_neg (by omega)]
abbrev hp51 (lo a b : List Int) (n : Nat) : Hp := [(1005, .cells 28 1 [[ints lo]] true), (12, .cells 28 1 [[.sl 2001 0 n]] false), (13, .cells 28 1 [[.sl 2002 0 n]] false), (2001, .cells 3 1 (a.map ci) true), (2002, .cells 3 1 (b.map ci) true)]

def mc51 : MC := (.seq (.reg [⟨(some 6), (.box 92 13 (.t 1)), none, []⟩] false) (.seq (.reg [⟨(some 8), (.ld false 1 (.t 2)), none, []⟩, ⟨(some 9), (.len (.t 8)), none, [0]⟩, ⟨(some 10), (.mv (.c (.int .i64 0))), none, []⟩] false) (.block 0 (.loop (.seq (.reg [⟨(some 11), (.bin .lss (.t 10) (.t 9)), none, []⟩] false) (.seq (.cond (.t 11) .skip (.exit 0)) (.seq (.block 1 (.seq (.reg [⟨(some 12), (.mv (.t 10)), none, []⟩, ⟨(some 7), (.mv (.t 12)), none, [0, 0]⟩] false) (.reg [⟨(some 13), (.ld false 1 (.t 3)), none, []⟩, ⟨(some 14), (.mv (.t 7)), none, []⟩, ⟨(some 15), (.ld false 1 (.t 4)), none, []⟩, ⟨(some 16), (.mv (.t 7)), none, []⟩, ⟨(some 17), (.ld false 1 (.t 3)), none, []⟩, ⟨(some 18), (.mv (.t 7)), none, []⟩, ⟨(some 19), (.ixsl 1 (.t 17) (.t 18)), none, [4, 5]⟩, ⟨(some 20), (.ld false 1 (.t 19)), none, [6]⟩, ⟨(some 21), (.mv (.t 7)), none, []⟩, ⟨(some 22), (.fa 0 (.t 6)), none, []⟩, ⟨(some 23), (.ixarr 6 1 (.t 22) (.t 21)), none, [9, 8]⟩, ⟨(some 24), (.ld false 1 (.t 23)), none, [10]⟩, ⟨(some 25), (.mn (.t 20) (.t 24)), none, [7, 11]⟩, ⟨(some 26), (.ld false 1 (.t 4)), none, []⟩, ⟨(some 27), (.mv (.t 7)), none, []⟩, ⟨(some 28), (.ixsl 1 (.t 26) (.t 27)), none, [13, 14]⟩, ⟨(some 29), (.ld false 1 (.t 28)), none, [15]⟩, ⟨(some 30), (.mv (.t 7)), none, []⟩, ⟨(some 31), (.fa 6 (.t 6)), none, []⟩, ⟨(some 32), (.ixarr 6 1 (.t 31) (.t 30)), none, [18, 17]⟩, ⟨(some 33), (.ld false 1 (.t 32)), none, [19]⟩, ⟨(some 34), (.mx (.t 29) (.t 33)), none, [16, 20]⟩, ⟨(some 35), (.ixsl 1 (.t 13) (.t 14)), none, [0, 1, 0, 1, 4, 5, 6, 7, 8, 9, 10, 11, 12, 16]⟩, ⟨none, (.st 1 (.t 35) (.t 25)), none, [22, 12, 0, 1, 4, 5, 6, 7, 8, 9, 10, 11, 12, 16]⟩, ⟨(some 36), (.ixsl 1 (.t 15) (.t 16)), none, [2, 3, 0, 1, 2, 3, 4, 5, 6, 7, 8, 9, 10, 11, 12, 13, 14, 15, 16, 17, 18, 19, 20, 21, 22, 23]⟩, ⟨none, (.st 1 (.t 36) (.t 34)), none, [24, 21, 23, 0, 1, 2, 3, 4, 5, 6, 7, 8, 9, 10, 11, 12, 13, 14, 15, 16, 17, 18, 19, 20, 21, 22, 23]⟩] true))) (.reg [⟨(some 37), (.bin .add (.t 10) (.c (.int .i64 1))), none, []⟩, ⟨(some 10), (.mv (.t 37)), none, [0]⟩] false))))))))
theorem mcOk51 : (match Try.f51.body with | some c => compC Try.prog 38 c | none => none) = some mc51 := by kernel_rfl

theorem fc51 (set : Int) (lo a b y : List Int) (n : Nat) (hn : lo.length = n) (ha : a.length = n) (hb : b.length = n) (hn6 : n ≤ 6) (hy : y.length = 13) : FC Try.prog 51 [.int .u64 set, .agg (y.map iv), .ptr 1005 0 0, .ptr 12 0 0, .ptr 13 0 0] (hp51 lo a b n) (.tup []) (hp51 lo (minK a y n) (maxK b y n) n) true := by
  have hla : ∀ k, (minK a y k).length = n := fun k => by simp [minK, ha]
  have hlb : ∀ k, (maxK b y k).length = n := fun k => by simp [maxK, hb]
  refine fc_run (nt := 38) Try.func51 rfl rfl mcOk51 (Nat.le_of_ble_eq_true rfl) ?_
  delta mc51
  refine aw_seq ?_
  refine aw_reg ?_
  refine rs_box (v := .agg (y.map iv)) rfl rfl rfl (by simp [hy]) rfl (closed_iv y) ?_
  refine rs_nil fun _ => ?_
  refine th_n ?_
  refine aw_seq ?_
  refine aw_reg ?_
  refine rs_ld_p rfl rfl rfl rfl rfl ?_
  first | refine rs_len_m rfl rfl ?_ | refine rs_len_s rfl rfl ?_ | refine rs_len_n rfl rfl ?_ | refine rs_len_r rfl rfl rfl ?_
  refine rs_mv rfl rfl ?_
  refine rs_nil fun _ => ?_
  refine th_n ?_
  refine aw_block ?_
  refine aw_fam (α := Nat) (fun k => n - k) (fun k => [(3, .ptr 12 0 0), (4, .ptr 13 0 0), (6, .ptr 6 0 0), (9, iv (lo.length : Int)), (10, iv (((k) : Nat) : Int))]) (fun k => [(1005, .cells 28 1 [[ints lo]] true), (12, .cells 28 1 [[.sl 2001 0 n]] false), (13, .cells 28 1 [[.sl 2002 0 n]] false), (2001, .cells 3 1 ((minK a y (k)).map ci) true), (2002, .cells 3 1 ((maxK b y (k)).map ci) true), (6, .cells 92 13 [y.map iv] true)]) (fun k => k ≤ n) 0 (by omega)
    (weak_to (.cons rfl (rc_same rfl (.inl rfl)) (.cons rfl (rc_same rfl (.inl rfl)) (.cons rfl (rc_same rfl (.inl rfl)) (.cons rfl (rc_same rfl (.inl rfl)) (.cons rfl (rc_same rfl (.inl rfl)) (.nil)))))) (.keep (rfl) rfl (.keep (rfl) rfl (.keep (rfl) rfl (.keep ((by rw [minK_0]; rfl)) rfl (.keep ((by rw [maxK_0]; rfl)) rfl (.keep (rfl) rfl (.nil))))))) (fun i h => by simp [keysOf] at h ⊢; omega)) ?_
  intro k hk
  refine aw_seq ?_
  refine aw_reg ?_
  refine rs_lss rfl rfl rfl ?_
  refine rs_nil fun _ => ?_
  refine th_n ?_
  refine aw_seq ?_
  refine aw_cond rfl (fun h11 => ?_) (fun h11 => ?_)
  · first | replace h11 := of_decide_eq_true h11 | skip
    refine aw_skip ?_
    refine th_n ?_
    refine aw_seq ?_
    refine aw_block ?_
    refine aw_seq ?_
    refine aw_reg ?_
    refine rs_mv rfl rfl ?_
    refine rs_mv rfl rfl ?_
    refine rs_nil fun _ => ?_
    refine th_n ?_
    refine aw_draw hmix ?_
    first | refine rs_ld_r rfl rfl rfl ?_ | refine rs_ld_p rfl rfl rfl rfl rfl ?_ | refine rs_ld_m rfl rfl rfl (by omega) rfl ?_
    refine rs_mv rfl rfl ?_
    first | refine rs_ld_r rfl rfl rfl ?_ | refine rs_ld_p rfl rfl rfl rfl rfl ?_ | refine rs_ld_m rfl rfl rfl (by omega) rfl ?_
    refine rs_mv rfl rfl ?_
    first | refine rs_ld_r rfl rfl rfl ?_ | refine rs_ld_p rfl rfl rfl rfl rfl ?_ | refine rs_ld_m rfl rfl rfl (by omega) rfl ?_
    refine rs_mv rfl rfl ?_
    refine rs_ix_sm (t := k) rfl rfl rfl rfl (by omega) ?_
    refine rs_ld_m rfl rfl rfl (by rw [hla]; omega) rfl ?_
    refine rs_mv rfl rfl ?_
    first | refine rs_fa_p rfl rfl ?_ | refine rs_fa_r rfl rfl rfl ?_
    refine rs_ixarr_p rfl rfl rfl (by omega) (by omega) ?_
    refine rs_ld_l (k := k) rfl rfl rfl (by simp) (by omega) ?_
    refine rs_mn rfl rfl rfl rfl ?_
    first | refine rs_ld_r rfl rfl rfl ?_ | refine rs_ld_p rfl rfl rfl rfl rfl ?_ | refine rs_ld_m rfl rfl rfl (by omega) rfl ?_
    refine rs_mv rfl rfl ?_
    refine rs_ix_sm (t := k) rfl rfl rfl rfl (by omega) ?_
    refine rs_ld_m rfl rfl rfl (by rw [hlb]; omega) rfl ?_
    refine rs_mv rfl rfl ?_
    first | refine rs_fa_p rfl rfl ?_ | refine rs_fa_r rfl rfl rfl ?_
    refine rs_ixarr_p rfl rfl rfl (by omega) (by omega) ?_
    refine rs_ld_l (k := 6 + k) rfl rfl rfl (by simp) (by omega) ?_
    refine rs_mx rfl rfl rfl rfl ?_
    refine rs_ix_sm (t := k) rfl rfl rfl rfl (by omega) ?_
    refine rs_st_m (fl' := true) rfl rfl rfl rfl (by rw [hla]; omega) rfl rfl (Nat.le_of_ble_eq_true rfl) rfl rfl ?_
    refine rs_ix_sm (t := k) rfl rfl rfl rfl (by omega) ?_
    refine rs_st_m (fl' := true) rfl rfl rfl rfl (by rw [hlb]; omega) rfl rfl (Nat.le_of_ble_eq_true rfl) rfl rfl ?_
    refine rs_nil ⟨by kernel_rfl, fun _ => ?_⟩
    refine in_n ?_
    refine th_n ?_
    refine aw_reg ?_
    first | refine rs_add rfl rfl rfl (by omega) ?_ | refine rs_addw rfl rfl rfl rfl ?_
    refine rs_mv rfl rfl ?_
    refine rs_nil fun _ => ?_
    refine th_n ?_
    refine ⟨k + 1, by omega, by omega, ?_⟩
    exact weak_to (.cons rfl (rc_same rfl (.inl rfl)) (.cons rfl (rc_same rfl (.inl rfl)) (.cons rfl (rc_same rfl (.inl rfl)) (.cons rfl (rc_same rfl (.inl rfl)) (.cons rfl (rc_same rfl (.inl rfl)) (.nil)))))) (.keep (rfl) rfl (.keep (rfl) rfl (.keep (rfl) rfl (.keep ((by rw [← minK_set a y k (by omega)]; rfl)) rfl (.keep ((by rw [← maxK_set b y k (by omega)]; rfl)) rfl (.keep (rfl) rfl (.nil))))))) (fun i h => by simp [keysOf] at h ⊢; omega)
  · first | replace h11 := of_decide_eq_false h11 | skip
    refine aw_exit ?_
    refine th_e ?_
    refine th_e ?_
    refine in_hit ?_
    obtain rfl : k = n := by omega
    exact ret_own_n rfl (rc_same rfl (.inl rfl)) (.keep (rfl) rfl (.keep (rfl) rfl (.keep (rfl) rfl (.keep (rfl) rfl (.keep (rfl) rfl (.nil)))))) (.cons rfl rfl rfl (.cons rfl rfl rfl (.cons rfl rfl rfl (.cons rfl rfl rfl (.cons rfl rfl rfl (.nil))))))

theorem and_u64 (a : Nat) (ha : a < 256) (b : Nat) (hb : b < 256) : bits .and .u64 (a : Int) (b : Int) = ((a &&& b : Nat) : Int) := by
  have h : a &&& b < 256 := Nat.lt_of_le_of_lt Nat.and_le_left ha
  unfold bits
  simp only [BitVec.toNat_and]
  rw [show (BitVec.ofInt IntKind.u64.bits (a : Int)).toNat = a by rw [BitVec.ofInt_natCast]; simp [IntKind.bits]; omega, show (BitVec.ofInt IntKind.u64.bits (b : Int)).toNat = b by rw [BitVec.ofInt_natCast]; simp [IntKind.bits]; omega, IntKind.wrap_u64]
  omega

def mc54 : MC := (.seq (.reg [⟨(some 4), (.box 92 13 (.t 1)), none, []⟩] false) (.reg [⟨(some 5), (.ld false 1 (.t 2)), none, []⟩, ⟨(some 6), (.mv (.t 0)), none, []⟩, ⟨(some 7), (.bin .and (.t 5) (.t 6)), none, [0, 1]⟩, ⟨none, (.st 1 (.t 2) (.t 7)), none, [2, 0, 1, 2]⟩] false))
theorem mcOk54 : (match Try.f54.body with | some c => compC Try.prog 8 c | none => none) = some mc54 := by kernel_rfl

theorem fc54 (set all : Nat) (hset : set < 256) (hall : all < 256) (y : List Int) (hy : y.length = 13) : FC Try.prog 54 [.int .u64 (set : Int), .agg (y.map iv), .ptr 1011 0 0] [(1011, .cells 94 1 [[.int .u64 (all : Int)]] true)] (.tup []) [(1011, .cells 94 1 [[.int .u64 ((all &&& set : Nat) : Int)]] true)] true := by
  have hand := and_u64 all hall set hset
  refine fc_run (nt := 8) Try.func54 rfl rfl mcOk54 (Nat.le_of_ble_eq_true rfl) ?_
  delta mc54
  refine aw_seq ?_
  refine aw_reg ?_
  refine rs_box (v := .agg (y.map iv)) rfl rfl rfl (by simp [hy]) rfl (closed_iv y) ?_
  refine rs_nil fun _ => ?_
  refine th_n ?_
  refine aw_reg ?_
  refine rs_ld_p rfl rfl rfl rfl rfl ?_
  refine rs_mv rfl rfl ?_
  refine rs_and rfl rfl rfl hand ?_
  refine rs_st rfl rfl rfl rfl rfl rfl rfl (Nat.le_of_ble_eq_true rfl) rfl rfl ?_
  refine rs_nil fun _ => ?_
  exact ret_own_n rfl (rc_same rfl (.inl rfl)) (.keep rfl rfl .nil) (.cons rfl rfl rfl .nil)

end Go.Proofs.Ytadjdnhnbkcakaa
