/-
  Walks: A4.
-/
import Derived.Test.YtadjdnhnbkcakaaA3
namespace Go.Proofs.Ytadjdnhnbkcakaa
open Go.RowKit

abbrev iv (n : Int) : AV := .int .i64 n
section
variable {P : Program} {N : Nat} {Z : List Nat} {F : Fr} {H : Hp} {ml : List MOper} {K : List Fp → Fr → Hp → Prop} {d : Nat} {g : Option (Nat × Bool)} {pre : List Nat}
theorem closed_iv : ∀ L : List Int, closedL (L.map iv) = true
  | [] => rfl
  | x :: L => by simp only [List.map_cons, closedL, closed_iv L, Bool.and_true]; rfl
theorem scoped_iv (D : List Nat) : ∀ L : List Int, scopedL D (L.map iv) = true
  | [] => rfl
  | x :: L => by simp only [List.map_cons, scopedL, scoped_iv D L, Bool.and_true]; rfl
theorem noRO_iv : ∀ L : List Int, noROL (L.map iv) = true
  | [] => rfl
  | x :: L => by simp only [List.map_cons, noROL, noRO_iv L, Bool.and_true]; rfl
theorem getD_getElem? {L : List Int} {k : Nat} (h : k < L.length) : (L.map iv)[k]? = some (iv (L.getD k 0)) := by
  simp [h]
/-- A number of an own array of numbers. -/
theorem rs_ld_l {L : List Int} {a o n e z k : Nat} {fl : Bool} {x : Arg} (hg : gOK F g = true) (hx : aarg F x = some (.ptr a 0 o)) (ha : get H a = some (.cells e z [L.map iv] fl)) (hk : o = k) (ho : k < L.length)
    (h : RS P N ml ((d, iv (L.getD k 0)) :: F) H (fun fps => K (([a], []) :: fps))) : RS P N (⟨some d, .ld false n x, g, pre⟩ :: ml) F H K :=
  rs_ld_p hg hx ha (el := L.map iv) rfl (by rw [hk]; exact getD_getElem? ho) h
theorem rs_st_l {L : List Int} {a o e z k : Nat} {v : Int} {fl : Bool} {x y : Arg} (hg : gOK F g = true) (hx : aarg F x = some (.ptr a 0 o)) (hy : aarg F y = some (iv v)) (ha : get H a = some (.cells e z [L.map iv] fl)) (hk : o = k) (ho : k < L.length)
    (h : RS P N ml F ((a, .cells e z [(L.set k v).map iv] fl) :: H) (fun fps => K (([], [a]) :: fps))) : RS P N (⟨none, .st 1 x y, g, pre⟩ :: ml) F H K :=
  rs_st (el := L.map iv) (fl' := fl) hg hx hy ha rfl rfl rfl (by simp; omega) (by subst hk; simp [setAt, List.map_set]) (by simp [closedL, closedV]) h
theorem length_setAt' (cs l : List AV) (o : Nat) : (setAt l o cs).length = l.length := length_setAt cs l o
theorem setAt_all {l cs : List AV} (h : cs.length = l.length) : setAt l 0 cs = cs := by
  apply List.ext_getElem?
  intro k
  rw [getElem?_setAt cs l 0 k (by omega)]
  split
  · simp
  · rw [List.getElem?_eq_none (by omega), List.getElem?_eq_none (by omega)]
theorem resVs_cell {a ty i e z n : Nat} {fl : Bool} {el : List AV} (h1 : get F a = some (.ptr i 0 0)) (h2 : get H i = some (.cells e z [el] fl)) (hg : aggP P ty = some true) (hz : sizeP P ty = some n) (hl : el.length = n) : resVs P F H [.cell a ty] = some [.agg el] := by
  subst hl
  simp [resVs, resV, h1, h2, hg, hz]
end
/-- The limits: six least values, six greatest, and how many. -/
def lowAt (x : List Int) (i : Nat) : Int := x.getD i 0
def highAt (x : List Int) (i : Nat) : Int := x.getD (6 + i) 0
def emptyS (x : List Int) (n : Nat) : Bool := (List.range n).any fun i => decide (x.getD i 0 > x.getD (6 + i) 0)
def wstep (s : Nat) (x : List Int) (r : Rd) : List Int :=
  if hasS s r.probe.toNat = true then x
  else (x.set r.of_.toNat (max (x.getD r.of_.toNat 0) r.lo)).set (6 + r.of_.toNat) (min (x.getD (6 + r.of_.toNat) 0) r.hi)
def withoutS (l : List Rd) (s : Nat) (x : List Int) : List Int := l.foldl (wstep s) x
theorem length_wstep (s : Nat) (x : List Int) (r : Rd) : (wstep s x r).length = x.length := by
  unfold wstep; split <;> simp
theorem length_fold (s : Nat) : ∀ (l : List Rd) (x : List Int), (l.foldl (wstep s) x).length = x.length
  | [], x => rfl
  | r :: l, x => by rw [List.foldl_cons, length_fold s l, length_wstep]
theorem fold_take {α β : Type} (f : α → β → α) (a : α) (l : List β) (k : Nat) (h : k < l.length) : (l.take (k + 1)).foldl f a = f ((l.take k).foldl f a) l[k] := by
  rw [List.take_succ_eq_append_getElem h, List.foldl_append]; rfl
theorem has_bits_u : ∀ s : Nat, s < 256 → ∀ p : Nat, p < 8 → decide (bits .and .u64 ((s : Int).fdiv (2 ^ min ((p : Int)).toNat 64)) 1 = 0) = !hasS s p := by decide +kernel
theorem has_bits_v (s : Nat) (hs : s < 256) (p : Int) (h0 : 0 ≤ p) (h8 : p < 8) : decide (bits .and .u64 ((s : Int).fdiv (2 ^ min p.toNat IntKind.u64.bits)) 1 = 0) = !hasS s p.toNat := by
  have := has_bits_u s hs p.toNat (by omega)
  rw [Int.toNat_natCast] at this
  exact this

def mc68 : MC := (.seq (.reg [⟨(some 1), (.box 92 13 (.t 0)), none, []⟩, ⟨(some 2), (.mv (.c (.bool false))), none, []⟩] false) (.seq (.seq (.reg [⟨(some 4), (.fa 12 (.t 1)), none, []⟩, ⟨(some 5), (.ld false 1 (.t 4)), none, [0]⟩, ⟨(some 6), (.mv (.c (.int .i64 0))), none, []⟩] false) (.block 0 (.loop (.seq (.reg [⟨(some 7), (.bin .lss (.t 6) (.t 5)), none, []⟩] false) (.seq (.cond (.t 7) .skip (.exit 0)) (.seq (.block 1 (.seq (.reg [⟨(some 8), (.mv (.t 6)), none, []⟩, ⟨(some 3), (.mv (.t 8)), none, [0, 0]⟩] false) (.seq (.reg [⟨(some 9), (.mv (.t 3)), none, []⟩, ⟨(some 10), (.fa 0 (.t 1)), none, []⟩, ⟨(some 11), (.ixarr 6 1 (.t 10) (.t 9)), none, [1, 0]⟩, ⟨(some 12), (.ld false 1 (.t 11)), none, [2]⟩, ⟨(some 13), (.mv (.t 3)), none, []⟩, ⟨(some 14), (.fa 6 (.t 1)), none, []⟩, ⟨(some 15), (.ixarr 6 1 (.t 14) (.t 13)), none, [5, 4]⟩, ⟨(some 16), (.ld false 1 (.t 15)), none, [6]⟩, ⟨(some 17), (.bin .gtr (.t 12) (.t 16)), none, [3, 7]⟩] true) (.cond (.t 17) (.seq (.reg [⟨(some 2), (.mv (.c (.bool true))), none, []⟩] false) .ret) .skip)))) (.reg [⟨(some 18), (.bin .add (.t 6) (.c (.int .i64 1))), none, []⟩, ⟨(some 6), (.mv (.t 18)), none, [0]⟩] false))))))) (.seq (.reg [⟨(some 2), (.mv (.c (.bool false))), none, []⟩] false) .ret)))
theorem mcOk68 : (match Try.f68.body with | some c => compC Try.prog 19 c | none => none) = some mc68 := by kernel_rfl

theorem fc68 (x : List Int) (n : Nat) (hx : x.length = 13) (hn : x.getD 12 0 = (n : Int)) (hn6 : n ≤ 6) : FC Try.prog 68 [.agg (x.map iv)] [] (.bool (emptyS x n)) [] false := by
  refine fc_run (nt := 19) Try.func68 rfl rfl mcOk68 (Nat.le_of_ble_eq_true rfl) ?_
  delta mc68
  refine aw_seq ?_
  refine aw_reg ?_
  refine rs_box (v := .agg (x.map iv)) rfl rfl rfl (by simp [hx]) rfl (closed_iv x) ?_
  refine rs_mv rfl rfl ?_
  refine rs_nil fun _ => ?_
  refine th_n ?_
  refine aw_seq ?_
  refine aw_seq ?_
  refine aw_reg ?_
  first | refine rs_fa_p rfl rfl ?_ | refine rs_fa_r rfl rfl rfl ?_
  refine rs_ld_l (k := 12) rfl rfl rfl rfl (by omega) ?_
  rw [hn]
  refine rs_mv rfl rfl ?_
  refine rs_nil fun _ => ?_
  refine th_n ?_
  refine aw_block ?_
  refine aw_fam (α := Nat) (fun k => n - k) (fun k => [(1, .ptr 1 0 0), (5, iv (n : Int)), (6, iv (((k) : Nat) : Int))]) (fun k => [(1, .cells 92 13 [x.map iv] true)]) (fun k => k ≤ n ∧ ∀ j, j < k → ¬ (x.getD j 0 > x.getD (6 + j) 0)) 0 (⟨by omega, fun j h => by omega⟩)
    (weak_to (.cons rfl (rc_same rfl (.inl rfl)) (.cons rfl (rc_same rfl (.inl rfl)) (.cons rfl (rc_same rfl (.inl rfl)) (.nil)))) (.keep (rfl) rfl (.nil)) (fun i h => by cases h)) ?_
  rintro k ⟨hk, hj⟩
  refine aw_seq ?_
  refine aw_reg ?_
  refine rs_lss rfl rfl rfl ?_
  refine rs_nil fun _ => ?_
  refine th_n ?_
  refine aw_seq ?_
  refine aw_cond rfl (fun h7 => ?_) (fun h7 => ?_)
  · first | replace h7 := of_decide_eq_true h7 | skip
    refine aw_skip ?_
    refine th_n ?_
    refine aw_seq ?_
    refine aw_block ?_
    refine aw_seq ?_
    refine aw_reg ?_
    refine rs_mv rfl rfl ?_
    refine rs_mv rfl rfl ?_
    refine rs_nil fun _ => ?_
    refine th_n ?_
    refine aw_seq ?_
    refine aw_draw hmix ?_
    refine rs_mv rfl rfl ?_
    first | refine rs_fa_p rfl rfl ?_ | refine rs_fa_r rfl rfl rfl ?_
    first | refine rs_ixarr_p rfl rfl rfl (by omega) (by omega) ?_ | refine rs_ixarr_r rfl rfl rfl (by omega) (by omega) rfl ?_
    refine rs_ld_l (k := k) rfl rfl rfl (by simp) (by omega) ?_
    refine rs_mv rfl rfl ?_
    first | refine rs_fa_p rfl rfl ?_ | refine rs_fa_r rfl rfl rfl ?_
    first | refine rs_ixarr_p rfl rfl rfl (by omega) (by omega) ?_ | refine rs_ixarr_r rfl rfl rfl (by omega) (by omega) rfl ?_
    refine rs_ld_l (k := 6 + k) rfl rfl rfl (by simp) (by omega) ?_
    refine rs_gtr rfl rfl rfl ?_
    refine rs_nil ⟨by kernel_rfl, fun _ => ?_⟩
    refine th_n ?_
    refine aw_cond rfl (fun h17 => ?_) (fun h17 => ?_)
    · first | replace h17 := of_decide_eq_true h17 | skip
      refine aw_seq ?_
      refine aw_reg ?_
      refine rs_mv rfl rfl ?_
      refine rs_nil fun _ => ?_
      refine th_n ?_
      refine aw_ret ?_
      refine in_r ?_
      refine th_r ?_
      refine th_r ?_
      refine in_r ?_
      refine th_r ?_
      first
        | exact ret_pure rfl (congrArg AV.bool (Eq.symm (List.any_eq_true.2 ⟨k, List.mem_range.2 (by omega), decide_eq_true h17⟩))) rfl (.inr rfl)
        | exact ret_pure rfl (congrArg AV.bool (Eq.symm (Bool.eq_false_iff.2 fun h => by
            obtain ⟨j, h1, h2⟩ := List.any_eq_true.1 h
            exact hj j (by have := List.mem_range.1 h1; omega) (of_decide_eq_true h2)))) rfl (.inr rfl)
    · first | replace h17 := of_decide_eq_false h17 | skip
      refine aw_skip ?_
      refine in_n ?_
      refine th_n ?_
      refine aw_reg ?_
      first | refine rs_add rfl rfl rfl (by omega) ?_ | refine rs_addw rfl rfl rfl rfl ?_
      refine rs_mv rfl rfl ?_
      refine rs_nil fun _ => ?_
      refine th_n ?_
      refine ⟨k + 1, ⟨by omega, fun j hj1 => ?_⟩, by omega, weak_to (.cons rfl (rc_same rfl (.inl rfl)) (.cons rfl (rc_same rfl (.inl rfl)) (.cons rfl (rc_same rfl (.inl rfl)) (.nil)))) (.keep (rfl) rfl (.nil)) (fun i h => by cases h)⟩
      by_cases e : j = k
      · subst e; omega
      · exact hj j (by omega)
  · first | replace h7 := of_decide_eq_false h7 | skip
    refine aw_exit ?_
    refine th_e ?_
    refine th_e ?_
    refine in_hit ?_
    refine th_n ?_
    refine aw_seq ?_
    refine aw_reg ?_
    refine rs_mv rfl rfl ?_
    refine rs_nil fun _ => ?_
    refine th_n ?_
    refine aw_ret ?_
    first
      | exact ret_pure rfl (congrArg AV.bool (Eq.symm (List.any_eq_true.2 ⟨k, List.mem_range.2 (by omega), decide_eq_true h17⟩))) rfl (.inr rfl)
      | exact ret_pure rfl (congrArg AV.bool (Eq.symm (Bool.eq_false_iff.2 fun h => by
          obtain ⟨j, h1, h2⟩ := List.any_eq_true.1 h
          exact hj j (by have := List.mem_range.1 h1; omega) (of_decide_eq_true h2)))) rfl (.inr rfl)

def mc67 : MC := (.seq (.reg [⟨(some 3), (.box 92 13 (.t 0)), none, []⟩, ⟨(some 6), (.alloc 92 13 [(.int .i64 0), (.int .i64 0), (.int .i64 0), (.int .i64 0), (.int .i64 0), (.int .i64 0), (.int .i64 0), (.int .i64 0), (.int .i64 0), (.int .i64 0), (.int .i64 0), (.int .i64 0), (.int .i64 0)]), none, []⟩] false) (.seq (.seq (.reg [⟨(some 9), (.mv (.t 1)), none, []⟩, ⟨(some 10), (.len (.t 9)), none, [0]⟩, ⟨(some 11), (.mv (.c (.int .i64 0))), none, []⟩] false) (.block 0 (.loop (.seq (.reg [⟨(some 12), (.bin .lss (.t 11) (.t 10)), none, []⟩] false) (.seq (.cond (.t 12) .skip (.exit 0)) (.seq (.block 1 (.seq (.reg [⟨(some 13), (.ixsl 4 (.t 9) (.t 11)), none, []⟩, ⟨(some 14), (.ld true 4 (.t 13)), none, [0]⟩, ⟨(some 8), (.alloc 50 4 [(.int .i64 0), (.int .i64 0), (.int .i64 0), (.int .i64 0)]), none, []⟩, ⟨none, (.st 4 (.t 8) (.t 14)), none, [2, 1, 0, 1, 2]⟩] false) (.seq (.reg [⟨(some 15), (.mv (.t 2)), none, []⟩, ⟨(some 16), (.fa 0 (.t 8)), none, []⟩, ⟨(some 17), (.ld false 1 (.t 16)), none, [1]⟩, ⟨(some 18), (.bin .shr (.t 15) (.t 17)), none, [0, 2]⟩, ⟨(some 19), (.bin .and (.t 18) (.c (.int .u64 1))), none, [3]⟩, ⟨(some 20), (.bin .eql (.t 19) (.c (.int .u64 0))), none, [4]⟩] false) (.cond (.t 20) (.reg [⟨(some 21), (.fa 1 (.t 8)), none, []⟩, ⟨(some 22), (.ld false 1 (.t 21)), none, [0]⟩, ⟨(some 23), (.fa 1 (.t 8)), none, []⟩, ⟨(some 24), (.ld false 1 (.t 23)), none, [2]⟩, ⟨(some 25), (.fa 1 (.t 8)), none, []⟩, ⟨(some 26), (.ld false 1 (.t 25)), none, [4]⟩, ⟨(some 27), (.fa 0 (.t 3)), none, []⟩, ⟨(some 28), (.ixarr 6 1 (.t 27) (.t 26)), none, [6, 5]⟩, ⟨(some 29), (.ld false 1 (.t 28)), none, [7]⟩, ⟨(some 30), (.fa 2 (.t 8)), none, []⟩, ⟨(some 31), (.ld false 1 (.t 30)), none, [9]⟩, ⟨(some 32), (.mx (.t 29) (.t 31)), none, [8, 10]⟩, ⟨(some 33), (.fa 1 (.t 8)), none, []⟩, ⟨(some 34), (.ld false 1 (.t 33)), none, [12]⟩, ⟨(some 35), (.fa 6 (.t 3)), none, []⟩, ⟨(some 36), (.ixarr 6 1 (.t 35) (.t 34)), none, [14, 13]⟩, ⟨(some 37), (.ld false 1 (.t 36)), none, [15]⟩, ⟨(some 38), (.fa 3 (.t 8)), none, []⟩, ⟨(some 39), (.ld false 1 (.t 38)), none, [17]⟩, ⟨(some 40), (.mn (.t 37) (.t 39)), none, [16, 18]⟩, ⟨(some 41), (.fa 0 (.t 3)), none, []⟩, ⟨(some 42), (.ixarr 6 1 (.t 41) (.t 22)), none, [20, 1, 0, 1, 4, 5, 6, 7, 8, 9, 10, 11, 14, 15, 16]⟩, ⟨none, (.st 1 (.t 42) (.t 32)), none, [21, 11, 0, 1, 4, 5, 6, 7, 8, 9, 10, 11, 14, 15, 16]⟩, ⟨(some 43), (.fa 6 (.t 3)), none, []⟩, ⟨(some 44), (.ixarr 6 1 (.t 43) (.t 24)), none, [23, 3, 0, 1, 2, 3, 4, 5, 6, 7, 8, 9, 10, 11, 12, 13, 14, 15, 16, 17, 18, 19, 20, 21, 22]⟩, ⟨none, (.st 1 (.t 44) (.t 40)), none, [24, 19, 22, 0, 1, 2, 3, 4, 5, 6, 7, 8, 9, 10, 11, 12, 13, 14, 15, 16, 17, 18, 19, 20, 21, 22]⟩] true) .skip)))) (.reg [⟨(some 45), (.bin .add (.t 11) (.c (.int .i64 1))), none, []⟩, ⟨(some 11), (.mv (.t 45)), none, [0]⟩] false))))))) (.seq (.reg [⟨(some 46), (.ld true 13 (.t 3)), none, []⟩, ⟨none, (.st 13 (.t 6) (.t 46)), none, [0, 0]⟩] false) .ret)))
theorem mcOk67 : (match Try.f67.body with | some c => compC Try.prog 47 c | none => none) = some mc67 := by kernel_rfl

theorem fc67 (x : List Int) (l : List Rd) (s : Nat) (hx : x.length = 13) (hs : s < 256) (hl : l.length ≤ 4611686018427387904) (hr : ∀ r ∈ l, 0 ≤ r.probe ∧ r.probe < 8 ∧ 0 ≤ r.of_ ∧ r.of_ < 6) : FC Try.prog 67 [.agg (x.map iv), .rs 4 (l.map cR), .int .u64 (s : Int)] [] (.agg ((withoutS l s x).map iv)) [] false := by
  refine fc_run (nt := 47) Try.func67 rfl rfl mcOk67 (Nat.le_of_ble_eq_true rfl) ?_
  delta mc67
  refine aw_seq ?_
  refine aw_reg ?_
  refine rs_box (v := .agg (x.map iv)) rfl rfl rfl (by simp [hx]) rfl (closed_iv x) ?_
  refine rs_alloc rfl rfl rfl ?_
  refine rs_nil fun _ => ?_
  refine th_n ?_
  refine aw_seq ?_
  refine aw_seq ?_
  refine aw_reg ?_
  refine rs_mv rfl rfl ?_
  first | refine rs_len_m rfl rfl ?_ | refine rs_len_s rfl rfl ?_ | refine rs_len_n rfl rfl ?_ | refine rs_len_r rfl rfl rfl ?_
  refine rs_mv rfl rfl ?_
  refine rs_nil fun _ => ?_
  refine th_n ?_
  refine aw_block ?_
  refine aw_fam (α := Nat) (fun k => l.length - k) (fun k => [(2, .int .u64 (s : Int)), (3, .ptr 3 0 0), (6, .ptr 6 0 0), (9, .rs 4 (l.map cR)), (10, iv (l.length : Int)), (11, iv (((k) : Nat) : Int))]) (fun k => [(3, .cells 92 13 [((l.take (k)).foldl (wstep s) x).map iv] true), (6, .cells 92 13 [[.int .i64 0, .int .i64 0, .int .i64 0, .int .i64 0, .int .i64 0, .int .i64 0, .int .i64 0, .int .i64 0, .int .i64 0, .int .i64 0, .int .i64 0, .int .i64 0, .int .i64 0]] true)]) (fun k => k ≤ l.length) 0 (by omega)
    (weak_to (.cons rfl (rc_same rfl (.inl rfl)) (.cons rfl (rc_same rfl (.inl rfl)) (.cons rfl (rc_same rfl (.inl rfl)) (.cons rfl (rc_same rfl (.inl rfl)) (.cons rfl (rc_same rfl (.inl rfl)) (.cons rfl (rc_same rfl (.inl rfl)) (.nil))))))) (.keep (rfl) rfl (.keep (rfl) rfl (.nil))) (fun i h => by cases h)) ?_
  intro k hk
  refine aw_seq ?_
  refine aw_reg ?_
  refine rs_lss rfl rfl rfl ?_
  refine rs_nil fun _ => ?_
  refine th_n ?_
  refine aw_seq ?_
  refine aw_cond rfl (fun h12 => ?_) (fun h12 => ?_)
  · first | replace h12 := of_decide_eq_true h12 | skip
    refine aw_skip ?_
    refine th_n ?_
    refine aw_seq ?_
    refine aw_block ?_
    refine aw_seq ?_
    refine aw_reg ?_
    have hkl : k < l.length := by omega
    have hk1 := hr l[k] (List.getElem_mem _)
    have hlen := length_fold s (l.take k) x
    first | refine rs_ix_m rfl rfl rfl (by omega) ?_ | refine rs_ix_sm rfl rfl rfl rfl (by omega) ?_
    first | refine rs_ld_pa rfl rfl rfl rfl (Nat.le_of_ble_eq_true rfl) rfl ?_ | refine rs_ld_ra rfl rfl (Nat.le_of_ble_eq_true rfl) rfl ?_ | refine rs_ld_ma rfl rfl rfl (by omega) (Nat.le_of_ble_eq_true rfl) rfl ?_
    refine rs_alloc rfl rfl rfl ?_
    refine rs_st rfl rfl rfl rfl rfl rfl rfl (Nat.le_of_ble_eq_true rfl) rfl rfl ?_
    refine rs_nil fun _ => ?_
    refine th_n ?_
    refine aw_seq ?_
    refine aw_reg ?_
    refine rs_mv rfl rfl ?_
    first | refine rs_fa_p rfl rfl ?_ | refine rs_fa_r rfl rfl rfl ?_
    first | refine rs_ld_r rfl rfl rfl ?_ | refine rs_ld_p rfl rfl rfl rfl rfl ?_ | refine rs_ld_m rfl rfl rfl (by omega) rfl ?_
    refine rs_shr rfl rfl rfl (hk1.1) rfl ?_
    refine rs_and rfl rfl rfl rfl ?_
    refine rs_eql rfl rfl rfl ?_
    rw [has_bits_v s hs _ hk1.1 hk1.2.1]
    refine rs_nil fun _ => ?_
    refine th_n ?_
    refine aw_cond rfl (fun h20 => ?_) (fun h20 => ?_)
    · first | replace h20 := of_decide_eq_true h20 | skip
      refine aw_draw hmix ?_
      first | refine rs_fa_p rfl rfl ?_ | refine rs_fa_r rfl rfl rfl ?_
      first | refine rs_ld_r rfl rfl rfl ?_ | refine rs_ld_p rfl rfl rfl rfl rfl ?_ | refine rs_ld_m rfl rfl rfl (by omega) rfl ?_
      first | refine rs_fa_p rfl rfl ?_ | refine rs_fa_r rfl rfl rfl ?_
      first | refine rs_ld_r rfl rfl rfl ?_ | refine rs_ld_p rfl rfl rfl rfl rfl ?_ | refine rs_ld_m rfl rfl rfl (by omega) rfl ?_
      first | refine rs_fa_p rfl rfl ?_ | refine rs_fa_r rfl rfl rfl ?_
      first | refine rs_ld_r rfl rfl rfl ?_ | refine rs_ld_p rfl rfl rfl rfl rfl ?_ | refine rs_ld_m rfl rfl rfl (by omega) rfl ?_
      first | refine rs_fa_p rfl rfl ?_ | refine rs_fa_r rfl rfl rfl ?_
      refine rs_ixarr_p rfl rfl rfl (by omega) (by omega) ?_
      refine rs_ld_l (k := l[k].of_.toNat) rfl rfl rfl (by simp) (by omega) ?_
      first | refine rs_fa_p rfl rfl ?_ | refine rs_fa_r rfl rfl rfl ?_
      first | refine rs_ld_r rfl rfl rfl ?_ | refine rs_ld_p rfl rfl rfl rfl rfl ?_ | refine rs_ld_m rfl rfl rfl (by omega) rfl ?_
      refine rs_mx rfl rfl rfl rfl ?_
      first | refine rs_fa_p rfl rfl ?_ | refine rs_fa_r rfl rfl rfl ?_
      first | refine rs_ld_r rfl rfl rfl ?_ | refine rs_ld_p rfl rfl rfl rfl rfl ?_ | refine rs_ld_m rfl rfl rfl (by omega) rfl ?_
      first | refine rs_fa_p rfl rfl ?_ | refine rs_fa_r rfl rfl rfl ?_
      refine rs_ixarr_p rfl rfl rfl (by omega) (by omega) ?_
      refine rs_ld_l (k := 6 + l[k].of_.toNat) rfl rfl rfl (by simp) (by omega) ?_
      first | refine rs_fa_p rfl rfl ?_ | refine rs_fa_r rfl rfl rfl ?_
      first | refine rs_ld_r rfl rfl rfl ?_ | refine rs_ld_p rfl rfl rfl rfl rfl ?_ | refine rs_ld_m rfl rfl rfl (by omega) rfl ?_
      refine rs_mn rfl rfl rfl rfl ?_
      first | refine rs_fa_p rfl rfl ?_ | refine rs_fa_r rfl rfl rfl ?_
      refine rs_ixarr_p rfl rfl rfl (by omega) (by omega) ?_
      refine rs_st_l (k := l[k].of_.toNat) rfl rfl rfl rfl (by simp) (by omega) ?_
      first | refine rs_fa_p rfl rfl ?_ | refine rs_fa_r rfl rfl rfl ?_
      refine rs_ixarr_p rfl rfl rfl (by omega) (by omega) ?_
      refine rs_st_l (k := 6 + l[k].of_.toNat) rfl rfl rfl rfl (by simp) (by simp; omega) ?_
      refine rs_nil ⟨by kernel_rfl, fun _ => ?_⟩
      refine in_n ?_
      refine th_n ?_
      refine aw_reg ?_
      first | refine rs_add rfl rfl rfl (by omega) ?_ | refine rs_addw rfl rfl rfl rfl ?_
      refine rs_mv rfl rfl ?_
      refine rs_nil fun _ => ?_
      refine th_n ?_
      refine ⟨k + 1, by omega, by omega, ?_⟩
      rw [Bool.not_eq_eq_eq_not] at h20
      have hst := fold_take (wstep s) x l k hkl
      first
        | exact weak_to (.cons rfl (rc_same rfl (.inl rfl)) (.cons rfl (rc_same rfl (.inl rfl)) (.cons rfl (rc_same rfl (.inl rfl)) (.cons rfl (rc_same rfl (.inl rfl)) (.cons rfl (rc_same rfl (.inl rfl)) (.cons rfl (rc_same rfl (.inl rfl)) (.nil))))))) (.keep ((by rw [hst, wstep, if_neg (by simp_all)]; rfl)) rfl (.keep (rfl) rfl (.nil))) (fun i h => by cases h)
        | exact weak_to (.cons rfl (rc_same rfl (.inl rfl)) (.cons rfl (rc_same rfl (.inl rfl)) (.cons rfl (rc_same rfl (.inl rfl)) (.cons rfl (rc_same rfl (.inl rfl)) (.cons rfl (rc_same rfl (.inl rfl)) (.cons rfl (rc_same rfl (.inl rfl)) (.nil))))))) (.keep ((by rw [hst, wstep, if_pos (by simp_all)]; rfl)) rfl (.keep (rfl) rfl (.nil))) (fun i h => by cases h)
    · first | replace h20 := of_decide_eq_false h20 | skip
      refine aw_skip ?_
      refine in_n ?_
      refine th_n ?_
      refine aw_reg ?_
      first | refine rs_add rfl rfl rfl (by omega) ?_ | refine rs_addw rfl rfl rfl rfl ?_
      refine rs_mv rfl rfl ?_
      refine rs_nil fun _ => ?_
      refine th_n ?_
      refine ⟨k + 1, by omega, by omega, ?_⟩
      rw [Bool.not_eq_eq_eq_not] at h20
      have hst := fold_take (wstep s) x l k hkl
      first
        | exact weak_to (.cons rfl (rc_same rfl (.inl rfl)) (.cons rfl (rc_same rfl (.inl rfl)) (.cons rfl (rc_same rfl (.inl rfl)) (.cons rfl (rc_same rfl (.inl rfl)) (.cons rfl (rc_same rfl (.inl rfl)) (.cons rfl (rc_same rfl (.inl rfl)) (.nil))))))) (.keep ((by rw [hst, wstep, if_neg (by simp_all)]; rfl)) rfl (.keep (rfl) rfl (.nil))) (fun i h => by cases h)
        | exact weak_to (.cons rfl (rc_same rfl (.inl rfl)) (.cons rfl (rc_same rfl (.inl rfl)) (.cons rfl (rc_same rfl (.inl rfl)) (.cons rfl (rc_same rfl (.inl rfl)) (.cons rfl (rc_same rfl (.inl rfl)) (.cons rfl (rc_same rfl (.inl rfl)) (.nil))))))) (.keep ((by rw [hst, wstep, if_pos (by simp_all)]; rfl)) rfl (.keep (rfl) rfl (.nil))) (fun i h => by cases h)
  · first | replace h12 := of_decide_eq_false h12 | skip
    have hfin : withoutS l s x = ((l.take k).foldl (wstep s) x) := by rw [List.take_of_length_le (by omega)]; rfl
    refine aw_exit ?_
    refine th_e ?_
    refine th_e ?_
    refine in_hit ?_
    refine th_n ?_
    refine aw_seq ?_
    refine aw_reg ?_
    refine rs_ld_pa (cs := (withoutS l s x).map iv) rfl rfl rfl rfl (by simp [length_fold, hx]) (by rw [hfin]; exact List.take_of_length_le (by simp [length_fold, hx])) ?_
    refine rs_st (els' := [(withoutS l s x).map iv]) (fl' := true) rfl rfl rfl rfl rfl rfl (by simp [withoutS, length_fold, hx]) (Nat.le_of_ble_eq_true rfl) (by show [setAt _ 0 _] = _; rw [setAt_all (by simp [withoutS, length_fold, hx])]) (by rw [closed_iv]; rfl) ?_
    refine rs_nil fun _ => ?_
    refine th_n ?_
    refine aw_ret ?_
    exact ret_pure (resVs_cell (n := 13) rfl rfl (by kernel_rfl) (by kernel_rfl) (by simp [withoutS, length_fold, hx])) rfl (scoped_iv _ _) (.inr (noRO_iv _))

end Go.Proofs.Ytadjdnhnbkcakaa
