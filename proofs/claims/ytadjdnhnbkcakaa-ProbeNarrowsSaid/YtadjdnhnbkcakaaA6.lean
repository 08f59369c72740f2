/-
  Walks: A6.
-/
import Derived.Test.YtadjdnhnbkcakaaA5
namespace Go.Proofs.Ytadjdnhnbkcakaa
open Go.RowKit

section
variable {P : Program} {N : Nat} {Z : List Nat} {F : Fr} {H : Hp} {ml : List MOper} {K : List Fp → Fr → Hp → Prop} {d : Nat} {g : Option (Nat × Bool)} {pre : List Nat}
theorem rs_callvo {fa : Arg} {xs : List Arg} {vs cs vs' : List AV} {f : FuncId} {dst : Option Nat} {r : AV} (Hs : Hp) {H' : Hp} (hg : gOK F g = true) (hf : aarg F fa = some (.fn (.func f) cs)) (hent : entered P f = true) (hv : aargs F xs = some vs) (hfc : FC P f vs' Hs r H' true)
    (hh : HVs H Hs [] true (vs ++ cs) vs') (hsub : SubH H Hs) (hsc : scopedHs Hs = true) (hnew : newOk H Hs H' = true) (hdom : domOk Hs H' = true)
    (h : RS P N ml (putF F dst r) (H' ++ H) (fun fps => K (([], keysOf H') :: fps))) : RS P N (⟨dst, .callv fa xs, g, pre⟩ :: ml) F H K :=
  rs_callv hg hf hent hv hfc hh hsub.at_ hsc (newOk_spec hnew) (domOk_spec hdom) h
end
/-- The sets of liars, one after the other, with what is carried along and how many explain the readings. -/
def exK {σ : Type} (l : List Rd) (x : List Int) (lies : Int) (m : Nat) (f : σ → Nat → List Int → σ) (s0 : σ) : Nat → σ × Nat
  | 0 => (s0, 0)
  | k + 1 => if (sizeS k 8 : Int) ≤ lies ∧ emptyS (withoutS l k x) m = false then (f (exK l x lies m f s0 k).1 k (withoutS l k x), (exK l x lies m f s0 k).2 + 1) else exK l x lies m f s0 k
section
variable {σ : Type} (l : List Rd) (x : List Int) (lies : Int) (m : Nat) (f : σ → Nat → List Int → σ) (s0 : σ) (k : Nat)
theorem exK_t (h1 : (sizeS k 8 : Int) ≤ lies) (h2 : emptyS (withoutS l k x) m = false) : exK l x lies m f s0 (k + 1) = (f (exK l x lies m f s0 k).1 k (withoutS l k x), (exK l x lies m f s0 k).2 + 1) := if_pos ⟨h1, h2⟩
theorem exK_f1 (h1 : lies < (sizeS k 8 : Int)) : exK l x lies m f s0 (k + 1) = exK l x lies m f s0 k := if_neg (fun h => by omega)
theorem exK_f2 (h2 : emptyS (withoutS l k x) m = true) : exK l x lies m f s0 (k + 1) = exK l x lies m f s0 k := if_neg (fun h => by rw [h2] at h; cases h.2)
theorem exK_le : (exK l x lies m f s0 k).2 ≤ k := by
  induction k with
  | zero => exact Nat.le_refl _
  | succ k ih =>
    unfold exK
    split
    · exact Nat.succ_le_succ ih
    · omega
theorem exK_inv (p : σ → Prop) (h0 : p s0) (hs : ∀ s k y, p s → k < 256 → p (f s k y)) (hk : k ≤ 256) : p (exK l x lies m f s0 k).1 := by
  induction k with
  | zero => exact h0
  | succ k ih =>
    unfold exK
    split
    · exact hs _ _ _ (ih (by omega)) (by omega)
    · exact ih (by omega)
end
def f51 (n : Nat) (s : List Int × List Int) (_ : Nat) (y : List Int) : List Int × List Int := (minK s.1 y n, maxK s.2 y n)
def f54 (all set : Nat) (_ : List Int) : Nat := all &&& set
theorem wstep_12 (s : Nat) (x : List Int) (r : Rd) (h : 0 ≤ r.of_ ∧ r.of_ < 6) : (wstep s x r).getD 12 0 = x.getD 12 0 := by
  unfold wstep
  split
  · rfl
  · simp only [List.getD_eq_getElem?_getD]
    rw [List.getElem?_set_ne (by omega), List.getElem?_set_ne (by omega)]
theorem without_12 (s : Nat) : ∀ (l : List Rd) (x : List Int), (∀ r ∈ l, 0 ≤ r.of_ ∧ r.of_ < 6) → (withoutS l s x).getD 12 0 = x.getD 12 0
  | [], x, _ => rfl
  | r :: l, x, h => by
    show (withoutS l s (wstep s x r)).getD 12 0 = _
    rw [without_12 s l _ (fun r hr => h r (by simp [hr])), wstep_12 s x r (h r (by simp))]
theorem length_without (l : List Rd) (s : Nat) (x : List Int) : (withoutS l s x).length = x.length := length_fold s l x

def mc49 : MC := (.seq (.reg [⟨(some 5), (.box 92 13 (.t 1)), none, []⟩, ⟨(some 8), (.mv (.c (.int .i64 0))), none, []⟩] false) (.seq (.reg [⟨(some 9), (.mv (.c (.int .i64 0))), none, []⟩] false) (.seq (.seq (.reg [⟨(some 12), (.mv (.c (.int .u64 0))), none, []⟩] false) (.block 0 (.loop (.seq (.reg [⟨(some 13), (.bin .lss (.t 12) (.c (.int .u64 256))), none, []⟩] false) (.seq (.cond (.t 13) .skip (.exit 0)) (.seq (.block 1 (.seq (.reg [⟨(some 14), (.mv (.t 12)), none, []⟩, ⟨(some 10), (.mv (.t 14)), none, [0, 0]⟩] false) (.seq (.seq (.reg [⟨(some 15), (.mv (.t 10)), none, []⟩, ⟨(some 16), (.call 66 [(.t 15)]), none, [0]⟩, ⟨(some 17), (.mv (.t 2)), none, []⟩, ⟨(some 18), (.bin .gtr (.t 16) (.t 17)), none, [1, 2]⟩] false) (.cond (.t 18) (.exit 1) .skip)) (.seq (.reg [⟨(some 19), (.ld true 13 (.t 5)), none, []⟩, ⟨(some 20), (.mv (.t 0)), none, []⟩, ⟨(some 21), (.mv (.t 10)), none, []⟩, ⟨(some 22), (.call 67 [(.t 19), (.t 20), (.t 21)]), none, [0, 1, 2]⟩, ⟨(some 11), (.alloc 92 13 [(.int .i64 0), (.int .i64 0), (.int .i64 0), (.int .i64 0), (.int .i64 0), (.int .i64 0), (.int .i64 0), (.int .i64 0), (.int .i64 0), (.int .i64 0), (.int .i64 0), (.int .i64 0), (.int .i64 0)]), none, []⟩, ⟨none, (.st 13 (.t 11) (.t 22)), none, [4, 3, 3, 0, 1, 2, 3, 4]⟩] false) (.seq (.reg [⟨(some 23), (.ld true 13 (.t 11)), none, []⟩, ⟨(some 24), (.call 68 [(.t 23)]), none, [0]⟩, ⟨(some 25), (.un .not (.t 24)), none, [1]⟩] false) (.cond (.t 25) (.seq (.reg [⟨(some 26), (.mv (.t 3)), none, []⟩, ⟨(some 27), (.mv (.t 10)), none, []⟩, ⟨(some 28), (.ld true 13 (.t 11)), none, []⟩, ⟨(some 29), (.callv (.t 26) [(.t 27), (.t 28)]), none, [0, 1, 2]⟩] false) (.reg [⟨(some 30), (.mv (.t 9)), none, []⟩, ⟨(some 31), (.bin .add (.t 30) (.c (.int .i64 1))), none, [0]⟩, ⟨(some 9), (.mv (.t 31)), none, [1, 0, 1]⟩] false)) .skip)))))) (.reg [⟨(some 32), (.bin .add (.t 12) (.c (.int .u64 1))), none, []⟩, ⟨(some 12), (.mv (.t 32)), none, [0]⟩] false))))))) (.seq (.reg [⟨(some 33), (.mv (.t 9)), none, []⟩, ⟨(some 8), (.mv (.t 33)), none, [0, 0]⟩] false) .ret))))
theorem mcOk49 : (match Try.f49.body with | some c => compC Try.prog 34 c | none => none) = some mc49 := by kernel_rfl

theorem fc49a (l : List Rd) (x : List Int) (lies : Int) (m : Nat) (hx : x.length = 13) (hm : x.getD 12 0 = (m : Int)) (hm6 : m ≤ 6) (hl : l.length ≤ 4611686018427387904) (hr : ∀ r ∈ l, 0 ≤ r.probe ∧ r.probe < 8 ∧ 0 ≤ r.of_ ∧ r.of_ < 6) (lo a b : List Int) (n : Nat) (hn : lo.length = n) (ha : a.length = n) (hb : b.length = n) (hn6 : n ≤ 6) : FC Try.prog 49 [.rs 4 (l.map cR), .agg (x.map iv), iv lies, .fn (.func 51) [.ptr 1005 0 0, .ptr 12 0 0, .ptr 13 0 0]] [(1005, .cells 28 1 [[ints lo]] true), (12, .cells 28 1 [[.sl 2001 0 n]] false), (13, .cells 28 1 [[.sl 2002 0 n]] false), (2001, .cells 3 1 ((a, b).1.map ci) true), (2002, .cells 3 1 ((a, b).2.map ci) true)] (iv ((exK l x lies m (f51 n) (a, b) (256)).2 : Int)) [(1005, .cells 28 1 [[ints lo]] true), (12, .cells 28 1 [[.sl 2001 0 n]] false), (13, .cells 28 1 [[.sl 2002 0 n]] false), (2001, .cells 3 1 ((exK l x lies m (f51 n) (a, b) (256)).1.1.map ci) true), (2002, .cells 3 1 ((exK l x lies m (f51 n) (a, b) (256)).1.2.map ci) true)] true := by
  refine fc_run (nt := 34) Try.func49 rfl rfl mcOk49 (Nat.le_of_ble_eq_true rfl) ?_
  delta mc49
  refine aw_seq ?_
  refine aw_reg ?_
  refine rs_box (v := .agg (x.map iv)) rfl rfl rfl (by simp [hx]) rfl (closed_iv x) ?_
  refine rs_mv rfl rfl ?_
  refine rs_nil fun _ => ?_
  refine th_n ?_
  refine aw_seq ?_
  refine aw_reg ?_
  refine rs_mv rfl rfl ?_
  refine rs_nil fun _ => ?_
  refine th_n ?_
  refine aw_seq ?_
  refine aw_seq ?_
  refine aw_reg ?_
  refine rs_mv rfl rfl ?_
  refine rs_nil fun _ => ?_
  refine th_n ?_
  refine aw_block ?_
  refine aw_fam (α := Nat) (fun k => 256 - k) (fun k => [(0, .rs 4 (l.map cR)), (2, iv lies), (3, .fn (.func 51) [.ptr 1005 0 0, .ptr 12 0 0, .ptr 13 0 0]), (5, .ptr 5 0 0), (9, iv ((exK l x lies m (f51 n) (a, b) (k)).2 : Int)), (12, .int .u64 (((k) : Nat) : Int))]) (fun k => [(5, .cells 92 13 [x.map iv] true), (1005, .cells 28 1 [[ints lo]] true), (12, .cells 28 1 [[.sl 2001 0 n]] false), (13, .cells 28 1 [[.sl 2002 0 n]] false), (2001, .cells 3 1 ((exK l x lies m (f51 n) (a, b) (k)).1.1.map ci) true), (2002, .cells 3 1 ((exK l x lies m (f51 n) (a, b) (k)).1.2.map ci) true)]) (fun k => k ≤ 256) 0 (by omega)
    (weak_to (.cons rfl (rc_same rfl (.inl rfl)) (.cons rfl (rc_same rfl (.inl rfl)) (.cons rfl (rc_same rfl (.inl rfl)) (.cons rfl (rc_same rfl (.inl rfl)) (.cons rfl (rc_same rfl (.inl rfl)) (.cons rfl (rc_same rfl (.inl rfl)) (.nil))))))) (.keep (rfl) rfl (.keep (rfl) rfl (.keep (rfl) rfl (.keep (rfl) rfl (.keep (rfl) rfl (.keep (rfl) rfl (.nil))))))) (fun i h => by simp [keysOf] at h ⊢; omega)) ?_
  intro k hk
  have hi51 := exK_inv l x lies m (f51 n) (a, b) k (fun s => s.1.length = n ∧ s.2.length = n) ⟨ha, hb⟩ (fun s k y h _ => ⟨by simp [f51, minK, h.1], by simp [f51, maxK, h.2]⟩) hk
  have hle := exK_le l x lies m (f51 n) (a, b) k
  refine aw_seq ?_
  refine aw_reg ?_
  refine rs_lss rfl rfl rfl ?_
  refine rs_nil fun _ => ?_
  refine th_n ?_
  refine aw_seq ?_
  refine aw_cond rfl (fun h13 => ?_) (fun h13 => ?_)
  · first | replace h13 := of_decide_eq_true h13 | skip
    refine aw_skip ?_
    refine th_n ?_
    refine aw_seq ?_
    refine aw_block ?_
    refine aw_seq ?_
    refine aw_reg ?_
    refine rs_mv rfl rfl ?_
    refine rs_mv rfl rfl ?_
    refine rs_nil fun _ => ?_
    refine th_n ?_
    refine aw_seq ?_
    refine aw_seq ?_
    refine aw_reg ?_
    refine rs_mv rfl rfl ?_
    refine rs_calln [] rfl rfl (fc66 k (by omega)) (.cons (hv_same rfl) (.nil)) rfl ?_
    refine rs_mv rfl rfl ?_
    refine rs_gtr rfl rfl rfl ?_
    refine rs_nil fun _ => ?_
    refine th_n ?_
    refine aw_cond rfl (fun h18 => ?_) (fun h18 => ?_)
    · first | replace h18 := of_decide_eq_true h18 | skip
      refine aw_exit ?_
      refine th_e ?_
      refine in_hit ?_
      refine th_n ?_
      refine aw_reg ?_
      first | refine rs_add rfl rfl rfl (by omega) ?_ | refine rs_addw rfl rfl rfl rfl ?_
      refine rs_mv rfl rfl ?_
      refine rs_nil fun _ => ?_
      refine th_n ?_
      first
        | (have hs := exK_f1 l x lies m (f51 n) (a, b) k (by omega); exact ⟨k + 1, by omega, by omega, weak_to (.cons rfl (rc_same rfl (.inl rfl)) (.cons rfl (rc_same rfl (.inl rfl)) (.cons rfl (rc_same rfl (.inl rfl)) (.cons rfl (rc_same rfl (.inl rfl)) (.cons rfl (rc_int (by simp [hs])) (.cons rfl (rc_int (by rw [IntKind.wrap_u64]; omega)) (.nil))))))) (.keep (rfl) rfl (.keep (rfl) rfl (.keep (rfl) rfl (.keep (rfl) rfl (.keep ((by rw [hs]; rfl)) rfl (.keep ((by rw [hs]; rfl)) rfl (.nil))))))) (fun i h => by simp [keysOf] at h ⊢; omega)⟩)
        | (have hs := exK_f2 l x lies m (f51 n) (a, b) k (by simpa using h25); exact ⟨k + 1, by omega, by omega, weak_to (.cons rfl (rc_same rfl (.inl rfl)) (.cons rfl (rc_same rfl (.inl rfl)) (.cons rfl (rc_same rfl (.inl rfl)) (.cons rfl (rc_same rfl (.inl rfl)) (.cons rfl (rc_int (by simp [hs])) (.cons rfl (rc_int (by rw [IntKind.wrap_u64]; omega)) (.nil))))))) (.keep (rfl) rfl (.keep (rfl) rfl (.keep (rfl) rfl (.keep (rfl) rfl (.keep ((by rw [hs]; rfl)) rfl (.keep ((by rw [hs]; rfl)) rfl (.nil))))))) (fun i h => by simp [keysOf] at h ⊢; omega)⟩)
        | (have hs := exK_t l x lies m (f51 n) (a, b) k (by omega) (by simpa using h25); exact ⟨k + 1, by omega, by omega, weak_to (.cons rfl (rc_same rfl (.inl rfl)) (.cons rfl (rc_same rfl (.inl rfl)) (.cons rfl (rc_same rfl (.inl rfl)) (.cons rfl (rc_same rfl (.inl rfl)) (.cons rfl (rc_int (by simp [hs])) (.cons rfl (rc_int (by rw [IntKind.wrap_u64]; omega)) (.nil))))))) (.keep (rfl) rfl (.keep (rfl) rfl (.keep (rfl) rfl (.keep (rfl) rfl (.keep ((by rw [hs]; rfl)) rfl (.keep ((by rw [hs]; rfl)) rfl (.nil))))))) (fun i h => by simp [keysOf] at h ⊢; omega)⟩)
    · first | replace h18 := of_decide_eq_false h18 | skip
      refine aw_skip ?_
      refine th_n ?_
      refine aw_seq ?_
      refine aw_reg ?_
      refine rs_ld_pa (cs := x.map iv) rfl rfl rfl rfl (by simp [hx]) (by exact List.take_of_length_le (by simp [hx])) ?_
      refine rs_mv rfl rfl ?_
      refine rs_mv rfl rfl ?_
      refine rs_calln [] rfl rfl (fc67 x l k hx (by omega) hl hr) (.cons (hv_same (scoped_iv _ _)) (.cons (hv_same rfl) (.cons (hv_same rfl) (.nil)))) rfl ?_
      refine rs_alloc rfl rfl rfl ?_
      refine rs_st (els' := [(withoutS l k x).map iv]) (fl' := true) rfl rfl rfl rfl rfl rfl (by simp [length_without, hx]) (Nat.le_of_ble_eq_true rfl) (by show [setAt _ 0 _] = _; rw [setAt_all (by simp [length_without, hx])]) (by rw [closed_iv]; rfl) ?_
      refine rs_nil fun _ => ?_
      refine th_n ?_
      refine aw_seq ?_
      refine aw_reg ?_
      refine rs_ld_pa (cs := (withoutS l k x).map iv) rfl rfl rfl rfl (by simp [length_without, hx]) (by exact List.take_of_length_le (by simp [length_without, hx])) ?_
      refine rs_calln [] rfl rfl (fc68 (withoutS l k x) m (by rw [length_without, hx]) (by rw [without_12 k l x (fun r h => ⟨(hr r h).2.2.1, (hr r h).2.2.2⟩), hm]) hm6) (.cons (hv_same (scoped_iv _ _)) (.nil)) rfl ?_
      refine rs_not rfl rfl ?_
      refine rs_nil fun _ => ?_
      refine th_n ?_
      refine aw_cond rfl (fun h25 => ?_) (fun h25 => ?_)
      · first | replace h25 := of_decide_eq_true h25 | skip
        refine aw_seq ?_
        refine aw_reg ?_
        refine rs_mv rfl rfl ?_
        refine rs_mv rfl rfl ?_
        refine rs_ld_pa (cs := (withoutS l k x).map iv) rfl rfl rfl rfl (by simp [length_without, hx]) (by exact List.take_of_length_le (by simp [length_without, hx])) ?_
        refine rs_callvo [(1005, .cells 28 1 [[ints lo]] true), (12, .cells 28 1 [[.sl 2001 0 n]] false), (13, .cells 28 1 [[.sl 2002 0 n]] false), (2001, .cells 3 1 ((exK l x lies m (f51 n) (a, b) (k)).1.1.map ci) true), (2002, .cells 3 1 ((exK l x lies m (f51 n) (a, b) (k)).1.2.map ci) true)] rfl rfl (by kernel_rfl) rfl (fc51 _ lo (exK l x lies m (f51 n) (a, b) (k)).1.1 (exK l x lies m (f51 n) (a, b) (k)).1.2 (withoutS l k x) n hn hi51.1 hi51.2 hn6 (by rw [length_without, hx])) (.cons (hv_same rfl) (.cons (hv_same (scoped_iv _ _)) (.cons (hv_same rfl) (.cons (hv_same rfl) (.cons (hv_same rfl) (.nil)))))) (.cons rfl (.cons rfl (.cons rfl (.cons rfl (.cons rfl (.nil)))))) rfl rfl rfl ?_
        refine rs_nil fun _ => ?_
        refine th_n ?_
        refine aw_reg ?_
        refine rs_mv rfl rfl ?_
        first | refine rs_add rfl rfl rfl (by omega) ?_ | refine rs_addw rfl rfl rfl rfl ?_
        refine rs_mv rfl rfl ?_
        refine rs_nil fun _ => ?_
        refine in_n ?_
        refine th_n ?_
        refine aw_reg ?_
        first | refine rs_add rfl rfl rfl (by omega) ?_ | refine rs_addw rfl rfl rfl rfl ?_
        refine rs_mv rfl rfl ?_
        refine rs_nil fun _ => ?_
        refine th_n ?_
        first
          | (have hs := exK_f1 l x lies m (f51 n) (a, b) k (by omega); exact ⟨k + 1, by omega, by omega, weak_to (.cons rfl (rc_same rfl (.inl rfl)) (.cons rfl (rc_same rfl (.inl rfl)) (.cons rfl (rc_same rfl (.inl rfl)) (.cons rfl (rc_same rfl (.inl rfl)) (.cons rfl (rc_int (by simp [hs])) (.cons rfl (rc_int (by rw [IntKind.wrap_u64]; omega)) (.nil))))))) (.keep (rfl) rfl (.keep (rfl) rfl (.keep (rfl) rfl (.keep (rfl) rfl (.keep ((by rw [hs]; rfl)) rfl (.keep ((by rw [hs]; rfl)) rfl (.nil))))))) (fun i h => by simp [keysOf] at h ⊢; omega)⟩)
          | (have hs := exK_f2 l x lies m (f51 n) (a, b) k (by simpa using h25); exact ⟨k + 1, by omega, by omega, weak_to (.cons rfl (rc_same rfl (.inl rfl)) (.cons rfl (rc_same rfl (.inl rfl)) (.cons rfl (rc_same rfl (.inl rfl)) (.cons rfl (rc_same rfl (.inl rfl)) (.cons rfl (rc_int (by simp [hs])) (.cons rfl (rc_int (by rw [IntKind.wrap_u64]; omega)) (.nil))))))) (.keep (rfl) rfl (.keep (rfl) rfl (.keep (rfl) rfl (.keep (rfl) rfl (.keep ((by rw [hs]; rfl)) rfl (.keep ((by rw [hs]; rfl)) rfl (.nil))))))) (fun i h => by simp [keysOf] at h ⊢; omega)⟩)
          | (have hs := exK_t l x lies m (f51 n) (a, b) k (by omega) (by simpa using h25); exact ⟨k + 1, by omega, by omega, weak_to (.cons rfl (rc_same rfl (.inl rfl)) (.cons rfl (rc_same rfl (.inl rfl)) (.cons rfl (rc_same rfl (.inl rfl)) (.cons rfl (rc_same rfl (.inl rfl)) (.cons rfl (rc_int (by simp [hs])) (.cons rfl (rc_int (by rw [IntKind.wrap_u64]; omega)) (.nil))))))) (.keep (rfl) rfl (.keep (rfl) rfl (.keep (rfl) rfl (.keep (rfl) rfl (.keep ((by rw [hs]; rfl)) rfl (.keep ((by rw [hs]; rfl)) rfl (.nil))))))) (fun i h => by simp [keysOf] at h ⊢; omega)⟩)
      · first | replace h25 := of_decide_eq_false h25 | skip
        refine aw_skip ?_
        refine in_n ?_
        refine th_n ?_
        refine aw_reg ?_
        first | refine rs_add rfl rfl rfl (by omega) ?_ | refine rs_addw rfl rfl rfl rfl ?_
        refine rs_mv rfl rfl ?_
        refine rs_nil fun _ => ?_
        refine th_n ?_
        first
          | (have hs := exK_f1 l x lies m (f51 n) (a, b) k (by omega); exact ⟨k + 1, by omega, by omega, weak_to (.cons rfl (rc_same rfl (.inl rfl)) (.cons rfl (rc_same rfl (.inl rfl)) (.cons rfl (rc_same rfl (.inl rfl)) (.cons rfl (rc_same rfl (.inl rfl)) (.cons rfl (rc_int (by simp [hs])) (.cons rfl (rc_int (by rw [IntKind.wrap_u64]; omega)) (.nil))))))) (.keep (rfl) rfl (.keep (rfl) rfl (.keep (rfl) rfl (.keep (rfl) rfl (.keep ((by rw [hs]; rfl)) rfl (.keep ((by rw [hs]; rfl)) rfl (.nil))))))) (fun i h => by simp [keysOf] at h ⊢; omega)⟩)
          | (have hs := exK_f2 l x lies m (f51 n) (a, b) k (by simpa using h25); exact ⟨k + 1, by omega, by omega, weak_to (.cons rfl (rc_same rfl (.inl rfl)) (.cons rfl (rc_same rfl (.inl rfl)) (.cons rfl (rc_same rfl (.inl rfl)) (.cons rfl (rc_same rfl (.inl rfl)) (.cons rfl (rc_int (by simp [hs])) (.cons rfl (rc_int (by rw [IntKind.wrap_u64]; omega)) (.nil))))))) (.keep (rfl) rfl (.keep (rfl) rfl (.keep (rfl) rfl (.keep (rfl) rfl (.keep ((by rw [hs]; rfl)) rfl (.keep ((by rw [hs]; rfl)) rfl (.nil))))))) (fun i h => by simp [keysOf] at h ⊢; omega)⟩)
          | (have hs := exK_t l x lies m (f51 n) (a, b) k (by omega) (by simpa using h25); exact ⟨k + 1, by omega, by omega, weak_to (.cons rfl (rc_same rfl (.inl rfl)) (.cons rfl (rc_same rfl (.inl rfl)) (.cons rfl (rc_same rfl (.inl rfl)) (.cons rfl (rc_same rfl (.inl rfl)) (.cons rfl (rc_int (by simp [hs])) (.cons rfl (rc_int (by rw [IntKind.wrap_u64]; omega)) (.nil))))))) (.keep (rfl) rfl (.keep (rfl) rfl (.keep (rfl) rfl (.keep (rfl) rfl (.keep ((by rw [hs]; rfl)) rfl (.keep ((by rw [hs]; rfl)) rfl (.nil))))))) (fun i h => by simp [keysOf] at h ⊢; omega)⟩)
  · first | replace h13 := of_decide_eq_false h13 | skip
    refine aw_exit ?_
    refine th_e ?_
    refine th_e ?_
    refine in_hit ?_
    refine th_n ?_
    refine aw_seq ?_
    refine aw_reg ?_
    refine rs_mv rfl rfl ?_
    refine rs_mv rfl rfl ?_
    refine rs_nil fun _ => ?_
    refine th_n ?_
    refine aw_ret ?_
    obtain rfl : k = 256 := by omega
    exact ret_own rfl (rc_same rfl (.inl rfl)) (.keep (rfl) rfl (.keep (rfl) rfl (.keep (rfl) rfl (.keep (rfl) rfl (.keep (rfl) rfl (.nil)))))) (.cons rfl rfl rfl (.cons rfl rfl rfl (.cons rfl rfl rfl (.cons rfl rfl rfl (.cons rfl rfl rfl (.nil))))))

theorem fc49b (l : List Rd) (x : List Int) (lies : Int) (m : Nat) (hx : x.length = 13) (hm : x.getD 12 0 = (m : Int)) (hm6 : m ≤ 6) (hl : l.length ≤ 4611686018427387904) (hr : ∀ r ∈ l, 0 ≤ r.probe ∧ r.probe < 8 ∧ 0 ≤ r.of_ ∧ r.of_ < 6) (all : Nat) (hall : all < 256) : FC Try.prog 49 [.rs 4 (l.map cR), .agg (x.map iv), iv lies, .fn (.func 54) [.ptr 1011 0 0]] [(1011, .cells 94 1 [[.int .u64 ((all : Nat) : Int)]] true)] (iv ((exK l x lies m f54 all (256)).2 : Int)) [(1011, .cells 94 1 [[.int .u64 (((exK l x lies m f54 all (256)).1 : Nat) : Int)]] true)] true := by
  refine fc_run (nt := 34) Try.func49 rfl rfl mcOk49 (Nat.le_of_ble_eq_true rfl) ?_
  delta mc49
  refine aw_seq ?_
  refine aw_reg ?_
  refine rs_box (v := .agg (x.map iv)) rfl rfl rfl (by simp [hx]) rfl (closed_iv x) ?_
  refine rs_mv rfl rfl ?_
  refine rs_nil fun _ => ?_
  refine th_n ?_
  refine aw_seq ?_
  refine aw_reg ?_
  refine rs_mv rfl rfl ?_
  refine rs_nil fun _ => ?_
  refine th_n ?_
  refine aw_seq ?_
  refine aw_seq ?_
  refine aw_reg ?_
  refine rs_mv rfl rfl ?_
  refine rs_nil fun _ => ?_
  refine th_n ?_
  refine aw_block ?_
  refine aw_fam (α := Nat) (fun k => 256 - k) (fun k => [(0, .rs 4 (l.map cR)), (2, iv lies), (3, .fn (.func 54) [.ptr 1011 0 0]), (5, .ptr 5 0 0), (9, iv ((exK l x lies m f54 all (k)).2 : Int)), (12, .int .u64 (((k) : Nat) : Int))]) (fun k => [(5, .cells 92 13 [x.map iv] true), (1011, .cells 94 1 [[.int .u64 (((exK l x lies m f54 all (k)).1 : Nat) : Int)]] true)]) (fun k => k ≤ 256) 0 (by omega)
    (weak_to (.cons rfl (rc_same rfl (.inl rfl)) (.cons rfl (rc_same rfl (.inl rfl)) (.cons rfl (rc_same rfl (.inl rfl)) (.cons rfl (rc_same rfl (.inl rfl)) (.cons rfl (rc_same rfl (.inl rfl)) (.cons rfl (rc_same rfl (.inl rfl)) (.nil))))))) (.keep (rfl) rfl (.keep (rfl) rfl (.nil))) (fun i h => by simp [keysOf] at h ⊢; omega)) ?_
  intro k hk
  have hi54 := exK_inv l x lies m f54 all k (fun s => s < 256) hall (fun s k y h _ => Nat.lt_of_le_of_lt Nat.and_le_left h) hk
  have hle := exK_le l x lies m f54 all k
  refine aw_seq ?_
  refine aw_reg ?_
  refine rs_lss rfl rfl rfl ?_
  refine rs_nil fun _ => ?_
  refine th_n ?_
  refine aw_seq ?_
  refine aw_cond rfl (fun h13 => ?_) (fun h13 => ?_)
  · first | replace h13 := of_decide_eq_true h13 | skip
    refine aw_skip ?_
    refine th_n ?_
    refine aw_seq ?_
    refine aw_block ?_
    refine aw_seq ?_
    refine aw_reg ?_
    refine rs_mv rfl rfl ?_
    refine rs_mv rfl rfl ?_
    refine rs_nil fun _ => ?_
    refine th_n ?_
    refine aw_seq ?_
    refine aw_seq ?_
    refine aw_reg ?_
    refine rs_mv rfl rfl ?_
    refine rs_calln [] rfl rfl (fc66 k (by omega)) (.cons (hv_same rfl) (.nil)) rfl ?_
    refine rs_mv rfl rfl ?_
    refine rs_gtr rfl rfl rfl ?_
    refine rs_nil fun _ => ?_
    refine th_n ?_
    refine aw_cond rfl (fun h18 => ?_) (fun h18 => ?_)
    · first | replace h18 := of_decide_eq_true h18 | skip
      refine aw_exit ?_
      refine th_e ?_
      refine in_hit ?_
      refine th_n ?_
      refine aw_reg ?_
      first | refine rs_add rfl rfl rfl (by omega) ?_ | refine rs_addw rfl rfl rfl rfl ?_
      refine rs_mv rfl rfl ?_
      refine rs_nil fun _ => ?_
      refine th_n ?_
      first
        | (have hs := exK_f1 l x lies m f54 all k (by omega); exact ⟨k + 1, by omega, by omega, weak_to (.cons rfl (rc_same rfl (.inl rfl)) (.cons rfl (rc_same rfl (.inl rfl)) (.cons rfl (rc_same rfl (.inl rfl)) (.cons rfl (rc_same rfl (.inl rfl)) (.cons rfl (rc_int (by simp [hs])) (.cons rfl (rc_int (by rw [IntKind.wrap_u64]; omega)) (.nil))))))) (.keep (rfl) rfl (.keep ((by rw [hs]; rfl)) rfl (.nil))) (fun i h => by simp [keysOf] at h ⊢; omega)⟩)
        | (have hs := exK_f2 l x lies m f54 all k (by simpa using h25); exact ⟨k + 1, by omega, by omega, weak_to (.cons rfl (rc_same rfl (.inl rfl)) (.cons rfl (rc_same rfl (.inl rfl)) (.cons rfl (rc_same rfl (.inl rfl)) (.cons rfl (rc_same rfl (.inl rfl)) (.cons rfl (rc_int (by simp [hs])) (.cons rfl (rc_int (by rw [IntKind.wrap_u64]; omega)) (.nil))))))) (.keep (rfl) rfl (.keep ((by rw [hs]; rfl)) rfl (.nil))) (fun i h => by simp [keysOf] at h ⊢; omega)⟩)
        | (have hs := exK_t l x lies m f54 all k (by omega) (by simpa using h25); exact ⟨k + 1, by omega, by omega, weak_to (.cons rfl (rc_same rfl (.inl rfl)) (.cons rfl (rc_same rfl (.inl rfl)) (.cons rfl (rc_same rfl (.inl rfl)) (.cons rfl (rc_same rfl (.inl rfl)) (.cons rfl (rc_int (by simp [hs])) (.cons rfl (rc_int (by rw [IntKind.wrap_u64]; omega)) (.nil))))))) (.keep (rfl) rfl (.keep ((by rw [hs]; rfl)) rfl (.nil))) (fun i h => by simp [keysOf] at h ⊢; omega)⟩)
    · first | replace h18 := of_decide_eq_false h18 | skip
      refine aw_skip ?_
      refine th_n ?_
      refine aw_seq ?_
      refine aw_reg ?_
      refine rs_ld_pa (cs := x.map iv) rfl rfl rfl rfl (by simp [hx]) (by exact List.take_of_length_le (by simp [hx])) ?_
      refine rs_mv rfl rfl ?_
      refine rs_mv rfl rfl ?_
      refine rs_calln [] rfl rfl (fc67 x l k hx (by omega) hl hr) (.cons (hv_same (scoped_iv _ _)) (.cons (hv_same rfl) (.cons (hv_same rfl) (.nil)))) rfl ?_
      refine rs_alloc rfl rfl rfl ?_
      refine rs_st (els' := [(withoutS l k x).map iv]) (fl' := true) rfl rfl rfl rfl rfl rfl (by simp [length_without, hx]) (Nat.le_of_ble_eq_true rfl) (by show [setAt _ 0 _] = _; rw [setAt_all (by simp [length_without, hx])]) (by rw [closed_iv]; rfl) ?_
      refine rs_nil fun _ => ?_
      refine th_n ?_
      refine aw_seq ?_
      refine aw_reg ?_
      refine rs_ld_pa (cs := (withoutS l k x).map iv) rfl rfl rfl rfl (by simp [length_without, hx]) (by exact List.take_of_length_le (by simp [length_without, hx])) ?_
      refine rs_calln [] rfl rfl (fc68 (withoutS l k x) m (by rw [length_without, hx]) (by rw [without_12 k l x (fun r h => ⟨(hr r h).2.2.1, (hr r h).2.2.2⟩), hm]) hm6) (.cons (hv_same (scoped_iv _ _)) (.nil)) rfl ?_
      refine rs_not rfl rfl ?_
      refine rs_nil fun _ => ?_
      refine th_n ?_
      refine aw_cond rfl (fun h25 => ?_) (fun h25 => ?_)
      · first | replace h25 := of_decide_eq_true h25 | skip
        refine aw_seq ?_
        refine aw_reg ?_
        refine rs_mv rfl rfl ?_
        refine rs_mv rfl rfl ?_
        refine rs_ld_pa (cs := (withoutS l k x).map iv) rfl rfl rfl rfl (by simp [length_without, hx]) (by exact List.take_of_length_le (by simp [length_without, hx])) ?_
        refine rs_callvo [(1011, .cells 94 1 [[.int .u64 (((exK l x lies m f54 all (k)).1 : Nat) : Int)]] true)] rfl rfl (by kernel_rfl) rfl (fc54 k (exK l x lies m f54 all (k)).1 (by omega) hi54 (withoutS l k x) (by rw [length_without, hx])) (.cons (hv_same rfl) (.cons (hv_same (scoped_iv _ _)) (.cons (hv_same rfl) (.nil)))) (.cons rfl (.nil)) rfl rfl rfl ?_
        refine rs_nil fun _ => ?_
        refine th_n ?_
        refine aw_reg ?_
        refine rs_mv rfl rfl ?_
        first | refine rs_add rfl rfl rfl (by omega) ?_ | refine rs_addw rfl rfl rfl rfl ?_
        refine rs_mv rfl rfl ?_
        refine rs_nil fun _ => ?_
        refine in_n ?_
        refine th_n ?_
        refine aw_reg ?_
        first | refine rs_add rfl rfl rfl (by omega) ?_ | refine rs_addw rfl rfl rfl rfl ?_
        refine rs_mv rfl rfl ?_
        refine rs_nil fun _ => ?_
        refine th_n ?_
        first
          | (have hs := exK_f1 l x lies m f54 all k (by omega); exact ⟨k + 1, by omega, by omega, weak_to (.cons rfl (rc_same rfl (.inl rfl)) (.cons rfl (rc_same rfl (.inl rfl)) (.cons rfl (rc_same rfl (.inl rfl)) (.cons rfl (rc_same rfl (.inl rfl)) (.cons rfl (rc_int (by simp [hs])) (.cons rfl (rc_int (by rw [IntKind.wrap_u64]; omega)) (.nil))))))) (.keep (rfl) rfl (.keep ((by rw [hs]; rfl)) rfl (.nil))) (fun i h => by simp [keysOf] at h ⊢; omega)⟩)
          | (have hs := exK_f2 l x lies m f54 all k (by simpa using h25); exact ⟨k + 1, by omega, by omega, weak_to (.cons rfl (rc_same rfl (.inl rfl)) (.cons rfl (rc_same rfl (.inl rfl)) (.cons rfl (rc_same rfl (.inl rfl)) (.cons rfl (rc_same rfl (.inl rfl)) (.cons rfl (rc_int (by simp [hs])) (.cons rfl (rc_int (by rw [IntKind.wrap_u64]; omega)) (.nil))))))) (.keep (rfl) rfl (.keep ((by rw [hs]; rfl)) rfl (.nil))) (fun i h => by simp [keysOf] at h ⊢; omega)⟩)
          | (have hs := exK_t l x lies m f54 all k (by omega) (by simpa using h25); exact ⟨k + 1, by omega, by omega, weak_to (.cons rfl (rc_same rfl (.inl rfl)) (.cons rfl (rc_same rfl (.inl rfl)) (.cons rfl (rc_same rfl (.inl rfl)) (.cons rfl (rc_same rfl (.inl rfl)) (.cons rfl (rc_int (by simp [hs])) (.cons rfl (rc_int (by rw [IntKind.wrap_u64]; omega)) (.nil))))))) (.keep (rfl) rfl (.keep ((by rw [hs]; rfl)) rfl (.nil))) (fun i h => by simp [keysOf] at h ⊢; omega)⟩)
      · first | replace h25 := of_decide_eq_false h25 | skip
        refine aw_skip ?_
        refine in_n ?_
        refine th_n ?_
        refine aw_reg ?_
        first | refine rs_add rfl rfl rfl (by omega) ?_ | refine rs_addw rfl rfl rfl rfl ?_
        refine rs_mv rfl rfl ?_
        refine rs_nil fun _ => ?_
        refine th_n ?_
        first
          | (have hs := exK_f1 l x lies m f54 all k (by omega); exact ⟨k + 1, by omega, by omega, weak_to (.cons rfl (rc_same rfl (.inl rfl)) (.cons rfl (rc_same rfl (.inl rfl)) (.cons rfl (rc_same rfl (.inl rfl)) (.cons rfl (rc_same rfl (.inl rfl)) (.cons rfl (rc_int (by simp [hs])) (.cons rfl (rc_int (by rw [IntKind.wrap_u64]; omega)) (.nil))))))) (.keep (rfl) rfl (.keep ((by rw [hs]; rfl)) rfl (.nil))) (fun i h => by simp [keysOf] at h ⊢; omega)⟩)
          | (have hs := exK_f2 l x lies m f54 all k (by simpa using h25); exact ⟨k + 1, by omega, by omega, weak_to (.cons rfl (rc_same rfl (.inl rfl)) (.cons rfl (rc_same rfl (.inl rfl)) (.cons rfl (rc_same rfl (.inl rfl)) (.cons rfl (rc_same rfl (.inl rfl)) (.cons rfl (rc_int (by simp [hs])) (.cons rfl (rc_int (by rw [IntKind.wrap_u64]; omega)) (.nil))))))) (.keep (rfl) rfl (.keep ((by rw [hs]; rfl)) rfl (.nil))) (fun i h => by simp [keysOf] at h ⊢; omega)⟩)
          | (have hs := exK_t l x lies m f54 all k (by omega) (by simpa using h25); exact ⟨k + 1, by omega, by omega, weak_to (.cons rfl (rc_same rfl (.inl rfl)) (.cons rfl (rc_same rfl (.inl rfl)) (.cons rfl (rc_same rfl (.inl rfl)) (.cons rfl (rc_same rfl (.inl rfl)) (.cons rfl (rc_int (by simp [hs])) (.cons rfl (rc_int (by rw [IntKind.wrap_u64]; omega)) (.nil))))))) (.keep (rfl) rfl (.keep ((by rw [hs]; rfl)) rfl (.nil))) (fun i h => by simp [keysOf] at h ⊢; omega)⟩)
  · first | replace h13 := of_decide_eq_false h13 | skip
    refine aw_exit ?_
    refine th_e ?_
    refine th_e ?_
    refine in_hit ?_
    refine th_n ?_
    refine aw_seq ?_
    refine aw_reg ?_
    refine rs_mv rfl rfl ?_
    refine rs_mv rfl rfl ?_
    refine rs_nil fun _ => ?_
    refine th_n ?_
    refine aw_ret ?_
    obtain rfl : k = 256 := by omega
    exact ret_own rfl (rc_same rfl (.inl rfl)) (.keep (rfl) rfl (.nil)) (.cons rfl rfl rfl (.nil))

end Go.Proofs.Ytadjdnhnbkcakaa
