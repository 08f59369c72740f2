/-
  Parts of the proof: T0 T1 P2 P6.
-/
import Derived.Test.YteommcdafifckaaDoorK4
set_option linter.unusedVariables false
set_option linter.unusedSimpArgs false

/-! Walks: T0. -/
namespace Go.Proofs.YteommcdafifckaaDoor
open Go.RowKit
set_option maxRecDepth 100000
set_option linter.unusedVariables false

/-- A matrix, by its rows. -/
abbrev mL (M : Nat → Int) : List AV := [iv (M 0), iv (M 1), iv (M 2), iv (M 3), iv (M 4), iv (M 5), iv (M 6), iv (M 7), iv (M 8)]
/-- Products of matrices, as they are summed up. -/
def tq (M O : Nat → Int) (q : Nat) : Nat → Int
  | 0 => 0
  | x + 1 => W (tq M O q x + W (M (q / 3 * 3 + x) * O (x * 3 + q % 3)))
def tmS (M O : Nat → Int) : Nat → Nat → List AV
  | 0, 0 => [iv 0, iv 0, iv 0, iv 0, iv 0, iv 0, iv 0, iv 0, iv 0]
  | 0, 1 => [iv (tq M O 0 1), iv 0, iv 0, iv 0, iv 0, iv 0, iv 0, iv 0, iv 0]
  | 0, 2 => [iv (tq M O 0 2), iv 0, iv 0, iv 0, iv 0, iv 0, iv 0, iv 0, iv 0]
  | 0, 3 => [iv (tq M O 0 3), iv 0, iv 0, iv 0, iv 0, iv 0, iv 0, iv 0, iv 0]
  | 1, 0 => [iv (tq M O 0 3), iv 0, iv 0, iv 0, iv 0, iv 0, iv 0, iv 0, iv 0]
  | 1, 1 => [iv (tq M O 0 3), iv (tq M O 1 1), iv 0, iv 0, iv 0, iv 0, iv 0, iv 0, iv 0]
  | 1, 2 => [iv (tq M O 0 3), iv (tq M O 1 2), iv 0, iv 0, iv 0, iv 0, iv 0, iv 0, iv 0]
  | 1, 3 => [iv (tq M O 0 3), iv (tq M O 1 3), iv 0, iv 0, iv 0, iv 0, iv 0, iv 0, iv 0]
  | 2, 0 => [iv (tq M O 0 3), iv (tq M O 1 3), iv 0, iv 0, iv 0, iv 0, iv 0, iv 0, iv 0]
  | 2, 1 => [iv (tq M O 0 3), iv (tq M O 1 3), iv (tq M O 2 1), iv 0, iv 0, iv 0, iv 0, iv 0, iv 0]
  | 2, 2 => [iv (tq M O 0 3), iv (tq M O 1 3), iv (tq M O 2 2), iv 0, iv 0, iv 0, iv 0, iv 0, iv 0]
  | 2, 3 => [iv (tq M O 0 3), iv (tq M O 1 3), iv (tq M O 2 3), iv 0, iv 0, iv 0, iv 0, iv 0, iv 0]
  | 3, 0 => [iv (tq M O 0 3), iv (tq M O 1 3), iv (tq M O 2 3), iv 0, iv 0, iv 0, iv 0, iv 0, iv 0]
  | 3, 1 => [iv (tq M O 0 3), iv (tq M O 1 3), iv (tq M O 2 3), iv (tq M O 3 1), iv 0, iv 0, iv 0, iv 0, iv 0]
  | 3, 2 => [iv (tq M O 0 3), iv (tq M O 1 3), iv (tq M O 2 3), iv (tq M O 3 2), iv 0, iv 0, iv 0, iv 0, iv 0]
  | 3, 3 => [iv (tq M O 0 3), iv (tq M O 1 3), iv (tq M O 2 3), iv (tq M O 3 3), iv 0, iv 0, iv 0, iv 0, iv 0]
  | 4, 0 => [iv (tq M O 0 3), iv (tq M O 1 3), iv (tq M O 2 3), iv (tq M O 3 3), iv 0, iv 0, iv 0, iv 0, iv 0]
  | 4, 1 => [iv (tq M O 0 3), iv (tq M O 1 3), iv (tq M O 2 3), iv (tq M O 3 3), iv (tq M O 4 1), iv 0, iv 0, iv 0, iv 0]
  | 4, 2 => [iv (tq M O 0 3), iv (tq M O 1 3), iv (tq M O 2 3), iv (tq M O 3 3), iv (tq M O 4 2), iv 0, iv 0, iv 0, iv 0]
  | 4, 3 => [iv (tq M O 0 3), iv (tq M O 1 3), iv (tq M O 2 3), iv (tq M O 3 3), iv (tq M O 4 3), iv 0, iv 0, iv 0, iv 0]
  | 5, 0 => [iv (tq M O 0 3), iv (tq M O 1 3), iv (tq M O 2 3), iv (tq M O 3 3), iv (tq M O 4 3), iv 0, iv 0, iv 0, iv 0]
  | 5, 1 => [iv (tq M O 0 3), iv (tq M O 1 3), iv (tq M O 2 3), iv (tq M O 3 3), iv (tq M O 4 3), iv (tq M O 5 1), iv 0, iv 0, iv 0]
  | 5, 2 => [iv (tq M O 0 3), iv (tq M O 1 3), iv (tq M O 2 3), iv (tq M O 3 3), iv (tq M O 4 3), iv (tq M O 5 2), iv 0, iv 0, iv 0]
  | 5, 3 => [iv (tq M O 0 3), iv (tq M O 1 3), iv (tq M O 2 3), iv (tq M O 3 3), iv (tq M O 4 3), iv (tq M O 5 3), iv 0, iv 0, iv 0]
  | 6, 0 => [iv (tq M O 0 3), iv (tq M O 1 3), iv (tq M O 2 3), iv (tq M O 3 3), iv (tq M O 4 3), iv (tq M O 5 3), iv 0, iv 0, iv 0]
  | 6, 1 => [iv (tq M O 0 3), iv (tq M O 1 3), iv (tq M O 2 3), iv (tq M O 3 3), iv (tq M O 4 3), iv (tq M O 5 3), iv (tq M O 6 1), iv 0, iv 0]
  | 6, 2 => [iv (tq M O 0 3), iv (tq M O 1 3), iv (tq M O 2 3), iv (tq M O 3 3), iv (tq M O 4 3), iv (tq M O 5 3), iv (tq M O 6 2), iv 0, iv 0]
  | 6, 3 => [iv (tq M O 0 3), iv (tq M O 1 3), iv (tq M O 2 3), iv (tq M O 3 3), iv (tq M O 4 3), iv (tq M O 5 3), iv (tq M O 6 3), iv 0, iv 0]
  | 7, 0 => [iv (tq M O 0 3), iv (tq M O 1 3), iv (tq M O 2 3), iv (tq M O 3 3), iv (tq M O 4 3), iv (tq M O 5 3), iv (tq M O 6 3), iv 0, iv 0]
  | 7, 1 => [iv (tq M O 0 3), iv (tq M O 1 3), iv (tq M O 2 3), iv (tq M O 3 3), iv (tq M O 4 3), iv (tq M O 5 3), iv (tq M O 6 3), iv (tq M O 7 1), iv 0]
  | 7, 2 => [iv (tq M O 0 3), iv (tq M O 1 3), iv (tq M O 2 3), iv (tq M O 3 3), iv (tq M O 4 3), iv (tq M O 5 3), iv (tq M O 6 3), iv (tq M O 7 2), iv 0]
  | 7, 3 => [iv (tq M O 0 3), iv (tq M O 1 3), iv (tq M O 2 3), iv (tq M O 3 3), iv (tq M O 4 3), iv (tq M O 5 3), iv (tq M O 6 3), iv (tq M O 7 3), iv 0]
  | 8, 0 => [iv (tq M O 0 3), iv (tq M O 1 3), iv (tq M O 2 3), iv (tq M O 3 3), iv (tq M O 4 3), iv (tq M O 5 3), iv (tq M O 6 3), iv (tq M O 7 3), iv 0]
  | 8, 1 => [iv (tq M O 0 3), iv (tq M O 1 3), iv (tq M O 2 3), iv (tq M O 3 3), iv (tq M O 4 3), iv (tq M O 5 3), iv (tq M O 6 3), iv (tq M O 7 3), iv (tq M O 8 1)]
  | 8, 2 => [iv (tq M O 0 3), iv (tq M O 1 3), iv (tq M O 2 3), iv (tq M O 3 3), iv (tq M O 4 3), iv (tq M O 5 3), iv (tq M O 6 3), iv (tq M O 7 3), iv (tq M O 8 2)]
  | 8, 3 => [iv (tq M O 0 3), iv (tq M O 1 3), iv (tq M O 2 3), iv (tq M O 3 3), iv (tq M O 4 3), iv (tq M O 5 3), iv (tq M O 6 3), iv (tq M O 7 3), iv (tq M O 8 3)]
  | 9, 0 => [iv (tq M O 0 3), iv (tq M O 1 3), iv (tq M O 2 3), iv (tq M O 3 3), iv (tq M O 4 3), iv (tq M O 5 3), iv (tq M O 6 3), iv (tq M O 7 3), iv (tq M O 8 3)]
  | _, _ => []
def trS (M : Nat → Int) : Nat → List AV
  | 0 => [iv 0, iv 0, iv 0, iv 0, iv 0, iv 0, iv 0, iv 0, iv 0]
  | 1 => [iv (M 0), iv 0, iv 0, iv 0, iv 0, iv 0, iv 0, iv 0, iv 0]
  | 2 => [iv (M 0), iv 0, iv 0, iv (M 1), iv 0, iv 0, iv 0, iv 0, iv 0]
  | 3 => [iv (M 0), iv 0, iv 0, iv (M 1), iv 0, iv 0, iv (M 2), iv 0, iv 0]
  | 4 => [iv (M 0), iv (M 3), iv 0, iv (M 1), iv 0, iv 0, iv (M 2), iv 0, iv 0]
  | 5 => [iv (M 0), iv (M 3), iv 0, iv (M 1), iv (M 4), iv 0, iv (M 2), iv 0, iv 0]
  | 6 => [iv (M 0), iv (M 3), iv 0, iv (M 1), iv (M 4), iv 0, iv (M 2), iv (M 5), iv 0]
  | 7 => [iv (M 0), iv (M 3), iv (M 6), iv (M 1), iv (M 4), iv 0, iv (M 2), iv (M 5), iv 0]
  | 8 => [iv (M 0), iv (M 3), iv (M 6), iv (M 1), iv (M 4), iv (M 7), iv (M 2), iv (M 5), iv 0]
  | 9 => [iv (M 0), iv (M 3), iv (M 6), iv (M 1), iv (M 4), iv (M 7), iv (M 2), iv (M 5), iv (M 8)]
  | _ => []
def scS (M : Nat → Int) (b : Int) : Nat → List AV
  | 0 => [iv (M 0), iv (M 1), iv (M 2), iv (M 3), iv (M 4), iv (M 5), iv (M 6), iv (M 7), iv (M 8)]
  | 1 => [iv (W (M 0 * b)), iv (M 1), iv (M 2), iv (M 3), iv (M 4), iv (M 5), iv (M 6), iv (M 7), iv (M 8)]
  | 2 => [iv (W (M 0 * b)), iv (W (M 1 * b)), iv (M 2), iv (M 3), iv (M 4), iv (M 5), iv (M 6), iv (M 7), iv (M 8)]
  | 3 => [iv (W (M 0 * b)), iv (W (M 1 * b)), iv (W (M 2 * b)), iv (M 3), iv (M 4), iv (M 5), iv (M 6), iv (M 7), iv (M 8)]
  | 4 => [iv (W (M 0 * b)), iv (W (M 1 * b)), iv (W (M 2 * b)), iv (W (M 3 * b)), iv (M 4), iv (M 5), iv (M 6), iv (M 7), iv (M 8)]
  | 5 => [iv (W (M 0 * b)), iv (W (M 1 * b)), iv (W (M 2 * b)), iv (W (M 3 * b)), iv (W (M 4 * b)), iv (M 5), iv (M 6), iv (M 7), iv (M 8)]
  | 6 => [iv (W (M 0 * b)), iv (W (M 1 * b)), iv (W (M 2 * b)), iv (W (M 3 * b)), iv (W (M 4 * b)), iv (W (M 5 * b)), iv (M 6), iv (M 7), iv (M 8)]
  | 7 => [iv (W (M 0 * b)), iv (W (M 1 * b)), iv (W (M 2 * b)), iv (W (M 3 * b)), iv (W (M 4 * b)), iv (W (M 5 * b)), iv (W (M 6 * b)), iv (M 7), iv (M 8)]
  | 8 => [iv (W (M 0 * b)), iv (W (M 1 * b)), iv (W (M 2 * b)), iv (W (M 3 * b)), iv (W (M 4 * b)), iv (W (M 5 * b)), iv (W (M 6 * b)), iv (W (M 7 * b)), iv (M 8)]
  | 9 => [iv (W (M 0 * b)), iv (W (M 1 * b)), iv (W (M 2 * b)), iv (W (M 3 * b)), iv (W (M 4 * b)), iv (W (M 5 * b)), iv (W (M 6 * b)), iv (W (M 7 * b)), iv (W (M 8 * b))]
  | _ => []
abbrev mO (l : List AV) : Ob := .cells 67 9 [l] true
section
variable {P : Program} {N : Nat} {Z : List Nat} {F : Fr} {H : Hp} {ml : List MOper} {K : List Fp → Fr → Hp → Prop} {d : Nat} {g : Option (Nat × Bool)} {pre : List Nat}
theorem rs_callvo {fa : Arg} {xs : List Arg} {vs cs vs' : List AV} {f : FuncId} {dst : Option Nat} {r : AV} (Hs : Hp) {H' : Hp} (hg : gOK F g = true) (hf : aarg F fa = some (.fn (.func f) cs)) (hent : entered P f = true) (hv : aargs F xs = some vs) (hfc : FC P f vs' Hs r H' true)
    (hh : HVs H Hs [] true (vs ++ cs) vs') (hsub : SubH H Hs) (hsc : scopedHs Hs = true) (hnew : newOk H Hs H' = true) (hdom : domOk Hs H' = true)
    (h : RS P N ml (putF F dst r) (H' ++ H) (fun fps => K (([], keysOf H') :: fps))) : RS P N (⟨dst, .callv fa xs, g, pre⟩ :: ml) F H K :=
  rs_callv hg hf hent hv hfc hh hsub.at_ hsc (newOk_spec hnew) (domOk_spec hdom) h
end

def mct48 : MC := (.seq (.reg [⟨(some 2), (.box 67 9 (.t 0)), none, []⟩, ⟨(some 3), (.box 67 9 (.t 1)), none, []⟩, ⟨(some 4), (.alloc 67 9 [(.int .i64 0), (.int .i64 0), (.int .i64 0), (.int .i64 0), (.int .i64 0), (.int .i64 0), (.int .i64 0), (.int .i64 0), (.int .i64 0)]), none, []⟩] false) (.seq (.reg [⟨(some 5), (.alloc 67 9 [(.int .i64 0), (.int .i64 0), (.int .i64 0), (.int .i64 0), (.int .i64 0), (.int .i64 0), (.int .i64 0), (.int .i64 0), (.int .i64 0)]), none, []⟩] false) (.seq (.seq (.reg [⟨(some 10), (.mv (.c (.int .i64 0))), none, []⟩] false) (.block 0 (.loop (.seq (.reg [⟨(some 11), (.bin .lss (.t 10) (.c (.int .i64 9))), none, []⟩] false) (.seq (.cond (.t 11) .skip (.exit 0)) (.seq (.block 1 (.seq (.reg [⟨(some 12), (.mv (.t 10)), none, []⟩, ⟨(some 6), (.mv (.t 12)), none, [0, 0]⟩] false) (.seq (.reg [⟨(some 13), (.mv (.t 6)), none, []⟩, ⟨(some 14), (.bin .quo (.t 13) (.c (.int .i64 3))), none, [0]⟩, ⟨(some 15), (.mv (.t 6)), none, []⟩, ⟨(some 16), (.bin .rem (.t 15) (.c (.int .i64 3))), none, [2]⟩, ⟨(some 7), (.mv (.t 14)), none, [1, 0, 1]⟩, ⟨(some 8), (.mv (.t 16)), none, [3, 4, 0, 1, 2, 3, 4]⟩] false) (.seq (.reg [⟨(some 17), (.mv (.c (.int .i64 0))), none, []⟩] false) (.block 2 (.loop (.seq (.reg [⟨(some 18), (.bin .lss (.t 17) (.c (.int .i64 3))), none, []⟩] false) (.seq (.cond (.t 18) .skip (.exit 2)) (.seq (.block 3 (.seq (.reg [⟨(some 19), (.mv (.t 17)), none, []⟩, ⟨(some 9), (.mv (.t 19)), none, [0, 0]⟩] false) (.reg [⟨(some 20), (.mv (.t 7)), none, []⟩, ⟨(some 21), (.mv (.t 8)), none, []⟩, ⟨(some 22), (.ixarr 3 3 (.t 5) (.t 20)), none, [0]⟩, ⟨(some 23), (.ixarr 3 1 (.t 22) (.t 21)), none, [2, 1]⟩, ⟨(some 24), (.ld false 1 (.t 23)), none, [3]⟩, ⟨(some 25), (.mv (.t 7)), none, []⟩, ⟨(some 26), (.mv (.t 9)), none, []⟩, ⟨(some 27), (.ixarr 3 3 (.t 2) (.t 25)), none, [5]⟩, ⟨(some 28), (.ixarr 3 1 (.t 27) (.t 26)), none, [7, 6]⟩, ⟨(some 29), (.ld false 1 (.t 28)), none, [8]⟩, ⟨(some 30), (.mv (.t 9)), none, []⟩, ⟨(some 31), (.mv (.t 8)), none, []⟩, ⟨(some 32), (.ixarr 3 3 (.t 3) (.t 30)), none, [10]⟩, ⟨(some 33), (.ixarr 3 1 (.t 32) (.t 31)), none, [12, 11]⟩, ⟨(some 34), (.ld false 1 (.t 33)), none, [13]⟩, ⟨(some 35), (.bin .mul (.t 29) (.t 34)), none, [9, 14]⟩, ⟨(some 36), (.bin .add (.t 24) (.t 35)), none, [4, 15]⟩, ⟨(some 37), (.ixarr 3 3 (.t 5) (.t 20)), none, [0]⟩, ⟨(some 38), (.ixarr 3 1 (.t 37) (.t 21)), none, [17, 1, 0, 1, 2, 3, 4, 5, 6, 7, 8, 9, 10, 11, 12, 13, 14, 15, 16]⟩, ⟨none, (.st 1 (.t 38) (.t 36)), none, [18, 16, 0, 1, 2, 3, 4, 5, 6, 7, 8, 9, 10, 11, 12, 13, 14, 15, 16]⟩] true))) (.reg [⟨(some 39), (.bin .add (.t 17) (.c (.int .i64 1))), none, []⟩, ⟨(some 17), (.mv (.t 39)), none, [0]⟩] false)))))))))) (.reg [⟨(some 40), (.bin .add (.t 10) (.c (.int .i64 1))), none, []⟩, ⟨(some 10), (.mv (.t 40)), none, [0]⟩] false))))))) (.seq (.reg [⟨(some 41), (.ld true 9 (.t 5)), none, []⟩, ⟨none, (.st 9 (.t 4) (.t 41)), none, [0, 0]⟩] false) .ret))))
theorem mcOkt48 : (match Tryd.f48.body with | some c => compC Tryd.prog 42 c | none => none) = some mct48 := by kernel_rfl

set_option maxHeartbeats 1000000 in
theorem tc48 (M O : Nat → Int) : FC Tryd.prog 48 [.agg (mL M), .agg (mL O)] [] (.agg (tmS M O 9 0)) [] false := by
  refine fc_run (nt := 42) Tryd.func48 rfl rfl mcOkt48 (Nat.le_of_ble_eq_true rfl) ?_
  delta mct48
  refine aw_seq ?_
  refine aw_reg ?_
  refine rs_box rfl rfl rfl rfl rfl rfl ?_
  refine rs_box rfl rfl rfl rfl rfl rfl ?_
  refine rs_alloc rfl rfl rfl ?_
  refine rs_nil fun _ => ?_
  refine th_n ?_
  refine aw_seq ?_
  refine aw_reg ?_
  refine rs_alloc rfl rfl rfl ?_
  refine rs_nil fun _ => ?_
  refine th_n ?_
  refine aw_seq ?_
  refine aw_seq ?_
  refine aw_reg ?_
  refine rs_mv rfl rfl ?_
  refine rs_nil fun _ => ?_
  refine th_n ?_
  refine aw_block ?_
  refine aw_fam (α := Nat) (fun k => 9 - k) (fun k => [(2, .ptr 2 0 0), (3, .ptr 3 0 0), (4, .ptr 4 0 0), (5, .ptr 5 0 0), (10, iv (((k) : Nat) : Int))]) (fun k => [(2, mO (mL M)), (3, mO (mL O)), (4, mO [iv 0, iv 0, iv 0, iv 0, iv 0, iv 0, iv 0, iv 0, iv 0]), (5, mO (tmS M O (k) (0)))]) (fun k => k ≤ 9) 0 (by omega)
    (weak_to (.cons rfl (rc_same rfl (.inl rfl)) (.cons rfl (rc_same rfl (.inl rfl)) (.cons rfl (rc_same rfl (.inl rfl)) (.cons rfl (rc_same rfl (.inl rfl)) (.cons rfl (rc_same rfl (.inl rfl)) (.nil)))))) (.keep (rfl) rfl (.keep (rfl) rfl (.keep (rfl) rfl (.keep (rfl) rfl (.nil))))) (fun i h => by cases h)) ?_
  intro k hk
  refine aw_seq ?_
  refine aw_reg ?_
  refine rs_lss rfl rfl rfl ?_
  refine rs_nil fun _ => ?_
  refine th_n ?_
  refine aw_seq ?_
  refine aw_cond rfl (fun h11 => ?_) (fun h11 => ?_)
  · replace h11 := of_decide_eq_true h11
    refine aw_skip ?_
    refine th_n ?_
    refine aw_seq ?_
    refine aw_block ?_
    refine aw_seq ?_
    refine aw_reg ?_
    obtain rfl | rfl | rfl | rfl | rfl | rfl | rfl | rfl | rfl : k = 0 ∨ k = 1 ∨ k = 2 ∨ k = 3 ∨ k = 4 ∨ k = 5 ∨ k = 6 ∨ k = 7 ∨ k = 8 := by omega
    · skip
      refine rs_mv rfl rfl ?_
      refine rs_mv rfl rfl ?_
      refine rs_nil fun _ => ?_
      refine th_n ?_
      refine aw_seq ?_
      refine aw_reg ?_
      refine rs_mv rfl rfl ?_
      refine rs_quow (c := 0) rfl rfl rfl (by decide) rfl ?_
      refine rs_mv rfl rfl ?_
      refine rs_rem (c := 0) rfl rfl rfl (by decide) rfl ?_
      refine rs_mv rfl rfl ?_
      refine rs_mv rfl rfl ?_
      refine rs_nil fun _ => ?_
      refine th_n ?_
      refine aw_seq ?_
      refine aw_reg ?_
      refine rs_mv rfl rfl ?_
      refine rs_nil fun _ => ?_
      refine th_n ?_
      refine aw_block ?_
      refine aw_fam (α := Nat) (fun x => 3 - x) (fun x => [(2, .ptr 2 0 0), (3, .ptr 3 0 0), (4, .ptr 4 0 0), (5, .ptr 5 0 0), (10, iv (((0) : Nat) : Int)), (6, iv 0), (7, iv 0), (8, iv 0), (17, iv (((x) : Nat) : Int))]) (fun x => [(2, mO (mL M)), (3, mO (mL O)), (4, mO [iv 0, iv 0, iv 0, iv 0, iv 0, iv 0, iv 0, iv 0, iv 0]), (5, mO (tmS M O (0) (x)))]) (fun x => x ≤ 3) 0 (by omega)
        (weak_to (.cons rfl (rc_same rfl (.inl rfl)) (.cons rfl (rc_same rfl (.inl rfl)) (.cons rfl (rc_same rfl (.inl rfl)) (.cons rfl (rc_same rfl (.inl rfl)) (.cons rfl (rc_same rfl (.inl rfl)) (.cons rfl (rc_same rfl (.inl rfl)) (.cons rfl (rc_same rfl (.inl rfl)) (.cons rfl (rc_same rfl (.inl rfl)) (.cons rfl (rc_same rfl (.inl rfl)) (.nil)))))))))) (.keep (rfl) rfl (.keep (rfl) rfl (.keep (rfl) rfl (.keep (rfl) rfl (.nil))))) (fun i h => by cases h)) ?_
      intro x hx
      refine aw_seq ?_
      refine aw_reg ?_
      refine rs_lss rfl rfl rfl ?_
      refine rs_nil fun _ => ?_
      refine th_n ?_
      refine aw_seq ?_
      refine aw_cond rfl (fun h18 => ?_) (fun h18 => ?_)
      · replace h18 := of_decide_eq_true h18
        refine aw_skip ?_
        refine th_n ?_
        refine aw_seq ?_
        refine aw_block ?_
        refine aw_seq ?_
        refine aw_reg ?_
        obtain rfl | rfl | rfl : x = 0 ∨ x = 1 ∨ x = 2 := by omega
        · skip
          refine rs_mv rfl rfl ?_
          refine rs_mv rfl rfl ?_
          refine rs_nil fun _ => ?_
          refine th_n ?_
          refine aw_draw hmix ?_
          refine rs_mv rfl rfl ?_
          refine rs_mv rfl rfl ?_
          refine rs_ixarr_p rfl rfl rfl (by decide) (by decide) ?_
          refine rs_ixarr_p rfl rfl rfl (by decide) (by decide) ?_
          refine rs_ld_p rfl rfl rfl rfl rfl ?_
          refine rs_mv rfl rfl ?_
          refine rs_mv rfl rfl ?_
          refine rs_ixarr_p rfl rfl rfl (by decide) (by decide) ?_
          refine rs_ixarr_p rfl rfl rfl (by decide) (by decide) ?_
          refine rs_ld_p rfl rfl rfl rfl rfl ?_
          refine rs_mv rfl rfl ?_
          refine rs_mv rfl rfl ?_
          refine rs_ixarr_p rfl rfl rfl (by decide) (by decide) ?_
          refine rs_ixarr_p rfl rfl rfl (by decide) (by decide) ?_
          refine rs_ld_p rfl rfl rfl rfl rfl ?_
          refine rs_mulw rfl rfl rfl rfl ?_
          refine rs_addw rfl rfl rfl rfl ?_
          refine rs_ixarr_p rfl rfl rfl (by decide) (by decide) ?_
          refine rs_ixarr_p rfl rfl rfl (by decide) (by decide) ?_
          refine rs_st rfl rfl rfl rfl rfl rfl rfl (Nat.le_of_ble_eq_true rfl) rfl rfl ?_
          refine rs_nil ⟨by kernel_rfl, fun _ => ?_⟩
          refine in_n ?_
          refine th_n ?_
          refine aw_reg ?_
          refine rs_add rfl rfl rfl (by omega) ?_
          refine rs_mv rfl rfl ?_
          refine rs_nil fun _ => ?_
          refine th_n ?_
          exact ⟨0 + 1, by omega, by omega, weak_to (.cons rfl (rc_same rfl (.inl rfl)) (.cons rfl (rc_same rfl (.inl rfl)) (.cons rfl (rc_same rfl (.inl rfl)) (.cons rfl (rc_same rfl (.inl rfl)) (.cons rfl (rc_same rfl (.inl rfl)) (.cons rfl (rc_same rfl (.inl rfl)) (.cons rfl (rc_same rfl (.inl rfl)) (.cons rfl (rc_same rfl (.inl rfl)) (.cons rfl (rc_same rfl (.inl rfl)) (.nil)))))))))) (.keep (rfl) rfl (.keep (rfl) rfl (.keep (rfl) rfl (.keep (rfl) rfl (.nil))))) (fun i h => by cases h)⟩
        · skip
          refine rs_mv rfl rfl ?_
          refine rs_mv rfl rfl ?_
          refine rs_nil fun _ => ?_
          refine th_n ?_
          refine aw_draw hmix ?_
          refine rs_mv rfl rfl ?_
          refine rs_mv rfl rfl ?_
          refine rs_ixarr_p rfl rfl rfl (by decide) (by decide) ?_
          refine rs_ixarr_p rfl rfl rfl (by decide) (by decide) ?_
          refine rs_ld_p rfl rfl rfl rfl rfl ?_
          refine rs_mv rfl rfl ?_
          refine rs_mv rfl rfl ?_
          refine rs_ixarr_p rfl rfl rfl (by decide) (by decide) ?_
          refine rs_ixarr_p rfl rfl rfl (by decide) (by decide) ?_
          refine rs_ld_p rfl rfl rfl rfl rfl ?_
          refine rs_mv rfl rfl ?_
          refine rs_mv rfl rfl ?_
          refine rs_ixarr_p rfl rfl rfl (by decide) (by decide) ?_
          refine rs_ixarr_p rfl rfl rfl (by decide) (by decide) ?_
          refine rs_ld_p rfl rfl rfl rfl rfl ?_
          refine rs_mulw rfl rfl rfl rfl ?_
          refine rs_addw rfl rfl rfl rfl ?_
          refine rs_ixarr_p rfl rfl rfl (by decide) (by decide) ?_
          refine rs_ixarr_p rfl rfl rfl (by decide) (by decide) ?_
          refine rs_st rfl rfl rfl rfl rfl rfl rfl (Nat.le_of_ble_eq_true rfl) rfl rfl ?_
          refine rs_nil ⟨by kernel_rfl, fun _ => ?_⟩
          refine in_n ?_
          refine th_n ?_
          refine aw_reg ?_
          refine rs_add rfl rfl rfl (by omega) ?_
          refine rs_mv rfl rfl ?_
          refine rs_nil fun _ => ?_
          refine th_n ?_
          exact ⟨1 + 1, by omega, by omega, weak_to (.cons rfl (rc_same rfl (.inl rfl)) (.cons rfl (rc_same rfl (.inl rfl)) (.cons rfl (rc_same rfl (.inl rfl)) (.cons rfl (rc_same rfl (.inl rfl)) (.cons rfl (rc_same rfl (.inl rfl)) (.cons rfl (rc_same rfl (.inl rfl)) (.cons rfl (rc_same rfl (.inl rfl)) (.cons rfl (rc_same rfl (.inl rfl)) (.cons rfl (rc_same rfl (.inl rfl)) (.nil)))))))))) (.keep (rfl) rfl (.keep (rfl) rfl (.keep (rfl) rfl (.keep (rfl) rfl (.nil))))) (fun i h => by cases h)⟩
        · skip
          refine rs_mv rfl rfl ?_
          refine rs_mv rfl rfl ?_
          refine rs_nil fun _ => ?_
          refine th_n ?_
          refine aw_draw hmix ?_
          refine rs_mv rfl rfl ?_
          refine rs_mv rfl rfl ?_
          refine rs_ixarr_p rfl rfl rfl (by decide) (by decide) ?_
          refine rs_ixarr_p rfl rfl rfl (by decide) (by decide) ?_
          refine rs_ld_p rfl rfl rfl rfl rfl ?_
          refine rs_mv rfl rfl ?_
          refine rs_mv rfl rfl ?_
          refine rs_ixarr_p rfl rfl rfl (by decide) (by decide) ?_
          refine rs_ixarr_p rfl rfl rfl (by decide) (by decide) ?_
          refine rs_ld_p rfl rfl rfl rfl rfl ?_
          refine rs_mv rfl rfl ?_
          refine rs_mv rfl rfl ?_
          refine rs_ixarr_p rfl rfl rfl (by decide) (by decide) ?_
          refine rs_ixarr_p rfl rfl rfl (by decide) (by decide) ?_
          refine rs_ld_p rfl rfl rfl rfl rfl ?_
          refine rs_mulw rfl rfl rfl rfl ?_
          refine rs_addw rfl rfl rfl rfl ?_
          refine rs_ixarr_p rfl rfl rfl (by decide) (by decide) ?_
          refine rs_ixarr_p rfl rfl rfl (by decide) (by decide) ?_
          refine rs_st rfl rfl rfl rfl rfl rfl rfl (Nat.le_of_ble_eq_true rfl) rfl rfl ?_
          refine rs_nil ⟨by kernel_rfl, fun _ => ?_⟩
          refine in_n ?_
          refine th_n ?_
          refine aw_reg ?_
          refine rs_add rfl rfl rfl (by omega) ?_
          refine rs_mv rfl rfl ?_
          refine rs_nil fun _ => ?_
          refine th_n ?_
          exact ⟨2 + 1, by omega, by omega, weak_to (.cons rfl (rc_same rfl (.inl rfl)) (.cons rfl (rc_same rfl (.inl rfl)) (.cons rfl (rc_same rfl (.inl rfl)) (.cons rfl (rc_same rfl (.inl rfl)) (.cons rfl (rc_same rfl (.inl rfl)) (.cons rfl (rc_same rfl (.inl rfl)) (.cons rfl (rc_same rfl (.inl rfl)) (.cons rfl (rc_same rfl (.inl rfl)) (.cons rfl (rc_same rfl (.inl rfl)) (.nil)))))))))) (.keep (rfl) rfl (.keep (rfl) rfl (.keep (rfl) rfl (.keep (rfl) rfl (.nil))))) (fun i h => by cases h)⟩
      · replace h18 := of_decide_eq_false h18
        refine aw_exit ?_
        refine th_e ?_
        refine th_e ?_
        refine in_hit ?_
        refine in_n ?_
        refine th_n ?_
        obtain rfl : x = 3 := by omega
        refine aw_reg ?_
        refine rs_add rfl rfl rfl (by omega) ?_
        refine rs_mv rfl rfl ?_
        refine rs_nil fun _ => ?_
        refine th_n ?_
        exact ⟨0 + 1, by omega, by omega, weak_to (.cons rfl (rc_same rfl (.inl rfl)) (.cons rfl (rc_same rfl (.inl rfl)) (.cons rfl (rc_same rfl (.inl rfl)) (.cons rfl (rc_same rfl (.inl rfl)) (.cons rfl (rc_same rfl (.inl rfl)) (.nil)))))) (.keep (rfl) rfl (.keep (rfl) rfl (.keep (rfl) rfl (.keep (rfl) rfl (.nil))))) (fun i h => by cases h)⟩
    · skip
      refine rs_mv rfl rfl ?_
      refine rs_mv rfl rfl ?_
      refine rs_nil fun _ => ?_
      refine th_n ?_
      refine aw_seq ?_
      refine aw_reg ?_
      refine rs_mv rfl rfl ?_
      refine rs_quow (c := 0) rfl rfl rfl (by decide) rfl ?_
      refine rs_mv rfl rfl ?_
      refine rs_rem (c := 1) rfl rfl rfl (by decide) rfl ?_
      refine rs_mv rfl rfl ?_
      refine rs_mv rfl rfl ?_
      refine rs_nil fun _ => ?_
      refine th_n ?_
      refine aw_seq ?_
      refine aw_reg ?_
      refine rs_mv rfl rfl ?_
      refine rs_nil fun _ => ?_
      refine th_n ?_
      refine aw_block ?_
      refine aw_fam (α := Nat) (fun x => 3 - x) (fun x => [(2, .ptr 2 0 0), (3, .ptr 3 0 0), (4, .ptr 4 0 0), (5, .ptr 5 0 0), (10, iv (((1) : Nat) : Int)), (6, iv 1), (7, iv 0), (8, iv 1), (17, iv (((x) : Nat) : Int))]) (fun x => [(2, mO (mL M)), (3, mO (mL O)), (4, mO [iv 0, iv 0, iv 0, iv 0, iv 0, iv 0, iv 0, iv 0, iv 0]), (5, mO (tmS M O (1) (x)))]) (fun x => x ≤ 3) 0 (by omega)
        (weak_to (.cons rfl (rc_same rfl (.inl rfl)) (.cons rfl (rc_same rfl (.inl rfl)) (.cons rfl (rc_same rfl (.inl rfl)) (.cons rfl (rc_same rfl (.inl rfl)) (.cons rfl (rc_same rfl (.inl rfl)) (.cons rfl (rc_same rfl (.inl rfl)) (.cons rfl (rc_same rfl (.inl rfl)) (.cons rfl (rc_same rfl (.inl rfl)) (.cons rfl (rc_same rfl (.inl rfl)) (.nil)))))))))) (.keep (rfl) rfl (.keep (rfl) rfl (.keep (rfl) rfl (.keep (rfl) rfl (.nil))))) (fun i h => by cases h)) ?_
      intro x hx
      refine aw_seq ?_
      refine aw_reg ?_
      refine rs_lss rfl rfl rfl ?_
      refine rs_nil fun _ => ?_
      refine th_n ?_
      refine aw_seq ?_
      refine aw_cond rfl (fun h18 => ?_) (fun h18 => ?_)
      · replace h18 := of_decide_eq_true h18
        refine aw_skip ?_
        refine th_n ?_
        refine aw_seq ?_
        refine aw_block ?_
        refine aw_seq ?_
        refine aw_reg ?_
        obtain rfl | rfl | rfl : x = 0 ∨ x = 1 ∨ x = 2 := by omega
        · skip
          refine rs_mv rfl rfl ?_
          refine rs_mv rfl rfl ?_
          refine rs_nil fun _ => ?_
          refine th_n ?_
          refine aw_draw hmix ?_
          refine rs_mv rfl rfl ?_
          refine rs_mv rfl rfl ?_
          refine rs_ixarr_p rfl rfl rfl (by decide) (by decide) ?_
          refine rs_ixarr_p rfl rfl rfl (by decide) (by decide) ?_
          refine rs_ld_p rfl rfl rfl rfl rfl ?_
          refine rs_mv rfl rfl ?_
          refine rs_mv rfl rfl ?_
          refine rs_ixarr_p rfl rfl rfl (by decide) (by decide) ?_
          refine rs_ixarr_p rfl rfl rfl (by decide) (by decide) ?_
          refine rs_ld_p rfl rfl rfl rfl rfl ?_
          refine rs_mv rfl rfl ?_
          refine rs_mv rfl rfl ?_
          refine rs_ixarr_p rfl rfl rfl (by decide) (by decide) ?_
          refine rs_ixarr_p rfl rfl rfl (by decide) (by decide) ?_
          refine rs_ld_p rfl rfl rfl rfl rfl ?_
          refine rs_mulw rfl rfl rfl rfl ?_
          refine rs_addw rfl rfl rfl rfl ?_
          refine rs_ixarr_p rfl rfl rfl (by decide) (by decide) ?_
          refine rs_ixarr_p rfl rfl rfl (by decide) (by decide) ?_
          refine rs_st rfl rfl rfl rfl rfl rfl rfl (Nat.le_of_ble_eq_true rfl) rfl rfl ?_
          refine rs_nil ⟨by kernel_rfl, fun _ => ?_⟩
          refine in_n ?_
          refine th_n ?_
          refine aw_reg ?_
          refine rs_add rfl rfl rfl (by omega) ?_
          refine rs_mv rfl rfl ?_
          refine rs_nil fun _ => ?_
          refine th_n ?_
          exact ⟨0 + 1, by omega, by omega, weak_to (.cons rfl (rc_same rfl (.inl rfl)) (.cons rfl (rc_same rfl (.inl rfl)) (.cons rfl (rc_same rfl (.inl rfl)) (.cons rfl (rc_same rfl (.inl rfl)) (.cons rfl (rc_same rfl (.inl rfl)) (.cons rfl (rc_same rfl (.inl rfl)) (.cons rfl (rc_same rfl (.inl rfl)) (.cons rfl (rc_same rfl (.inl rfl)) (.cons rfl (rc_same rfl (.inl rfl)) (.nil)))))))))) (.keep (rfl) rfl (.keep (rfl) rfl (.keep (rfl) rfl (.keep (rfl) rfl (.nil))))) (fun i h => by cases h)⟩
        · skip
          refine rs_mv rfl rfl ?_
          refine rs_mv rfl rfl ?_
          refine rs_nil fun _ => ?_
          refine th_n ?_
          refine aw_draw hmix ?_
          refine rs_mv rfl rfl ?_
          refine rs_mv rfl rfl ?_
          refine rs_ixarr_p rfl rfl rfl (by decide) (by decide) ?_
          refine rs_ixarr_p rfl rfl rfl (by decide) (by decide) ?_
          refine rs_ld_p rfl rfl rfl rfl rfl ?_
          refine rs_mv rfl rfl ?_
          refine rs_mv rfl rfl ?_
          refine rs_ixarr_p rfl rfl rfl (by decide) (by decide) ?_
          refine rs_ixarr_p rfl rfl rfl (by decide) (by decide) ?_
          refine rs_ld_p rfl rfl rfl rfl rfl ?_
          refine rs_mv rfl rfl ?_
          refine rs_mv rfl rfl ?_
          refine rs_ixarr_p rfl rfl rfl (by decide) (by decide) ?_
          refine rs_ixarr_p rfl rfl rfl (by decide) (by decide) ?_
          refine rs_ld_p rfl rfl rfl rfl rfl ?_
          refine rs_mulw rfl rfl rfl rfl ?_
          refine rs_addw rfl rfl rfl rfl ?_
          refine rs_ixarr_p rfl rfl rfl (by decide) (by decide) ?_
          refine rs_ixarr_p rfl rfl rfl (by decide) (by decide) ?_
          refine rs_st rfl rfl rfl rfl rfl rfl rfl (Nat.le_of_ble_eq_true rfl) rfl rfl ?_
          refine rs_nil ⟨by kernel_rfl, fun _ => ?_⟩
          refine in_n ?_
          refine th_n ?_
          refine aw_reg ?_
          refine rs_add rfl rfl rfl (by omega) ?_
          refine rs_mv rfl rfl ?_
          refine rs_nil fun _ => ?_
          refine th_n ?_
          exact ⟨1 + 1, by omega, by omega, weak_to (.cons rfl (rc_same rfl (.inl rfl)) (.cons rfl (rc_same rfl (.inl rfl)) (.cons rfl (rc_same rfl (.inl rfl)) (.cons rfl (rc_same rfl (.inl rfl)) (.cons rfl (rc_same rfl (.inl rfl)) (.cons rfl (rc_same rfl (.inl rfl)) (.cons rfl (rc_same rfl (.inl rfl)) (.cons rfl (rc_same rfl (.inl rfl)) (.cons rfl (rc_same rfl (.inl rfl)) (.nil)))))))))) (.keep (rfl) rfl (.keep (rfl) rfl (.keep (rfl) rfl (.keep (rfl) rfl (.nil))))) (fun i h => by cases h)⟩
        · skip
          refine rs_mv rfl rfl ?_
          refine rs_mv rfl rfl ?_
          refine rs_nil fun _ => ?_
          refine th_n ?_
          refine aw_draw hmix ?_
          refine rs_mv rfl rfl ?_
          refine rs_mv rfl rfl ?_
          refine rs_ixarr_p rfl rfl rfl (by decide) (by decide) ?_
          refine rs_ixarr_p rfl rfl rfl (by decide) (by decide) ?_
          refine rs_ld_p rfl rfl rfl rfl rfl ?_
          refine rs_mv rfl rfl ?_
          refine rs_mv rfl rfl ?_
          refine rs_ixarr_p rfl rfl rfl (by decide) (by decide) ?_
          refine rs_ixarr_p rfl rfl rfl (by decide) (by decide) ?_
          refine rs_ld_p rfl rfl rfl rfl rfl ?_
          refine rs_mv rfl rfl ?_
          refine rs_mv rfl rfl ?_
          refine rs_ixarr_p rfl rfl rfl (by decide) (by decide) ?_
          refine rs_ixarr_p rfl rfl rfl (by decide) (by decide) ?_
          refine rs_ld_p rfl rfl rfl rfl rfl ?_
          refine rs_mulw rfl rfl rfl rfl ?_
          refine rs_addw rfl rfl rfl rfl ?_
          refine rs_ixarr_p rfl rfl rfl (by decide) (by decide) ?_
          refine rs_ixarr_p rfl rfl rfl (by decide) (by decide) ?_
          refine rs_st rfl rfl rfl rfl rfl rfl rfl (Nat.le_of_ble_eq_true rfl) rfl rfl ?_
          refine rs_nil ⟨by kernel_rfl, fun _ => ?_⟩
          refine in_n ?_
          refine th_n ?_
          refine aw_reg ?_
          refine rs_add rfl rfl rfl (by omega) ?_
          refine rs_mv rfl rfl ?_
          refine rs_nil fun _ => ?_
          refine th_n ?_
          exact ⟨2 + 1, by omega, by omega, weak_to (.cons rfl (rc_same rfl (.inl rfl)) (.cons rfl (rc_same rfl (.inl rfl)) (.cons rfl (rc_same rfl (.inl rfl)) (.cons rfl (rc_same rfl (.inl rfl)) (.cons rfl (rc_same rfl (.inl rfl)) (.cons rfl (rc_same rfl (.inl rfl)) (.cons rfl (rc_same rfl (.inl rfl)) (.cons rfl (rc_same rfl (.inl rfl)) (.cons rfl (rc_same rfl (.inl rfl)) (.nil)))))))))) (.keep (rfl) rfl (.keep (rfl) rfl (.keep (rfl) rfl (.keep (rfl) rfl (.nil))))) (fun i h => by cases h)⟩
      · replace h18 := of_decide_eq_false h18
        refine aw_exit ?_
        refine th_e ?_
        refine th_e ?_
        refine in_hit ?_
        refine in_n ?_
        refine th_n ?_
        obtain rfl : x = 3 := by omega
        refine aw_reg ?_
        refine rs_add rfl rfl rfl (by omega) ?_
        refine rs_mv rfl rfl ?_
        refine rs_nil fun _ => ?_
        refine th_n ?_
        exact ⟨1 + 1, by omega, by omega, weak_to (.cons rfl (rc_same rfl (.inl rfl)) (.cons rfl (rc_same rfl (.inl rfl)) (.cons rfl (rc_same rfl (.inl rfl)) (.cons rfl (rc_same rfl (.inl rfl)) (.cons rfl (rc_same rfl (.inl rfl)) (.nil)))))) (.keep (rfl) rfl (.keep (rfl) rfl (.keep (rfl) rfl (.keep (rfl) rfl (.nil))))) (fun i h => by cases h)⟩
    · skip
      refine rs_mv rfl rfl ?_
      refine rs_mv rfl rfl ?_
      refine rs_nil fun _ => ?_
      refine th_n ?_
      refine aw_seq ?_
      refine aw_reg ?_
      refine rs_mv rfl rfl ?_
      refine rs_quow (c := 0) rfl rfl rfl (by decide) rfl ?_
      refine rs_mv rfl rfl ?_
      refine rs_rem (c := 2) rfl rfl rfl (by decide) rfl ?_
      refine rs_mv rfl rfl ?_
      refine rs_mv rfl rfl ?_
      refine rs_nil fun _ => ?_
      refine th_n ?_
      refine aw_seq ?_
      refine aw_reg ?_
      refine rs_mv rfl rfl ?_
      refine rs_nil fun _ => ?_
      refine th_n ?_
      refine aw_block ?_
      refine aw_fam (α := Nat) (fun x => 3 - x) (fun x => [(2, .ptr 2 0 0), (3, .ptr 3 0 0), (4, .ptr 4 0 0), (5, .ptr 5 0 0), (10, iv (((2) : Nat) : Int)), (6, iv 2), (7, iv 0), (8, iv 2), (17, iv (((x) : Nat) : Int))]) (fun x => [(2, mO (mL M)), (3, mO (mL O)), (4, mO [iv 0, iv 0, iv 0, iv 0, iv 0, iv 0, iv 0, iv 0, iv 0]), (5, mO (tmS M O (2) (x)))]) (fun x => x ≤ 3) 0 (by omega)
        (weak_to (.cons rfl (rc_same rfl (.inl rfl)) (.cons rfl (rc_same rfl (.inl rfl)) (.cons rfl (rc_same rfl (.inl rfl)) (.cons rfl (rc_same rfl (.inl rfl)) (.cons rfl (rc_same rfl (.inl rfl)) (.cons rfl (rc_same rfl (.inl rfl)) (.cons rfl (rc_same rfl (.inl rfl)) (.cons rfl (rc_same rfl (.inl rfl)) (.cons rfl (rc_same rfl (.inl rfl)) (.nil)))))))))) (.keep (rfl) rfl (.keep (rfl) rfl (.keep (rfl) rfl (.keep (rfl) rfl (.nil))))) (fun i h => by cases h)) ?_
      intro x hx
      refine aw_seq ?_
      refine aw_reg ?_
      refine rs_lss rfl rfl rfl ?_
      refine rs_nil fun _ => ?_
      refine th_n ?_
      refine aw_seq ?_
      refine aw_cond rfl (fun h18 => ?_) (fun h18 => ?_)
      · replace h18 := of_decide_eq_true h18
        refine aw_skip ?_
        refine th_n ?_
        refine aw_seq ?_
        refine aw_block ?_
        refine aw_seq ?_
        refine aw_reg ?_
        obtain rfl | rfl | rfl : x = 0 ∨ x = 1 ∨ x = 2 := by omega
        · skip
          refine rs_mv rfl rfl ?_
          refine rs_mv rfl rfl ?_
          refine rs_nil fun _ => ?_
          refine th_n ?_
          refine aw_draw hmix ?_
          refine rs_mv rfl rfl ?_
          refine rs_mv rfl rfl ?_
          refine rs_ixarr_p rfl rfl rfl (by decide) (by decide) ?_
          refine rs_ixarr_p rfl rfl rfl (by decide) (by decide) ?_
          refine rs_ld_p rfl rfl rfl rfl rfl ?_
          refine rs_mv rfl rfl ?_
          refine rs_mv rfl rfl ?_
          refine rs_ixarr_p rfl rfl rfl (by decide) (by decide) ?_
          refine rs_ixarr_p rfl rfl rfl (by decide) (by decide) ?_
          refine rs_ld_p rfl rfl rfl rfl rfl ?_
          refine rs_mv rfl rfl ?_
          refine rs_mv rfl rfl ?_
          refine rs_ixarr_p rfl rfl rfl (by decide) (by decide) ?_
          refine rs_ixarr_p rfl rfl rfl (by decide) (by decide) ?_
          refine rs_ld_p rfl rfl rfl rfl rfl ?_
          refine rs_mulw rfl rfl rfl rfl ?_
          refine rs_addw rfl rfl rfl rfl ?_
          refine rs_ixarr_p rfl rfl rfl (by decide) (by decide) ?_
          refine rs_ixarr_p rfl rfl rfl (by decide) (by decide) ?_
          refine rs_st rfl rfl rfl rfl rfl rfl rfl (Nat.le_of_ble_eq_true rfl) rfl rfl ?_
          refine rs_nil ⟨by kernel_rfl, fun _ => ?_⟩
          refine in_n ?_
          refine th_n ?_
          refine aw_reg ?_
          refine rs_add rfl rfl rfl (by omega) ?_
          refine rs_mv rfl rfl ?_
          refine rs_nil fun _ => ?_
          refine th_n ?_
          exact ⟨0 + 1, by omega, by omega, weak_to (.cons rfl (rc_same rfl (.inl rfl)) (.cons rfl (rc_same rfl (.inl rfl)) (.cons rfl (rc_same rfl (.inl rfl)) (.cons rfl (rc_same rfl (.inl rfl)) (.cons rfl (rc_same rfl (.inl rfl)) (.cons rfl (rc_same rfl (.inl rfl)) (.cons rfl (rc_same rfl (.inl rfl)) (.cons rfl (rc_same rfl (.inl rfl)) (.cons rfl (rc_same rfl (.inl rfl)) (.nil)))))))))) (.keep (rfl) rfl (.keep (rfl) rfl (.keep (rfl) rfl (.keep (rfl) rfl (.nil))))) (fun i h => by cases h)⟩
        · skip
          refine rs_mv rfl rfl ?_
          refine rs_mv rfl rfl ?_
          refine rs_nil fun _ => ?_
          refine th_n ?_
          refine aw_draw hmix ?_
          refine rs_mv rfl rfl ?_
          refine rs_mv rfl rfl ?_
          refine rs_ixarr_p rfl rfl rfl (by decide) (by decide) ?_
          refine rs_ixarr_p rfl rfl rfl (by decide) (by decide) ?_
          refine rs_ld_p rfl rfl rfl rfl rfl ?_
          refine rs_mv rfl rfl ?_
          refine rs_mv rfl rfl ?_
          refine rs_ixarr_p rfl rfl rfl (by decide) (by decide) ?_
          refine rs_ixarr_p rfl rfl rfl (by decide) (by decide) ?_
          refine rs_ld_p rfl rfl rfl rfl rfl ?_
          refine rs_mv rfl rfl ?_
          refine rs_mv rfl rfl ?_
          refine rs_ixarr_p rfl rfl rfl (by decide) (by decide) ?_
          refine rs_ixarr_p rfl rfl rfl (by decide) (by decide) ?_
          refine rs_ld_p rfl rfl rfl rfl rfl ?_
          refine rs_mulw rfl rfl rfl rfl ?_
          refine rs_addw rfl rfl rfl rfl ?_
          refine rs_ixarr_p rfl rfl rfl (by decide) (by decide) ?_
          refine rs_ixarr_p rfl rfl rfl (by decide) (by decide) ?_
          refine rs_st rfl rfl rfl rfl rfl rfl rfl (Nat.le_of_ble_eq_true rfl) rfl rfl ?_
          refine rs_nil ⟨by kernel_rfl, fun _ => ?_⟩
          refine in_n ?_
          refine th_n ?_
          refine aw_reg ?_
          refine rs_add rfl rfl rfl (by omega) ?_
          refine rs_mv rfl rfl ?_
          refine rs_nil fun _ => ?_
          refine th_n ?_
          exact ⟨1 + 1, by omega, by omega, weak_to (.cons rfl (rc_same rfl (.inl rfl)) (.cons rfl (rc_same rfl (.inl rfl)) (.cons rfl (rc_same rfl (.inl rfl)) (.cons rfl (rc_same rfl (.inl rfl)) (.cons rfl (rc_same rfl (.inl rfl)) (.cons rfl (rc_same rfl (.inl rfl)) (.cons rfl (rc_same rfl (.inl rfl)) (.cons rfl (rc_same rfl (.inl rfl)) (.cons rfl (rc_same rfl (.inl rfl)) (.nil)))))))))) (.keep (rfl) rfl (.keep (rfl) rfl (.keep (rfl) rfl (.keep (rfl) rfl (.nil))))) (fun i h => by cases h)⟩
        · skip
          refine rs_mv rfl rfl ?_
          refine rs_mv rfl rfl ?_
          refine rs_nil fun _ => ?_
          refine th_n ?_
          refine aw_draw hmix ?_
          refine rs_mv rfl rfl ?_
          refine rs_mv rfl rfl ?_
          refine rs_ixarr_p rfl rfl rfl (by decide) (by decide) ?_
          refine rs_ixarr_p rfl rfl rfl (by decide) (by decide) ?_
          refine rs_ld_p rfl rfl rfl rfl rfl ?_
          refine rs_mv rfl rfl ?_
          refine rs_mv rfl rfl ?_
          refine rs_ixarr_p rfl rfl rfl (by decide) (by decide) ?_
          refine rs_ixarr_p rfl rfl rfl (by decide) (by decide) ?_
          refine rs_ld_p rfl rfl rfl rfl rfl ?_
          refine rs_mv rfl rfl ?_
          refine rs_mv rfl rfl ?_
          refine rs_ixarr_p rfl rfl rfl (by decide) (by decide) ?_
          refine rs_ixarr_p rfl rfl rfl (by decide) (by decide) ?_
          refine rs_ld_p rfl rfl rfl rfl rfl ?_
          refine rs_mulw rfl rfl rfl rfl ?_
          refine rs_addw rfl rfl rfl rfl ?_
          refine rs_ixarr_p rfl rfl rfl (by decide) (by decide) ?_
          refine rs_ixarr_p rfl rfl rfl (by decide) (by decide) ?_
          refine rs_st rfl rfl rfl rfl rfl rfl rfl (Nat.le_of_ble_eq_true rfl) rfl rfl ?_
          refine rs_nil ⟨by kernel_rfl, fun _ => ?_⟩
          refine in_n ?_
          refine th_n ?_
          refine aw_reg ?_
          refine rs_add rfl rfl rfl (by omega) ?_
          refine rs_mv rfl rfl ?_
          refine rs_nil fun _ => ?_
          refine th_n ?_
          exact ⟨2 + 1, by omega, by omega, weak_to (.cons rfl (rc_same rfl (.inl rfl)) (.cons rfl (rc_same rfl (.inl rfl)) (.cons rfl (rc_same rfl (.inl rfl)) (.cons rfl (rc_same rfl (.inl rfl)) (.cons rfl (rc_same rfl (.inl rfl)) (.cons rfl (rc_same rfl (.inl rfl)) (.cons rfl (rc_same rfl (.inl rfl)) (.cons rfl (rc_same rfl (.inl rfl)) (.cons rfl (rc_same rfl (.inl rfl)) (.nil)))))))))) (.keep (rfl) rfl (.keep (rfl) rfl (.keep (rfl) rfl (.keep (rfl) rfl (.nil))))) (fun i h => by cases h)⟩
      · replace h18 := of_decide_eq_false h18
        refine aw_exit ?_
        refine th_e ?_
        refine th_e ?_
        refine in_hit ?_
        refine in_n ?_
        refine th_n ?_
        obtain rfl : x = 3 := by omega
        refine aw_reg ?_
        refine rs_add rfl rfl rfl (by omega) ?_
        refine rs_mv rfl rfl ?_
        refine rs_nil fun _ => ?_
        refine th_n ?_
        exact ⟨2 + 1, by omega, by omega, weak_to (.cons rfl (rc_same rfl (.inl rfl)) (.cons rfl (rc_same rfl (.inl rfl)) (.cons rfl (rc_same rfl (.inl rfl)) (.cons rfl (rc_same rfl (.inl rfl)) (.cons rfl (rc_same rfl (.inl rfl)) (.nil)))))) (.keep (rfl) rfl (.keep (rfl) rfl (.keep (rfl) rfl (.keep (rfl) rfl (.nil))))) (fun i h => by cases h)⟩
    · skip
      refine rs_mv rfl rfl ?_
      refine rs_mv rfl rfl ?_
      refine rs_nil fun _ => ?_
      refine th_n ?_
      refine aw_seq ?_
      refine aw_reg ?_
      refine rs_mv rfl rfl ?_
      refine rs_quow (c := 1) rfl rfl rfl (by decide) rfl ?_
      refine rs_mv rfl rfl ?_
      refine rs_rem (c := 0) rfl rfl rfl (by decide) rfl ?_
      refine rs_mv rfl rfl ?_
      refine rs_mv rfl rfl ?_
      refine rs_nil fun _ => ?_
      refine th_n ?_
      refine aw_seq ?_
      refine aw_reg ?_
      refine rs_mv rfl rfl ?_
      refine rs_nil fun _ => ?_
      refine th_n ?_
      refine aw_block ?_
      refine aw_fam (α := Nat) (fun x => 3 - x) (fun x => [(2, .ptr 2 0 0), (3, .ptr 3 0 0), (4, .ptr 4 0 0), (5, .ptr 5 0 0), (10, iv (((3) : Nat) : Int)), (6, iv 3), (7, iv 1), (8, iv 0), (17, iv (((x) : Nat) : Int))]) (fun x => [(2, mO (mL M)), (3, mO (mL O)), (4, mO [iv 0, iv 0, iv 0, iv 0, iv 0, iv 0, iv 0, iv 0, iv 0]), (5, mO (tmS M O (3) (x)))]) (fun x => x ≤ 3) 0 (by omega)
        (weak_to (.cons rfl (rc_same rfl (.inl rfl)) (.cons rfl (rc_same rfl (.inl rfl)) (.cons rfl (rc_same rfl (.inl rfl)) (.cons rfl (rc_same rfl (.inl rfl)) (.cons rfl (rc_same rfl (.inl rfl)) (.cons rfl (rc_same rfl (.inl rfl)) (.cons rfl (rc_same rfl (.inl rfl)) (.cons rfl (rc_same rfl (.inl rfl)) (.cons rfl (rc_same rfl (.inl rfl)) (.nil)))))))))) (.keep (rfl) rfl (.keep (rfl) rfl (.keep (rfl) rfl (.keep (rfl) rfl (.nil))))) (fun i h => by cases h)) ?_
      intro x hx
      refine aw_seq ?_
      refine aw_reg ?_
      refine rs_lss rfl rfl rfl ?_
      refine rs_nil fun _ => ?_
      refine th_n ?_
      refine aw_seq ?_
      refine aw_cond rfl (fun h18 => ?_) (fun h18 => ?_)
      · replace h18 := of_decide_eq_true h18
        refine aw_skip ?_
        refine th_n ?_
        refine aw_seq ?_
        refine aw_block ?_
        refine aw_seq ?_
        refine aw_reg ?_
        obtain rfl | rfl | rfl : x = 0 ∨ x = 1 ∨ x = 2 := by omega
        · skip
          refine rs_mv rfl rfl ?_
          refine rs_mv rfl rfl ?_
          refine rs_nil fun _ => ?_
          refine th_n ?_
          refine aw_draw hmix ?_
          refine rs_mv rfl rfl ?_
          refine rs_mv rfl rfl ?_
          refine rs_ixarr_p rfl rfl rfl (by decide) (by decide) ?_
          refine rs_ixarr_p rfl rfl rfl (by decide) (by decide) ?_
          refine rs_ld_p rfl rfl rfl rfl rfl ?_
          refine rs_mv rfl rfl ?_
          refine rs_mv rfl rfl ?_
          refine rs_ixarr_p rfl rfl rfl (by decide) (by decide) ?_
          refine rs_ixarr_p rfl rfl rfl (by decide) (by decide) ?_
          refine rs_ld_p rfl rfl rfl rfl rfl ?_
          refine rs_mv rfl rfl ?_
          refine rs_mv rfl rfl ?_
          refine rs_ixarr_p rfl rfl rfl (by decide) (by decide) ?_
          refine rs_ixarr_p rfl rfl rfl (by decide) (by decide) ?_
          refine rs_ld_p rfl rfl rfl rfl rfl ?_
          refine rs_mulw rfl rfl rfl rfl ?_
          refine rs_addw rfl rfl rfl rfl ?_
          refine rs_ixarr_p rfl rfl rfl (by decide) (by decide) ?_
          refine rs_ixarr_p rfl rfl rfl (by decide) (by decide) ?_
          refine rs_st rfl rfl rfl rfl rfl rfl rfl (Nat.le_of_ble_eq_true rfl) rfl rfl ?_
          refine rs_nil ⟨by kernel_rfl, fun _ => ?_⟩
          refine in_n ?_
          refine th_n ?_
          refine aw_reg ?_
          refine rs_add rfl rfl rfl (by omega) ?_
          refine rs_mv rfl rfl ?_
          refine rs_nil fun _ => ?_
          refine th_n ?_
          exact ⟨0 + 1, by omega, by omega, weak_to (.cons rfl (rc_same rfl (.inl rfl)) (.cons rfl (rc_same rfl (.inl rfl)) (.cons rfl (rc_same rfl (.inl rfl)) (.cons rfl (rc_same rfl (.inl rfl)) (.cons rfl (rc_same rfl (.inl rfl)) (.cons rfl (rc_same rfl (.inl rfl)) (.cons rfl (rc_same rfl (.inl rfl)) (.cons rfl (rc_same rfl (.inl rfl)) (.cons rfl (rc_same rfl (.inl rfl)) (.nil)))))))))) (.keep (rfl) rfl (.keep (rfl) rfl (.keep (rfl) rfl (.keep (rfl) rfl (.nil))))) (fun i h => by cases h)⟩
        · skip
          refine rs_mv rfl rfl ?_
          refine rs_mv rfl rfl ?_
          refine rs_nil fun _ => ?_
          refine th_n ?_
          refine aw_draw hmix ?_
          refine rs_mv rfl rfl ?_
          refine rs_mv rfl rfl ?_
          refine rs_ixarr_p rfl rfl rfl (by decide) (by decide) ?_
          refine rs_ixarr_p rfl rfl rfl (by decide) (by decide) ?_
          refine rs_ld_p rfl rfl rfl rfl rfl ?_
          refine rs_mv rfl rfl ?_
          refine rs_mv rfl rfl ?_
          refine rs_ixarr_p rfl rfl rfl (by decide) (by decide) ?_
          refine rs_ixarr_p rfl rfl rfl (by decide) (by decide) ?_
          refine rs_ld_p rfl rfl rfl rfl rfl ?_
          refine rs_mv rfl rfl ?_
          refine rs_mv rfl rfl ?_
          refine rs_ixarr_p rfl rfl rfl (by decide) (by decide) ?_
          refine rs_ixarr_p rfl rfl rfl (by decide) (by decide) ?_
          refine rs_ld_p rfl rfl rfl rfl rfl ?_
          refine rs_mulw rfl rfl rfl rfl ?_
          refine rs_addw rfl rfl rfl rfl ?_
          refine rs_ixarr_p rfl rfl rfl (by decide) (by decide) ?_
          refine rs_ixarr_p rfl rfl rfl (by decide) (by decide) ?_
          refine rs_st rfl rfl rfl rfl rfl rfl rfl (Nat.le_of_ble_eq_true rfl) rfl rfl ?_
          refine rs_nil ⟨by kernel_rfl, fun _ => ?_⟩
          refine in_n ?_
          refine th_n ?_
          refine aw_reg ?_
          refine rs_add rfl rfl rfl (by omega) ?_
          refine rs_mv rfl rfl ?_
          refine rs_nil fun _ => ?_
          refine th_n ?_
          exact ⟨1 + 1, by omega, by omega, weak_to (.cons rfl (rc_same rfl (.inl rfl)) (.cons rfl (rc_same rfl (.inl rfl)) (.cons rfl (rc_same rfl (.inl rfl)) (.cons rfl (rc_same rfl (.inl rfl)) (.cons rfl (rc_same rfl (.inl rfl)) (.cons rfl (rc_same rfl (.inl rfl)) (.cons rfl (rc_same rfl (.inl rfl)) (.cons rfl (rc_same rfl (.inl rfl)) (.cons rfl (rc_same rfl (.inl rfl)) (.nil)))))))))) (.keep (rfl) rfl (.keep (rfl) rfl (.keep (rfl) rfl (.keep (rfl) rfl (.nil))))) (fun i h => by cases h)⟩
        · skip
          refine rs_mv rfl rfl ?_
          refine rs_mv rfl rfl ?_
          refine rs_nil fun _ => ?_
          refine th_n ?_
          refine aw_draw hmix ?_
          refine rs_mv rfl rfl ?_
          refine rs_mv rfl rfl ?_
          refine rs_ixarr_p rfl rfl rfl (by decide) (by decide) ?_
          refine rs_ixarr_p rfl rfl rfl (by decide) (by decide) ?_
          refine rs_ld_p rfl rfl rfl rfl rfl ?_
          refine rs_mv rfl rfl ?_
          refine rs_mv rfl rfl ?_
          refine rs_ixarr_p rfl rfl rfl (by decide) (by decide) ?_
          refine rs_ixarr_p rfl rfl rfl (by decide) (by decide) ?_
          refine rs_ld_p rfl rfl rfl rfl rfl ?_
          refine rs_mv rfl rfl ?_
          refine rs_mv rfl rfl ?_
          refine rs_ixarr_p rfl rfl rfl (by decide) (by decide) ?_
          refine rs_ixarr_p rfl rfl rfl (by decide) (by decide) ?_
          refine rs_ld_p rfl rfl rfl rfl rfl ?_
          refine rs_mulw rfl rfl rfl rfl ?_
          refine rs_addw rfl rfl rfl rfl ?_
          refine rs_ixarr_p rfl rfl rfl (by decide) (by decide) ?_
          refine rs_ixarr_p rfl rfl rfl (by decide) (by decide) ?_
          refine rs_st rfl rfl rfl rfl rfl rfl rfl (Nat.le_of_ble_eq_true rfl) rfl rfl ?_
          refine rs_nil ⟨by kernel_rfl, fun _ => ?_⟩
          refine in_n ?_
          refine th_n ?_
          refine aw_reg ?_
          refine rs_add rfl rfl rfl (by omega) ?_
          refine rs_mv rfl rfl ?_
          refine rs_nil fun _ => ?_
          refine th_n ?_
          exact ⟨2 + 1, by omega, by omega, weak_to (.cons rfl (rc_same rfl (.inl rfl)) (.cons rfl (rc_same rfl (.inl rfl)) (.cons rfl (rc_same rfl (.inl rfl)) (.cons rfl (rc_same rfl (.inl rfl)) (.cons rfl (rc_same rfl (.inl rfl)) (.cons rfl (rc_same rfl (.inl rfl)) (.cons rfl (rc_same rfl (.inl rfl)) (.cons rfl (rc_same rfl (.inl rfl)) (.cons rfl (rc_same rfl (.inl rfl)) (.nil)))))))))) (.keep (rfl) rfl (.keep (rfl) rfl (.keep (rfl) rfl (.keep (rfl) rfl (.nil))))) (fun i h => by cases h)⟩
      · replace h18 := of_decide_eq_false h18
        refine aw_exit ?_
        refine th_e ?_
        refine th_e ?_
        refine in_hit ?_
        refine in_n ?_
        refine th_n ?_
        obtain rfl : x = 3 := by omega
        refine aw_reg ?_
        refine rs_add rfl rfl rfl (by omega) ?_
        refine rs_mv rfl rfl ?_
        refine rs_nil fun _ => ?_
        refine th_n ?_
        exact ⟨3 + 1, by omega, by omega, weak_to (.cons rfl (rc_same rfl (.inl rfl)) (.cons rfl (rc_same rfl (.inl rfl)) (.cons rfl (rc_same rfl (.inl rfl)) (.cons rfl (rc_same rfl (.inl rfl)) (.cons rfl (rc_same rfl (.inl rfl)) (.nil)))))) (.keep (rfl) rfl (.keep (rfl) rfl (.keep (rfl) rfl (.keep (rfl) rfl (.nil))))) (fun i h => by cases h)⟩
    · skip
      refine rs_mv rfl rfl ?_
      refine rs_mv rfl rfl ?_
      refine rs_nil fun _ => ?_
      refine th_n ?_
      refine aw_seq ?_
      refine aw_reg ?_
      refine rs_mv rfl rfl ?_
      refine rs_quow (c := 1) rfl rfl rfl (by decide) rfl ?_
      refine rs_mv rfl rfl ?_
      refine rs_rem (c := 1) rfl rfl rfl (by decide) rfl ?_
      refine rs_mv rfl rfl ?_
      refine rs_mv rfl rfl ?_
      refine rs_nil fun _ => ?_
      refine th_n ?_
      refine aw_seq ?_
      refine aw_reg ?_
      refine rs_mv rfl rfl ?_
      refine rs_nil fun _ => ?_
      refine th_n ?_
      refine aw_block ?_
      refine aw_fam (α := Nat) (fun x => 3 - x) (fun x => [(2, .ptr 2 0 0), (3, .ptr 3 0 0), (4, .ptr 4 0 0), (5, .ptr 5 0 0), (10, iv (((4) : Nat) : Int)), (6, iv 4), (7, iv 1), (8, iv 1), (17, iv (((x) : Nat) : Int))]) (fun x => [(2, mO (mL M)), (3, mO (mL O)), (4, mO [iv 0, iv 0, iv 0, iv 0, iv 0, iv 0, iv 0, iv 0, iv 0]), (5, mO (tmS M O (4) (x)))]) (fun x => x ≤ 3) 0 (by omega)
        (weak_to (.cons rfl (rc_same rfl (.inl rfl)) (.cons rfl (rc_same rfl (.inl rfl)) (.cons rfl (rc_same rfl (.inl rfl)) (.cons rfl (rc_same rfl (.inl rfl)) (.cons rfl (rc_same rfl (.inl rfl)) (.cons rfl (rc_same rfl (.inl rfl)) (.cons rfl (rc_same rfl (.inl rfl)) (.cons rfl (rc_same rfl (.inl rfl)) (.cons rfl (rc_same rfl (.inl rfl)) (.nil)))))))))) (.keep (rfl) rfl (.keep (rfl) rfl (.keep (rfl) rfl (.keep (rfl) rfl (.nil))))) (fun i h => by cases h)) ?_
      intro x hx
      refine aw_seq ?_
      refine aw_reg ?_
      refine rs_lss rfl rfl rfl ?_
      refine rs_nil fun _ => ?_
      refine th_n ?_
      refine aw_seq ?_
      refine aw_cond rfl (fun h18 => ?_) (fun h18 => ?_)
      · replace h18 := of_decide_eq_true h18
        refine aw_skip ?_
        refine th_n ?_
        refine aw_seq ?_
        refine aw_block ?_
        refine aw_seq ?_
        refine aw_reg ?_
        obtain rfl | rfl | rfl : x = 0 ∨ x = 1 ∨ x = 2 := by omega
        · skip
          refine rs_mv rfl rfl ?_
          refine rs_mv rfl rfl ?_
          refine rs_nil fun _ => ?_
          refine th_n ?_
          refine aw_draw hmix ?_
          refine rs_mv rfl rfl ?_
          refine rs_mv rfl rfl ?_
          refine rs_ixarr_p rfl rfl rfl (by decide) (by decide) ?_
          refine rs_ixarr_p rfl rfl rfl (by decide) (by decide) ?_
          refine rs_ld_p rfl rfl rfl rfl rfl ?_
          refine rs_mv rfl rfl ?_
          refine rs_mv rfl rfl ?_
          refine rs_ixarr_p rfl rfl rfl (by decide) (by decide) ?_
          refine rs_ixarr_p rfl rfl rfl (by decide) (by decide) ?_
          refine rs_ld_p rfl rfl rfl rfl rfl ?_
          refine rs_mv rfl rfl ?_
          refine rs_mv rfl rfl ?_
          refine rs_ixarr_p rfl rfl rfl (by decide) (by decide) ?_
          refine rs_ixarr_p rfl rfl rfl (by decide) (by decide) ?_
          refine rs_ld_p rfl rfl rfl rfl rfl ?_
          refine rs_mulw rfl rfl rfl rfl ?_
          refine rs_addw rfl rfl rfl rfl ?_
          refine rs_ixarr_p rfl rfl rfl (by decide) (by decide) ?_
          refine rs_ixarr_p rfl rfl rfl (by decide) (by decide) ?_
          refine rs_st rfl rfl rfl rfl rfl rfl rfl (Nat.le_of_ble_eq_true rfl) rfl rfl ?_
          refine rs_nil ⟨by kernel_rfl, fun _ => ?_⟩
          refine in_n ?_
          refine th_n ?_
          refine aw_reg ?_
          refine rs_add rfl rfl rfl (by omega) ?_
          refine rs_mv rfl rfl ?_
          refine rs_nil fun _ => ?_
          refine th_n ?_
          exact ⟨0 + 1, by omega, by omega, weak_to (.cons rfl (rc_same rfl (.inl rfl)) (.cons rfl (rc_same rfl (.inl rfl)) (.cons rfl (rc_same rfl (.inl rfl)) (.cons rfl (rc_same rfl (.inl rfl)) (.cons rfl (rc_same rfl (.inl rfl)) (.cons rfl (rc_same rfl (.inl rfl)) (.cons rfl (rc_same rfl (.inl rfl)) (.cons rfl (rc_same rfl (.inl rfl)) (.cons rfl (rc_same rfl (.inl rfl)) (.nil)))))))))) (.keep (rfl) rfl (.keep (rfl) rfl (.keep (rfl) rfl (.keep (rfl) rfl (.nil))))) (fun i h => by cases h)⟩
        · skip
          refine rs_mv rfl rfl ?_
          refine rs_mv rfl rfl ?_
          refine rs_nil fun _ => ?_
          refine th_n ?_
          refine aw_draw hmix ?_
          refine rs_mv rfl rfl ?_
          refine rs_mv rfl rfl ?_
          refine rs_ixarr_p rfl rfl rfl (by decide) (by decide) ?_
          refine rs_ixarr_p rfl rfl rfl (by decide) (by decide) ?_
          refine rs_ld_p rfl rfl rfl rfl rfl ?_
          refine rs_mv rfl rfl ?_
          refine rs_mv rfl rfl ?_
          refine rs_ixarr_p rfl rfl rfl (by decide) (by decide) ?_
          refine rs_ixarr_p rfl rfl rfl (by decide) (by decide) ?_
          refine rs_ld_p rfl rfl rfl rfl rfl ?_
          refine rs_mv rfl rfl ?_
          refine rs_mv rfl rfl ?_
          refine rs_ixarr_p rfl rfl rfl (by decide) (by decide) ?_
          refine rs_ixarr_p rfl rfl rfl (by decide) (by decide) ?_
          refine rs_ld_p rfl rfl rfl rfl rfl ?_
          refine rs_mulw rfl rfl rfl rfl ?_
          refine rs_addw rfl rfl rfl rfl ?_
          refine rs_ixarr_p rfl rfl rfl (by decide) (by decide) ?_
          refine rs_ixarr_p rfl rfl rfl (by decide) (by decide) ?_
          refine rs_st rfl rfl rfl rfl rfl rfl rfl (Nat.le_of_ble_eq_true rfl) rfl rfl ?_
          refine rs_nil ⟨by kernel_rfl, fun _ => ?_⟩
          refine in_n ?_
          refine th_n ?_
          refine aw_reg ?_
          refine rs_add rfl rfl rfl (by omega) ?_
          refine rs_mv rfl rfl ?_
          refine rs_nil fun _ => ?_
          refine th_n ?_
          exact ⟨1 + 1, by omega, by omega, weak_to (.cons rfl (rc_same rfl (.inl rfl)) (.cons rfl (rc_same rfl (.inl rfl)) (.cons rfl (rc_same rfl (.inl rfl)) (.cons rfl (rc_same rfl (.inl rfl)) (.cons rfl (rc_same rfl (.inl rfl)) (.cons rfl (rc_same rfl (.inl rfl)) (.cons rfl (rc_same rfl (.inl rfl)) (.cons rfl (rc_same rfl (.inl rfl)) (.cons rfl (rc_same rfl (.inl rfl)) (.nil)))))))))) (.keep (rfl) rfl (.keep (rfl) rfl (.keep (rfl) rfl (.keep (rfl) rfl (.nil))))) (fun i h => by cases h)⟩
        · skip
          refine rs_mv rfl rfl ?_
          refine rs_mv rfl rfl ?_
          refine rs_nil fun _ => ?_
          refine th_n ?_
          refine aw_draw hmix ?_
          refine rs_mv rfl rfl ?_
          refine rs_mv rfl rfl ?_
          refine rs_ixarr_p rfl rfl rfl (by decide) (by decide) ?_
          refine rs_ixarr_p rfl rfl rfl (by decide) (by decide) ?_
          refine rs_ld_p rfl rfl rfl rfl rfl ?_
          refine rs_mv rfl rfl ?_
          refine rs_mv rfl rfl ?_
          refine rs_ixarr_p rfl rfl rfl (by decide) (by decide) ?_
          refine rs_ixarr_p rfl rfl rfl (by decide) (by decide) ?_
          refine rs_ld_p rfl rfl rfl rfl rfl ?_
          refine rs_mv rfl rfl ?_
          refine rs_mv rfl rfl ?_
          refine rs_ixarr_p rfl rfl rfl (by decide) (by decide) ?_
          refine rs_ixarr_p rfl rfl rfl (by decide) (by decide) ?_
          refine rs_ld_p rfl rfl rfl rfl rfl ?_
          refine rs_mulw rfl rfl rfl rfl ?_
          refine rs_addw rfl rfl rfl rfl ?_
          refine rs_ixarr_p rfl rfl rfl (by decide) (by decide) ?_
          refine rs_ixarr_p rfl rfl rfl (by decide) (by decide) ?_
          refine rs_st rfl rfl rfl rfl rfl rfl rfl (Nat.le_of_ble_eq_true rfl) rfl rfl ?_
          refine rs_nil ⟨by kernel_rfl, fun _ => ?_⟩
          refine in_n ?_
          refine th_n ?_
          refine aw_reg ?_
          refine rs_add rfl rfl rfl (by omega) ?_
          refine rs_mv rfl rfl ?_
          refine rs_nil fun _ => ?_
          refine th_n ?_
          exact ⟨2 + 1, by omega, by omega, weak_to (.cons rfl (rc_same rfl (.inl rfl)) (.cons rfl (rc_same rfl (.inl rfl)) (.cons rfl (rc_same rfl (.inl rfl)) (.cons rfl (rc_same rfl (.inl rfl)) (.cons rfl (rc_same rfl (.inl rfl)) (.cons rfl (rc_same rfl (.inl rfl)) (.cons rfl (rc_same rfl (.inl rfl)) (.cons rfl (rc_same rfl (.inl rfl)) (.cons rfl (rc_same rfl (.inl rfl)) (.nil)))))))))) (.keep (rfl) rfl (.keep (rfl) rfl (.keep (rfl) rfl (.keep (rfl) rfl (.nil))))) (fun i h => by cases h)⟩
      · replace h18 := of_decide_eq_false h18
        refine aw_exit ?_
        refine th_e ?_
        refine th_e ?_
        refine in_hit ?_
        refine in_n ?_
        refine th_n ?_
        obtain rfl : x = 3 := by omega
        refine aw_reg ?_
        refine rs_add rfl rfl rfl (by omega) ?_
        refine rs_mv rfl rfl ?_
        refine rs_nil fun _ => ?_
        refine th_n ?_
        exact ⟨4 + 1, by omega, by omega, weak_to (.cons rfl (rc_same rfl (.inl rfl)) (.cons rfl (rc_same rfl (.inl rfl)) (.cons rfl (rc_same rfl (.inl rfl)) (.cons rfl (rc_same rfl (.inl rfl)) (.cons rfl (rc_same rfl (.inl rfl)) (.nil)))))) (.keep (rfl) rfl (.keep (rfl) rfl (.keep (rfl) rfl (.keep (rfl) rfl (.nil))))) (fun i h => by cases h)⟩
    · skip
      refine rs_mv rfl rfl ?_
      refine rs_mv rfl rfl ?_
      refine rs_nil fun _ => ?_
      refine th_n ?_
      refine aw_seq ?_
      refine aw_reg ?_
      refine rs_mv rfl rfl ?_
      refine rs_quow (c := 1) rfl rfl rfl (by decide) rfl ?_
      refine rs_mv rfl rfl ?_
      refine rs_rem (c := 2) rfl rfl rfl (by decide) rfl ?_
      refine rs_mv rfl rfl ?_
      refine rs_mv rfl rfl ?_
      refine rs_nil fun _ => ?_
      refine th_n ?_
      refine aw_seq ?_
      refine aw_reg ?_
      refine rs_mv rfl rfl ?_
      refine rs_nil fun _ => ?_
      refine th_n ?_
      refine aw_block ?_
      refine aw_fam (α := Nat) (fun x => 3 - x) (fun x => [(2, .ptr 2 0 0), (3, .ptr 3 0 0), (4, .ptr 4 0 0), (5, .ptr 5 0 0), (10, iv (((5) : Nat) : Int)), (6, iv 5), (7, iv 1), (8, iv 2), (17, iv (((x) : Nat) : Int))]) (fun x => [(2, mO (mL M)), (3, mO (mL O)), (4, mO [iv 0, iv 0, iv 0, iv 0, iv 0, iv 0, iv 0, iv 0, iv 0]), (5, mO (tmS M O (5) (x)))]) (fun x => x ≤ 3) 0 (by omega)
        (weak_to (.cons rfl (rc_same rfl (.inl rfl)) (.cons rfl (rc_same rfl (.inl rfl)) (.cons rfl (rc_same rfl (.inl rfl)) (.cons rfl (rc_same rfl (.inl rfl)) (.cons rfl (rc_same rfl (.inl rfl)) (.cons rfl (rc_same rfl (.inl rfl)) (.cons rfl (rc_same rfl (.inl rfl)) (.cons rfl (rc_same rfl (.inl rfl)) (.cons rfl (rc_same rfl (.inl rfl)) (.nil)))))))))) (.keep (rfl) rfl (.keep (rfl) rfl (.keep (rfl) rfl (.keep (rfl) rfl (.nil))))) (fun i h => by cases h)) ?_
      intro x hx
      refine aw_seq ?_
      refine aw_reg ?_
      refine rs_lss rfl rfl rfl ?_
      refine rs_nil fun _ => ?_
      refine th_n ?_
      refine aw_seq ?_
      refine aw_cond rfl (fun h18 => ?_) (fun h18 => ?_)
      · replace h18 := of_decide_eq_true h18
        refine aw_skip ?_
        refine th_n ?_
        refine aw_seq ?_
        refine aw_block ?_
        refine aw_seq ?_
        refine aw_reg ?_
        obtain rfl | rfl | rfl : x = 0 ∨ x = 1 ∨ x = 2 := by omega
        · skip
          refine rs_mv rfl rfl ?_
          refine rs_mv rfl rfl ?_
          refine rs_nil fun _ => ?_
          refine th_n ?_
          refine aw_draw hmix ?_
          refine rs_mv rfl rfl ?_
          refine rs_mv rfl rfl ?_
          refine rs_ixarr_p rfl rfl rfl (by decide) (by decide) ?_
          refine rs_ixarr_p rfl rfl rfl (by decide) (by decide) ?_
          refine rs_ld_p rfl rfl rfl rfl rfl ?_
          refine rs_mv rfl rfl ?_
          refine rs_mv rfl rfl ?_
          refine rs_ixarr_p rfl rfl rfl (by decide) (by decide) ?_
          refine rs_ixarr_p rfl rfl rfl (by decide) (by decide) ?_
          refine rs_ld_p rfl rfl rfl rfl rfl ?_
          refine rs_mv rfl rfl ?_
          refine rs_mv rfl rfl ?_
          refine rs_ixarr_p rfl rfl rfl (by decide) (by decide) ?_
          refine rs_ixarr_p rfl rfl rfl (by decide) (by decide) ?_
          refine rs_ld_p rfl rfl rfl rfl rfl ?_
          refine rs_mulw rfl rfl rfl rfl ?_
          refine rs_addw rfl rfl rfl rfl ?_
          refine rs_ixarr_p rfl rfl rfl (by decide) (by decide) ?_
          refine rs_ixarr_p rfl rfl rfl (by decide) (by decide) ?_
          refine rs_st rfl rfl rfl rfl rfl rfl rfl (Nat.le_of_ble_eq_true rfl) rfl rfl ?_
          refine rs_nil ⟨by kernel_rfl, fun _ => ?_⟩
          refine in_n ?_
          refine th_n ?_
          refine aw_reg ?_
          refine rs_add rfl rfl rfl (by omega) ?_
          refine rs_mv rfl rfl ?_
          refine rs_nil fun _ => ?_
          refine th_n ?_
          exact ⟨0 + 1, by omega, by omega, weak_to (.cons rfl (rc_same rfl (.inl rfl)) (.cons rfl (rc_same rfl (.inl rfl)) (.cons rfl (rc_same rfl (.inl rfl)) (.cons rfl (rc_same rfl (.inl rfl)) (.cons rfl (rc_same rfl (.inl rfl)) (.cons rfl (rc_same rfl (.inl rfl)) (.cons rfl (rc_same rfl (.inl rfl)) (.cons rfl (rc_same rfl (.inl rfl)) (.cons rfl (rc_same rfl (.inl rfl)) (.nil)))))))))) (.keep (rfl) rfl (.keep (rfl) rfl (.keep (rfl) rfl (.keep (rfl) rfl (.nil))))) (fun i h => by cases h)⟩
        · skip
          refine rs_mv rfl rfl ?_
          refine rs_mv rfl rfl ?_
          refine rs_nil fun _ => ?_
          refine th_n ?_
          refine aw_draw hmix ?_
          refine rs_mv rfl rfl ?_
          refine rs_mv rfl rfl ?_
          refine rs_ixarr_p rfl rfl rfl (by decide) (by decide) ?_
          refine rs_ixarr_p rfl rfl rfl (by decide) (by decide) ?_
          refine rs_ld_p rfl rfl rfl rfl rfl ?_
          refine rs_mv rfl rfl ?_
          refine rs_mv rfl rfl ?_
          refine rs_ixarr_p rfl rfl rfl (by decide) (by decide) ?_
          refine rs_ixarr_p rfl rfl rfl (by decide) (by decide) ?_
          refine rs_ld_p rfl rfl rfl rfl rfl ?_
          refine rs_mv rfl rfl ?_
          refine rs_mv rfl rfl ?_
          refine rs_ixarr_p rfl rfl rfl (by decide) (by decide) ?_
          refine rs_ixarr_p rfl rfl rfl (by decide) (by decide) ?_
          refine rs_ld_p rfl rfl rfl rfl rfl ?_
          refine rs_mulw rfl rfl rfl rfl ?_
          refine rs_addw rfl rfl rfl rfl ?_
          refine rs_ixarr_p rfl rfl rfl (by decide) (by decide) ?_
          refine rs_ixarr_p rfl rfl rfl (by decide) (by decide) ?_
          refine rs_st rfl rfl rfl rfl rfl rfl rfl (Nat.le_of_ble_eq_true rfl) rfl rfl ?_
          refine rs_nil ⟨by kernel_rfl, fun _ => ?_⟩
          refine in_n ?_
          refine th_n ?_
          refine aw_reg ?_
          refine rs_add rfl rfl rfl (by omega) ?_
          refine rs_mv rfl rfl ?_
          refine rs_nil fun _ => ?_
          refine th_n ?_
          exact ⟨1 + 1, by omega, by omega, weak_to (.cons rfl (rc_same rfl (.inl rfl)) (.cons rfl (rc_same rfl (.inl rfl)) (.cons rfl (rc_same rfl (.inl rfl)) (.cons rfl (rc_same rfl (.inl rfl)) (.cons rfl (rc_same rfl (.inl rfl)) (.cons rfl (rc_same rfl (.inl rfl)) (.cons rfl (rc_same rfl (.inl rfl)) (.cons rfl (rc_same rfl (.inl rfl)) (.cons rfl (rc_same rfl (.inl rfl)) (.nil)))))))))) (.keep (rfl) rfl (.keep (rfl) rfl (.keep (rfl) rfl (.keep (rfl) rfl (.nil))))) (fun i h => by cases h)⟩
        · skip
          refine rs_mv rfl rfl ?_
          refine rs_mv rfl rfl ?_
          refine rs_nil fun _ => ?_
          refine th_n ?_
          refine aw_draw hmix ?_
          refine rs_mv rfl rfl ?_
          refine rs_mv rfl rfl ?_
          refine rs_ixarr_p rfl rfl rfl (by decide) (by decide) ?_
          refine rs_ixarr_p rfl rfl rfl (by decide) (by decide) ?_
          refine rs_ld_p rfl rfl rfl rfl rfl ?_
          refine rs_mv rfl rfl ?_
          refine rs_mv rfl rfl ?_
          refine rs_ixarr_p rfl rfl rfl (by decide) (by decide) ?_
          refine rs_ixarr_p rfl rfl rfl (by decide) (by decide) ?_
          refine rs_ld_p rfl rfl rfl rfl rfl ?_
          refine rs_mv rfl rfl ?_
          refine rs_mv rfl rfl ?_
          refine rs_ixarr_p rfl rfl rfl (by decide) (by decide) ?_
          refine rs_ixarr_p rfl rfl rfl (by decide) (by decide) ?_
          refine rs_ld_p rfl rfl rfl rfl rfl ?_
          refine rs_mulw rfl rfl rfl rfl ?_
          refine rs_addw rfl rfl rfl rfl ?_
          refine rs_ixarr_p rfl rfl rfl (by decide) (by decide) ?_
          refine rs_ixarr_p rfl rfl rfl (by decide) (by decide) ?_
          refine rs_st rfl rfl rfl rfl rfl rfl rfl (Nat.le_of_ble_eq_true rfl) rfl rfl ?_
          refine rs_nil ⟨by kernel_rfl, fun _ => ?_⟩
          refine in_n ?_
          refine th_n ?_
          refine aw_reg ?_
          refine rs_add rfl rfl rfl (by omega) ?_
          refine rs_mv rfl rfl ?_
          refine rs_nil fun _ => ?_
          refine th_n ?_
          exact ⟨2 + 1, by omega, by omega, weak_to (.cons rfl (rc_same rfl (.inl rfl)) (.cons rfl (rc_same rfl (.inl rfl)) (.cons rfl (rc_same rfl (.inl rfl)) (.cons rfl (rc_same rfl (.inl rfl)) (.cons rfl (rc_same rfl (.inl rfl)) (.cons rfl (rc_same rfl (.inl rfl)) (.cons rfl (rc_same rfl (.inl rfl)) (.cons rfl (rc_same rfl (.inl rfl)) (.cons rfl (rc_same rfl (.inl rfl)) (.nil)))))))))) (.keep (rfl) rfl (.keep (rfl) rfl (.keep (rfl) rfl (.keep (rfl) rfl (.nil))))) (fun i h => by cases h)⟩
      · replace h18 := of_decide_eq_false h18
        refine aw_exit ?_
        refine th_e ?_
        refine th_e ?_
        refine in_hit ?_
        refine in_n ?_
        refine th_n ?_
        obtain rfl : x = 3 := by omega
        refine aw_reg ?_
        refine rs_add rfl rfl rfl (by omega) ?_
        refine rs_mv rfl rfl ?_
        refine rs_nil fun _ => ?_
        refine th_n ?_
        exact ⟨5 + 1, by omega, by omega, weak_to (.cons rfl (rc_same rfl (.inl rfl)) (.cons rfl (rc_same rfl (.inl rfl)) (.cons rfl (rc_same rfl (.inl rfl)) (.cons rfl (rc_same rfl (.inl rfl)) (.cons rfl (rc_same rfl (.inl rfl)) (.nil)))))) (.keep (rfl) rfl (.keep (rfl) rfl (.keep (rfl) rfl (.keep (rfl) rfl (.nil))))) (fun i h => by cases h)⟩
    · skip
      refine rs_mv rfl rfl ?_
      refine rs_mv rfl rfl ?_
      refine rs_nil fun _ => ?_
      refine th_n ?_
      refine aw_seq ?_
      refine aw_reg ?_
      refine rs_mv rfl rfl ?_
      refine rs_quow (c := 2) rfl rfl rfl (by decide) rfl ?_
      refine rs_mv rfl rfl ?_
      refine rs_rem (c := 0) rfl rfl rfl (by decide) rfl ?_
      refine rs_mv rfl rfl ?_
      refine rs_mv rfl rfl ?_
      refine rs_nil fun _ => ?_
      refine th_n ?_
      refine aw_seq ?_
      refine aw_reg ?_
      refine rs_mv rfl rfl ?_
      refine rs_nil fun _ => ?_
      refine th_n ?_
      refine aw_block ?_
      refine aw_fam (α := Nat) (fun x => 3 - x) (fun x => [(2, .ptr 2 0 0), (3, .ptr 3 0 0), (4, .ptr 4 0 0), (5, .ptr 5 0 0), (10, iv (((6) : Nat) : Int)), (6, iv 6), (7, iv 2), (8, iv 0), (17, iv (((x) : Nat) : Int))]) (fun x => [(2, mO (mL M)), (3, mO (mL O)), (4, mO [iv 0, iv 0, iv 0, iv 0, iv 0, iv 0, iv 0, iv 0, iv 0]), (5, mO (tmS M O (6) (x)))]) (fun x => x ≤ 3) 0 (by omega)
        (weak_to (.cons rfl (rc_same rfl (.inl rfl)) (.cons rfl (rc_same rfl (.inl rfl)) (.cons rfl (rc_same rfl (.inl rfl)) (.cons rfl (rc_same rfl (.inl rfl)) (.cons rfl (rc_same rfl (.inl rfl)) (.cons rfl (rc_same rfl (.inl rfl)) (.cons rfl (rc_same rfl (.inl rfl)) (.cons rfl (rc_same rfl (.inl rfl)) (.cons rfl (rc_same rfl (.inl rfl)) (.nil)))))))))) (.keep (rfl) rfl (.keep (rfl) rfl (.keep (rfl) rfl (.keep (rfl) rfl (.nil))))) (fun i h => by cases h)) ?_
      intro x hx
      refine aw_seq ?_
      refine aw_reg ?_
      refine rs_lss rfl rfl rfl ?_
      refine rs_nil fun _ => ?_
      refine th_n ?_
      refine aw_seq ?_
      refine aw_cond rfl (fun h18 => ?_) (fun h18 => ?_)
      · replace h18 := of_decide_eq_true h18
        refine aw_skip ?_
        refine th_n ?_
        refine aw_seq ?_
        refine aw_block ?_
        refine aw_seq ?_
        refine aw_reg ?_
        obtain rfl | rfl | rfl : x = 0 ∨ x = 1 ∨ x = 2 := by omega
        · skip
          refine rs_mv rfl rfl ?_
          refine rs_mv rfl rfl ?_
          refine rs_nil fun _ => ?_
          refine th_n ?_
          refine aw_draw hmix ?_
          refine rs_mv rfl rfl ?_
          refine rs_mv rfl rfl ?_
          refine rs_ixarr_p rfl rfl rfl (by decide) (by decide) ?_
          refine rs_ixarr_p rfl rfl rfl (by decide) (by decide) ?_
          refine rs_ld_p rfl rfl rfl rfl rfl ?_
          refine rs_mv rfl rfl ?_
          refine rs_mv rfl rfl ?_
          refine rs_ixarr_p rfl rfl rfl (by decide) (by decide) ?_
          refine rs_ixarr_p rfl rfl rfl (by decide) (by decide) ?_
          refine rs_ld_p rfl rfl rfl rfl rfl ?_
          refine rs_mv rfl rfl ?_
          refine rs_mv rfl rfl ?_
          refine rs_ixarr_p rfl rfl rfl (by decide) (by decide) ?_
          refine rs_ixarr_p rfl rfl rfl (by decide) (by decide) ?_
          refine rs_ld_p rfl rfl rfl rfl rfl ?_
          refine rs_mulw rfl rfl rfl rfl ?_
          refine rs_addw rfl rfl rfl rfl ?_
          refine rs_ixarr_p rfl rfl rfl (by decide) (by decide) ?_
          refine rs_ixarr_p rfl rfl rfl (by decide) (by decide) ?_
          refine rs_st rfl rfl rfl rfl rfl rfl rfl (Nat.le_of_ble_eq_true rfl) rfl rfl ?_
          refine rs_nil ⟨by kernel_rfl, fun _ => ?_⟩
          refine in_n ?_
          refine th_n ?_
          refine aw_reg ?_
          refine rs_add rfl rfl rfl (by omega) ?_
          refine rs_mv rfl rfl ?_
          refine rs_nil fun _ => ?_
          refine th_n ?_
          exact ⟨0 + 1, by omega, by omega, weak_to (.cons rfl (rc_same rfl (.inl rfl)) (.cons rfl (rc_same rfl (.inl rfl)) (.cons rfl (rc_same rfl (.inl rfl)) (.cons rfl (rc_same rfl (.inl rfl)) (.cons rfl (rc_same rfl (.inl rfl)) (.cons rfl (rc_same rfl (.inl rfl)) (.cons rfl (rc_same rfl (.inl rfl)) (.cons rfl (rc_same rfl (.inl rfl)) (.cons rfl (rc_same rfl (.inl rfl)) (.nil)))))))))) (.keep (rfl) rfl (.keep (rfl) rfl (.keep (rfl) rfl (.keep (rfl) rfl (.nil))))) (fun i h => by cases h)⟩
        · skip
          refine rs_mv rfl rfl ?_
          refine rs_mv rfl rfl ?_
          refine rs_nil fun _ => ?_
          refine th_n ?_
          refine aw_draw hmix ?_
          refine rs_mv rfl rfl ?_
          refine rs_mv rfl rfl ?_
          refine rs_ixarr_p rfl rfl rfl (by decide) (by decide) ?_
          refine rs_ixarr_p rfl rfl rfl (by decide) (by decide) ?_
          refine rs_ld_p rfl rfl rfl rfl rfl ?_
          refine rs_mv rfl rfl ?_
          refine rs_mv rfl rfl ?_
          refine rs_ixarr_p rfl rfl rfl (by decide) (by decide) ?_
          refine rs_ixarr_p rfl rfl rfl (by decide) (by decide) ?_
          refine rs_ld_p rfl rfl rfl rfl rfl ?_
          refine rs_mv rfl rfl ?_
          refine rs_mv rfl rfl ?_
          refine rs_ixarr_p rfl rfl rfl (by decide) (by decide) ?_
          refine rs_ixarr_p rfl rfl rfl (by decide) (by decide) ?_
          refine rs_ld_p rfl rfl rfl rfl rfl ?_
          refine rs_mulw rfl rfl rfl rfl ?_
          refine rs_addw rfl rfl rfl rfl ?_
          refine rs_ixarr_p rfl rfl rfl (by decide) (by decide) ?_
          refine rs_ixarr_p rfl rfl rfl (by decide) (by decide) ?_
          refine rs_st rfl rfl rfl rfl rfl rfl rfl (Nat.le_of_ble_eq_true rfl) rfl rfl ?_
          refine rs_nil ⟨by kernel_rfl, fun _ => ?_⟩
          refine in_n ?_
          refine th_n ?_
          refine aw_reg ?_
          refine rs_add rfl rfl rfl (by omega) ?_
          refine rs_mv rfl rfl ?_
          refine rs_nil fun _ => ?_
          refine th_n ?_
          exact ⟨1 + 1, by omega, by omega, weak_to (.cons rfl (rc_same rfl (.inl rfl)) (.cons rfl (rc_same rfl (.inl rfl)) (.cons rfl (rc_same rfl (.inl rfl)) (.cons rfl (rc_same rfl (.inl rfl)) (.cons rfl (rc_same rfl (.inl rfl)) (.cons rfl (rc_same rfl (.inl rfl)) (.cons rfl (rc_same rfl (.inl rfl)) (.cons rfl (rc_same rfl (.inl rfl)) (.cons rfl (rc_same rfl (.inl rfl)) (.nil)))))))))) (.keep (rfl) rfl (.keep (rfl) rfl (.keep (rfl) rfl (.keep (rfl) rfl (.nil))))) (fun i h => by cases h)⟩
        · skip
          refine rs_mv rfl rfl ?_
          refine rs_mv rfl rfl ?_
          refine rs_nil fun _ => ?_
          refine th_n ?_
          refine aw_draw hmix ?_
          refine rs_mv rfl rfl ?_
          refine rs_mv rfl rfl ?_
          refine rs_ixarr_p rfl rfl rfl (by decide) (by decide) ?_
          refine rs_ixarr_p rfl rfl rfl (by decide) (by decide) ?_
          refine rs_ld_p rfl rfl rfl rfl rfl ?_
          refine rs_mv rfl rfl ?_
          refine rs_mv rfl rfl ?_
          refine rs_ixarr_p rfl rfl rfl (by decide) (by decide) ?_
          refine rs_ixarr_p rfl rfl rfl (by decide) (by decide) ?_
          refine rs_ld_p rfl rfl rfl rfl rfl ?_
          refine rs_mv rfl rfl ?_
          refine rs_mv rfl rfl ?_
          refine rs_ixarr_p rfl rfl rfl (by decide) (by decide) ?_
          refine rs_ixarr_p rfl rfl rfl (by decide) (by decide) ?_
          refine rs_ld_p rfl rfl rfl rfl rfl ?_
          refine rs_mulw rfl rfl rfl rfl ?_
          refine rs_addw rfl rfl rfl rfl ?_
          refine rs_ixarr_p rfl rfl rfl (by decide) (by decide) ?_
          refine rs_ixarr_p rfl rfl rfl (by decide) (by decide) ?_
          refine rs_st rfl rfl rfl rfl rfl rfl rfl (Nat.le_of_ble_eq_true rfl) rfl rfl ?_
          refine rs_nil ⟨by kernel_rfl, fun _ => ?_⟩
          refine in_n ?_
          refine th_n ?_
          refine aw_reg ?_
          refine rs_add rfl rfl rfl (by omega) ?_
          refine rs_mv rfl rfl ?_
          refine rs_nil fun _ => ?_
          refine th_n ?_
          exact ⟨2 + 1, by omega, by omega, weak_to (.cons rfl (rc_same rfl (.inl rfl)) (.cons rfl (rc_same rfl (.inl rfl)) (.cons rfl (rc_same rfl (.inl rfl)) (.cons rfl (rc_same rfl (.inl rfl)) (.cons rfl (rc_same rfl (.inl rfl)) (.cons rfl (rc_same rfl (.inl rfl)) (.cons rfl (rc_same rfl (.inl rfl)) (.cons rfl (rc_same rfl (.inl rfl)) (.cons rfl (rc_same rfl (.inl rfl)) (.nil)))))))))) (.keep (rfl) rfl (.keep (rfl) rfl (.keep (rfl) rfl (.keep (rfl) rfl (.nil))))) (fun i h => by cases h)⟩
      · replace h18 := of_decide_eq_false h18
        refine aw_exit ?_
        refine th_e ?_
        refine th_e ?_
        refine in_hit ?_
        refine in_n ?_
        refine th_n ?_
        obtain rfl : x = 3 := by omega
        refine aw_reg ?_
        refine rs_add rfl rfl rfl (by omega) ?_
        refine rs_mv rfl rfl ?_
        refine rs_nil fun _ => ?_
        refine th_n ?_
        exact ⟨6 + 1, by omega, by omega, weak_to (.cons rfl (rc_same rfl (.inl rfl)) (.cons rfl (rc_same rfl (.inl rfl)) (.cons rfl (rc_same rfl (.inl rfl)) (.cons rfl (rc_same rfl (.inl rfl)) (.cons rfl (rc_same rfl (.inl rfl)) (.nil)))))) (.keep (rfl) rfl (.keep (rfl) rfl (.keep (rfl) rfl (.keep (rfl) rfl (.nil))))) (fun i h => by cases h)⟩
    · skip
      refine rs_mv rfl rfl ?_
      refine rs_mv rfl rfl ?_
      refine rs_nil fun _ => ?_
      refine th_n ?_
      refine aw_seq ?_
      refine aw_reg ?_
      refine rs_mv rfl rfl ?_
      refine rs_quow (c := 2) rfl rfl rfl (by decide) rfl ?_
      refine rs_mv rfl rfl ?_
      refine rs_rem (c := 1) rfl rfl rfl (by decide) rfl ?_
      refine rs_mv rfl rfl ?_
      refine rs_mv rfl rfl ?_
      refine rs_nil fun _ => ?_
      refine th_n ?_
      refine aw_seq ?_
      refine aw_reg ?_
      refine rs_mv rfl rfl ?_
      refine rs_nil fun _ => ?_
      refine th_n ?_
      refine aw_block ?_
      refine aw_fam (α := Nat) (fun x => 3 - x) (fun x => [(2, .ptr 2 0 0), (3, .ptr 3 0 0), (4, .ptr 4 0 0), (5, .ptr 5 0 0), (10, iv (((7) : Nat) : Int)), (6, iv 7), (7, iv 2), (8, iv 1), (17, iv (((x) : Nat) : Int))]) (fun x => [(2, mO (mL M)), (3, mO (mL O)), (4, mO [iv 0, iv 0, iv 0, iv 0, iv 0, iv 0, iv 0, iv 0, iv 0]), (5, mO (tmS M O (7) (x)))]) (fun x => x ≤ 3) 0 (by omega)
        (weak_to (.cons rfl (rc_same rfl (.inl rfl)) (.cons rfl (rc_same rfl (.inl rfl)) (.cons rfl (rc_same rfl (.inl rfl)) (.cons rfl (rc_same rfl (.inl rfl)) (.cons rfl (rc_same rfl (.inl rfl)) (.cons rfl (rc_same rfl (.inl rfl)) (.cons rfl (rc_same rfl (.inl rfl)) (.cons rfl (rc_same rfl (.inl rfl)) (.cons rfl (rc_same rfl (.inl rfl)) (.nil)))))))))) (.keep (rfl) rfl (.keep (rfl) rfl (.keep (rfl) rfl (.keep (rfl) rfl (.nil))))) (fun i h => by cases h)) ?_
      intro x hx
      refine aw_seq ?_
      refine aw_reg ?_
      refine rs_lss rfl rfl rfl ?_
      refine rs_nil fun _ => ?_
      refine th_n ?_
      refine aw_seq ?_
      refine aw_cond rfl (fun h18 => ?_) (fun h18 => ?_)
      · replace h18 := of_decide_eq_true h18
        refine aw_skip ?_
        refine th_n ?_
        refine aw_seq ?_
        refine aw_block ?_
        refine aw_seq ?_
        refine aw_reg ?_
        obtain rfl | rfl | rfl : x = 0 ∨ x = 1 ∨ x = 2 := by omega
        · skip
          refine rs_mv rfl rfl ?_
          refine rs_mv rfl rfl ?_
          refine rs_nil fun _ => ?_
          refine th_n ?_
          refine aw_draw hmix ?_
          refine rs_mv rfl rfl ?_
          refine rs_mv rfl rfl ?_
          refine rs_ixarr_p rfl rfl rfl (by decide) (by decide) ?_
          refine rs_ixarr_p rfl rfl rfl (by decide) (by decide) ?_
          refine rs_ld_p rfl rfl rfl rfl rfl ?_
          refine rs_mv rfl rfl ?_
          refine rs_mv rfl rfl ?_
          refine rs_ixarr_p rfl rfl rfl (by decide) (by decide) ?_
          refine rs_ixarr_p rfl rfl rfl (by decide) (by decide) ?_
          refine rs_ld_p rfl rfl rfl rfl rfl ?_
          refine rs_mv rfl rfl ?_
          refine rs_mv rfl rfl ?_
          refine rs_ixarr_p rfl rfl rfl (by decide) (by decide) ?_
          refine rs_ixarr_p rfl rfl rfl (by decide) (by decide) ?_
          refine rs_ld_p rfl rfl rfl rfl rfl ?_
          refine rs_mulw rfl rfl rfl rfl ?_
          refine rs_addw rfl rfl rfl rfl ?_
          refine rs_ixarr_p rfl rfl rfl (by decide) (by decide) ?_
          refine rs_ixarr_p rfl rfl rfl (by decide) (by decide) ?_
          refine rs_st rfl rfl rfl rfl rfl rfl rfl (Nat.le_of_ble_eq_true rfl) rfl rfl ?_
          refine rs_nil ⟨by kernel_rfl, fun _ => ?_⟩
          refine in_n ?_
          refine th_n ?_
          refine aw_reg ?_
          refine rs_add rfl rfl rfl (by omega) ?_
          refine rs_mv rfl rfl ?_
          refine rs_nil fun _ => ?_
          refine th_n ?_
          exact ⟨0 + 1, by omega, by omega, weak_to (.cons rfl (rc_same rfl (.inl rfl)) (.cons rfl (rc_same rfl (.inl rfl)) (.cons rfl (rc_same rfl (.inl rfl)) (.cons rfl (rc_same rfl (.inl rfl)) (.cons rfl (rc_same rfl (.inl rfl)) (.cons rfl (rc_same rfl (.inl rfl)) (.cons rfl (rc_same rfl (.inl rfl)) (.cons rfl (rc_same rfl (.inl rfl)) (.cons rfl (rc_same rfl (.inl rfl)) (.nil)))))))))) (.keep (rfl) rfl (.keep (rfl) rfl (.keep (rfl) rfl (.keep (rfl) rfl (.nil))))) (fun i h => by cases h)⟩
        · skip
          refine rs_mv rfl rfl ?_
          refine rs_mv rfl rfl ?_
          refine rs_nil fun _ => ?_
          refine th_n ?_
          refine aw_draw hmix ?_
          refine rs_mv rfl rfl ?_
          refine rs_mv rfl rfl ?_
          refine rs_ixarr_p rfl rfl rfl (by decide) (by decide) ?_
          refine rs_ixarr_p rfl rfl rfl (by decide) (by decide) ?_
          refine rs_ld_p rfl rfl rfl rfl rfl ?_
          refine rs_mv rfl rfl ?_
          refine rs_mv rfl rfl ?_
          refine rs_ixarr_p rfl rfl rfl (by decide) (by decide) ?_
          refine rs_ixarr_p rfl rfl rfl (by decide) (by decide) ?_
          refine rs_ld_p rfl rfl rfl rfl rfl ?_
          refine rs_mv rfl rfl ?_
          refine rs_mv rfl rfl ?_
          refine rs_ixarr_p rfl rfl rfl (by decide) (by decide) ?_
          refine rs_ixarr_p rfl rfl rfl (by decide) (by decide) ?_
          refine rs_ld_p rfl rfl rfl rfl rfl ?_
          refine rs_mulw rfl rfl rfl rfl ?_
          refine rs_addw rfl rfl rfl rfl ?_
          refine rs_ixarr_p rfl rfl rfl (by decide) (by decide) ?_
          refine rs_ixarr_p rfl rfl rfl (by decide) (by decide) ?_
          refine rs_st rfl rfl rfl rfl rfl rfl rfl (Nat.le_of_ble_eq_true rfl) rfl rfl ?_
          refine rs_nil ⟨by kernel_rfl, fun _ => ?_⟩
          refine in_n ?_
          refine th_n ?_
          refine aw_reg ?_
          refine rs_add rfl rfl rfl (by omega) ?_
          refine rs_mv rfl rfl ?_
          refine rs_nil fun _ => ?_
          refine th_n ?_
          exact ⟨1 + 1, by omega, by omega, weak_to (.cons rfl (rc_same rfl (.inl rfl)) (.cons rfl (rc_same rfl (.inl rfl)) (.cons rfl (rc_same rfl (.inl rfl)) (.cons rfl (rc_same rfl (.inl rfl)) (.cons rfl (rc_same rfl (.inl rfl)) (.cons rfl (rc_same rfl (.inl rfl)) (.cons rfl (rc_same rfl (.inl rfl)) (.cons rfl (rc_same rfl (.inl rfl)) (.cons rfl (rc_same rfl (.inl rfl)) (.nil)))))))))) (.keep (rfl) rfl (.keep (rfl) rfl (.keep (rfl) rfl (.keep (rfl) rfl (.nil))))) (fun i h => by cases h)⟩
        · skip
          refine rs_mv rfl rfl ?_
          refine rs_mv rfl rfl ?_
          refine rs_nil fun _ => ?_
          refine th_n ?_
          refine aw_draw hmix ?_
          refine rs_mv rfl rfl ?_
          refine rs_mv rfl rfl ?_
          refine rs_ixarr_p rfl rfl rfl (by decide) (by decide) ?_
          refine rs_ixarr_p rfl rfl rfl (by decide) (by decide) ?_
          refine rs_ld_p rfl rfl rfl rfl rfl ?_
          refine rs_mv rfl rfl ?_
          refine rs_mv rfl rfl ?_
          refine rs_ixarr_p rfl rfl rfl (by decide) (by decide) ?_
          refine rs_ixarr_p rfl rfl rfl (by decide) (by decide) ?_
          refine rs_ld_p rfl rfl rfl rfl rfl ?_
          refine rs_mv rfl rfl ?_
          refine rs_mv rfl rfl ?_
          refine rs_ixarr_p rfl rfl rfl (by decide) (by decide) ?_
          refine rs_ixarr_p rfl rfl rfl (by decide) (by decide) ?_
          refine rs_ld_p rfl rfl rfl rfl rfl ?_
          refine rs_mulw rfl rfl rfl rfl ?_
          refine rs_addw rfl rfl rfl rfl ?_
          refine rs_ixarr_p rfl rfl rfl (by decide) (by decide) ?_
          refine rs_ixarr_p rfl rfl rfl (by decide) (by decide) ?_
          refine rs_st rfl rfl rfl rfl rfl rfl rfl (Nat.le_of_ble_eq_true rfl) rfl rfl ?_
          refine rs_nil ⟨by kernel_rfl, fun _ => ?_⟩
          refine in_n ?_
          refine th_n ?_
          refine aw_reg ?_
          refine rs_add rfl rfl rfl (by omega) ?_
          refine rs_mv rfl rfl ?_
          refine rs_nil fun _ => ?_
          refine th_n ?_
          exact ⟨2 + 1, by omega, by omega, weak_to (.cons rfl (rc_same rfl (.inl rfl)) (.cons rfl (rc_same rfl (.inl rfl)) (.cons rfl (rc_same rfl (.inl rfl)) (.cons rfl (rc_same rfl (.inl rfl)) (.cons rfl (rc_same rfl (.inl rfl)) (.cons rfl (rc_same rfl (.inl rfl)) (.cons rfl (rc_same rfl (.inl rfl)) (.cons rfl (rc_same rfl (.inl rfl)) (.cons rfl (rc_same rfl (.inl rfl)) (.nil)))))))))) (.keep (rfl) rfl (.keep (rfl) rfl (.keep (rfl) rfl (.keep (rfl) rfl (.nil))))) (fun i h => by cases h)⟩
      · replace h18 := of_decide_eq_false h18
        refine aw_exit ?_
        refine th_e ?_
        refine th_e ?_
        refine in_hit ?_
        refine in_n ?_
        refine th_n ?_
        obtain rfl : x = 3 := by omega
        refine aw_reg ?_
        refine rs_add rfl rfl rfl (by omega) ?_
        refine rs_mv rfl rfl ?_
        refine rs_nil fun _ => ?_
        refine th_n ?_
        exact ⟨7 + 1, by omega, by omega, weak_to (.cons rfl (rc_same rfl (.inl rfl)) (.cons rfl (rc_same rfl (.inl rfl)) (.cons rfl (rc_same rfl (.inl rfl)) (.cons rfl (rc_same rfl (.inl rfl)) (.cons rfl (rc_same rfl (.inl rfl)) (.nil)))))) (.keep (rfl) rfl (.keep (rfl) rfl (.keep (rfl) rfl (.keep (rfl) rfl (.nil))))) (fun i h => by cases h)⟩
    · skip
      refine rs_mv rfl rfl ?_
      refine rs_mv rfl rfl ?_
      refine rs_nil fun _ => ?_
      refine th_n ?_
      refine aw_seq ?_
      refine aw_reg ?_
      refine rs_mv rfl rfl ?_
      refine rs_quow (c := 2) rfl rfl rfl (by decide) rfl ?_
      refine rs_mv rfl rfl ?_
      refine rs_rem (c := 2) rfl rfl rfl (by decide) rfl ?_
      refine rs_mv rfl rfl ?_
      refine rs_mv rfl rfl ?_
      refine rs_nil fun _ => ?_
      refine th_n ?_
      refine aw_seq ?_
      refine aw_reg ?_
      refine rs_mv rfl rfl ?_
      refine rs_nil fun _ => ?_
      refine th_n ?_
      refine aw_block ?_
      refine aw_fam (α := Nat) (fun x => 3 - x) (fun x => [(2, .ptr 2 0 0), (3, .ptr 3 0 0), (4, .ptr 4 0 0), (5, .ptr 5 0 0), (10, iv (((8) : Nat) : Int)), (6, iv 8), (7, iv 2), (8, iv 2), (17, iv (((x) : Nat) : Int))]) (fun x => [(2, mO (mL M)), (3, mO (mL O)), (4, mO [iv 0, iv 0, iv 0, iv 0, iv 0, iv 0, iv 0, iv 0, iv 0]), (5, mO (tmS M O (8) (x)))]) (fun x => x ≤ 3) 0 (by omega)
        (weak_to (.cons rfl (rc_same rfl (.inl rfl)) (.cons rfl (rc_same rfl (.inl rfl)) (.cons rfl (rc_same rfl (.inl rfl)) (.cons rfl (rc_same rfl (.inl rfl)) (.cons rfl (rc_same rfl (.inl rfl)) (.cons rfl (rc_same rfl (.inl rfl)) (.cons rfl (rc_same rfl (.inl rfl)) (.cons rfl (rc_same rfl (.inl rfl)) (.cons rfl (rc_same rfl (.inl rfl)) (.nil)))))))))) (.keep (rfl) rfl (.keep (rfl) rfl (.keep (rfl) rfl (.keep (rfl) rfl (.nil))))) (fun i h => by cases h)) ?_
      intro x hx
      refine aw_seq ?_
      refine aw_reg ?_
      refine rs_lss rfl rfl rfl ?_
      refine rs_nil fun _ => ?_
      refine th_n ?_
      refine aw_seq ?_
      refine aw_cond rfl (fun h18 => ?_) (fun h18 => ?_)
      · replace h18 := of_decide_eq_true h18
        refine aw_skip ?_
        refine th_n ?_
        refine aw_seq ?_
        refine aw_block ?_
        refine aw_seq ?_
        refine aw_reg ?_
        obtain rfl | rfl | rfl : x = 0 ∨ x = 1 ∨ x = 2 := by omega
        · skip
          refine rs_mv rfl rfl ?_
          refine rs_mv rfl rfl ?_
          refine rs_nil fun _ => ?_
          refine th_n ?_
          refine aw_draw hmix ?_
          refine rs_mv rfl rfl ?_
          refine rs_mv rfl rfl ?_
          refine rs_ixarr_p rfl rfl rfl (by decide) (by decide) ?_
          refine rs_ixarr_p rfl rfl rfl (by decide) (by decide) ?_
          refine rs_ld_p rfl rfl rfl rfl rfl ?_
          refine rs_mv rfl rfl ?_
          refine rs_mv rfl rfl ?_
          refine rs_ixarr_p rfl rfl rfl (by decide) (by decide) ?_
          refine rs_ixarr_p rfl rfl rfl (by decide) (by decide) ?_
          refine rs_ld_p rfl rfl rfl rfl rfl ?_
          refine rs_mv rfl rfl ?_
          refine rs_mv rfl rfl ?_
          refine rs_ixarr_p rfl rfl rfl (by decide) (by decide) ?_
          refine rs_ixarr_p rfl rfl rfl (by decide) (by decide) ?_
          refine rs_ld_p rfl rfl rfl rfl rfl ?_
          refine rs_mulw rfl rfl rfl rfl ?_
          refine rs_addw rfl rfl rfl rfl ?_
          refine rs_ixarr_p rfl rfl rfl (by decide) (by decide) ?_
          refine rs_ixarr_p rfl rfl rfl (by decide) (by decide) ?_
          refine rs_st rfl rfl rfl rfl rfl rfl rfl (Nat.le_of_ble_eq_true rfl) rfl rfl ?_
          refine rs_nil ⟨by kernel_rfl, fun _ => ?_⟩
          refine in_n ?_
          refine th_n ?_
          refine aw_reg ?_
          refine rs_add rfl rfl rfl (by omega) ?_
          refine rs_mv rfl rfl ?_
          refine rs_nil fun _ => ?_
          refine th_n ?_
          exact ⟨0 + 1, by omega, by omega, weak_to (.cons rfl (rc_same rfl (.inl rfl)) (.cons rfl (rc_same rfl (.inl rfl)) (.cons rfl (rc_same rfl (.inl rfl)) (.cons rfl (rc_same rfl (.inl rfl)) (.cons rfl (rc_same rfl (.inl rfl)) (.cons rfl (rc_same rfl (.inl rfl)) (.cons rfl (rc_same rfl (.inl rfl)) (.cons rfl (rc_same rfl (.inl rfl)) (.cons rfl (rc_same rfl (.inl rfl)) (.nil)))))))))) (.keep (rfl) rfl (.keep (rfl) rfl (.keep (rfl) rfl (.keep (rfl) rfl (.nil))))) (fun i h => by cases h)⟩
        · skip
          refine rs_mv rfl rfl ?_
          refine rs_mv rfl rfl ?_
          refine rs_nil fun _ => ?_
          refine th_n ?_
          refine aw_draw hmix ?_
          refine rs_mv rfl rfl ?_
          refine rs_mv rfl rfl ?_
          refine rs_ixarr_p rfl rfl rfl (by decide) (by decide) ?_
          refine rs_ixarr_p rfl rfl rfl (by decide) (by decide) ?_
          refine rs_ld_p rfl rfl rfl rfl rfl ?_
          refine rs_mv rfl rfl ?_
          refine rs_mv rfl rfl ?_
          refine rs_ixarr_p rfl rfl rfl (by decide) (by decide) ?_
          refine rs_ixarr_p rfl rfl rfl (by decide) (by decide) ?_
          refine rs_ld_p rfl rfl rfl rfl rfl ?_
          refine rs_mv rfl rfl ?_
          refine rs_mv rfl rfl ?_
          refine rs_ixarr_p rfl rfl rfl (by decide) (by decide) ?_
          refine rs_ixarr_p rfl rfl rfl (by decide) (by decide) ?_
          refine rs_ld_p rfl rfl rfl rfl rfl ?_
          refine rs_mulw rfl rfl rfl rfl ?_
          refine rs_addw rfl rfl rfl rfl ?_
          refine rs_ixarr_p rfl rfl rfl (by decide) (by decide) ?_
          refine rs_ixarr_p rfl rfl rfl (by decide) (by decide) ?_
          refine rs_st rfl rfl rfl rfl rfl rfl rfl (Nat.le_of_ble_eq_true rfl) rfl rfl ?_
          refine rs_nil ⟨by kernel_rfl, fun _ => ?_⟩
          refine in_n ?_
          refine th_n ?_
          refine aw_reg ?_
          refine rs_add rfl rfl rfl (by omega) ?_
          refine rs_mv rfl rfl ?_
          refine rs_nil fun _ => ?_
          refine th_n ?_
          exact ⟨1 + 1, by omega, by omega, weak_to (.cons rfl (rc_same rfl (.inl rfl)) (.cons rfl (rc_same rfl (.inl rfl)) (.cons rfl (rc_same rfl (.inl rfl)) (.cons rfl (rc_same rfl (.inl rfl)) (.cons rfl (rc_same rfl (.inl rfl)) (.cons rfl (rc_same rfl (.inl rfl)) (.cons rfl (rc_same rfl (.inl rfl)) (.cons rfl (rc_same rfl (.inl rfl)) (.cons rfl (rc_same rfl (.inl rfl)) (.nil)))))))))) (.keep (rfl) rfl (.keep (rfl) rfl (.keep (rfl) rfl (.keep (rfl) rfl (.nil))))) (fun i h => by cases h)⟩
        · skip
          refine rs_mv rfl rfl ?_
          refine rs_mv rfl rfl ?_
          refine rs_nil fun _ => ?_
          refine th_n ?_
          refine aw_draw hmix ?_
          refine rs_mv rfl rfl ?_
          refine rs_mv rfl rfl ?_
          refine rs_ixarr_p rfl rfl rfl (by decide) (by decide) ?_
          refine rs_ixarr_p rfl rfl rfl (by decide) (by decide) ?_
          refine rs_ld_p rfl rfl rfl rfl rfl ?_
          refine rs_mv rfl rfl ?_
          refine rs_mv rfl rfl ?_
          refine rs_ixarr_p rfl rfl rfl (by decide) (by decide) ?_
          refine rs_ixarr_p rfl rfl rfl (by decide) (by decide) ?_
          refine rs_ld_p rfl rfl rfl rfl rfl ?_
          refine rs_mv rfl rfl ?_
          refine rs_mv rfl rfl ?_
          refine rs_ixarr_p rfl rfl rfl (by decide) (by decide) ?_
          refine rs_ixarr_p rfl rfl rfl (by decide) (by decide) ?_
          refine rs_ld_p rfl rfl rfl rfl rfl ?_
          refine rs_mulw rfl rfl rfl rfl ?_
          refine rs_addw rfl rfl rfl rfl ?_
          refine rs_ixarr_p rfl rfl rfl (by decide) (by decide) ?_
          refine rs_ixarr_p rfl rfl rfl (by decide) (by decide) ?_
          refine rs_st rfl rfl rfl rfl rfl rfl rfl (Nat.le_of_ble_eq_true rfl) rfl rfl ?_
          refine rs_nil ⟨by kernel_rfl, fun _ => ?_⟩
          refine in_n ?_
          refine th_n ?_
          refine aw_reg ?_
          refine rs_add rfl rfl rfl (by omega) ?_
          refine rs_mv rfl rfl ?_
          refine rs_nil fun _ => ?_
          refine th_n ?_
          exact ⟨2 + 1, by omega, by omega, weak_to (.cons rfl (rc_same rfl (.inl rfl)) (.cons rfl (rc_same rfl (.inl rfl)) (.cons rfl (rc_same rfl (.inl rfl)) (.cons rfl (rc_same rfl (.inl rfl)) (.cons rfl (rc_same rfl (.inl rfl)) (.cons rfl (rc_same rfl (.inl rfl)) (.cons rfl (rc_same rfl (.inl rfl)) (.cons rfl (rc_same rfl (.inl rfl)) (.cons rfl (rc_same rfl (.inl rfl)) (.nil)))))))))) (.keep (rfl) rfl (.keep (rfl) rfl (.keep (rfl) rfl (.keep (rfl) rfl (.nil))))) (fun i h => by cases h)⟩
      · replace h18 := of_decide_eq_false h18
        refine aw_exit ?_
        refine th_e ?_
        refine th_e ?_
        refine in_hit ?_
        refine in_n ?_
        refine th_n ?_
        obtain rfl : x = 3 := by omega
        refine aw_reg ?_
        refine rs_add rfl rfl rfl (by omega) ?_
        refine rs_mv rfl rfl ?_
        refine rs_nil fun _ => ?_
        refine th_n ?_
        exact ⟨8 + 1, by omega, by omega, weak_to (.cons rfl (rc_same rfl (.inl rfl)) (.cons rfl (rc_same rfl (.inl rfl)) (.cons rfl (rc_same rfl (.inl rfl)) (.cons rfl (rc_same rfl (.inl rfl)) (.cons rfl (rc_same rfl (.inl rfl)) (.nil)))))) (.keep (rfl) rfl (.keep (rfl) rfl (.keep (rfl) rfl (.keep (rfl) rfl (.nil))))) (fun i h => by cases h)⟩
  · replace h11 := of_decide_eq_false h11
    refine aw_exit ?_
    refine th_e ?_
    refine th_e ?_
    refine in_hit ?_
    refine th_n ?_
    refine aw_seq ?_
    obtain rfl : k = 9 := by omega
    refine aw_reg ?_
    refine rs_ld_pa rfl rfl rfl rfl (Nat.le_of_ble_eq_true rfl) rfl ?_
    refine rs_st rfl rfl rfl rfl rfl rfl rfl (Nat.le_of_ble_eq_true rfl) rfl rfl ?_
    refine rs_nil fun _ => ?_
    refine th_n ?_
    refine aw_ret ?_
    exact ret_pure rfl rfl rfl (.inr rfl)

def mct49 : MC := (.seq (.reg [⟨(some 1), (.box 67 9 (.t 0)), none, []⟩, ⟨(some 2), (.alloc 67 9 [(.int .i64 0), (.int .i64 0), (.int .i64 0), (.int .i64 0), (.int .i64 0), (.int .i64 0), (.int .i64 0), (.int .i64 0), (.int .i64 0)]), none, []⟩] false) (.seq (.reg [⟨(some 3), (.alloc 67 9 [(.int .i64 0), (.int .i64 0), (.int .i64 0), (.int .i64 0), (.int .i64 0), (.int .i64 0), (.int .i64 0), (.int .i64 0), (.int .i64 0)]), none, []⟩] false) (.seq (.seq (.reg [⟨(some 5), (.mv (.c (.int .i64 0))), none, []⟩] false) (.block 0 (.loop (.seq (.reg [⟨(some 6), (.bin .lss (.t 5) (.c (.int .i64 9))), none, []⟩] false) (.seq (.cond (.t 6) .skip (.exit 0)) (.seq (.block 1 (.seq (.reg [⟨(some 7), (.mv (.t 5)), none, []⟩, ⟨(some 4), (.mv (.t 7)), none, [0, 0]⟩] false) (.reg [⟨(some 8), (.mv (.t 4)), none, []⟩, ⟨(some 9), (.bin .rem (.t 8) (.c (.int .i64 3))), none, [0]⟩, ⟨(some 10), (.mv (.t 4)), none, []⟩, ⟨(some 11), (.bin .quo (.t 10) (.c (.int .i64 3))), none, [2]⟩, ⟨(some 12), (.mv (.t 4)), none, []⟩, ⟨(some 13), (.bin .quo (.t 12) (.c (.int .i64 3))), none, [4]⟩, ⟨(some 14), (.mv (.t 4)), none, []⟩, ⟨(some 15), (.bin .rem (.t 14) (.c (.int .i64 3))), none, [6]⟩, ⟨(some 16), (.ixarr 3 3 (.t 1) (.t 13)), none, [5]⟩, ⟨(some 17), (.ixarr 3 1 (.t 16) (.t 15)), none, [8, 7]⟩, ⟨(some 18), (.ld false 1 (.t 17)), none, [9]⟩, ⟨(some 19), (.ixarr 3 3 (.t 3) (.t 9)), none, [1]⟩, ⟨(some 20), (.ixarr 3 1 (.t 19) (.t 11)), none, [11, 3, 0, 1, 2, 3, 4, 5, 6, 7, 8, 9, 10]⟩, ⟨none, (.st 1 (.t 20) (.t 18)), none, [12, 10, 0, 1, 2, 3, 4, 5, 6, 7, 8, 9, 10]⟩] true))) (.reg [⟨(some 21), (.bin .add (.t 5) (.c (.int .i64 1))), none, []⟩, ⟨(some 5), (.mv (.t 21)), none, [0]⟩] false))))))) (.seq (.reg [⟨(some 22), (.ld true 9 (.t 3)), none, []⟩, ⟨none, (.st 9 (.t 2) (.t 22)), none, [0, 0]⟩] false) .ret))))
theorem mcOkt49 : (match Tryd.f49.body with | some c => compC Tryd.prog 23 c | none => none) = some mct49 := by kernel_rfl

theorem tc49 (M : Nat → Int) : FC Tryd.prog 49 [.agg (mL M)] [] (.agg (trS M 9)) [] false := by
  refine fc_run (nt := 23) Tryd.func49 rfl rfl mcOkt49 (Nat.le_of_ble_eq_true rfl) ?_
  delta mct49
  refine aw_seq ?_
  refine aw_reg ?_
  refine rs_box rfl rfl rfl rfl rfl rfl ?_
  refine rs_alloc rfl rfl rfl ?_
  refine rs_nil fun _ => ?_
  refine th_n ?_
  refine aw_seq ?_
  refine aw_reg ?_
  refine rs_alloc rfl rfl rfl ?_
  refine rs_nil fun _ => ?_
  refine th_n ?_
  refine aw_seq ?_
  refine aw_seq ?_
  refine aw_reg ?_
  refine rs_mv rfl rfl ?_
  refine rs_nil fun _ => ?_
  refine th_n ?_
  refine aw_block ?_
  refine aw_fam (α := Nat) (fun k => 9 - k) (fun k => [(1, .ptr 1 0 0), (2, .ptr 2 0 0), (3, .ptr 3 0 0), (5, iv (((k) : Nat) : Int))]) (fun k => [(1, mO (mL M)), (2, mO [iv 0, iv 0, iv 0, iv 0, iv 0, iv 0, iv 0, iv 0, iv 0]), (3, mO (trS M (k)))]) (fun k => k ≤ 9) 0 (by omega)
    (weak_to (.cons rfl (rc_same rfl (.inl rfl)) (.cons rfl (rc_same rfl (.inl rfl)) (.cons rfl (rc_same rfl (.inl rfl)) (.cons rfl (rc_same rfl (.inl rfl)) (.nil))))) (.keep (rfl) rfl (.keep (rfl) rfl (.keep (rfl) rfl (.nil)))) (fun i h => by cases h)) ?_
  intro k hk
  refine aw_seq ?_
  refine aw_reg ?_
  refine rs_lss rfl rfl rfl ?_
  refine rs_nil fun _ => ?_
  refine th_n ?_
  refine aw_seq ?_
  refine aw_cond rfl (fun h6 => ?_) (fun h6 => ?_)
  · replace h6 := of_decide_eq_true h6
    refine aw_skip ?_
    refine th_n ?_
    refine aw_seq ?_
    refine aw_block ?_
    refine aw_seq ?_
    refine aw_reg ?_
    obtain rfl | rfl | rfl | rfl | rfl | rfl | rfl | rfl | rfl : k = 0 ∨ k = 1 ∨ k = 2 ∨ k = 3 ∨ k = 4 ∨ k = 5 ∨ k = 6 ∨ k = 7 ∨ k = 8 := by omega
    · skip
      refine rs_mv rfl rfl ?_
      refine rs_mv rfl rfl ?_
      refine rs_nil fun _ => ?_
      refine th_n ?_
      refine aw_draw hmix ?_
      refine rs_mv rfl rfl ?_
      refine rs_rem (c := 0) rfl rfl rfl (by decide) rfl ?_
      refine rs_mv rfl rfl ?_
      refine rs_quow (c := 0) rfl rfl rfl (by decide) rfl ?_
      refine rs_mv rfl rfl ?_
      refine rs_quow (c := 0) rfl rfl rfl (by decide) rfl ?_
      refine rs_mv rfl rfl ?_
      refine rs_rem (c := 0) rfl rfl rfl (by decide) rfl ?_
      refine rs_ixarr_p rfl rfl rfl (by decide) (by decide) ?_
      refine rs_ixarr_p rfl rfl rfl (by decide) (by decide) ?_
      refine rs_ld_p rfl rfl rfl rfl rfl ?_
      refine rs_ixarr_p rfl rfl rfl (by decide) (by decide) ?_
      refine rs_ixarr_p rfl rfl rfl (by decide) (by decide) ?_
      refine rs_st rfl rfl rfl rfl rfl rfl rfl (Nat.le_of_ble_eq_true rfl) rfl rfl ?_
      refine rs_nil ⟨by kernel_rfl, fun _ => ?_⟩
      refine in_n ?_
      refine th_n ?_
      refine aw_reg ?_
      refine rs_add rfl rfl rfl (by omega) ?_
      refine rs_mv rfl rfl ?_
      refine rs_nil fun _ => ?_
      refine th_n ?_
      exact ⟨0 + 1, by omega, by omega, weak_to (.cons rfl (rc_same rfl (.inl rfl)) (.cons rfl (rc_same rfl (.inl rfl)) (.cons rfl (rc_same rfl (.inl rfl)) (.cons rfl (rc_same rfl (.inl rfl)) (.nil))))) (.keep (rfl) rfl (.keep (rfl) rfl (.keep (rfl) rfl (.nil)))) (fun i h => by cases h)⟩
    · skip
      refine rs_mv rfl rfl ?_
      refine rs_mv rfl rfl ?_
      refine rs_nil fun _ => ?_
      refine th_n ?_
      refine aw_draw hmix ?_
      refine rs_mv rfl rfl ?_
      refine rs_rem (c := 1) rfl rfl rfl (by decide) rfl ?_
      refine rs_mv rfl rfl ?_
      refine rs_quow (c := 0) rfl rfl rfl (by decide) rfl ?_
      refine rs_mv rfl rfl ?_
      refine rs_quow (c := 0) rfl rfl rfl (by decide) rfl ?_
      refine rs_mv rfl rfl ?_
      refine rs_rem (c := 1) rfl rfl rfl (by decide) rfl ?_
      refine rs_ixarr_p rfl rfl rfl (by decide) (by decide) ?_
      refine rs_ixarr_p rfl rfl rfl (by decide) (by decide) ?_
      refine rs_ld_p rfl rfl rfl rfl rfl ?_
      refine rs_ixarr_p rfl rfl rfl (by decide) (by decide) ?_
      refine rs_ixarr_p rfl rfl rfl (by decide) (by decide) ?_
      refine rs_st rfl rfl rfl rfl rfl rfl rfl (Nat.le_of_ble_eq_true rfl) rfl rfl ?_
      refine rs_nil ⟨by kernel_rfl, fun _ => ?_⟩
      refine in_n ?_
      refine th_n ?_
      refine aw_reg ?_
      refine rs_add rfl rfl rfl (by omega) ?_
      refine rs_mv rfl rfl ?_
      refine rs_nil fun _ => ?_
      refine th_n ?_
      exact ⟨1 + 1, by omega, by omega, weak_to (.cons rfl (rc_same rfl (.inl rfl)) (.cons rfl (rc_same rfl (.inl rfl)) (.cons rfl (rc_same rfl (.inl rfl)) (.cons rfl (rc_same rfl (.inl rfl)) (.nil))))) (.keep (rfl) rfl (.keep (rfl) rfl (.keep (rfl) rfl (.nil)))) (fun i h => by cases h)⟩
    · skip
      refine rs_mv rfl rfl ?_
      refine rs_mv rfl rfl ?_
      refine rs_nil fun _ => ?_
      refine th_n ?_
      refine aw_draw hmix ?_
      refine rs_mv rfl rfl ?_
      refine rs_rem (c := 2) rfl rfl rfl (by decide) rfl ?_
      refine rs_mv rfl rfl ?_
      refine rs_quow (c := 0) rfl rfl rfl (by decide) rfl ?_
      refine rs_mv rfl rfl ?_
      refine rs_quow (c := 0) rfl rfl rfl (by decide) rfl ?_
      refine rs_mv rfl rfl ?_
      refine rs_rem (c := 2) rfl rfl rfl (by decide) rfl ?_
      refine rs_ixarr_p rfl rfl rfl (by decide) (by decide) ?_
      refine rs_ixarr_p rfl rfl rfl (by decide) (by decide) ?_
      refine rs_ld_p rfl rfl rfl rfl rfl ?_
      refine rs_ixarr_p rfl rfl rfl (by decide) (by decide) ?_
      refine rs_ixarr_p rfl rfl rfl (by decide) (by decide) ?_
      refine rs_st rfl rfl rfl rfl rfl rfl rfl (Nat.le_of_ble_eq_true rfl) rfl rfl ?_
      refine rs_nil ⟨by kernel_rfl, fun _ => ?_⟩
      refine in_n ?_
      refine th_n ?_
      refine aw_reg ?_
      refine rs_add rfl rfl rfl (by omega) ?_
      refine rs_mv rfl rfl ?_
      refine rs_nil fun _ => ?_
      refine th_n ?_
      exact ⟨2 + 1, by omega, by omega, weak_to (.cons rfl (rc_same rfl (.inl rfl)) (.cons rfl (rc_same rfl (.inl rfl)) (.cons rfl (rc_same rfl (.inl rfl)) (.cons rfl (rc_same rfl (.inl rfl)) (.nil))))) (.keep (rfl) rfl (.keep (rfl) rfl (.keep (rfl) rfl (.nil)))) (fun i h => by cases h)⟩
    · skip
      refine rs_mv rfl rfl ?_
      refine rs_mv rfl rfl ?_
      refine rs_nil fun _ => ?_
      refine th_n ?_
      refine aw_draw hmix ?_
      refine rs_mv rfl rfl ?_
      refine rs_rem (c := 0) rfl rfl rfl (by decide) rfl ?_
      refine rs_mv rfl rfl ?_
      refine rs_quow (c := 1) rfl rfl rfl (by decide) rfl ?_
      refine rs_mv rfl rfl ?_
      refine rs_quow (c := 1) rfl rfl rfl (by decide) rfl ?_
      refine rs_mv rfl rfl ?_
      refine rs_rem (c := 0) rfl rfl rfl (by decide) rfl ?_
      refine rs_ixarr_p rfl rfl rfl (by decide) (by decide) ?_
      refine rs_ixarr_p rfl rfl rfl (by decide) (by decide) ?_
      refine rs_ld_p rfl rfl rfl rfl rfl ?_
      refine rs_ixarr_p rfl rfl rfl (by decide) (by decide) ?_
      refine rs_ixarr_p rfl rfl rfl (by decide) (by decide) ?_
      refine rs_st rfl rfl rfl rfl rfl rfl rfl (Nat.le_of_ble_eq_true rfl) rfl rfl ?_
      refine rs_nil ⟨by kernel_rfl, fun _ => ?_⟩
      refine in_n ?_
      refine th_n ?_
      refine aw_reg ?_
      refine rs_add rfl rfl rfl (by omega) ?_
      refine rs_mv rfl rfl ?_
      refine rs_nil fun _ => ?_
      refine th_n ?_
      exact ⟨3 + 1, by omega, by omega, weak_to (.cons rfl (rc_same rfl (.inl rfl)) (.cons rfl (rc_same rfl (.inl rfl)) (.cons rfl (rc_same rfl (.inl rfl)) (.cons rfl (rc_same rfl (.inl rfl)) (.nil))))) (.keep (rfl) rfl (.keep (rfl) rfl (.keep (rfl) rfl (.nil)))) (fun i h => by cases h)⟩
    · skip
      refine rs_mv rfl rfl ?_
      refine rs_mv rfl rfl ?_
      refine rs_nil fun _ => ?_
      refine th_n ?_
      refine aw_draw hmix ?_
      refine rs_mv rfl rfl ?_
      refine rs_rem (c := 1) rfl rfl rfl (by decide) rfl ?_
      refine rs_mv rfl rfl ?_
      refine rs_quow (c := 1) rfl rfl rfl (by decide) rfl ?_
      refine rs_mv rfl rfl ?_
      refine rs_quow (c := 1) rfl rfl rfl (by decide) rfl ?_
      refine rs_mv rfl rfl ?_
      refine rs_rem (c := 1) rfl rfl rfl (by decide) rfl ?_
      refine rs_ixarr_p rfl rfl rfl (by decide) (by decide) ?_
      refine rs_ixarr_p rfl rfl rfl (by decide) (by decide) ?_
      refine rs_ld_p rfl rfl rfl rfl rfl ?_
      refine rs_ixarr_p rfl rfl rfl (by decide) (by decide) ?_
      refine rs_ixarr_p rfl rfl rfl (by decide) (by decide) ?_
      refine rs_st rfl rfl rfl rfl rfl rfl rfl (Nat.le_of_ble_eq_true rfl) rfl rfl ?_
      refine rs_nil ⟨by kernel_rfl, fun _ => ?_⟩
      refine in_n ?_
      refine th_n ?_
      refine aw_reg ?_
      refine rs_add rfl rfl rfl (by omega) ?_
      refine rs_mv rfl rfl ?_
      refine rs_nil fun _ => ?_
      refine th_n ?_
      exact ⟨4 + 1, by omega, by omega, weak_to (.cons rfl (rc_same rfl (.inl rfl)) (.cons rfl (rc_same rfl (.inl rfl)) (.cons rfl (rc_same rfl (.inl rfl)) (.cons rfl (rc_same rfl (.inl rfl)) (.nil))))) (.keep (rfl) rfl (.keep (rfl) rfl (.keep (rfl) rfl (.nil)))) (fun i h => by cases h)⟩
    · skip
      refine rs_mv rfl rfl ?_
      refine rs_mv rfl rfl ?_
      refine rs_nil fun _ => ?_
      refine th_n ?_
      refine aw_draw hmix ?_
      refine rs_mv rfl rfl ?_
      refine rs_rem (c := 2) rfl rfl rfl (by decide) rfl ?_
      refine rs_mv rfl rfl ?_
      refine rs_quow (c := 1) rfl rfl rfl (by decide) rfl ?_
      refine rs_mv rfl rfl ?_
      refine rs_quow (c := 1) rfl rfl rfl (by decide) rfl ?_
      refine rs_mv rfl rfl ?_
      refine rs_rem (c := 2) rfl rfl rfl (by decide) rfl ?_
      refine rs_ixarr_p rfl rfl rfl (by decide) (by decide) ?_
      refine rs_ixarr_p rfl rfl rfl (by decide) (by decide) ?_
      refine rs_ld_p rfl rfl rfl rfl rfl ?_
      refine rs_ixarr_p rfl rfl rfl (by decide) (by decide) ?_
      refine rs_ixarr_p rfl rfl rfl (by decide) (by decide) ?_
      refine rs_st rfl rfl rfl rfl rfl rfl rfl (Nat.le_of_ble_eq_true rfl) rfl rfl ?_
      refine rs_nil ⟨by kernel_rfl, fun _ => ?_⟩
      refine in_n ?_
      refine th_n ?_
      refine aw_reg ?_
      refine rs_add rfl rfl rfl (by omega) ?_
      refine rs_mv rfl rfl ?_
      refine rs_nil fun _ => ?_
      refine th_n ?_
      exact ⟨5 + 1, by omega, by omega, weak_to (.cons rfl (rc_same rfl (.inl rfl)) (.cons rfl (rc_same rfl (.inl rfl)) (.cons rfl (rc_same rfl (.inl rfl)) (.cons rfl (rc_same rfl (.inl rfl)) (.nil))))) (.keep (rfl) rfl (.keep (rfl) rfl (.keep (rfl) rfl (.nil)))) (fun i h => by cases h)⟩
    · skip
      refine rs_mv rfl rfl ?_
      refine rs_mv rfl rfl ?_
      refine rs_nil fun _ => ?_
      refine th_n ?_
      refine aw_draw hmix ?_
      refine rs_mv rfl rfl ?_
      refine rs_rem (c := 0) rfl rfl rfl (by decide) rfl ?_
      refine rs_mv rfl rfl ?_
      refine rs_quow (c := 2) rfl rfl rfl (by decide) rfl ?_
      refine rs_mv rfl rfl ?_
      refine rs_quow (c := 2) rfl rfl rfl (by decide) rfl ?_
      refine rs_mv rfl rfl ?_
      refine rs_rem (c := 0) rfl rfl rfl (by decide) rfl ?_
      refine rs_ixarr_p rfl rfl rfl (by decide) (by decide) ?_
      refine rs_ixarr_p rfl rfl rfl (by decide) (by decide) ?_
      refine rs_ld_p rfl rfl rfl rfl rfl ?_
      refine rs_ixarr_p rfl rfl rfl (by decide) (by decide) ?_
      refine rs_ixarr_p rfl rfl rfl (by decide) (by decide) ?_
      refine rs_st rfl rfl rfl rfl rfl rfl rfl (Nat.le_of_ble_eq_true rfl) rfl rfl ?_
      refine rs_nil ⟨by kernel_rfl, fun _ => ?_⟩
      refine in_n ?_
      refine th_n ?_
      refine aw_reg ?_
      refine rs_add rfl rfl rfl (by omega) ?_
      refine rs_mv rfl rfl ?_
      refine rs_nil fun _ => ?_
      refine th_n ?_
      exact ⟨6 + 1, by omega, by omega, weak_to (.cons rfl (rc_same rfl (.inl rfl)) (.cons rfl (rc_same rfl (.inl rfl)) (.cons rfl (rc_same rfl (.inl rfl)) (.cons rfl (rc_same rfl (.inl rfl)) (.nil))))) (.keep (rfl) rfl (.keep (rfl) rfl (.keep (rfl) rfl (.nil)))) (fun i h => by cases h)⟩
    · skip
      refine rs_mv rfl rfl ?_
      refine rs_mv rfl rfl ?_
      refine rs_nil fun _ => ?_
      refine th_n ?_
      refine aw_draw hmix ?_
      refine rs_mv rfl rfl ?_
      refine rs_rem (c := 1) rfl rfl rfl (by decide) rfl ?_
      refine rs_mv rfl rfl ?_
      refine rs_quow (c := 2) rfl rfl rfl (by decide) rfl ?_
      refine rs_mv rfl rfl ?_
      refine rs_quow (c := 2) rfl rfl rfl (by decide) rfl ?_
      refine rs_mv rfl rfl ?_
      refine rs_rem (c := 1) rfl rfl rfl (by decide) rfl ?_
      refine rs_ixarr_p rfl rfl rfl (by decide) (by decide) ?_
      refine rs_ixarr_p rfl rfl rfl (by decide) (by decide) ?_
      refine rs_ld_p rfl rfl rfl rfl rfl ?_
      refine rs_ixarr_p rfl rfl rfl (by decide) (by decide) ?_
      refine rs_ixarr_p rfl rfl rfl (by decide) (by decide) ?_
      refine rs_st rfl rfl rfl rfl rfl rfl rfl (Nat.le_of_ble_eq_true rfl) rfl rfl ?_
      refine rs_nil ⟨by kernel_rfl, fun _ => ?_⟩
      refine in_n ?_
      refine th_n ?_
      refine aw_reg ?_
      refine rs_add rfl rfl rfl (by omega) ?_
      refine rs_mv rfl rfl ?_
      refine rs_nil fun _ => ?_
      refine th_n ?_
      exact ⟨7 + 1, by omega, by omega, weak_to (.cons rfl (rc_same rfl (.inl rfl)) (.cons rfl (rc_same rfl (.inl rfl)) (.cons rfl (rc_same rfl (.inl rfl)) (.cons rfl (rc_same rfl (.inl rfl)) (.nil))))) (.keep (rfl) rfl (.keep (rfl) rfl (.keep (rfl) rfl (.nil)))) (fun i h => by cases h)⟩
    · skip
      refine rs_mv rfl rfl ?_
      refine rs_mv rfl rfl ?_
      refine rs_nil fun _ => ?_
      refine th_n ?_
      refine aw_draw hmix ?_
      refine rs_mv rfl rfl ?_
      refine rs_rem (c := 2) rfl rfl rfl (by decide) rfl ?_
      refine rs_mv rfl rfl ?_
      refine rs_quow (c := 2) rfl rfl rfl (by decide) rfl ?_
      refine rs_mv rfl rfl ?_
      refine rs_quow (c := 2) rfl rfl rfl (by decide) rfl ?_
      refine rs_mv rfl rfl ?_
      refine rs_rem (c := 2) rfl rfl rfl (by decide) rfl ?_
      refine rs_ixarr_p rfl rfl rfl (by decide) (by decide) ?_
      refine rs_ixarr_p rfl rfl rfl (by decide) (by decide) ?_
      refine rs_ld_p rfl rfl rfl rfl rfl ?_
      refine rs_ixarr_p rfl rfl rfl (by decide) (by decide) ?_
      refine rs_ixarr_p rfl rfl rfl (by decide) (by decide) ?_
      refine rs_st rfl rfl rfl rfl rfl rfl rfl (Nat.le_of_ble_eq_true rfl) rfl rfl ?_
      refine rs_nil ⟨by kernel_rfl, fun _ => ?_⟩
      refine in_n ?_
      refine th_n ?_
      refine aw_reg ?_
      refine rs_add rfl rfl rfl (by omega) ?_
      refine rs_mv rfl rfl ?_
      refine rs_nil fun _ => ?_
      refine th_n ?_
      exact ⟨8 + 1, by omega, by omega, weak_to (.cons rfl (rc_same rfl (.inl rfl)) (.cons rfl (rc_same rfl (.inl rfl)) (.cons rfl (rc_same rfl (.inl rfl)) (.cons rfl (rc_same rfl (.inl rfl)) (.nil))))) (.keep (rfl) rfl (.keep (rfl) rfl (.keep (rfl) rfl (.nil)))) (fun i h => by cases h)⟩
  · replace h6 := of_decide_eq_false h6
    refine aw_exit ?_
    refine th_e ?_
    refine th_e ?_
    refine in_hit ?_
    refine th_n ?_
    refine aw_seq ?_
    obtain rfl : k = 9 := by omega
    refine aw_reg ?_
    refine rs_ld_pa rfl rfl rfl rfl (Nat.le_of_ble_eq_true rfl) rfl ?_
    refine rs_st rfl rfl rfl rfl rfl rfl rfl (Nat.le_of_ble_eq_true rfl) rfl rfl ?_
    refine rs_nil fun _ => ?_
    refine th_n ?_
    refine aw_ret ?_
    exact ret_pure rfl rfl rfl (.inr rfl)

def mct50 : MC := (.seq (.reg [⟨(some 2), (.box 67 9 (.t 0)), none, []⟩, ⟨(some 4), (.alloc 67 9 [(.int .i64 0), (.int .i64 0), (.int .i64 0), (.int .i64 0), (.int .i64 0), (.int .i64 0), (.int .i64 0), (.int .i64 0), (.int .i64 0)]), none, []⟩] false) (.seq (.seq (.reg [⟨(some 6), (.mv (.c (.int .i64 0))), none, []⟩] false) (.block 0 (.loop (.seq (.reg [⟨(some 7), (.bin .lss (.t 6) (.c (.int .i64 9))), none, []⟩] false) (.seq (.cond (.t 7) .skip (.exit 0)) (.seq (.block 1 (.seq (.reg [⟨(some 8), (.mv (.t 6)), none, []⟩, ⟨(some 5), (.mv (.t 8)), none, [0, 0]⟩] false) (.reg [⟨(some 9), (.mv (.t 5)), none, []⟩, ⟨(some 10), (.bin .quo (.t 9) (.c (.int .i64 3))), none, [0]⟩, ⟨(some 11), (.mv (.t 5)), none, []⟩, ⟨(some 12), (.bin .rem (.t 11) (.c (.int .i64 3))), none, [2]⟩, ⟨(some 13), (.ixarr 3 3 (.t 2) (.t 10)), none, [1]⟩, ⟨(some 14), (.ixarr 3 1 (.t 13) (.t 12)), none, [4, 3]⟩, ⟨(some 15), (.ld false 1 (.t 14)), none, [5]⟩, ⟨(some 16), (.mv (.t 1)), none, []⟩, ⟨(some 17), (.bin .mul (.t 15) (.t 16)), none, [6, 7]⟩, ⟨(some 18), (.ixarr 3 3 (.t 2) (.t 10)), none, [1]⟩, ⟨(some 19), (.ixarr 3 1 (.t 18) (.t 12)), none, [9, 3, 0, 1, 2, 3, 4, 5, 6, 7, 8]⟩, ⟨none, (.st 1 (.t 19) (.t 17)), none, [10, 8, 0, 1, 2, 3, 4, 5, 6, 7, 8]⟩] true))) (.reg [⟨(some 20), (.bin .add (.t 6) (.c (.int .i64 1))), none, []⟩, ⟨(some 6), (.mv (.t 20)), none, [0]⟩] false))))))) (.seq (.reg [⟨(some 21), (.ld true 9 (.t 2)), none, []⟩, ⟨none, (.st 9 (.t 4) (.t 21)), none, [0, 0]⟩] false) .ret)))
theorem mcOkt50 : (match Tryd.f50.body with | some c => compC Tryd.prog 22 c | none => none) = some mct50 := by kernel_rfl

theorem tc50 (M : Nat → Int) (b : Int) : FC Tryd.prog 50 [.agg (mL M), iv b] [] (.agg (scS M b 9)) [] false := by
  refine fc_run (nt := 22) Tryd.func50 rfl rfl mcOkt50 (Nat.le_of_ble_eq_true rfl) ?_
  delta mct50
  refine aw_seq ?_
  refine aw_reg ?_
  refine rs_box rfl rfl rfl rfl rfl rfl ?_
  refine rs_alloc rfl rfl rfl ?_
  refine rs_nil fun _ => ?_
  refine th_n ?_
  refine aw_seq ?_
  refine aw_seq ?_
  refine aw_reg ?_
  refine rs_mv rfl rfl ?_
  refine rs_nil fun _ => ?_
  refine th_n ?_
  refine aw_block ?_
  refine aw_fam (α := Nat) (fun k => 9 - k) (fun k => [(1, iv b), (2, .ptr 2 0 0), (4, .ptr 4 0 0), (6, iv (((k) : Nat) : Int))]) (fun k => [(2, mO (scS M b (k))), (4, mO [iv 0, iv 0, iv 0, iv 0, iv 0, iv 0, iv 0, iv 0, iv 0])]) (fun k => k ≤ 9) 0 (by omega)
    (weak_to (.cons rfl (rc_same rfl (.inl rfl)) (.cons rfl (rc_same rfl (.inl rfl)) (.cons rfl (rc_same rfl (.inl rfl)) (.cons rfl (rc_same rfl (.inl rfl)) (.nil))))) (.keep (rfl) rfl (.keep (rfl) rfl (.nil))) (fun i h => by cases h)) ?_
  intro k hk
  refine aw_seq ?_
  refine aw_reg ?_
  refine rs_lss rfl rfl rfl ?_
  refine rs_nil fun _ => ?_
  refine th_n ?_
  refine aw_seq ?_
  refine aw_cond rfl (fun h7 => ?_) (fun h7 => ?_)
  · replace h7 := of_decide_eq_true h7
    refine aw_skip ?_
    refine th_n ?_
    refine aw_seq ?_
    refine aw_block ?_
    refine aw_seq ?_
    refine aw_reg ?_
    obtain rfl | rfl | rfl | rfl | rfl | rfl | rfl | rfl | rfl : k = 0 ∨ k = 1 ∨ k = 2 ∨ k = 3 ∨ k = 4 ∨ k = 5 ∨ k = 6 ∨ k = 7 ∨ k = 8 := by omega
    · skip
      refine rs_mv rfl rfl ?_
      refine rs_mv rfl rfl ?_
      refine rs_nil fun _ => ?_
      refine th_n ?_
      refine aw_draw hmix ?_
      refine rs_mv rfl rfl ?_
      refine rs_quow (c := 0) rfl rfl rfl (by decide) rfl ?_
      refine rs_mv rfl rfl ?_
      refine rs_rem (c := 0) rfl rfl rfl (by decide) rfl ?_
      refine rs_ixarr_p rfl rfl rfl (by decide) (by decide) ?_
      refine rs_ixarr_p rfl rfl rfl (by decide) (by decide) ?_
      refine rs_ld_p rfl rfl rfl rfl rfl ?_
      refine rs_mv rfl rfl ?_
      refine rs_mulw rfl rfl rfl rfl ?_
      refine rs_ixarr_p rfl rfl rfl (by decide) (by decide) ?_
      refine rs_ixarr_p rfl rfl rfl (by decide) (by decide) ?_
      refine rs_st rfl rfl rfl rfl rfl rfl rfl (Nat.le_of_ble_eq_true rfl) rfl rfl ?_
      refine rs_nil ⟨by kernel_rfl, fun _ => ?_⟩
      refine in_n ?_
      refine th_n ?_
      refine aw_reg ?_
      refine rs_add rfl rfl rfl (by omega) ?_
      refine rs_mv rfl rfl ?_
      refine rs_nil fun _ => ?_
      refine th_n ?_
      exact ⟨0 + 1, by omega, by omega, weak_to (.cons rfl (rc_same rfl (.inl rfl)) (.cons rfl (rc_same rfl (.inl rfl)) (.cons rfl (rc_same rfl (.inl rfl)) (.cons rfl (rc_same rfl (.inl rfl)) (.nil))))) (.keep (rfl) rfl (.keep (rfl) rfl (.nil))) (fun i h => by cases h)⟩
    · skip
      refine rs_mv rfl rfl ?_
      refine rs_mv rfl rfl ?_
      refine rs_nil fun _ => ?_
      refine th_n ?_
      refine aw_draw hmix ?_
      refine rs_mv rfl rfl ?_
      refine rs_quow (c := 0) rfl rfl rfl (by decide) rfl ?_
      refine rs_mv rfl rfl ?_
      refine rs_rem (c := 1) rfl rfl rfl (by decide) rfl ?_
      refine rs_ixarr_p rfl rfl rfl (by decide) (by decide) ?_
      refine rs_ixarr_p rfl rfl rfl (by decide) (by decide) ?_
      refine rs_ld_p rfl rfl rfl rfl rfl ?_
      refine rs_mv rfl rfl ?_
      refine rs_mulw rfl rfl rfl rfl ?_
      refine rs_ixarr_p rfl rfl rfl (by decide) (by decide) ?_
      refine rs_ixarr_p rfl rfl rfl (by decide) (by decide) ?_
      refine rs_st rfl rfl rfl rfl rfl rfl rfl (Nat.le_of_ble_eq_true rfl) rfl rfl ?_
      refine rs_nil ⟨by kernel_rfl, fun _ => ?_⟩
      refine in_n ?_
      refine th_n ?_
      refine aw_reg ?_
      refine rs_add rfl rfl rfl (by omega) ?_
      refine rs_mv rfl rfl ?_
      refine rs_nil fun _ => ?_
      refine th_n ?_
      exact ⟨1 + 1, by omega, by omega, weak_to (.cons rfl (rc_same rfl (.inl rfl)) (.cons rfl (rc_same rfl (.inl rfl)) (.cons rfl (rc_same rfl (.inl rfl)) (.cons rfl (rc_same rfl (.inl rfl)) (.nil))))) (.keep (rfl) rfl (.keep (rfl) rfl (.nil))) (fun i h => by cases h)⟩
    · skip
      refine rs_mv rfl rfl ?_
      refine rs_mv rfl rfl ?_
      refine rs_nil fun _ => ?_
      refine th_n ?_
      refine aw_draw hmix ?_
      refine rs_mv rfl rfl ?_
      refine rs_quow (c := 0) rfl rfl rfl (by decide) rfl ?_
      refine rs_mv rfl rfl ?_
      refine rs_rem (c := 2) rfl rfl rfl (by decide) rfl ?_
      refine rs_ixarr_p rfl rfl rfl (by decide) (by decide) ?_
      refine rs_ixarr_p rfl rfl rfl (by decide) (by decide) ?_
      refine rs_ld_p rfl rfl rfl rfl rfl ?_
      refine rs_mv rfl rfl ?_
      refine rs_mulw rfl rfl rfl rfl ?_
      refine rs_ixarr_p rfl rfl rfl (by decide) (by decide) ?_
      refine rs_ixarr_p rfl rfl rfl (by decide) (by decide) ?_
      refine rs_st rfl rfl rfl rfl rfl rfl rfl (Nat.le_of_ble_eq_true rfl) rfl rfl ?_
      refine rs_nil ⟨by kernel_rfl, fun _ => ?_⟩
      refine in_n ?_
      refine th_n ?_
      refine aw_reg ?_
      refine rs_add rfl rfl rfl (by omega) ?_
      refine rs_mv rfl rfl ?_
      refine rs_nil fun _ => ?_
      refine th_n ?_
      exact ⟨2 + 1, by omega, by omega, weak_to (.cons rfl (rc_same rfl (.inl rfl)) (.cons rfl (rc_same rfl (.inl rfl)) (.cons rfl (rc_same rfl (.inl rfl)) (.cons rfl (rc_same rfl (.inl rfl)) (.nil))))) (.keep (rfl) rfl (.keep (rfl) rfl (.nil))) (fun i h => by cases h)⟩
    · skip
      refine rs_mv rfl rfl ?_
      refine rs_mv rfl rfl ?_
      refine rs_nil fun _ => ?_
      refine th_n ?_
      refine aw_draw hmix ?_
      refine rs_mv rfl rfl ?_
      refine rs_quow (c := 1) rfl rfl rfl (by decide) rfl ?_
      refine rs_mv rfl rfl ?_
      refine rs_rem (c := 0) rfl rfl rfl (by decide) rfl ?_
      refine rs_ixarr_p rfl rfl rfl (by decide) (by decide) ?_
      refine rs_ixarr_p rfl rfl rfl (by decide) (by decide) ?_
      refine rs_ld_p rfl rfl rfl rfl rfl ?_
      refine rs_mv rfl rfl ?_
      refine rs_mulw rfl rfl rfl rfl ?_
      refine rs_ixarr_p rfl rfl rfl (by decide) (by decide) ?_
      refine rs_ixarr_p rfl rfl rfl (by decide) (by decide) ?_
      refine rs_st rfl rfl rfl rfl rfl rfl rfl (Nat.le_of_ble_eq_true rfl) rfl rfl ?_
      refine rs_nil ⟨by kernel_rfl, fun _ => ?_⟩
      refine in_n ?_
      refine th_n ?_
      refine aw_reg ?_
      refine rs_add rfl rfl rfl (by omega) ?_
      refine rs_mv rfl rfl ?_
      refine rs_nil fun _ => ?_
      refine th_n ?_
      exact ⟨3 + 1, by omega, by omega, weak_to (.cons rfl (rc_same rfl (.inl rfl)) (.cons rfl (rc_same rfl (.inl rfl)) (.cons rfl (rc_same rfl (.inl rfl)) (.cons rfl (rc_same rfl (.inl rfl)) (.nil))))) (.keep (rfl) rfl (.keep (rfl) rfl (.nil))) (fun i h => by cases h)⟩
    · skip
      refine rs_mv rfl rfl ?_
      refine rs_mv rfl rfl ?_
      refine rs_nil fun _ => ?_
      refine th_n ?_
      refine aw_draw hmix ?_
      refine rs_mv rfl rfl ?_
      refine rs_quow (c := 1) rfl rfl rfl (by decide) rfl ?_
      refine rs_mv rfl rfl ?_
      refine rs_rem (c := 1) rfl rfl rfl (by decide) rfl ?_
      refine rs_ixarr_p rfl rfl rfl (by decide) (by decide) ?_
      refine rs_ixarr_p rfl rfl rfl (by decide) (by decide) ?_
      refine rs_ld_p rfl rfl rfl rfl rfl ?_
      refine rs_mv rfl rfl ?_
      refine rs_mulw rfl rfl rfl rfl ?_
      refine rs_ixarr_p rfl rfl rfl (by decide) (by decide) ?_
      refine rs_ixarr_p rfl rfl rfl (by decide) (by decide) ?_
      refine rs_st rfl rfl rfl rfl rfl rfl rfl (Nat.le_of_ble_eq_true rfl) rfl rfl ?_
      refine rs_nil ⟨by kernel_rfl, fun _ => ?_⟩
      refine in_n ?_
      refine th_n ?_
      refine aw_reg ?_
      refine rs_add rfl rfl rfl (by omega) ?_
      refine rs_mv rfl rfl ?_
      refine rs_nil fun _ => ?_
      refine th_n ?_
      exact ⟨4 + 1, by omega, by omega, weak_to (.cons rfl (rc_same rfl (.inl rfl)) (.cons rfl (rc_same rfl (.inl rfl)) (.cons rfl (rc_same rfl (.inl rfl)) (.cons rfl (rc_same rfl (.inl rfl)) (.nil))))) (.keep (rfl) rfl (.keep (rfl) rfl (.nil))) (fun i h => by cases h)⟩
    · skip
      refine rs_mv rfl rfl ?_
      refine rs_mv rfl rfl ?_
      refine rs_nil fun _ => ?_
      refine th_n ?_
      refine aw_draw hmix ?_
      refine rs_mv rfl rfl ?_
      refine rs_quow (c := 1) rfl rfl rfl (by decide) rfl ?_
      refine rs_mv rfl rfl ?_
      refine rs_rem (c := 2) rfl rfl rfl (by decide) rfl ?_
      refine rs_ixarr_p rfl rfl rfl (by decide) (by decide) ?_
      refine rs_ixarr_p rfl rfl rfl (by decide) (by decide) ?_
      refine rs_ld_p rfl rfl rfl rfl rfl ?_
      refine rs_mv rfl rfl ?_
      refine rs_mulw rfl rfl rfl rfl ?_
      refine rs_ixarr_p rfl rfl rfl (by decide) (by decide) ?_
      refine rs_ixarr_p rfl rfl rfl (by decide) (by decide) ?_
      refine rs_st rfl rfl rfl rfl rfl rfl rfl (Nat.le_of_ble_eq_true rfl) rfl rfl ?_
      refine rs_nil ⟨by kernel_rfl, fun _ => ?_⟩
      refine in_n ?_
      refine th_n ?_
      refine aw_reg ?_
      refine rs_add rfl rfl rfl (by omega) ?_
      refine rs_mv rfl rfl ?_
      refine rs_nil fun _ => ?_
      refine th_n ?_
      exact ⟨5 + 1, by omega, by omega, weak_to (.cons rfl (rc_same rfl (.inl rfl)) (.cons rfl (rc_same rfl (.inl rfl)) (.cons rfl (rc_same rfl (.inl rfl)) (.cons rfl (rc_same rfl (.inl rfl)) (.nil))))) (.keep (rfl) rfl (.keep (rfl) rfl (.nil))) (fun i h => by cases h)⟩
    · skip
      refine rs_mv rfl rfl ?_
      refine rs_mv rfl rfl ?_
      refine rs_nil fun _ => ?_
      refine th_n ?_
      refine aw_draw hmix ?_
      refine rs_mv rfl rfl ?_
      refine rs_quow (c := 2) rfl rfl rfl (by decide) rfl ?_
      refine rs_mv rfl rfl ?_
      refine rs_rem (c := 0) rfl rfl rfl (by decide) rfl ?_
      refine rs_ixarr_p rfl rfl rfl (by decide) (by decide) ?_
      refine rs_ixarr_p rfl rfl rfl (by decide) (by decide) ?_
      refine rs_ld_p rfl rfl rfl rfl rfl ?_
      refine rs_mv rfl rfl ?_
      refine rs_mulw rfl rfl rfl rfl ?_
      refine rs_ixarr_p rfl rfl rfl (by decide) (by decide) ?_
      refine rs_ixarr_p rfl rfl rfl (by decide) (by decide) ?_
      refine rs_st rfl rfl rfl rfl rfl rfl rfl (Nat.le_of_ble_eq_true rfl) rfl rfl ?_
      refine rs_nil ⟨by kernel_rfl, fun _ => ?_⟩
      refine in_n ?_
      refine th_n ?_
      refine aw_reg ?_
      refine rs_add rfl rfl rfl (by omega) ?_
      refine rs_mv rfl rfl ?_
      refine rs_nil fun _ => ?_
      refine th_n ?_
      exact ⟨6 + 1, by omega, by omega, weak_to (.cons rfl (rc_same rfl (.inl rfl)) (.cons rfl (rc_same rfl (.inl rfl)) (.cons rfl (rc_same rfl (.inl rfl)) (.cons rfl (rc_same rfl (.inl rfl)) (.nil))))) (.keep (rfl) rfl (.keep (rfl) rfl (.nil))) (fun i h => by cases h)⟩
    · skip
      refine rs_mv rfl rfl ?_
      refine rs_mv rfl rfl ?_
      refine rs_nil fun _ => ?_
      refine th_n ?_
      refine aw_draw hmix ?_
      refine rs_mv rfl rfl ?_
      refine rs_quow (c := 2) rfl rfl rfl (by decide) rfl ?_
      refine rs_mv rfl rfl ?_
      refine rs_rem (c := 1) rfl rfl rfl (by decide) rfl ?_
      refine rs_ixarr_p rfl rfl rfl (by decide) (by decide) ?_
      refine rs_ixarr_p rfl rfl rfl (by decide) (by decide) ?_
      refine rs_ld_p rfl rfl rfl rfl rfl ?_
      refine rs_mv rfl rfl ?_
      refine rs_mulw rfl rfl rfl rfl ?_
      refine rs_ixarr_p rfl rfl rfl (by decide) (by decide) ?_
      refine rs_ixarr_p rfl rfl rfl (by decide) (by decide) ?_
      refine rs_st rfl rfl rfl rfl rfl rfl rfl (Nat.le_of_ble_eq_true rfl) rfl rfl ?_
      refine rs_nil ⟨by kernel_rfl, fun _ => ?_⟩
      refine in_n ?_
      refine th_n ?_
      refine aw_reg ?_
      refine rs_add rfl rfl rfl (by omega) ?_
      refine rs_mv rfl rfl ?_
      refine rs_nil fun _ => ?_
      refine th_n ?_
      exact ⟨7 + 1, by omega, by omega, weak_to (.cons rfl (rc_same rfl (.inl rfl)) (.cons rfl (rc_same rfl (.inl rfl)) (.cons rfl (rc_same rfl (.inl rfl)) (.cons rfl (rc_same rfl (.inl rfl)) (.nil))))) (.keep (rfl) rfl (.keep (rfl) rfl (.nil))) (fun i h => by cases h)⟩
    · skip
      refine rs_mv rfl rfl ?_
      refine rs_mv rfl rfl ?_
      refine rs_nil fun _ => ?_
      refine th_n ?_
      refine aw_draw hmix ?_
      refine rs_mv rfl rfl ?_
      refine rs_quow (c := 2) rfl rfl rfl (by decide) rfl ?_
      refine rs_mv rfl rfl ?_
      refine rs_rem (c := 2) rfl rfl rfl (by decide) rfl ?_
      refine rs_ixarr_p rfl rfl rfl (by decide) (by decide) ?_
      refine rs_ixarr_p rfl rfl rfl (by decide) (by decide) ?_
      refine rs_ld_p rfl rfl rfl rfl rfl ?_
      refine rs_mv rfl rfl ?_
      refine rs_mulw rfl rfl rfl rfl ?_
      refine rs_ixarr_p rfl rfl rfl (by decide) (by decide) ?_
      refine rs_ixarr_p rfl rfl rfl (by decide) (by decide) ?_
      refine rs_st rfl rfl rfl rfl rfl rfl rfl (Nat.le_of_ble_eq_true rfl) rfl rfl ?_
      refine rs_nil ⟨by kernel_rfl, fun _ => ?_⟩
      refine in_n ?_
      refine th_n ?_
      refine aw_reg ?_
      refine rs_add rfl rfl rfl (by omega) ?_
      refine rs_mv rfl rfl ?_
      refine rs_nil fun _ => ?_
      refine th_n ?_
      exact ⟨8 + 1, by omega, by omega, weak_to (.cons rfl (rc_same rfl (.inl rfl)) (.cons rfl (rc_same rfl (.inl rfl)) (.cons rfl (rc_same rfl (.inl rfl)) (.cons rfl (rc_same rfl (.inl rfl)) (.nil))))) (.keep (rfl) rfl (.keep (rfl) rfl (.nil))) (fun i h => by cases h)⟩
  · replace h7 := of_decide_eq_false h7
    refine aw_exit ?_
    refine th_e ?_
    refine th_e ?_
    refine in_hit ?_
    refine th_n ?_
    refine aw_seq ?_
    obtain rfl : k = 9 := by omega
    refine aw_reg ?_
    refine rs_ld_pa rfl rfl rfl rfl (Nat.le_of_ble_eq_true rfl) rfl ?_
    refine rs_st rfl rfl rfl rfl rfl rfl rfl (Nat.le_of_ble_eq_true rfl) rfl rfl ?_
    refine rs_nil fun _ => ?_
    refine th_n ?_
    refine aw_ret ?_
    exact ret_pure rfl rfl rfl (.inr rfl)

def mct46 : MC := (.seq (.reg [⟨(some 2), (.box 67 9 (.t 0)), none, []⟩, ⟨(some 4), (.mv (.c (.bool false))), none, []⟩] false) (.seq (.seq (.reg [⟨(some 7), (.mv (.c (.int .i64 0))), none, []⟩] false) (.block 0 (.loop (.seq (.reg [⟨(some 8), (.bin .lss (.t 7) (.c (.int .i64 9))), none, []⟩] false) (.seq (.cond (.t 8) .skip (.exit 0)) (.seq (.block 1 (.seq (.reg [⟨(some 9), (.mv (.t 7)), none, []⟩, ⟨(some 5), (.mv (.t 9)), none, [0, 0]⟩] false) (.seq (.reg [⟨(some 10), (.mv (.t 5)), none, []⟩, ⟨(some 11), (.bin .quo (.t 10) (.c (.int .i64 3))), none, [0]⟩, ⟨(some 12), (.mv (.t 5)), none, []⟩, ⟨(some 13), (.bin .rem (.t 12) (.c (.int .i64 3))), none, [2]⟩, ⟨(some 14), (.ixarr 3 3 (.t 2) (.t 11)), none, [1]⟩, ⟨(some 15), (.ixarr 3 1 (.t 14) (.t 13)), none, [4, 3]⟩, ⟨(some 16), (.ld false 1 (.t 15)), none, [5]⟩, ⟨(some 6), (.mv (.t 16)), none, [6, 0, 1, 2, 3, 4, 5, 6]⟩] false) (.seq (.reg [⟨(some 17), (.mv (.t 6)), none, []⟩, ⟨(some 18), (.mv (.t 1)), none, []⟩, ⟨(some 19), (.un .neg (.t 18)), none, [1]⟩, ⟨(some 20), (.bin .lss (.t 17) (.t 19)), none, [0, 2]⟩, ⟨(some 21), (.mv (.t 20)), none, [3]⟩, ⟨(some 22), (.mv (.t 6)), (some (21, false)), [4]⟩, ⟨(some 23), (.mv (.t 1)), (some (21, false)), [4]⟩, ⟨(some 24), (.bin .gtr (.t 22) (.t 23)), (some (21, false)), [5, 6, 4]⟩, ⟨(some 25), (.pick (.t 21) (.c (.bool true)) (.t 24)), none, [4, 7]⟩] false) (.cond (.t 25) (.seq (.reg [⟨(some 4), (.mv (.c (.bool false))), none, []⟩] false) .ret) .skip))))) (.reg [⟨(some 26), (.bin .add (.t 7) (.c (.int .i64 1))), none, []⟩, ⟨(some 7), (.mv (.t 26)), none, [0]⟩] false))))))) (.seq (.reg [⟨(some 4), (.mv (.c (.bool true))), none, []⟩] false) .ret)))
theorem mcOkt46 : (match Tryd.f46.body with | some c => compC Tryd.prog 27 c | none => none) = some mct46 := by kernel_rfl

theorem tc46 (M : Nat → Int) (hM : ∀ q, q < 9 → -1 ≤ M q ∧ M q ≤ 1) : FC Tryd.prog 46 [.agg (mL M), iv 1] [] (.bool true) [] false := by
  refine fc_run (nt := 27) Tryd.func46 rfl rfl mcOkt46 (Nat.le_of_ble_eq_true rfl) ?_
  delta mct46
  refine aw_seq ?_
  refine aw_reg ?_
  refine rs_box rfl rfl rfl rfl rfl rfl ?_
  refine rs_mv rfl rfl ?_
  refine rs_nil fun _ => ?_
  refine th_n ?_
  refine aw_seq ?_
  refine aw_seq ?_
  refine aw_reg ?_
  refine rs_mv rfl rfl ?_
  refine rs_nil fun _ => ?_
  refine th_n ?_
  refine aw_block ?_
  refine aw_fam (α := Nat) (fun k => 9 - k) (fun k => [(1, iv 1), (2, .ptr 2 0 0), (7, iv (((k) : Nat) : Int))]) (fun k => [(2, mO (mL M))]) (fun k => k ≤ 9) 0 (by omega)
    (weak_to (.cons rfl (rc_same rfl (.inl rfl)) (.cons rfl (rc_same rfl (.inl rfl)) (.cons rfl (rc_same rfl (.inl rfl)) (.nil)))) (.keep (rfl) rfl (.nil)) (fun i h => by cases h)) ?_
  intro k hk
  refine aw_seq ?_
  refine aw_reg ?_
  refine rs_lss rfl rfl rfl ?_
  refine rs_nil fun _ => ?_
  refine th_n ?_
  refine aw_seq ?_
  refine aw_cond rfl (fun h8 => ?_) (fun h8 => ?_)
  · replace h8 := of_decide_eq_true h8
    refine aw_skip ?_
    refine th_n ?_
    refine aw_seq ?_
    refine aw_block ?_
    refine aw_seq ?_
    refine aw_reg ?_
    obtain rfl | rfl | rfl | rfl | rfl | rfl | rfl | rfl | rfl : k = 0 ∨ k = 1 ∨ k = 2 ∨ k = 3 ∨ k = 4 ∨ k = 5 ∨ k = 6 ∨ k = 7 ∨ k = 8 := by omega
    · have hq := hM 0 (by decide)
      refine rs_mv rfl rfl ?_
      refine rs_mv rfl rfl ?_
      refine rs_nil fun _ => ?_
      refine th_n ?_
      refine aw_seq ?_
      refine aw_reg ?_
      refine rs_mv rfl rfl ?_
      refine rs_quow (c := 0) rfl rfl rfl (by decide) rfl ?_
      refine rs_mv rfl rfl ?_
      refine rs_rem (c := 0) rfl rfl rfl (by decide) rfl ?_
      refine rs_ixarr_p rfl rfl rfl (by decide) (by decide) ?_
      refine rs_ixarr_p rfl rfl rfl (by decide) (by decide) ?_
      refine rs_ld_p rfl rfl rfl rfl rfl ?_
      refine rs_mv rfl rfl ?_
      refine rs_nil fun _ => ?_
      refine th_n ?_
      refine aw_seq ?_
      refine aw_reg ?_
      refine rs_mv rfl rfl ?_
      refine rs_mv rfl rfl ?_
      refine rs_neg rfl rfl (by omega) ?_
      refine rs_cmp_f rfl rfl rfl rfl (by omega) ?_
      refine rs_mv rfl rfl ?_
      refine rs_mv rfl rfl ?_
      refine rs_mv rfl rfl ?_
      refine rs_cmp_f rfl rfl rfl rfl (by omega) ?_
      refine rs_pick rfl rfl rfl ?_
      refine rs_nil fun _ => ?_
      refine th_n ?_
      refine aw_cond rfl (fun h => by cases h) (fun _ => ?_)
      refine aw_skip ?_
      refine in_n ?_
      refine th_n ?_
      refine aw_reg ?_
      refine rs_add rfl rfl rfl (by omega) ?_
      refine rs_mv rfl rfl ?_
      refine rs_nil fun _ => ?_
      refine th_n ?_
      exact ⟨0 + 1, by omega, by omega, weak_to (.cons rfl (rc_same rfl (.inl rfl)) (.cons rfl (rc_same rfl (.inl rfl)) (.cons rfl (rc_same rfl (.inl rfl)) (.nil)))) (.keep (rfl) rfl (.nil)) (fun i h => by cases h)⟩
    · have hq := hM 1 (by decide)
      refine rs_mv rfl rfl ?_
      refine rs_mv rfl rfl ?_
      refine rs_nil fun _ => ?_
      refine th_n ?_
      refine aw_seq ?_
      refine aw_reg ?_
      refine rs_mv rfl rfl ?_
      refine rs_quow (c := 0) rfl rfl rfl (by decide) rfl ?_
      refine rs_mv rfl rfl ?_
      refine rs_rem (c := 1) rfl rfl rfl (by decide) rfl ?_
      refine rs_ixarr_p rfl rfl rfl (by decide) (by decide) ?_
      refine rs_ixarr_p rfl rfl rfl (by decide) (by decide) ?_
      refine rs_ld_p rfl rfl rfl rfl rfl ?_
      refine rs_mv rfl rfl ?_
      refine rs_nil fun _ => ?_
      refine th_n ?_
      refine aw_seq ?_
      refine aw_reg ?_
      refine rs_mv rfl rfl ?_
      refine rs_mv rfl rfl ?_
      refine rs_neg rfl rfl (by omega) ?_
      refine rs_cmp_f rfl rfl rfl rfl (by omega) ?_
      refine rs_mv rfl rfl ?_
      refine rs_mv rfl rfl ?_
      refine rs_mv rfl rfl ?_
      refine rs_cmp_f rfl rfl rfl rfl (by omega) ?_
      refine rs_pick rfl rfl rfl ?_
      refine rs_nil fun _ => ?_
      refine th_n ?_
      refine aw_cond rfl (fun h => by cases h) (fun _ => ?_)
      refine aw_skip ?_
      refine in_n ?_
      refine th_n ?_
      refine aw_reg ?_
      refine rs_add rfl rfl rfl (by omega) ?_
      refine rs_mv rfl rfl ?_
      refine rs_nil fun _ => ?_
      refine th_n ?_
      exact ⟨1 + 1, by omega, by omega, weak_to (.cons rfl (rc_same rfl (.inl rfl)) (.cons rfl (rc_same rfl (.inl rfl)) (.cons rfl (rc_same rfl (.inl rfl)) (.nil)))) (.keep (rfl) rfl (.nil)) (fun i h => by cases h)⟩
    · have hq := hM 2 (by decide)
      refine rs_mv rfl rfl ?_
      refine rs_mv rfl rfl ?_
      refine rs_nil fun _ => ?_
      refine th_n ?_
      refine aw_seq ?_
      refine aw_reg ?_
      refine rs_mv rfl rfl ?_
      refine rs_quow (c := 0) rfl rfl rfl (by decide) rfl ?_
      refine rs_mv rfl rfl ?_
      refine rs_rem (c := 2) rfl rfl rfl (by decide) rfl ?_
      refine rs_ixarr_p rfl rfl rfl (by decide) (by decide) ?_
      refine rs_ixarr_p rfl rfl rfl (by decide) (by decide) ?_
      refine rs_ld_p rfl rfl rfl rfl rfl ?_
      refine rs_mv rfl rfl ?_
      refine rs_nil fun _ => ?_
      refine th_n ?_
      refine aw_seq ?_
      refine aw_reg ?_
      refine rs_mv rfl rfl ?_
      refine rs_mv rfl rfl ?_
      refine rs_neg rfl rfl (by omega) ?_
      refine rs_cmp_f rfl rfl rfl rfl (by omega) ?_
      refine rs_mv rfl rfl ?_
      refine rs_mv rfl rfl ?_
      refine rs_mv rfl rfl ?_
      refine rs_cmp_f rfl rfl rfl rfl (by omega) ?_
      refine rs_pick rfl rfl rfl ?_
      refine rs_nil fun _ => ?_
      refine th_n ?_
      refine aw_cond rfl (fun h => by cases h) (fun _ => ?_)
      refine aw_skip ?_
      refine in_n ?_
      refine th_n ?_
      refine aw_reg ?_
      refine rs_add rfl rfl rfl (by omega) ?_
      refine rs_mv rfl rfl ?_
      refine rs_nil fun _ => ?_
      refine th_n ?_
      exact ⟨2 + 1, by omega, by omega, weak_to (.cons rfl (rc_same rfl (.inl rfl)) (.cons rfl (rc_same rfl (.inl rfl)) (.cons rfl (rc_same rfl (.inl rfl)) (.nil)))) (.keep (rfl) rfl (.nil)) (fun i h => by cases h)⟩
    · have hq := hM 3 (by decide)
      refine rs_mv rfl rfl ?_
      refine rs_mv rfl rfl ?_
      refine rs_nil fun _ => ?_
      refine th_n ?_
      refine aw_seq ?_
      refine aw_reg ?_
      refine rs_mv rfl rfl ?_
      refine rs_quow (c := 1) rfl rfl rfl (by decide) rfl ?_
      refine rs_mv rfl rfl ?_
      refine rs_rem (c := 0) rfl rfl rfl (by decide) rfl ?_
      refine rs_ixarr_p rfl rfl rfl (by decide) (by decide) ?_
      refine rs_ixarr_p rfl rfl rfl (by decide) (by decide) ?_
      refine rs_ld_p rfl rfl rfl rfl rfl ?_
      refine rs_mv rfl rfl ?_
      refine rs_nil fun _ => ?_
      refine th_n ?_
      refine aw_seq ?_
      refine aw_reg ?_
      refine rs_mv rfl rfl ?_
      refine rs_mv rfl rfl ?_
      refine rs_neg rfl rfl (by omega) ?_
      refine rs_cmp_f rfl rfl rfl rfl (by omega) ?_
      refine rs_mv rfl rfl ?_
      refine rs_mv rfl rfl ?_
      refine rs_mv rfl rfl ?_
      refine rs_cmp_f rfl rfl rfl rfl (by omega) ?_
      refine rs_pick rfl rfl rfl ?_
      refine rs_nil fun _ => ?_
      refine th_n ?_
      refine aw_cond rfl (fun h => by cases h) (fun _ => ?_)
      refine aw_skip ?_
      refine in_n ?_
      refine th_n ?_
      refine aw_reg ?_
      refine rs_add rfl rfl rfl (by omega) ?_
      refine rs_mv rfl rfl ?_
      refine rs_nil fun _ => ?_
      refine th_n ?_
      exact ⟨3 + 1, by omega, by omega, weak_to (.cons rfl (rc_same rfl (.inl rfl)) (.cons rfl (rc_same rfl (.inl rfl)) (.cons rfl (rc_same rfl (.inl rfl)) (.nil)))) (.keep (rfl) rfl (.nil)) (fun i h => by cases h)⟩
    · have hq := hM 4 (by decide)
      refine rs_mv rfl rfl ?_
      refine rs_mv rfl rfl ?_
      refine rs_nil fun _ => ?_
      refine th_n ?_
      refine aw_seq ?_
      refine aw_reg ?_
      refine rs_mv rfl rfl ?_
      refine rs_quow (c := 1) rfl rfl rfl (by decide) rfl ?_
      refine rs_mv rfl rfl ?_
      refine rs_rem (c := 1) rfl rfl rfl (by decide) rfl ?_
      refine rs_ixarr_p rfl rfl rfl (by decide) (by decide) ?_
      refine rs_ixarr_p rfl rfl rfl (by decide) (by decide) ?_
      refine rs_ld_p rfl rfl rfl rfl rfl ?_
      refine rs_mv rfl rfl ?_
      refine rs_nil fun _ => ?_
      refine th_n ?_
      refine aw_seq ?_
      refine aw_reg ?_
      refine rs_mv rfl rfl ?_
      refine rs_mv rfl rfl ?_
      refine rs_neg rfl rfl (by omega) ?_
      refine rs_cmp_f rfl rfl rfl rfl (by omega) ?_
      refine rs_mv rfl rfl ?_
      refine rs_mv rfl rfl ?_
      refine rs_mv rfl rfl ?_
      refine rs_cmp_f rfl rfl rfl rfl (by omega) ?_
      refine rs_pick rfl rfl rfl ?_
      refine rs_nil fun _ => ?_
      refine th_n ?_
      refine aw_cond rfl (fun h => by cases h) (fun _ => ?_)
      refine aw_skip ?_
      refine in_n ?_
      refine th_n ?_
      refine aw_reg ?_
      refine rs_add rfl rfl rfl (by omega) ?_
      refine rs_mv rfl rfl ?_
      refine rs_nil fun _ => ?_
      refine th_n ?_
      exact ⟨4 + 1, by omega, by omega, weak_to (.cons rfl (rc_same rfl (.inl rfl)) (.cons rfl (rc_same rfl (.inl rfl)) (.cons rfl (rc_same rfl (.inl rfl)) (.nil)))) (.keep (rfl) rfl (.nil)) (fun i h => by cases h)⟩
    · have hq := hM 5 (by decide)
      refine rs_mv rfl rfl ?_
      refine rs_mv rfl rfl ?_
      refine rs_nil fun _ => ?_
      refine th_n ?_
      refine aw_seq ?_
      refine aw_reg ?_
      refine rs_mv rfl rfl ?_
      refine rs_quow (c := 1) rfl rfl rfl (by decide) rfl ?_
      refine rs_mv rfl rfl ?_
      refine rs_rem (c := 2) rfl rfl rfl (by decide) rfl ?_
      refine rs_ixarr_p rfl rfl rfl (by decide) (by decide) ?_
      refine rs_ixarr_p rfl rfl rfl (by decide) (by decide) ?_
      refine rs_ld_p rfl rfl rfl rfl rfl ?_
      refine rs_mv rfl rfl ?_
      refine rs_nil fun _ => ?_
      refine th_n ?_
      refine aw_seq ?_
      refine aw_reg ?_
      refine rs_mv rfl rfl ?_
      refine rs_mv rfl rfl ?_
      refine rs_neg rfl rfl (by omega) ?_
      refine rs_cmp_f rfl rfl rfl rfl (by omega) ?_
      refine rs_mv rfl rfl ?_
      refine rs_mv rfl rfl ?_
      refine rs_mv rfl rfl ?_
      refine rs_cmp_f rfl rfl rfl rfl (by omega) ?_
      refine rs_pick rfl rfl rfl ?_
      refine rs_nil fun _ => ?_
      refine th_n ?_
      refine aw_cond rfl (fun h => by cases h) (fun _ => ?_)
      refine aw_skip ?_
      refine in_n ?_
      refine th_n ?_
      refine aw_reg ?_
      refine rs_add rfl rfl rfl (by omega) ?_
      refine rs_mv rfl rfl ?_
      refine rs_nil fun _ => ?_
      refine th_n ?_
      exact ⟨5 + 1, by omega, by omega, weak_to (.cons rfl (rc_same rfl (.inl rfl)) (.cons rfl (rc_same rfl (.inl rfl)) (.cons rfl (rc_same rfl (.inl rfl)) (.nil)))) (.keep (rfl) rfl (.nil)) (fun i h => by cases h)⟩
    · have hq := hM 6 (by decide)
      refine rs_mv rfl rfl ?_
      refine rs_mv rfl rfl ?_
      refine rs_nil fun _ => ?_
      refine th_n ?_
      refine aw_seq ?_
      refine aw_reg ?_
      refine rs_mv rfl rfl ?_
      refine rs_quow (c := 2) rfl rfl rfl (by decide) rfl ?_
      refine rs_mv rfl rfl ?_
      refine rs_rem (c := 0) rfl rfl rfl (by decide) rfl ?_
      refine rs_ixarr_p rfl rfl rfl (by decide) (by decide) ?_
      refine rs_ixarr_p rfl rfl rfl (by decide) (by decide) ?_
      refine rs_ld_p rfl rfl rfl rfl rfl ?_
      refine rs_mv rfl rfl ?_
      refine rs_nil fun _ => ?_
      refine th_n ?_
      refine aw_seq ?_
      refine aw_reg ?_
      refine rs_mv rfl rfl ?_
      refine rs_mv rfl rfl ?_
      refine rs_neg rfl rfl (by omega) ?_
      refine rs_cmp_f rfl rfl rfl rfl (by omega) ?_
      refine rs_mv rfl rfl ?_
      refine rs_mv rfl rfl ?_
      refine rs_mv rfl rfl ?_
      refine rs_cmp_f rfl rfl rfl rfl (by omega) ?_
      refine rs_pick rfl rfl rfl ?_
      refine rs_nil fun _ => ?_
      refine th_n ?_
      refine aw_cond rfl (fun h => by cases h) (fun _ => ?_)
      refine aw_skip ?_
      refine in_n ?_
      refine th_n ?_
      refine aw_reg ?_
      refine rs_add rfl rfl rfl (by omega) ?_
      refine rs_mv rfl rfl ?_
      refine rs_nil fun _ => ?_
      refine th_n ?_
      exact ⟨6 + 1, by omega, by omega, weak_to (.cons rfl (rc_same rfl (.inl rfl)) (.cons rfl (rc_same rfl (.inl rfl)) (.cons rfl (rc_same rfl (.inl rfl)) (.nil)))) (.keep (rfl) rfl (.nil)) (fun i h => by cases h)⟩
    · have hq := hM 7 (by decide)
      refine rs_mv rfl rfl ?_
      refine rs_mv rfl rfl ?_
      refine rs_nil fun _ => ?_
      refine th_n ?_
      refine aw_seq ?_
      refine aw_reg ?_
      refine rs_mv rfl rfl ?_
      refine rs_quow (c := 2) rfl rfl rfl (by decide) rfl ?_
      refine rs_mv rfl rfl ?_
      refine rs_rem (c := 1) rfl rfl rfl (by decide) rfl ?_
      refine rs_ixarr_p rfl rfl rfl (by decide) (by decide) ?_
      refine rs_ixarr_p rfl rfl rfl (by decide) (by decide) ?_
      refine rs_ld_p rfl rfl rfl rfl rfl ?_
      refine rs_mv rfl rfl ?_
      refine rs_nil fun _ => ?_
      refine th_n ?_
      refine aw_seq ?_
      refine aw_reg ?_
      refine rs_mv rfl rfl ?_
      refine rs_mv rfl rfl ?_
      refine rs_neg rfl rfl (by omega) ?_
      refine rs_cmp_f rfl rfl rfl rfl (by omega) ?_
      refine rs_mv rfl rfl ?_
      refine rs_mv rfl rfl ?_
      refine rs_mv rfl rfl ?_
      refine rs_cmp_f rfl rfl rfl rfl (by omega) ?_
      refine rs_pick rfl rfl rfl ?_
      refine rs_nil fun _ => ?_
      refine th_n ?_
      refine aw_cond rfl (fun h => by cases h) (fun _ => ?_)
      refine aw_skip ?_
      refine in_n ?_
      refine th_n ?_
      refine aw_reg ?_
      refine rs_add rfl rfl rfl (by omega) ?_
      refine rs_mv rfl rfl ?_
      refine rs_nil fun _ => ?_
      refine th_n ?_
      exact ⟨7 + 1, by omega, by omega, weak_to (.cons rfl (rc_same rfl (.inl rfl)) (.cons rfl (rc_same rfl (.inl rfl)) (.cons rfl (rc_same rfl (.inl rfl)) (.nil)))) (.keep (rfl) rfl (.nil)) (fun i h => by cases h)⟩
    · have hq := hM 8 (by decide)
      refine rs_mv rfl rfl ?_
      refine rs_mv rfl rfl ?_
      refine rs_nil fun _ => ?_
      refine th_n ?_
      refine aw_seq ?_
      refine aw_reg ?_
      refine rs_mv rfl rfl ?_
      refine rs_quow (c := 2) rfl rfl rfl (by decide) rfl ?_
      refine rs_mv rfl rfl ?_
      refine rs_rem (c := 2) rfl rfl rfl (by decide) rfl ?_
      refine rs_ixarr_p rfl rfl rfl (by decide) (by decide) ?_
      refine rs_ixarr_p rfl rfl rfl (by decide) (by decide) ?_
      refine rs_ld_p rfl rfl rfl rfl rfl ?_
      refine rs_mv rfl rfl ?_
      refine rs_nil fun _ => ?_
      refine th_n ?_
      refine aw_seq ?_
      refine aw_reg ?_
      refine rs_mv rfl rfl ?_
      refine rs_mv rfl rfl ?_
      refine rs_neg rfl rfl (by omega) ?_
      refine rs_cmp_f rfl rfl rfl rfl (by omega) ?_
      refine rs_mv rfl rfl ?_
      refine rs_mv rfl rfl ?_
      refine rs_mv rfl rfl ?_
      refine rs_cmp_f rfl rfl rfl rfl (by omega) ?_
      refine rs_pick rfl rfl rfl ?_
      refine rs_nil fun _ => ?_
      refine th_n ?_
      refine aw_cond rfl (fun h => by cases h) (fun _ => ?_)
      refine aw_skip ?_
      refine in_n ?_
      refine th_n ?_
      refine aw_reg ?_
      refine rs_add rfl rfl rfl (by omega) ?_
      refine rs_mv rfl rfl ?_
      refine rs_nil fun _ => ?_
      refine th_n ?_
      exact ⟨8 + 1, by omega, by omega, weak_to (.cons rfl (rc_same rfl (.inl rfl)) (.cons rfl (rc_same rfl (.inl rfl)) (.cons rfl (rc_same rfl (.inl rfl)) (.nil)))) (.keep (rfl) rfl (.nil)) (fun i h => by cases h)⟩
  · replace h8 := of_decide_eq_false h8
    refine aw_exit ?_
    refine th_e ?_
    refine th_e ?_
    refine in_hit ?_
    refine th_n ?_
    refine aw_seq ?_
    refine aw_reg ?_
    refine rs_mv rfl rfl ?_
    refine rs_nil fun _ => ?_
    refine th_n ?_
    refine aw_ret ?_
    exact ret_pure rfl rfl rfl (.inr rfl)

def mct47 : MC := (.seq (.reg [⟨(some 2), (.box 67 9 (.t 0)), none, []⟩, ⟨(some 4), (.alloc 67 9 [(.int .i64 0), (.int .i64 0), (.int .i64 0), (.int .i64 0), (.int .i64 0), (.int .i64 0), (.int .i64 0), (.int .i64 0), (.int .i64 0)]), none, []⟩, ⟨(some 5), (.mv (.c (.int .i64 0))), none, []⟩] false) (.seq (.reg [⟨(some 10), (.mv (.t 1)), none, []⟩, ⟨(some 6), (.mv (.t 10)), none, [0, 0]⟩] false) (.seq (.seq (.reg [⟨(some 11), (.mv (.c (.int .i64 0))), none, []⟩] false) (.block 0 (.loop (.seq (.reg [⟨(some 12), (.bin .lss (.t 11) (.c (.int .i64 9))), none, []⟩] false) (.seq (.cond (.t 12) .skip (.exit 0)) (.seq (.block 1 (.seq (.reg [⟨(some 13), (.mv (.t 11)), none, []⟩, ⟨(some 7), (.mv (.t 13)), none, [0, 0]⟩] false) (.seq (.reg [⟨(some 14), (.mv (.t 7)), none, []⟩, ⟨(some 15), (.bin .quo (.t 14) (.c (.int .i64 3))), none, [0]⟩, ⟨(some 16), (.mv (.t 7)), none, []⟩, ⟨(some 17), (.bin .rem (.t 16) (.c (.int .i64 3))), none, [2]⟩, ⟨(some 18), (.ixarr 3 3 (.t 2) (.t 15)), none, [1]⟩, ⟨(some 19), (.ixarr 3 1 (.t 18) (.t 17)), none, [4, 3]⟩, ⟨(some 20), (.ld false 1 (.t 19)), none, [5]⟩, ⟨(some 21), (.mv (.t 7)), none, []⟩, ⟨(some 22), (.bin .quo (.t 21) (.c (.int .i64 3))), none, [7]⟩, ⟨(some 23), (.mv (.t 7)), none, []⟩, ⟨(some 24), (.bin .rem (.t 23) (.c (.int .i64 3))), none, [9]⟩, ⟨(some 25), (.ixarr 3 3 (.t 2) (.t 22)), none, [8]⟩, ⟨(some 26), (.ixarr 3 1 (.t 25) (.t 24)), none, [11, 10]⟩, ⟨(some 27), (.ld false 1 (.t 26)), none, [12]⟩, ⟨(some 28), (.un .neg (.t 27)), none, [13]⟩, ⟨(some 29), (.mx (.t 20) (.t 28)), none, [6, 14]⟩, ⟨(some 8), (.mv (.t 29)), none, [15, 0, 1, 2, 3, 4, 5, 6, 7, 8, 9, 10, 11, 12, 13, 14, 15]⟩] true) (.block 2 (.loop (.seq (.seq (.reg [⟨(some 30), (.mv (.t 8)), none, []⟩, ⟨(some 31), (.bin .gtr (.t 30) (.c (.int .i64 0))), none, [0]⟩] false) (.cond (.t 31) .skip (.exit 2))) (.block 3 (.reg [⟨(some 32), (.mv (.t 8)), none, []⟩, ⟨(some 33), (.mv (.t 6)), none, []⟩, ⟨(some 34), (.mv (.t 8)), none, []⟩, ⟨(some 35), (.bin .rem (.t 33) (.t 34)), none, [1, 2]⟩, ⟨(some 6), (.mv (.t 32)), none, [0, 0, 1]⟩, ⟨(some 8), (.mv (.t 35)), none, [3, 4, 0, 1, 2, 3, 4]⟩] true)))))))) (.reg [⟨(some 36), (.bin .add (.t 11) (.c (.int .i64 1))), none, []⟩, ⟨(some 11), (.mv (.t 36)), none, [0]⟩] false))))))) (.seq (.seq (.reg [⟨(some 37), (.mv (.c (.int .i64 0))), none, []⟩] false) (.block 4 (.loop (.seq (.reg [⟨(some 38), (.bin .lss (.t 37) (.c (.int .i64 9))), none, []⟩] false) (.seq (.cond (.t 38) .skip (.exit 4)) (.seq (.block 5 (.seq (.reg [⟨(some 39), (.mv (.t 37)), none, []⟩, ⟨(some 9), (.mv (.t 39)), none, [0, 0]⟩] false) (.reg [⟨(some 40), (.mv (.t 9)), none, []⟩, ⟨(some 41), (.bin .quo (.t 40) (.c (.int .i64 3))), none, [0]⟩, ⟨(some 42), (.mv (.t 9)), none, []⟩, ⟨(some 43), (.bin .rem (.t 42) (.c (.int .i64 3))), none, [2]⟩, ⟨(some 44), (.ixarr 3 3 (.t 2) (.t 41)), none, [1]⟩, ⟨(some 45), (.ixarr 3 1 (.t 44) (.t 43)), none, [4, 3]⟩, ⟨(some 46), (.ld false 1 (.t 45)), none, [5]⟩, ⟨(some 47), (.mv (.t 6)), none, []⟩, ⟨(some 48), (.bin .quo (.t 46) (.t 47)), none, [6, 7]⟩, ⟨(some 49), (.ixarr 3 3 (.t 2) (.t 41)), none, [1]⟩, ⟨(some 50), (.ixarr 3 1 (.t 49) (.t 43)), none, [9, 3, 0, 1, 2, 3, 4, 5, 6, 7, 8]⟩, ⟨none, (.st 1 (.t 50) (.t 48)), none, [10, 8, 0, 1, 2, 3, 4, 5, 6, 7, 8]⟩] true))) (.reg [⟨(some 51), (.bin .add (.t 37) (.c (.int .i64 1))), none, []⟩, ⟨(some 37), (.mv (.t 51)), none, [0]⟩] false))))))) (.seq (.reg [⟨(some 52), (.ld true 9 (.t 2)), none, []⟩, ⟨(some 53), (.mv (.t 1)), none, []⟩, ⟨(some 54), (.mv (.t 6)), none, []⟩, ⟨(some 55), (.bin .quo (.t 53) (.t 54)), none, [1, 2]⟩, ⟨none, (.st 9 (.t 4) (.t 52)), none, [0, 0]⟩, ⟨(some 5), (.mv (.t 55)), none, [3, 4, 0, 1, 2, 3, 4]⟩] true) .ret)))))
theorem mcOkt47 : (match Tryd.f47.body with | some c => compC Tryd.prog 56 c | none => none) = some mct47 := by kernel_rfl

set_option maxHeartbeats 1000000 in
theorem tc47 (M : Nat → Int) (hM : ∀ q, q < 9 → -1 ≤ M q ∧ M q ≤ 1) : FC Tryd.prog 47 [.agg (mL M), iv 1] [] (.tup [.agg (mL M), iv 1]) [] false := by
  refine fc_run (nt := 56) Tryd.func47 rfl rfl mcOkt47 (Nat.le_of_ble_eq_true rfl) ?_
  delta mct47
  refine aw_seq ?_
  refine aw_reg ?_
  refine rs_box rfl rfl rfl rfl rfl rfl ?_
  refine rs_alloc rfl rfl rfl ?_
  refine rs_mv rfl rfl ?_
  refine rs_nil fun _ => ?_
  refine th_n ?_
  refine aw_seq ?_
  refine aw_reg ?_
  refine rs_mv rfl rfl ?_
  refine rs_mv rfl rfl ?_
  refine rs_nil fun _ => ?_
  refine th_n ?_
  refine aw_seq ?_
  refine aw_seq ?_
  refine aw_reg ?_
  refine rs_mv rfl rfl ?_
  refine rs_nil fun _ => ?_
  refine th_n ?_
  refine aw_block ?_
  refine aw_fam (α := Nat) (fun k => 9 - k) (fun k => [(1, iv 1), (2, .ptr 2 0 0), (4, .ptr 4 0 0), (6, iv 1), (11, iv (((k) : Nat) : Int))]) (fun k => [(2, mO (mL M)), (4, mO [iv 0, iv 0, iv 0, iv 0, iv 0, iv 0, iv 0, iv 0, iv 0])]) (fun k => k ≤ 9) 0 (by omega)
    (weak_to (.cons rfl (rc_same rfl (.inl rfl)) (.cons rfl (rc_same rfl (.inl rfl)) (.cons rfl (rc_same rfl (.inl rfl)) (.cons rfl (rc_same rfl (.inl rfl)) (.cons rfl (rc_same rfl (.inl rfl)) (.nil)))))) (.keep (rfl) rfl (.keep (rfl) rfl (.nil))) (fun i h => by cases h)) ?_
  intro k hk
  refine aw_seq ?_
  refine aw_reg ?_
  refine rs_lss rfl rfl rfl ?_
  refine rs_nil fun _ => ?_
  refine th_n ?_
  refine aw_seq ?_
  refine aw_cond rfl (fun h12 => ?_) (fun h12 => ?_)
  · replace h12 := of_decide_eq_true h12
    refine aw_skip ?_
    refine th_n ?_
    refine aw_seq ?_
    refine aw_block ?_
    refine aw_seq ?_
    refine aw_reg ?_
    obtain rfl | rfl | rfl | rfl | rfl | rfl | rfl | rfl | rfl : k = 0 ∨ k = 1 ∨ k = 2 ∨ k = 3 ∨ k = 4 ∨ k = 5 ∨ k = 6 ∨ k = 7 ∨ k = 8 := by omega
    · have hq := hM 0 (by decide)
      refine rs_mv rfl rfl ?_
      refine rs_mv rfl rfl ?_
      refine rs_nil fun _ => ?_
      refine th_n ?_
      refine aw_seq ?_
      refine aw_draw hmix ?_
      refine rs_mv rfl rfl ?_
      refine rs_quow (c := 0) rfl rfl rfl (by decide) rfl ?_
      refine rs_mv rfl rfl ?_
      refine rs_rem (c := 0) rfl rfl rfl (by decide) rfl ?_
      refine rs_ixarr_p rfl rfl rfl (by decide) (by decide) ?_
      refine rs_ixarr_p rfl rfl rfl (by decide) (by decide) ?_
      refine rs_ld_p rfl rfl rfl rfl rfl ?_
      refine rs_mv rfl rfl ?_
      refine rs_quow (c := 0) rfl rfl rfl (by decide) rfl ?_
      refine rs_mv rfl rfl ?_
      refine rs_rem (c := 0) rfl rfl rfl (by decide) rfl ?_
      refine rs_ixarr_p rfl rfl rfl (by decide) (by decide) ?_
      refine rs_ixarr_p rfl rfl rfl (by decide) (by decide) ?_
      refine rs_ld_p rfl rfl rfl rfl rfl ?_
      refine rs_neg rfl rfl (by omega) ?_
      refine rs_mx (c := max (M 0) (-(M 0))) rfl rfl rfl rfl ?_
      refine rs_mv rfl rfl ?_
      refine rs_nil ⟨by kernel_rfl, fun _ => ?_⟩
      refine th_n ?_
      refine aw_block ?_
      refine aw_fam (α := Int) (fun a => a.toNat) (fun a => [(1, iv 1), (2, .ptr 2 0 0), (4, .ptr 4 0 0), (6, iv 1), (11, iv (((0) : Nat) : Int)), (8, iv a)]) (fun a => [(2, mO (mL M)), (4, mO [iv 0, iv 0, iv 0, iv 0, iv 0, iv 0, iv 0, iv 0, iv 0])]) (fun a => 0 ≤ a ∧ a ≤ 1) (max (M 0) (-(M 0))) (by omega)
        (weak_to (.cons rfl (rc_same rfl (.inl rfl)) (.cons rfl (rc_same rfl (.inl rfl)) (.cons rfl (rc_same rfl (.inl rfl)) (.cons rfl (rc_same rfl (.inl rfl)) (.cons rfl (rc_same rfl (.inl rfl)) (.cons rfl (rc_same rfl (.inl rfl)) (.nil))))))) (.keep (rfl) rfl (.keep (rfl) rfl (.nil))) (fun i h => by cases h)) ?_
      rintro a ⟨ha0, ha1⟩
      refine aw_seq ?_
      refine aw_seq ?_
      refine aw_reg ?_
      refine rs_mv rfl rfl ?_
      refine rs_gtr rfl rfl rfl ?_
      refine rs_nil fun _ => ?_
      refine th_n ?_
      refine aw_cond rfl (fun h31 => ?_) (fun h31 => ?_)
      · replace h31 := of_decide_eq_true h31
        refine aw_skip ?_
        refine th_n ?_
        refine aw_block ?_
        refine aw_draw hmix ?_
        refine rs_mv rfl rfl ?_
        refine rs_mv rfl rfl ?_
        refine rs_mv rfl rfl ?_
        refine rs_rem (c := 0) rfl rfl rfl (by omega) (by have : a = 1 := by omega
                                                          subst this; rfl) ?_
        refine rs_mv rfl rfl ?_
        refine rs_mv rfl rfl ?_
        refine rs_nil ⟨by kernel_rfl, fun _ => ?_⟩
        refine in_n ?_
        refine th_n ?_
        obtain rfl : a = 1 := by omega
        exact ⟨0, by omega, by omega, weak_to (.cons rfl (rc_same rfl (.inl rfl)) (.cons rfl (rc_same rfl (.inl rfl)) (.cons rfl (rc_same rfl (.inl rfl)) (.cons rfl (rc_same rfl (.inl rfl)) (.cons rfl (rc_same rfl (.inl rfl)) (.cons rfl (rc_same rfl (.inl rfl)) (.nil))))))) (.keep (rfl) rfl (.keep (rfl) rfl (.nil))) (fun i h => by cases h)⟩
      · replace h31 := of_decide_eq_false h31
        refine aw_exit ?_
        refine th_e ?_
        refine th_e ?_
        refine in_hit ?_
        refine in_n ?_
        refine th_n ?_
        refine aw_reg ?_
        refine rs_add rfl rfl rfl (by omega) ?_
        refine rs_mv rfl rfl ?_
        refine rs_nil fun _ => ?_
        refine th_n ?_
        exact ⟨0 + 1, by omega, by omega, weak_to (.cons rfl (rc_same rfl (.inl rfl)) (.cons rfl (rc_same rfl (.inl rfl)) (.cons rfl (rc_same rfl (.inl rfl)) (.cons rfl (rc_same rfl (.inl rfl)) (.cons rfl (rc_same rfl (.inl rfl)) (.nil)))))) (.keep (rfl) rfl (.keep (rfl) rfl (.nil))) (fun i h => by cases h)⟩
    · have hq := hM 1 (by decide)
      refine rs_mv rfl rfl ?_
      refine rs_mv rfl rfl ?_
      refine rs_nil fun _ => ?_
      refine th_n ?_
      refine aw_seq ?_
      refine aw_draw hmix ?_
      refine rs_mv rfl rfl ?_
      refine rs_quow (c := 0) rfl rfl rfl (by decide) rfl ?_
      refine rs_mv rfl rfl ?_
      refine rs_rem (c := 1) rfl rfl rfl (by decide) rfl ?_
      refine rs_ixarr_p rfl rfl rfl (by decide) (by decide) ?_
      refine rs_ixarr_p rfl rfl rfl (by decide) (by decide) ?_
      refine rs_ld_p rfl rfl rfl rfl rfl ?_
      refine rs_mv rfl rfl ?_
      refine rs_quow (c := 0) rfl rfl rfl (by decide) rfl ?_
      refine rs_mv rfl rfl ?_
      refine rs_rem (c := 1) rfl rfl rfl (by decide) rfl ?_
      refine rs_ixarr_p rfl rfl rfl (by decide) (by decide) ?_
      refine rs_ixarr_p rfl rfl rfl (by decide) (by decide) ?_
      refine rs_ld_p rfl rfl rfl rfl rfl ?_
      refine rs_neg rfl rfl (by omega) ?_
      refine rs_mx (c := max (M 1) (-(M 1))) rfl rfl rfl rfl ?_
      refine rs_mv rfl rfl ?_
      refine rs_nil ⟨by kernel_rfl, fun _ => ?_⟩
      refine th_n ?_
      refine aw_block ?_
      refine aw_fam (α := Int) (fun a => a.toNat) (fun a => [(1, iv 1), (2, .ptr 2 0 0), (4, .ptr 4 0 0), (6, iv 1), (11, iv (((1) : Nat) : Int)), (8, iv a)]) (fun a => [(2, mO (mL M)), (4, mO [iv 0, iv 0, iv 0, iv 0, iv 0, iv 0, iv 0, iv 0, iv 0])]) (fun a => 0 ≤ a ∧ a ≤ 1) (max (M 1) (-(M 1))) (by omega)
        (weak_to (.cons rfl (rc_same rfl (.inl rfl)) (.cons rfl (rc_same rfl (.inl rfl)) (.cons rfl (rc_same rfl (.inl rfl)) (.cons rfl (rc_same rfl (.inl rfl)) (.cons rfl (rc_same rfl (.inl rfl)) (.cons rfl (rc_same rfl (.inl rfl)) (.nil))))))) (.keep (rfl) rfl (.keep (rfl) rfl (.nil))) (fun i h => by cases h)) ?_
      rintro a ⟨ha0, ha1⟩
      refine aw_seq ?_
      refine aw_seq ?_
      refine aw_reg ?_
      refine rs_mv rfl rfl ?_
      refine rs_gtr rfl rfl rfl ?_
      refine rs_nil fun _ => ?_
      refine th_n ?_
      refine aw_cond rfl (fun h31 => ?_) (fun h31 => ?_)
      · replace h31 := of_decide_eq_true h31
        refine aw_skip ?_
        refine th_n ?_
        refine aw_block ?_
        refine aw_draw hmix ?_
        refine rs_mv rfl rfl ?_
        refine rs_mv rfl rfl ?_
        refine rs_mv rfl rfl ?_
        refine rs_rem (c := 0) rfl rfl rfl (by omega) (by have : a = 1 := by omega
                                                          subst this; rfl) ?_
        refine rs_mv rfl rfl ?_
        refine rs_mv rfl rfl ?_
        refine rs_nil ⟨by kernel_rfl, fun _ => ?_⟩
        refine in_n ?_
        refine th_n ?_
        obtain rfl : a = 1 := by omega
        exact ⟨0, by omega, by omega, weak_to (.cons rfl (rc_same rfl (.inl rfl)) (.cons rfl (rc_same rfl (.inl rfl)) (.cons rfl (rc_same rfl (.inl rfl)) (.cons rfl (rc_same rfl (.inl rfl)) (.cons rfl (rc_same rfl (.inl rfl)) (.cons rfl (rc_same rfl (.inl rfl)) (.nil))))))) (.keep (rfl) rfl (.keep (rfl) rfl (.nil))) (fun i h => by cases h)⟩
      · replace h31 := of_decide_eq_false h31
        refine aw_exit ?_
        refine th_e ?_
        refine th_e ?_
        refine in_hit ?_
        refine in_n ?_
        refine th_n ?_
        refine aw_reg ?_
        refine rs_add rfl rfl rfl (by omega) ?_
        refine rs_mv rfl rfl ?_
        refine rs_nil fun _ => ?_
        refine th_n ?_
        exact ⟨1 + 1, by omega, by omega, weak_to (.cons rfl (rc_same rfl (.inl rfl)) (.cons rfl (rc_same rfl (.inl rfl)) (.cons rfl (rc_same rfl (.inl rfl)) (.cons rfl (rc_same rfl (.inl rfl)) (.cons rfl (rc_same rfl (.inl rfl)) (.nil)))))) (.keep (rfl) rfl (.keep (rfl) rfl (.nil))) (fun i h => by cases h)⟩
    · have hq := hM 2 (by decide)
      refine rs_mv rfl rfl ?_
      refine rs_mv rfl rfl ?_
      refine rs_nil fun _ => ?_
      refine th_n ?_
      refine aw_seq ?_
      refine aw_draw hmix ?_
      refine rs_mv rfl rfl ?_
      refine rs_quow (c := 0) rfl rfl rfl (by decide) rfl ?_
      refine rs_mv rfl rfl ?_
      refine rs_rem (c := 2) rfl rfl rfl (by decide) rfl ?_
      refine rs_ixarr_p rfl rfl rfl (by decide) (by decide) ?_
      refine rs_ixarr_p rfl rfl rfl (by decide) (by decide) ?_
      refine rs_ld_p rfl rfl rfl rfl rfl ?_
      refine rs_mv rfl rfl ?_
      refine rs_quow (c := 0) rfl rfl rfl (by decide) rfl ?_
      refine rs_mv rfl rfl ?_
      refine rs_rem (c := 2) rfl rfl rfl (by decide) rfl ?_
      refine rs_ixarr_p rfl rfl rfl (by decide) (by decide) ?_
      refine rs_ixarr_p rfl rfl rfl (by decide) (by decide) ?_
      refine rs_ld_p rfl rfl rfl rfl rfl ?_
      refine rs_neg rfl rfl (by omega) ?_
      refine rs_mx (c := max (M 2) (-(M 2))) rfl rfl rfl rfl ?_
      refine rs_mv rfl rfl ?_
      refine rs_nil ⟨by kernel_rfl, fun _ => ?_⟩
      refine th_n ?_
      refine aw_block ?_
      refine aw_fam (α := Int) (fun a => a.toNat) (fun a => [(1, iv 1), (2, .ptr 2 0 0), (4, .ptr 4 0 0), (6, iv 1), (11, iv (((2) : Nat) : Int)), (8, iv a)]) (fun a => [(2, mO (mL M)), (4, mO [iv 0, iv 0, iv 0, iv 0, iv 0, iv 0, iv 0, iv 0, iv 0])]) (fun a => 0 ≤ a ∧ a ≤ 1) (max (M 2) (-(M 2))) (by omega)
        (weak_to (.cons rfl (rc_same rfl (.inl rfl)) (.cons rfl (rc_same rfl (.inl rfl)) (.cons rfl (rc_same rfl (.inl rfl)) (.cons rfl (rc_same rfl (.inl rfl)) (.cons rfl (rc_same rfl (.inl rfl)) (.cons rfl (rc_same rfl (.inl rfl)) (.nil))))))) (.keep (rfl) rfl (.keep (rfl) rfl (.nil))) (fun i h => by cases h)) ?_
      rintro a ⟨ha0, ha1⟩
      refine aw_seq ?_
      refine aw_seq ?_
      refine aw_reg ?_
      refine rs_mv rfl rfl ?_
      refine rs_gtr rfl rfl rfl ?_
      refine rs_nil fun _ => ?_
      refine th_n ?_
      refine aw_cond rfl (fun h31 => ?_) (fun h31 => ?_)
      · replace h31 := of_decide_eq_true h31
        refine aw_skip ?_
        refine th_n ?_
        refine aw_block ?_
        refine aw_draw hmix ?_
        refine rs_mv rfl rfl ?_
        refine rs_mv rfl rfl ?_
        refine rs_mv rfl rfl ?_
        refine rs_rem (c := 0) rfl rfl rfl (by omega) (by have : a = 1 := by omega
                                                          subst this; rfl) ?_
        refine rs_mv rfl rfl ?_
        refine rs_mv rfl rfl ?_
        refine rs_nil ⟨by kernel_rfl, fun _ => ?_⟩
        refine in_n ?_
        refine th_n ?_
        obtain rfl : a = 1 := by omega
        exact ⟨0, by omega, by omega, weak_to (.cons rfl (rc_same rfl (.inl rfl)) (.cons rfl (rc_same rfl (.inl rfl)) (.cons rfl (rc_same rfl (.inl rfl)) (.cons rfl (rc_same rfl (.inl rfl)) (.cons rfl (rc_same rfl (.inl rfl)) (.cons rfl (rc_same rfl (.inl rfl)) (.nil))))))) (.keep (rfl) rfl (.keep (rfl) rfl (.nil))) (fun i h => by cases h)⟩
      · replace h31 := of_decide_eq_false h31
        refine aw_exit ?_
        refine th_e ?_
        refine th_e ?_
        refine in_hit ?_
        refine in_n ?_
        refine th_n ?_
        refine aw_reg ?_
        refine rs_add rfl rfl rfl (by omega) ?_
        refine rs_mv rfl rfl ?_
        refine rs_nil fun _ => ?_
        refine th_n ?_
        exact ⟨2 + 1, by omega, by omega, weak_to (.cons rfl (rc_same rfl (.inl rfl)) (.cons rfl (rc_same rfl (.inl rfl)) (.cons rfl (rc_same rfl (.inl rfl)) (.cons rfl (rc_same rfl (.inl rfl)) (.cons rfl (rc_same rfl (.inl rfl)) (.nil)))))) (.keep (rfl) rfl (.keep (rfl) rfl (.nil))) (fun i h => by cases h)⟩
    · have hq := hM 3 (by decide)
      refine rs_mv rfl rfl ?_
      refine rs_mv rfl rfl ?_
      refine rs_nil fun _ => ?_
      refine th_n ?_
      refine aw_seq ?_
      refine aw_draw hmix ?_
      refine rs_mv rfl rfl ?_
      refine rs_quow (c := 1) rfl rfl rfl (by decide) rfl ?_
      refine rs_mv rfl rfl ?_
      refine rs_rem (c := 0) rfl rfl rfl (by decide) rfl ?_
      refine rs_ixarr_p rfl rfl rfl (by decide) (by decide) ?_
      refine rs_ixarr_p rfl rfl rfl (by decide) (by decide) ?_
      refine rs_ld_p rfl rfl rfl rfl rfl ?_
      refine rs_mv rfl rfl ?_
      refine rs_quow (c := 1) rfl rfl rfl (by decide) rfl ?_
      refine rs_mv rfl rfl ?_
      refine rs_rem (c := 0) rfl rfl rfl (by decide) rfl ?_
      refine rs_ixarr_p rfl rfl rfl (by decide) (by decide) ?_
      refine rs_ixarr_p rfl rfl rfl (by decide) (by decide) ?_
      refine rs_ld_p rfl rfl rfl rfl rfl ?_
      refine rs_neg rfl rfl (by omega) ?_
      refine rs_mx (c := max (M 3) (-(M 3))) rfl rfl rfl rfl ?_
      refine rs_mv rfl rfl ?_
      refine rs_nil ⟨by kernel_rfl, fun _ => ?_⟩
      refine th_n ?_
      refine aw_block ?_
      refine aw_fam (α := Int) (fun a => a.toNat) (fun a => [(1, iv 1), (2, .ptr 2 0 0), (4, .ptr 4 0 0), (6, iv 1), (11, iv (((3) : Nat) : Int)), (8, iv a)]) (fun a => [(2, mO (mL M)), (4, mO [iv 0, iv 0, iv 0, iv 0, iv 0, iv 0, iv 0, iv 0, iv 0])]) (fun a => 0 ≤ a ∧ a ≤ 1) (max (M 3) (-(M 3))) (by omega)
        (weak_to (.cons rfl (rc_same rfl (.inl rfl)) (.cons rfl (rc_same rfl (.inl rfl)) (.cons rfl (rc_same rfl (.inl rfl)) (.cons rfl (rc_same rfl (.inl rfl)) (.cons rfl (rc_same rfl (.inl rfl)) (.cons rfl (rc_same rfl (.inl rfl)) (.nil))))))) (.keep (rfl) rfl (.keep (rfl) rfl (.nil))) (fun i h => by cases h)) ?_
      rintro a ⟨ha0, ha1⟩
      refine aw_seq ?_
      refine aw_seq ?_
      refine aw_reg ?_
      refine rs_mv rfl rfl ?_
      refine rs_gtr rfl rfl rfl ?_
      refine rs_nil fun _ => ?_
      refine th_n ?_
      refine aw_cond rfl (fun h31 => ?_) (fun h31 => ?_)
      · replace h31 := of_decide_eq_true h31
        refine aw_skip ?_
        refine th_n ?_
        refine aw_block ?_
        refine aw_draw hmix ?_
        refine rs_mv rfl rfl ?_
        refine rs_mv rfl rfl ?_
        refine rs_mv rfl rfl ?_
        refine rs_rem (c := 0) rfl rfl rfl (by omega) (by have : a = 1 := by omega
                                                          subst this; rfl) ?_
        refine rs_mv rfl rfl ?_
        refine rs_mv rfl rfl ?_
        refine rs_nil ⟨by kernel_rfl, fun _ => ?_⟩
        refine in_n ?_
        refine th_n ?_
        obtain rfl : a = 1 := by omega
        exact ⟨0, by omega, by omega, weak_to (.cons rfl (rc_same rfl (.inl rfl)) (.cons rfl (rc_same rfl (.inl rfl)) (.cons rfl (rc_same rfl (.inl rfl)) (.cons rfl (rc_same rfl (.inl rfl)) (.cons rfl (rc_same rfl (.inl rfl)) (.cons rfl (rc_same rfl (.inl rfl)) (.nil))))))) (.keep (rfl) rfl (.keep (rfl) rfl (.nil))) (fun i h => by cases h)⟩
      · replace h31 := of_decide_eq_false h31
        refine aw_exit ?_
        refine th_e ?_
        refine th_e ?_
        refine in_hit ?_
        refine in_n ?_
        refine th_n ?_
        refine aw_reg ?_
        refine rs_add rfl rfl rfl (by omega) ?_
        refine rs_mv rfl rfl ?_
        refine rs_nil fun _ => ?_
        refine th_n ?_
        exact ⟨3 + 1, by omega, by omega, weak_to (.cons rfl (rc_same rfl (.inl rfl)) (.cons rfl (rc_same rfl (.inl rfl)) (.cons rfl (rc_same rfl (.inl rfl)) (.cons rfl (rc_same rfl (.inl rfl)) (.cons rfl (rc_same rfl (.inl rfl)) (.nil)))))) (.keep (rfl) rfl (.keep (rfl) rfl (.nil))) (fun i h => by cases h)⟩
    · have hq := hM 4 (by decide)
      refine rs_mv rfl rfl ?_
      refine rs_mv rfl rfl ?_
      refine rs_nil fun _ => ?_
      refine th_n ?_
      refine aw_seq ?_
      refine aw_draw hmix ?_
      refine rs_mv rfl rfl ?_
      refine rs_quow (c := 1) rfl rfl rfl (by decide) rfl ?_
      refine rs_mv rfl rfl ?_
      refine rs_rem (c := 1) rfl rfl rfl (by decide) rfl ?_
      refine rs_ixarr_p rfl rfl rfl (by decide) (by decide) ?_
      refine rs_ixarr_p rfl rfl rfl (by decide) (by decide) ?_
      refine rs_ld_p rfl rfl rfl rfl rfl ?_
      refine rs_mv rfl rfl ?_
      refine rs_quow (c := 1) rfl rfl rfl (by decide) rfl ?_
      refine rs_mv rfl rfl ?_
      refine rs_rem (c := 1) rfl rfl rfl (by decide) rfl ?_
      refine rs_ixarr_p rfl rfl rfl (by decide) (by decide) ?_
      refine rs_ixarr_p rfl rfl rfl (by decide) (by decide) ?_
      refine rs_ld_p rfl rfl rfl rfl rfl ?_
      refine rs_neg rfl rfl (by omega) ?_
      refine rs_mx (c := max (M 4) (-(M 4))) rfl rfl rfl rfl ?_
      refine rs_mv rfl rfl ?_
      refine rs_nil ⟨by kernel_rfl, fun _ => ?_⟩
      refine th_n ?_
      refine aw_block ?_
      refine aw_fam (α := Int) (fun a => a.toNat) (fun a => [(1, iv 1), (2, .ptr 2 0 0), (4, .ptr 4 0 0), (6, iv 1), (11, iv (((4) : Nat) : Int)), (8, iv a)]) (fun a => [(2, mO (mL M)), (4, mO [iv 0, iv 0, iv 0, iv 0, iv 0, iv 0, iv 0, iv 0, iv 0])]) (fun a => 0 ≤ a ∧ a ≤ 1) (max (M 4) (-(M 4))) (by omega)
        (weak_to (.cons rfl (rc_same rfl (.inl rfl)) (.cons rfl (rc_same rfl (.inl rfl)) (.cons rfl (rc_same rfl (.inl rfl)) (.cons rfl (rc_same rfl (.inl rfl)) (.cons rfl (rc_same rfl (.inl rfl)) (.cons rfl (rc_same rfl (.inl rfl)) (.nil))))))) (.keep (rfl) rfl (.keep (rfl) rfl (.nil))) (fun i h => by cases h)) ?_
      rintro a ⟨ha0, ha1⟩
      refine aw_seq ?_
      refine aw_seq ?_
      refine aw_reg ?_
      refine rs_mv rfl rfl ?_
      refine rs_gtr rfl rfl rfl ?_
      refine rs_nil fun _ => ?_
      refine th_n ?_
      refine aw_cond rfl (fun h31 => ?_) (fun h31 => ?_)
      · replace h31 := of_decide_eq_true h31
        refine aw_skip ?_
        refine th_n ?_
        refine aw_block ?_
        refine aw_draw hmix ?_
        refine rs_mv rfl rfl ?_
        refine rs_mv rfl rfl ?_
        refine rs_mv rfl rfl ?_
        refine rs_rem (c := 0) rfl rfl rfl (by omega) (by have : a = 1 := by omega
                                                          subst this; rfl) ?_
        refine rs_mv rfl rfl ?_
        refine rs_mv rfl rfl ?_
        refine rs_nil ⟨by kernel_rfl, fun _ => ?_⟩
        refine in_n ?_
        refine th_n ?_
        obtain rfl : a = 1 := by omega
        exact ⟨0, by omega, by omega, weak_to (.cons rfl (rc_same rfl (.inl rfl)) (.cons rfl (rc_same rfl (.inl rfl)) (.cons rfl (rc_same rfl (.inl rfl)) (.cons rfl (rc_same rfl (.inl rfl)) (.cons rfl (rc_same rfl (.inl rfl)) (.cons rfl (rc_same rfl (.inl rfl)) (.nil))))))) (.keep (rfl) rfl (.keep (rfl) rfl (.nil))) (fun i h => by cases h)⟩
      · replace h31 := of_decide_eq_false h31
        refine aw_exit ?_
        refine th_e ?_
        refine th_e ?_
        refine in_hit ?_
        refine in_n ?_
        refine th_n ?_
        refine aw_reg ?_
        refine rs_add rfl rfl rfl (by omega) ?_
        refine rs_mv rfl rfl ?_
        refine rs_nil fun _ => ?_
        refine th_n ?_
        exact ⟨4 + 1, by omega, by omega, weak_to (.cons rfl (rc_same rfl (.inl rfl)) (.cons rfl (rc_same rfl (.inl rfl)) (.cons rfl (rc_same rfl (.inl rfl)) (.cons rfl (rc_same rfl (.inl rfl)) (.cons rfl (rc_same rfl (.inl rfl)) (.nil)))))) (.keep (rfl) rfl (.keep (rfl) rfl (.nil))) (fun i h => by cases h)⟩
    · have hq := hM 5 (by decide)
      refine rs_mv rfl rfl ?_
      refine rs_mv rfl rfl ?_
      refine rs_nil fun _ => ?_
      refine th_n ?_
      refine aw_seq ?_
      refine aw_draw hmix ?_
      refine rs_mv rfl rfl ?_
      refine rs_quow (c := 1) rfl rfl rfl (by decide) rfl ?_
      refine rs_mv rfl rfl ?_
      refine rs_rem (c := 2) rfl rfl rfl (by decide) rfl ?_
      refine rs_ixarr_p rfl rfl rfl (by decide) (by decide) ?_
      refine rs_ixarr_p rfl rfl rfl (by decide) (by decide) ?_
      refine rs_ld_p rfl rfl rfl rfl rfl ?_
      refine rs_mv rfl rfl ?_
      refine rs_quow (c := 1) rfl rfl rfl (by decide) rfl ?_
      refine rs_mv rfl rfl ?_
      refine rs_rem (c := 2) rfl rfl rfl (by decide) rfl ?_
      refine rs_ixarr_p rfl rfl rfl (by decide) (by decide) ?_
      refine rs_ixarr_p rfl rfl rfl (by decide) (by decide) ?_
      refine rs_ld_p rfl rfl rfl rfl rfl ?_
      refine rs_neg rfl rfl (by omega) ?_
      refine rs_mx (c := max (M 5) (-(M 5))) rfl rfl rfl rfl ?_
      refine rs_mv rfl rfl ?_
      refine rs_nil ⟨by kernel_rfl, fun _ => ?_⟩
      refine th_n ?_
      refine aw_block ?_
      refine aw_fam (α := Int) (fun a => a.toNat) (fun a => [(1, iv 1), (2, .ptr 2 0 0), (4, .ptr 4 0 0), (6, iv 1), (11, iv (((5) : Nat) : Int)), (8, iv a)]) (fun a => [(2, mO (mL M)), (4, mO [iv 0, iv 0, iv 0, iv 0, iv 0, iv 0, iv 0, iv 0, iv 0])]) (fun a => 0 ≤ a ∧ a ≤ 1) (max (M 5) (-(M 5))) (by omega)
        (weak_to (.cons rfl (rc_same rfl (.inl rfl)) (.cons rfl (rc_same rfl (.inl rfl)) (.cons rfl (rc_same rfl (.inl rfl)) (.cons rfl (rc_same rfl (.inl rfl)) (.cons rfl (rc_same rfl (.inl rfl)) (.cons rfl (rc_same rfl (.inl rfl)) (.nil))))))) (.keep (rfl) rfl (.keep (rfl) rfl (.nil))) (fun i h => by cases h)) ?_
      rintro a ⟨ha0, ha1⟩
      refine aw_seq ?_
      refine aw_seq ?_
      refine aw_reg ?_
      refine rs_mv rfl rfl ?_
      refine rs_gtr rfl rfl rfl ?_
      refine rs_nil fun _ => ?_
      refine th_n ?_
      refine aw_cond rfl (fun h31 => ?_) (fun h31 => ?_)
      · replace h31 := of_decide_eq_true h31
        refine aw_skip ?_
        refine th_n ?_
        refine aw_block ?_
        refine aw_draw hmix ?_
        refine rs_mv rfl rfl ?_
        refine rs_mv rfl rfl ?_
        refine rs_mv rfl rfl ?_
        refine rs_rem (c := 0) rfl rfl rfl (by omega) (by have : a = 1 := by omega
                                                          subst this; rfl) ?_
        refine rs_mv rfl rfl ?_
        refine rs_mv rfl rfl ?_
        refine rs_nil ⟨by kernel_rfl, fun _ => ?_⟩
        refine in_n ?_
        refine th_n ?_
        obtain rfl : a = 1 := by omega
        exact ⟨0, by omega, by omega, weak_to (.cons rfl (rc_same rfl (.inl rfl)) (.cons rfl (rc_same rfl (.inl rfl)) (.cons rfl (rc_same rfl (.inl rfl)) (.cons rfl (rc_same rfl (.inl rfl)) (.cons rfl (rc_same rfl (.inl rfl)) (.cons rfl (rc_same rfl (.inl rfl)) (.nil))))))) (.keep (rfl) rfl (.keep (rfl) rfl (.nil))) (fun i h => by cases h)⟩
      · replace h31 := of_decide_eq_false h31
        refine aw_exit ?_
        refine th_e ?_
        refine th_e ?_
        refine in_hit ?_
        refine in_n ?_
        refine th_n ?_
        refine aw_reg ?_
        refine rs_add rfl rfl rfl (by omega) ?_
        refine rs_mv rfl rfl ?_
        refine rs_nil fun _ => ?_
        refine th_n ?_
        exact ⟨5 + 1, by omega, by omega, weak_to (.cons rfl (rc_same rfl (.inl rfl)) (.cons rfl (rc_same rfl (.inl rfl)) (.cons rfl (rc_same rfl (.inl rfl)) (.cons rfl (rc_same rfl (.inl rfl)) (.cons rfl (rc_same rfl (.inl rfl)) (.nil)))))) (.keep (rfl) rfl (.keep (rfl) rfl (.nil))) (fun i h => by cases h)⟩
    · have hq := hM 6 (by decide)
      refine rs_mv rfl rfl ?_
      refine rs_mv rfl rfl ?_
      refine rs_nil fun _ => ?_
      refine th_n ?_
      refine aw_seq ?_
      refine aw_draw hmix ?_
      refine rs_mv rfl rfl ?_
      refine rs_quow (c := 2) rfl rfl rfl (by decide) rfl ?_
      refine rs_mv rfl rfl ?_
      refine rs_rem (c := 0) rfl rfl rfl (by decide) rfl ?_
      refine rs_ixarr_p rfl rfl rfl (by decide) (by decide) ?_
      refine rs_ixarr_p rfl rfl rfl (by decide) (by decide) ?_
      refine rs_ld_p rfl rfl rfl rfl rfl ?_
      refine rs_mv rfl rfl ?_
      refine rs_quow (c := 2) rfl rfl rfl (by decide) rfl ?_
      refine rs_mv rfl rfl ?_
      refine rs_rem (c := 0) rfl rfl rfl (by decide) rfl ?_
      refine rs_ixarr_p rfl rfl rfl (by decide) (by decide) ?_
      refine rs_ixarr_p rfl rfl rfl (by decide) (by decide) ?_
      refine rs_ld_p rfl rfl rfl rfl rfl ?_
      refine rs_neg rfl rfl (by omega) ?_
      refine rs_mx (c := max (M 6) (-(M 6))) rfl rfl rfl rfl ?_
      refine rs_mv rfl rfl ?_
      refine rs_nil ⟨by kernel_rfl, fun _ => ?_⟩
      refine th_n ?_
      refine aw_block ?_
      refine aw_fam (α := Int) (fun a => a.toNat) (fun a => [(1, iv 1), (2, .ptr 2 0 0), (4, .ptr 4 0 0), (6, iv 1), (11, iv (((6) : Nat) : Int)), (8, iv a)]) (fun a => [(2, mO (mL M)), (4, mO [iv 0, iv 0, iv 0, iv 0, iv 0, iv 0, iv 0, iv 0, iv 0])]) (fun a => 0 ≤ a ∧ a ≤ 1) (max (M 6) (-(M 6))) (by omega)
        (weak_to (.cons rfl (rc_same rfl (.inl rfl)) (.cons rfl (rc_same rfl (.inl rfl)) (.cons rfl (rc_same rfl (.inl rfl)) (.cons rfl (rc_same rfl (.inl rfl)) (.cons rfl (rc_same rfl (.inl rfl)) (.cons rfl (rc_same rfl (.inl rfl)) (.nil))))))) (.keep (rfl) rfl (.keep (rfl) rfl (.nil))) (fun i h => by cases h)) ?_
      rintro a ⟨ha0, ha1⟩
      refine aw_seq ?_
      refine aw_seq ?_
      refine aw_reg ?_
      refine rs_mv rfl rfl ?_
      refine rs_gtr rfl rfl rfl ?_
      refine rs_nil fun _ => ?_
      refine th_n ?_
      refine aw_cond rfl (fun h31 => ?_) (fun h31 => ?_)
      · replace h31 := of_decide_eq_true h31
        refine aw_skip ?_
        refine th_n ?_
        refine aw_block ?_
        refine aw_draw hmix ?_
        refine rs_mv rfl rfl ?_
        refine rs_mv rfl rfl ?_
        refine rs_mv rfl rfl ?_
        refine rs_rem (c := 0) rfl rfl rfl (by omega) (by have : a = 1 := by omega
                                                          subst this; rfl) ?_
        refine rs_mv rfl rfl ?_
        refine rs_mv rfl rfl ?_
        refine rs_nil ⟨by kernel_rfl, fun _ => ?_⟩
        refine in_n ?_
        refine th_n ?_
        obtain rfl : a = 1 := by omega
        exact ⟨0, by omega, by omega, weak_to (.cons rfl (rc_same rfl (.inl rfl)) (.cons rfl (rc_same rfl (.inl rfl)) (.cons rfl (rc_same rfl (.inl rfl)) (.cons rfl (rc_same rfl (.inl rfl)) (.cons rfl (rc_same rfl (.inl rfl)) (.cons rfl (rc_same rfl (.inl rfl)) (.nil))))))) (.keep (rfl) rfl (.keep (rfl) rfl (.nil))) (fun i h => by cases h)⟩
      · replace h31 := of_decide_eq_false h31
        refine aw_exit ?_
        refine th_e ?_
        refine th_e ?_
        refine in_hit ?_
        refine in_n ?_
        refine th_n ?_
        refine aw_reg ?_
        refine rs_add rfl rfl rfl (by omega) ?_
        refine rs_mv rfl rfl ?_
        refine rs_nil fun _ => ?_
        refine th_n ?_
        exact ⟨6 + 1, by omega, by omega, weak_to (.cons rfl (rc_same rfl (.inl rfl)) (.cons rfl (rc_same rfl (.inl rfl)) (.cons rfl (rc_same rfl (.inl rfl)) (.cons rfl (rc_same rfl (.inl rfl)) (.cons rfl (rc_same rfl (.inl rfl)) (.nil)))))) (.keep (rfl) rfl (.keep (rfl) rfl (.nil))) (fun i h => by cases h)⟩
    · have hq := hM 7 (by decide)
      refine rs_mv rfl rfl ?_
      refine rs_mv rfl rfl ?_
      refine rs_nil fun _ => ?_
      refine th_n ?_
      refine aw_seq ?_
      refine aw_draw hmix ?_
      refine rs_mv rfl rfl ?_
      refine rs_quow (c := 2) rfl rfl rfl (by decide) rfl ?_
      refine rs_mv rfl rfl ?_
      refine rs_rem (c := 1) rfl rfl rfl (by decide) rfl ?_
      refine rs_ixarr_p rfl rfl rfl (by decide) (by decide) ?_
      refine rs_ixarr_p rfl rfl rfl (by decide) (by decide) ?_
      refine rs_ld_p rfl rfl rfl rfl rfl ?_
      refine rs_mv rfl rfl ?_
      refine rs_quow (c := 2) rfl rfl rfl (by decide) rfl ?_
      refine rs_mv rfl rfl ?_
      refine rs_rem (c := 1) rfl rfl rfl (by decide) rfl ?_
      refine rs_ixarr_p rfl rfl rfl (by decide) (by decide) ?_
      refine rs_ixarr_p rfl rfl rfl (by decide) (by decide) ?_
      refine rs_ld_p rfl rfl rfl rfl rfl ?_
      refine rs_neg rfl rfl (by omega) ?_
      refine rs_mx (c := max (M 7) (-(M 7))) rfl rfl rfl rfl ?_
      refine rs_mv rfl rfl ?_
      refine rs_nil ⟨by kernel_rfl, fun _ => ?_⟩
      refine th_n ?_
      refine aw_block ?_
      refine aw_fam (α := Int) (fun a => a.toNat) (fun a => [(1, iv 1), (2, .ptr 2 0 0), (4, .ptr 4 0 0), (6, iv 1), (11, iv (((7) : Nat) : Int)), (8, iv a)]) (fun a => [(2, mO (mL M)), (4, mO [iv 0, iv 0, iv 0, iv 0, iv 0, iv 0, iv 0, iv 0, iv 0])]) (fun a => 0 ≤ a ∧ a ≤ 1) (max (M 7) (-(M 7))) (by omega)
        (weak_to (.cons rfl (rc_same rfl (.inl rfl)) (.cons rfl (rc_same rfl (.inl rfl)) (.cons rfl (rc_same rfl (.inl rfl)) (.cons rfl (rc_same rfl (.inl rfl)) (.cons rfl (rc_same rfl (.inl rfl)) (.cons rfl (rc_same rfl (.inl rfl)) (.nil))))))) (.keep (rfl) rfl (.keep (rfl) rfl (.nil))) (fun i h => by cases h)) ?_
      rintro a ⟨ha0, ha1⟩
      refine aw_seq ?_
      refine aw_seq ?_
      refine aw_reg ?_
      refine rs_mv rfl rfl ?_
      refine rs_gtr rfl rfl rfl ?_
      refine rs_nil fun _ => ?_
      refine th_n ?_
      refine aw_cond rfl (fun h31 => ?_) (fun h31 => ?_)
      · replace h31 := of_decide_eq_true h31
        refine aw_skip ?_
        refine th_n ?_
        refine aw_block ?_
        refine aw_draw hmix ?_
        refine rs_mv rfl rfl ?_
        refine rs_mv rfl rfl ?_
        refine rs_mv rfl rfl ?_
        refine rs_rem (c := 0) rfl rfl rfl (by omega) (by have : a = 1 := by omega
                                                          subst this; rfl) ?_
        refine rs_mv rfl rfl ?_
        refine rs_mv rfl rfl ?_
        refine rs_nil ⟨by kernel_rfl, fun _ => ?_⟩
        refine in_n ?_
        refine th_n ?_
        obtain rfl : a = 1 := by omega
        exact ⟨0, by omega, by omega, weak_to (.cons rfl (rc_same rfl (.inl rfl)) (.cons rfl (rc_same rfl (.inl rfl)) (.cons rfl (rc_same rfl (.inl rfl)) (.cons rfl (rc_same rfl (.inl rfl)) (.cons rfl (rc_same rfl (.inl rfl)) (.cons rfl (rc_same rfl (.inl rfl)) (.nil))))))) (.keep (rfl) rfl (.keep (rfl) rfl (.nil))) (fun i h => by cases h)⟩
      · replace h31 := of_decide_eq_false h31
        refine aw_exit ?_
        refine th_e ?_
        refine th_e ?_
        refine in_hit ?_
        refine in_n ?_
        refine th_n ?_
        refine aw_reg ?_
        refine rs_add rfl rfl rfl (by omega) ?_
        refine rs_mv rfl rfl ?_
        refine rs_nil fun _ => ?_
        refine th_n ?_
        exact ⟨7 + 1, by omega, by omega, weak_to (.cons rfl (rc_same rfl (.inl rfl)) (.cons rfl (rc_same rfl (.inl rfl)) (.cons rfl (rc_same rfl (.inl rfl)) (.cons rfl (rc_same rfl (.inl rfl)) (.cons rfl (rc_same rfl (.inl rfl)) (.nil)))))) (.keep (rfl) rfl (.keep (rfl) rfl (.nil))) (fun i h => by cases h)⟩
    · have hq := hM 8 (by decide)
      refine rs_mv rfl rfl ?_
      refine rs_mv rfl rfl ?_
      refine rs_nil fun _ => ?_
      refine th_n ?_
      refine aw_seq ?_
      refine aw_draw hmix ?_
      refine rs_mv rfl rfl ?_
      refine rs_quow (c := 2) rfl rfl rfl (by decide) rfl ?_
      refine rs_mv rfl rfl ?_
      refine rs_rem (c := 2) rfl rfl rfl (by decide) rfl ?_
      refine rs_ixarr_p rfl rfl rfl (by decide) (by decide) ?_
      refine rs_ixarr_p rfl rfl rfl (by decide) (by decide) ?_
      refine rs_ld_p rfl rfl rfl rfl rfl ?_
      refine rs_mv rfl rfl ?_
      refine rs_quow (c := 2) rfl rfl rfl (by decide) rfl ?_
      refine rs_mv rfl rfl ?_
      refine rs_rem (c := 2) rfl rfl rfl (by decide) rfl ?_
      refine rs_ixarr_p rfl rfl rfl (by decide) (by decide) ?_
      refine rs_ixarr_p rfl rfl rfl (by decide) (by decide) ?_
      refine rs_ld_p rfl rfl rfl rfl rfl ?_
      refine rs_neg rfl rfl (by omega) ?_
      refine rs_mx (c := max (M 8) (-(M 8))) rfl rfl rfl rfl ?_
      refine rs_mv rfl rfl ?_
      refine rs_nil ⟨by kernel_rfl, fun _ => ?_⟩
      refine th_n ?_
      refine aw_block ?_
      refine aw_fam (α := Int) (fun a => a.toNat) (fun a => [(1, iv 1), (2, .ptr 2 0 0), (4, .ptr 4 0 0), (6, iv 1), (11, iv (((8) : Nat) : Int)), (8, iv a)]) (fun a => [(2, mO (mL M)), (4, mO [iv 0, iv 0, iv 0, iv 0, iv 0, iv 0, iv 0, iv 0, iv 0])]) (fun a => 0 ≤ a ∧ a ≤ 1) (max (M 8) (-(M 8))) (by omega)
        (weak_to (.cons rfl (rc_same rfl (.inl rfl)) (.cons rfl (rc_same rfl (.inl rfl)) (.cons rfl (rc_same rfl (.inl rfl)) (.cons rfl (rc_same rfl (.inl rfl)) (.cons rfl (rc_same rfl (.inl rfl)) (.cons rfl (rc_same rfl (.inl rfl)) (.nil))))))) (.keep (rfl) rfl (.keep (rfl) rfl (.nil))) (fun i h => by cases h)) ?_
      rintro a ⟨ha0, ha1⟩
      refine aw_seq ?_
      refine aw_seq ?_
      refine aw_reg ?_
      refine rs_mv rfl rfl ?_
      refine rs_gtr rfl rfl rfl ?_
      refine rs_nil fun _ => ?_
      refine th_n ?_
      refine aw_cond rfl (fun h31 => ?_) (fun h31 => ?_)
      · replace h31 := of_decide_eq_true h31
        refine aw_skip ?_
        refine th_n ?_
        refine aw_block ?_
        refine aw_draw hmix ?_
        refine rs_mv rfl rfl ?_
        refine rs_mv rfl rfl ?_
        refine rs_mv rfl rfl ?_
        refine rs_rem (c := 0) rfl rfl rfl (by omega) (by have : a = 1 := by omega
                                                          subst this; rfl) ?_
        refine rs_mv rfl rfl ?_
        refine rs_mv rfl rfl ?_
        refine rs_nil ⟨by kernel_rfl, fun _ => ?_⟩
        refine in_n ?_
        refine th_n ?_
        obtain rfl : a = 1 := by omega
        exact ⟨0, by omega, by omega, weak_to (.cons rfl (rc_same rfl (.inl rfl)) (.cons rfl (rc_same rfl (.inl rfl)) (.cons rfl (rc_same rfl (.inl rfl)) (.cons rfl (rc_same rfl (.inl rfl)) (.cons rfl (rc_same rfl (.inl rfl)) (.cons rfl (rc_same rfl (.inl rfl)) (.nil))))))) (.keep (rfl) rfl (.keep (rfl) rfl (.nil))) (fun i h => by cases h)⟩
      · replace h31 := of_decide_eq_false h31
        refine aw_exit ?_
        refine th_e ?_
        refine th_e ?_
        refine in_hit ?_
        refine in_n ?_
        refine th_n ?_
        refine aw_reg ?_
        refine rs_add rfl rfl rfl (by omega) ?_
        refine rs_mv rfl rfl ?_
        refine rs_nil fun _ => ?_
        refine th_n ?_
        exact ⟨8 + 1, by omega, by omega, weak_to (.cons rfl (rc_same rfl (.inl rfl)) (.cons rfl (rc_same rfl (.inl rfl)) (.cons rfl (rc_same rfl (.inl rfl)) (.cons rfl (rc_same rfl (.inl rfl)) (.cons rfl (rc_same rfl (.inl rfl)) (.nil)))))) (.keep (rfl) rfl (.keep (rfl) rfl (.nil))) (fun i h => by cases h)⟩
  · replace h12 := of_decide_eq_false h12
    refine aw_exit ?_
    refine th_e ?_
    refine th_e ?_
    refine in_hit ?_
    refine th_n ?_
    refine aw_seq ?_
    refine aw_seq ?_
    refine aw_reg ?_
    refine rs_mv rfl rfl ?_
    refine rs_nil fun _ => ?_
    refine th_n ?_
    refine aw_block ?_
    refine aw_fam (α := Nat) (fun j => 9 - j) (fun j => [(1, iv 1), (2, .ptr 2 0 0), (4, .ptr 4 0 0), (6, iv 1), (37, iv (((j) : Nat) : Int))]) (fun j => [(2, mO (mL M)), (4, mO [iv 0, iv 0, iv 0, iv 0, iv 0, iv 0, iv 0, iv 0, iv 0])]) (fun j => j ≤ 9) 0 (by omega)
      (weak_to (.cons rfl (rc_same rfl (.inl rfl)) (.cons rfl (rc_same rfl (.inl rfl)) (.cons rfl (rc_same rfl (.inl rfl)) (.cons rfl (rc_same rfl (.inl rfl)) (.cons rfl (rc_same rfl (.inl rfl)) (.nil)))))) (.keep (rfl) rfl (.keep (rfl) rfl (.nil))) (fun i h => by cases h)) ?_
    intro j hj
    refine aw_seq ?_
    refine aw_reg ?_
    refine rs_lss rfl rfl rfl ?_
    refine rs_nil fun _ => ?_
    refine th_n ?_
    refine aw_seq ?_
    refine aw_cond rfl (fun h38 => ?_) (fun h38 => ?_)
    · replace h38 := of_decide_eq_true h38
      refine aw_skip ?_
      refine th_n ?_
      refine aw_seq ?_
      refine aw_block ?_
      refine aw_seq ?_
      refine aw_reg ?_
      obtain rfl | rfl | rfl | rfl | rfl | rfl | rfl | rfl | rfl : j = 0 ∨ j = 1 ∨ j = 2 ∨ j = 3 ∨ j = 4 ∨ j = 5 ∨ j = 6 ∨ j = 7 ∨ j = 8 := by omega
      · have hq := hM 0 (by decide)
        refine rs_mv rfl rfl ?_
        refine rs_mv rfl rfl ?_
        refine rs_nil fun _ => ?_
        refine th_n ?_
        refine aw_draw hmix ?_
        refine rs_mv rfl rfl ?_
        refine rs_quow (c := 0) rfl rfl rfl (by decide) rfl ?_
        refine rs_mv rfl rfl ?_
        refine rs_rem (c := 0) rfl rfl rfl (by decide) rfl ?_
        refine rs_ixarr_p rfl rfl rfl (by decide) (by decide) ?_
        refine rs_ixarr_p rfl rfl rfl (by decide) (by decide) ?_
        refine rs_ld_p rfl rfl rfl rfl rfl ?_
        refine rs_mv rfl rfl ?_
        refine rs_quow (c := M 0) rfl rfl rfl (by decide) (by rw [Int.tdiv_one]; exact W_eq (by omega)) ?_
        refine rs_ixarr_p rfl rfl rfl (by decide) (by decide) ?_
        refine rs_ixarr_p rfl rfl rfl (by decide) (by decide) ?_
        refine rs_st rfl rfl rfl rfl rfl rfl rfl (Nat.le_of_ble_eq_true rfl) rfl rfl ?_
        refine rs_nil ⟨by kernel_rfl, fun _ => ?_⟩
        refine in_n ?_
        refine th_n ?_
        refine aw_reg ?_
        refine rs_add rfl rfl rfl (by omega) ?_
        refine rs_mv rfl rfl ?_
        refine rs_nil fun _ => ?_
        refine th_n ?_
        exact ⟨0 + 1, by omega, by omega, weak_to (.cons rfl (rc_same rfl (.inl rfl)) (.cons rfl (rc_same rfl (.inl rfl)) (.cons rfl (rc_same rfl (.inl rfl)) (.cons rfl (rc_same rfl (.inl rfl)) (.cons rfl (rc_same rfl (.inl rfl)) (.nil)))))) (.keep (rfl) rfl (.keep (rfl) rfl (.nil))) (fun i h => by cases h)⟩
      · have hq := hM 1 (by decide)
        refine rs_mv rfl rfl ?_
        refine rs_mv rfl rfl ?_
        refine rs_nil fun _ => ?_
        refine th_n ?_
        refine aw_draw hmix ?_
        refine rs_mv rfl rfl ?_
        refine rs_quow (c := 0) rfl rfl rfl (by decide) rfl ?_
        refine rs_mv rfl rfl ?_
        refine rs_rem (c := 1) rfl rfl rfl (by decide) rfl ?_
        refine rs_ixarr_p rfl rfl rfl (by decide) (by decide) ?_
        refine rs_ixarr_p rfl rfl rfl (by decide) (by decide) ?_
        refine rs_ld_p rfl rfl rfl rfl rfl ?_
        refine rs_mv rfl rfl ?_
        refine rs_quow (c := M 1) rfl rfl rfl (by decide) (by rw [Int.tdiv_one]; exact W_eq (by omega)) ?_
        refine rs_ixarr_p rfl rfl rfl (by decide) (by decide) ?_
        refine rs_ixarr_p rfl rfl rfl (by decide) (by decide) ?_
        refine rs_st rfl rfl rfl rfl rfl rfl rfl (Nat.le_of_ble_eq_true rfl) rfl rfl ?_
        refine rs_nil ⟨by kernel_rfl, fun _ => ?_⟩
        refine in_n ?_
        refine th_n ?_
        refine aw_reg ?_
        refine rs_add rfl rfl rfl (by omega) ?_
        refine rs_mv rfl rfl ?_
        refine rs_nil fun _ => ?_
        refine th_n ?_
        exact ⟨1 + 1, by omega, by omega, weak_to (.cons rfl (rc_same rfl (.inl rfl)) (.cons rfl (rc_same rfl (.inl rfl)) (.cons rfl (rc_same rfl (.inl rfl)) (.cons rfl (rc_same rfl (.inl rfl)) (.cons rfl (rc_same rfl (.inl rfl)) (.nil)))))) (.keep (rfl) rfl (.keep (rfl) rfl (.nil))) (fun i h => by cases h)⟩
      · have hq := hM 2 (by decide)
        refine rs_mv rfl rfl ?_
        refine rs_mv rfl rfl ?_
        refine rs_nil fun _ => ?_
        refine th_n ?_
        refine aw_draw hmix ?_
        refine rs_mv rfl rfl ?_
        refine rs_quow (c := 0) rfl rfl rfl (by decide) rfl ?_
        refine rs_mv rfl rfl ?_
        refine rs_rem (c := 2) rfl rfl rfl (by decide) rfl ?_
        refine rs_ixarr_p rfl rfl rfl (by decide) (by decide) ?_
        refine rs_ixarr_p rfl rfl rfl (by decide) (by decide) ?_
        refine rs_ld_p rfl rfl rfl rfl rfl ?_
        refine rs_mv rfl rfl ?_
        refine rs_quow (c := M 2) rfl rfl rfl (by decide) (by rw [Int.tdiv_one]; exact W_eq (by omega)) ?_
        refine rs_ixarr_p rfl rfl rfl (by decide) (by decide) ?_
        refine rs_ixarr_p rfl rfl rfl (by decide) (by decide) ?_
        refine rs_st rfl rfl rfl rfl rfl rfl rfl (Nat.le_of_ble_eq_true rfl) rfl rfl ?_
        refine rs_nil ⟨by kernel_rfl, fun _ => ?_⟩
        refine in_n ?_
        refine th_n ?_
        refine aw_reg ?_
        refine rs_add rfl rfl rfl (by omega) ?_
        refine rs_mv rfl rfl ?_
        refine rs_nil fun _ => ?_
        refine th_n ?_
        exact ⟨2 + 1, by omega, by omega, weak_to (.cons rfl (rc_same rfl (.inl rfl)) (.cons rfl (rc_same rfl (.inl rfl)) (.cons rfl (rc_same rfl (.inl rfl)) (.cons rfl (rc_same rfl (.inl rfl)) (.cons rfl (rc_same rfl (.inl rfl)) (.nil)))))) (.keep (rfl) rfl (.keep (rfl) rfl (.nil))) (fun i h => by cases h)⟩
      · have hq := hM 3 (by decide)
        refine rs_mv rfl rfl ?_
        refine rs_mv rfl rfl ?_
        refine rs_nil fun _ => ?_
        refine th_n ?_
        refine aw_draw hmix ?_
        refine rs_mv rfl rfl ?_
        refine rs_quow (c := 1) rfl rfl rfl (by decide) rfl ?_
        refine rs_mv rfl rfl ?_
        refine rs_rem (c := 0) rfl rfl rfl (by decide) rfl ?_
        refine rs_ixarr_p rfl rfl rfl (by decide) (by decide) ?_
        refine rs_ixarr_p rfl rfl rfl (by decide) (by decide) ?_
        refine rs_ld_p rfl rfl rfl rfl rfl ?_
        refine rs_mv rfl rfl ?_
        refine rs_quow (c := M 3) rfl rfl rfl (by decide) (by rw [Int.tdiv_one]; exact W_eq (by omega)) ?_
        refine rs_ixarr_p rfl rfl rfl (by decide) (by decide) ?_
        refine rs_ixarr_p rfl rfl rfl (by decide) (by decide) ?_
        refine rs_st rfl rfl rfl rfl rfl rfl rfl (Nat.le_of_ble_eq_true rfl) rfl rfl ?_
        refine rs_nil ⟨by kernel_rfl, fun _ => ?_⟩
        refine in_n ?_
        refine th_n ?_
        refine aw_reg ?_
        refine rs_add rfl rfl rfl (by omega) ?_
        refine rs_mv rfl rfl ?_
        refine rs_nil fun _ => ?_
        refine th_n ?_
        exact ⟨3 + 1, by omega, by omega, weak_to (.cons rfl (rc_same rfl (.inl rfl)) (.cons rfl (rc_same rfl (.inl rfl)) (.cons rfl (rc_same rfl (.inl rfl)) (.cons rfl (rc_same rfl (.inl rfl)) (.cons rfl (rc_same rfl (.inl rfl)) (.nil)))))) (.keep (rfl) rfl (.keep (rfl) rfl (.nil))) (fun i h => by cases h)⟩
      · have hq := hM 4 (by decide)
        refine rs_mv rfl rfl ?_
        refine rs_mv rfl rfl ?_
        refine rs_nil fun _ => ?_
        refine th_n ?_
        refine aw_draw hmix ?_
        refine rs_mv rfl rfl ?_
        refine rs_quow (c := 1) rfl rfl rfl (by decide) rfl ?_
        refine rs_mv rfl rfl ?_
        refine rs_rem (c := 1) rfl rfl rfl (by decide) rfl ?_
        refine rs_ixarr_p rfl rfl rfl (by decide) (by decide) ?_
        refine rs_ixarr_p rfl rfl rfl (by decide) (by decide) ?_
        refine rs_ld_p rfl rfl rfl rfl rfl ?_
        refine rs_mv rfl rfl ?_
        refine rs_quow (c := M 4) rfl rfl rfl (by decide) (by rw [Int.tdiv_one]; exact W_eq (by omega)) ?_
        refine rs_ixarr_p rfl rfl rfl (by decide) (by decide) ?_
        refine rs_ixarr_p rfl rfl rfl (by decide) (by decide) ?_
        refine rs_st rfl rfl rfl rfl rfl rfl rfl (Nat.le_of_ble_eq_true rfl) rfl rfl ?_
        refine rs_nil ⟨by kernel_rfl, fun _ => ?_⟩
        refine in_n ?_
        refine th_n ?_
        refine aw_reg ?_
        refine rs_add rfl rfl rfl (by omega) ?_
        refine rs_mv rfl rfl ?_
        refine rs_nil fun _ => ?_
        refine th_n ?_
        exact ⟨4 + 1, by omega, by omega, weak_to (.cons rfl (rc_same rfl (.inl rfl)) (.cons rfl (rc_same rfl (.inl rfl)) (.cons rfl (rc_same rfl (.inl rfl)) (.cons rfl (rc_same rfl (.inl rfl)) (.cons rfl (rc_same rfl (.inl rfl)) (.nil)))))) (.keep (rfl) rfl (.keep (rfl) rfl (.nil))) (fun i h => by cases h)⟩
      · have hq := hM 5 (by decide)
        refine rs_mv rfl rfl ?_
        refine rs_mv rfl rfl ?_
        refine rs_nil fun _ => ?_
        refine th_n ?_
        refine aw_draw hmix ?_
        refine rs_mv rfl rfl ?_
        refine rs_quow (c := 1) rfl rfl rfl (by decide) rfl ?_
        refine rs_mv rfl rfl ?_
        refine rs_rem (c := 2) rfl rfl rfl (by decide) rfl ?_
        refine rs_ixarr_p rfl rfl rfl (by decide) (by decide) ?_
        refine rs_ixarr_p rfl rfl rfl (by decide) (by decide) ?_
        refine rs_ld_p rfl rfl rfl rfl rfl ?_
        refine rs_mv rfl rfl ?_
        refine rs_quow (c := M 5) rfl rfl rfl (by decide) (by rw [Int.tdiv_one]; exact W_eq (by omega)) ?_
        refine rs_ixarr_p rfl rfl rfl (by decide) (by decide) ?_
        refine rs_ixarr_p rfl rfl rfl (by decide) (by decide) ?_
        refine rs_st rfl rfl rfl rfl rfl rfl rfl (Nat.le_of_ble_eq_true rfl) rfl rfl ?_
        refine rs_nil ⟨by kernel_rfl, fun _ => ?_⟩
        refine in_n ?_
        refine th_n ?_
        refine aw_reg ?_
        refine rs_add rfl rfl rfl (by omega) ?_
        refine rs_mv rfl rfl ?_
        refine rs_nil fun _ => ?_
        refine th_n ?_
        exact ⟨5 + 1, by omega, by omega, weak_to (.cons rfl (rc_same rfl (.inl rfl)) (.cons rfl (rc_same rfl (.inl rfl)) (.cons rfl (rc_same rfl (.inl rfl)) (.cons rfl (rc_same rfl (.inl rfl)) (.cons rfl (rc_same rfl (.inl rfl)) (.nil)))))) (.keep (rfl) rfl (.keep (rfl) rfl (.nil))) (fun i h => by cases h)⟩
      · have hq := hM 6 (by decide)
        refine rs_mv rfl rfl ?_
        refine rs_mv rfl rfl ?_
        refine rs_nil fun _ => ?_
        refine th_n ?_
        refine aw_draw hmix ?_
        refine rs_mv rfl rfl ?_
        refine rs_quow (c := 2) rfl rfl rfl (by decide) rfl ?_
        refine rs_mv rfl rfl ?_
        refine rs_rem (c := 0) rfl rfl rfl (by decide) rfl ?_
        refine rs_ixarr_p rfl rfl rfl (by decide) (by decide) ?_
        refine rs_ixarr_p rfl rfl rfl (by decide) (by decide) ?_
        refine rs_ld_p rfl rfl rfl rfl rfl ?_
        refine rs_mv rfl rfl ?_
        refine rs_quow (c := M 6) rfl rfl rfl (by decide) (by rw [Int.tdiv_one]; exact W_eq (by omega)) ?_
        refine rs_ixarr_p rfl rfl rfl (by decide) (by decide) ?_
        refine rs_ixarr_p rfl rfl rfl (by decide) (by decide) ?_
        refine rs_st rfl rfl rfl rfl rfl rfl rfl (Nat.le_of_ble_eq_true rfl) rfl rfl ?_
        refine rs_nil ⟨by kernel_rfl, fun _ => ?_⟩
        refine in_n ?_
        refine th_n ?_
        refine aw_reg ?_
        refine rs_add rfl rfl rfl (by omega) ?_
        refine rs_mv rfl rfl ?_
        refine rs_nil fun _ => ?_
        refine th_n ?_
        exact ⟨6 + 1, by omega, by omega, weak_to (.cons rfl (rc_same rfl (.inl rfl)) (.cons rfl (rc_same rfl (.inl rfl)) (.cons rfl (rc_same rfl (.inl rfl)) (.cons rfl (rc_same rfl (.inl rfl)) (.cons rfl (rc_same rfl (.inl rfl)) (.nil)))))) (.keep (rfl) rfl (.keep (rfl) rfl (.nil))) (fun i h => by cases h)⟩
      · have hq := hM 7 (by decide)
        refine rs_mv rfl rfl ?_
        refine rs_mv rfl rfl ?_
        refine rs_nil fun _ => ?_
        refine th_n ?_
        refine aw_draw hmix ?_
        refine rs_mv rfl rfl ?_
        refine rs_quow (c := 2) rfl rfl rfl (by decide) rfl ?_
        refine rs_mv rfl rfl ?_
        refine rs_rem (c := 1) rfl rfl rfl (by decide) rfl ?_
        refine rs_ixarr_p rfl rfl rfl (by decide) (by decide) ?_
        refine rs_ixarr_p rfl rfl rfl (by decide) (by decide) ?_
        refine rs_ld_p rfl rfl rfl rfl rfl ?_
        refine rs_mv rfl rfl ?_
        refine rs_quow (c := M 7) rfl rfl rfl (by decide) (by rw [Int.tdiv_one]; exact W_eq (by omega)) ?_
        refine rs_ixarr_p rfl rfl rfl (by decide) (by decide) ?_
        refine rs_ixarr_p rfl rfl rfl (by decide) (by decide) ?_
        refine rs_st rfl rfl rfl rfl rfl rfl rfl (Nat.le_of_ble_eq_true rfl) rfl rfl ?_
        refine rs_nil ⟨by kernel_rfl, fun _ => ?_⟩
        refine in_n ?_
        refine th_n ?_
        refine aw_reg ?_
        refine rs_add rfl rfl rfl (by omega) ?_
        refine rs_mv rfl rfl ?_
        refine rs_nil fun _ => ?_
        refine th_n ?_
        exact ⟨7 + 1, by omega, by omega, weak_to (.cons rfl (rc_same rfl (.inl rfl)) (.cons rfl (rc_same rfl (.inl rfl)) (.cons rfl (rc_same rfl (.inl rfl)) (.cons rfl (rc_same rfl (.inl rfl)) (.cons rfl (rc_same rfl (.inl rfl)) (.nil)))))) (.keep (rfl) rfl (.keep (rfl) rfl (.nil))) (fun i h => by cases h)⟩
      · have hq := hM 8 (by decide)
        refine rs_mv rfl rfl ?_
        refine rs_mv rfl rfl ?_
        refine rs_nil fun _ => ?_
        refine th_n ?_
        refine aw_draw hmix ?_
        refine rs_mv rfl rfl ?_
        refine rs_quow (c := 2) rfl rfl rfl (by decide) rfl ?_
        refine rs_mv rfl rfl ?_
        refine rs_rem (c := 2) rfl rfl rfl (by decide) rfl ?_
        refine rs_ixarr_p rfl rfl rfl (by decide) (by decide) ?_
        refine rs_ixarr_p rfl rfl rfl (by decide) (by decide) ?_
        refine rs_ld_p rfl rfl rfl rfl rfl ?_
        refine rs_mv rfl rfl ?_
        refine rs_quow (c := M 8) rfl rfl rfl (by decide) (by rw [Int.tdiv_one]; exact W_eq (by omega)) ?_
        refine rs_ixarr_p rfl rfl rfl (by decide) (by decide) ?_
        refine rs_ixarr_p rfl rfl rfl (by decide) (by decide) ?_
        refine rs_st rfl rfl rfl rfl rfl rfl rfl (Nat.le_of_ble_eq_true rfl) rfl rfl ?_
        refine rs_nil ⟨by kernel_rfl, fun _ => ?_⟩
        refine in_n ?_
        refine th_n ?_
        refine aw_reg ?_
        refine rs_add rfl rfl rfl (by omega) ?_
        refine rs_mv rfl rfl ?_
        refine rs_nil fun _ => ?_
        refine th_n ?_
        exact ⟨8 + 1, by omega, by omega, weak_to (.cons rfl (rc_same rfl (.inl rfl)) (.cons rfl (rc_same rfl (.inl rfl)) (.cons rfl (rc_same rfl (.inl rfl)) (.cons rfl (rc_same rfl (.inl rfl)) (.cons rfl (rc_same rfl (.inl rfl)) (.nil)))))) (.keep (rfl) rfl (.keep (rfl) rfl (.nil))) (fun i h => by cases h)⟩
    · replace h38 := of_decide_eq_false h38
      refine aw_exit ?_
      refine th_e ?_
      refine th_e ?_
      refine in_hit ?_
      refine th_n ?_
      refine aw_seq ?_
      refine aw_draw hmix ?_
      refine rs_ld_pa rfl rfl rfl rfl (Nat.le_of_ble_eq_true rfl) rfl ?_
      refine rs_mv rfl rfl ?_
      refine rs_mv rfl rfl ?_
      refine rs_quow (c := 1) rfl rfl rfl (by decide) rfl ?_
      refine rs_st rfl rfl rfl rfl rfl rfl rfl (Nat.le_of_ble_eq_true rfl) rfl rfl ?_
      refine rs_mv rfl rfl ?_
      refine rs_nil ⟨by kernel_rfl, fun _ => ?_⟩
      refine th_n ?_
      refine aw_ret ?_
      exact ret_pure rfl rfl rfl (.inr rfl)

end Go.Proofs.YteommcdafifckaaDoor

/-! Walks: T1. -/
namespace Go.Proofs.YteommcdafifckaaDoor
open Go.RowKit
set_option maxRecDepth 100000
set_option linter.unusedVariables false

abbrev idn : List AV := [iv 1, iv 0, iv 0, iv 0, iv 1, iv 0, iv 0, iv 0, iv 1]
def idM : Nat → Int
  | 0 => 1
  | 4 => 1
  | 8 => 1
  | _ => 0
def trM (M : Nat → Int) (q : Nat) : Int := M (q % 3 * 3 + q / 3)
def detS (M : Nat → Int) : Int := dotW ⟨M 0, M 1, M 2⟩ (crossW ⟨M 3, M 4, M 5⟩ ⟨M 6, M 7, M 8⟩)
def ofL (M : Nat → Int) (v : V3) : Nat → List AV
  | 0 => [iv 0, iv 0, iv 0]
  | 1 => [iv (dotW ⟨M 0, M 1, M 2⟩ v), iv 0, iv 0]
  | 2 => [iv (dotW ⟨M 0, M 1, M 2⟩ v), iv (dotW ⟨M 3, M 4, M 5⟩ v), iv 0]
  | 3 => [iv (dotW ⟨M 0, M 1, M 2⟩ v), iv (dotW ⟨M 3, M 4, M 5⟩ v), iv (dotW ⟨M 6, M 7, M 8⟩ v)]
  | _ => []
def ofS (M : Nat → Int) (v : V3) : V3 := ⟨dotW ⟨M 0, M 1, M 2⟩ v, dotW ⟨M 3, M 4, M 5⟩ v, dotW ⟨M 6, M 7, M 8⟩ v⟩
/-- A matrix of a rotation of the cube. -/
structure OkM (M : Nat → Int) : Prop where
  w : ∀ q, q < 9 → -1 ≤ M q ∧ M q ≤ 1
  i : [tq M (trM M) 0 3, tq M (trM M) 1 3, tq M (trM M) 2 3, tq M (trM M) 3 3, tq M (trM M) 4 3, tq M (trM M) 5 3, tq M (trM M) 6 3, tq M (trM M) 7 3, tq M (trM M) 8 3] = [1, 0, 0, 0, 1, 0, 0, 0, 1]
  d : detS M = 1
  r00 : dotW ⟨M 0, M 1, M 2⟩ ⟨M 0, M 1, M 2⟩ = 1
  r01 : dotW ⟨M 0, M 1, M 2⟩ ⟨M 3, M 4, M 5⟩ = 0
  r02 : dotW ⟨M 0, M 1, M 2⟩ ⟨M 6, M 7, M 8⟩ = 0
  r10 : dotW ⟨M 3, M 4, M 5⟩ ⟨M 0, M 1, M 2⟩ = 0
  r11 : dotW ⟨M 3, M 4, M 5⟩ ⟨M 3, M 4, M 5⟩ = 1
  r12 : dotW ⟨M 3, M 4, M 5⟩ ⟨M 6, M 7, M 8⟩ = 0
  r20 : dotW ⟨M 6, M 7, M 8⟩ ⟨M 0, M 1, M 2⟩ = 0
  r21 : dotW ⟨M 6, M 7, M 8⟩ ⟨M 3, M 4, M 5⟩ = 0
  r22 : dotW ⟨M 6, M 7, M 8⟩ ⟨M 6, M 7, M 8⟩ = 1
  e : dotW (crossW ⟨M 0, M 1, M 2⟩ ⟨M 3, M 4, M 5⟩) ⟨M 6, M 7, M 8⟩ = 1
theorem in_t {v : V3} (h : inS v = true) : FC Tryd.prog 26 [aV v] [] (.bool true) [] false := by
  rw [← h]; exact fc40 v

def mct54 : MC := (.seq (.reg [⟨(some 3), (.alloc 26 3 [(.int .i64 0), (.int .i64 0), (.int .i64 0)]), none, []⟩] false) (.seq (.reg [⟨(some 4), (.mv (.t 0)), none, []⟩, ⟨(some 5), (.ixarr 3 3 (.t 1) (.t 4)), none, [0]⟩, ⟨(some 6), (.ixarr 3 1 (.t 5) (.c (.int .i64 0))), none, [1]⟩, ⟨(some 7), (.ld false 1 (.t 6)), none, [2]⟩, ⟨(some 8), (.mv (.t 0)), none, []⟩, ⟨(some 9), (.ixarr 3 3 (.t 1) (.t 8)), none, [4]⟩, ⟨(some 10), (.ixarr 3 1 (.t 9) (.c (.int .i64 1))), none, [5]⟩, ⟨(some 11), (.ld false 1 (.t 10)), none, [6]⟩, ⟨(some 12), (.mv (.t 0)), none, []⟩, ⟨(some 13), (.ixarr 3 3 (.t 1) (.t 12)), none, [8]⟩, ⟨(some 14), (.ixarr 3 1 (.t 13) (.c (.int .i64 2))), none, [9]⟩, ⟨(some 15), (.ld false 1 (.t 14)), none, [10]⟩, ⟨(some 16), (.build [(.int .i64 0), (.int .i64 0), (.int .i64 0)] [(0, (1, (.t 7))), (1, (1, (.t 11))), (2, (1, (.t 15)))]), none, [3, 7, 11]⟩, ⟨none, (.st 3 (.t 3) (.t 16)), none, [12, 0, 1, 2, 3, 4, 5, 6, 7, 8, 9, 10, 11, 12]⟩] true) .ret))
theorem mcOkt54 : (match Tryd.f54.body with | some c => compC Tryd.prog 17 c | none => none) = some mct54 := by kernel_rfl

theorem tc54_0 (M : Nat → Int) : FC Tryd.prog 54 [iv 0, .ptr 1 0 0] [(1, mO (mL M))] (aV ⟨M 0, M 1, M 2⟩) [(1, mO (mL M))] true := by
  refine fc_run (nt := 17) Tryd.func54 rfl rfl mcOkt54 (Nat.le_of_ble_eq_true rfl) ?_
  delta mct54
  refine aw_seq ?_
  refine aw_reg ?_
  refine rs_alloc rfl rfl rfl ?_
  refine rs_nil fun _ => ?_
  refine th_n ?_
  refine aw_seq ?_
  refine aw_draw hmix ?_
  refine rs_mv rfl rfl ?_
  refine rs_ixarr_p rfl rfl rfl (by decide) (by decide) ?_
  refine rs_ixarr_p rfl rfl rfl (by decide) (by decide) ?_
  refine rs_ld_p rfl rfl rfl rfl rfl ?_
  refine rs_mv rfl rfl ?_
  refine rs_ixarr_p rfl rfl rfl (by decide) (by decide) ?_
  refine rs_ixarr_p rfl rfl rfl (by decide) (by decide) ?_
  refine rs_ld_p rfl rfl rfl rfl rfl ?_
  refine rs_mv rfl rfl ?_
  refine rs_ixarr_p rfl rfl rfl (by decide) (by decide) ?_
  refine rs_ixarr_p rfl rfl rfl (by decide) (by decide) ?_
  refine rs_ld_p rfl rfl rfl rfl rfl ?_
  refine rs_build rfl rfl ?_
  refine rs_st rfl rfl rfl rfl rfl rfl rfl (Nat.le_of_ble_eq_true rfl) rfl rfl ?_
  refine rs_nil ⟨by kernel_rfl, fun _ => ?_⟩
  refine th_n ?_
  refine aw_ret ?_
  exact ret_own rfl (rc_same rfl (.inl rfl)) (.keep (rfl) rfl (.nil)) (.cons rfl rfl rfl .nil)

theorem tc54_1 (M : Nat → Int) : FC Tryd.prog 54 [iv 1, .ptr 1 0 0] [(1, mO (mL M))] (aV ⟨M 3, M 4, M 5⟩) [(1, mO (mL M))] true := by
  refine fc_run (nt := 17) Tryd.func54 rfl rfl mcOkt54 (Nat.le_of_ble_eq_true rfl) ?_
  delta mct54
  refine aw_seq ?_
  refine aw_reg ?_
  refine rs_alloc rfl rfl rfl ?_
  refine rs_nil fun _ => ?_
  refine th_n ?_
  refine aw_seq ?_
  refine aw_draw hmix ?_
  refine rs_mv rfl rfl ?_
  refine rs_ixarr_p rfl rfl rfl (by decide) (by decide) ?_
  refine rs_ixarr_p rfl rfl rfl (by decide) (by decide) ?_
  refine rs_ld_p rfl rfl rfl rfl rfl ?_
  refine rs_mv rfl rfl ?_
  refine rs_ixarr_p rfl rfl rfl (by decide) (by decide) ?_
  refine rs_ixarr_p rfl rfl rfl (by decide) (by decide) ?_
  refine rs_ld_p rfl rfl rfl rfl rfl ?_
  refine rs_mv rfl rfl ?_
  refine rs_ixarr_p rfl rfl rfl (by decide) (by decide) ?_
  refine rs_ixarr_p rfl rfl rfl (by decide) (by decide) ?_
  refine rs_ld_p rfl rfl rfl rfl rfl ?_
  refine rs_build rfl rfl ?_
  refine rs_st rfl rfl rfl rfl rfl rfl rfl (Nat.le_of_ble_eq_true rfl) rfl rfl ?_
  refine rs_nil ⟨by kernel_rfl, fun _ => ?_⟩
  refine th_n ?_
  refine aw_ret ?_
  exact ret_own rfl (rc_same rfl (.inl rfl)) (.keep (rfl) rfl (.nil)) (.cons rfl rfl rfl .nil)

theorem tc54_2 (M : Nat → Int) : FC Tryd.prog 54 [iv 2, .ptr 1 0 0] [(1, mO (mL M))] (aV ⟨M 6, M 7, M 8⟩) [(1, mO (mL M))] true := by
  refine fc_run (nt := 17) Tryd.func54 rfl rfl mcOkt54 (Nat.le_of_ble_eq_true rfl) ?_
  delta mct54
  refine aw_seq ?_
  refine aw_reg ?_
  refine rs_alloc rfl rfl rfl ?_
  refine rs_nil fun _ => ?_
  refine th_n ?_
  refine aw_seq ?_
  refine aw_draw hmix ?_
  refine rs_mv rfl rfl ?_
  refine rs_ixarr_p rfl rfl rfl (by decide) (by decide) ?_
  refine rs_ixarr_p rfl rfl rfl (by decide) (by decide) ?_
  refine rs_ld_p rfl rfl rfl rfl rfl ?_
  refine rs_mv rfl rfl ?_
  refine rs_ixarr_p rfl rfl rfl (by decide) (by decide) ?_
  refine rs_ixarr_p rfl rfl rfl (by decide) (by decide) ?_
  refine rs_ld_p rfl rfl rfl rfl rfl ?_
  refine rs_mv rfl rfl ?_
  refine rs_ixarr_p rfl rfl rfl (by decide) (by decide) ?_
  refine rs_ixarr_p rfl rfl rfl (by decide) (by decide) ?_
  refine rs_ld_p rfl rfl rfl rfl rfl ?_
  refine rs_build rfl rfl ?_
  refine rs_st rfl rfl rfl rfl rfl rfl rfl (Nat.le_of_ble_eq_true rfl) rfl rfl ?_
  refine rs_nil ⟨by kernel_rfl, fun _ => ?_⟩
  refine th_n ?_
  refine aw_ret ?_
  exact ret_own rfl (rc_same rfl (.inl rfl)) (.keep (rfl) rfl (.nil)) (.cons rfl rfl rfl .nil)

def mct51 : MC := (.seq (.reg [⟨(some 1), (.box 67 9 (.t 0)), none, []⟩, ⟨(some 2), (.mv (.c (.int .i64 0))), none, []⟩] false) (.seq (.reg [⟨(some 4), (.mkfn (.func 54) [(.t 1)]), none, []⟩, ⟨(some 3), (.mv (.t 4)), none, [0, 0]⟩] false) (.seq (.reg [⟨(some 5), (.mv (.t 3)), none, []⟩, ⟨(some 6), (.callv (.t 5) [(.c (.int .i64 0))]), none, [0]⟩, ⟨(some 7), (.mv (.t 3)), none, []⟩, ⟨(some 8), (.callv (.t 7) [(.c (.int .i64 1))]), none, [2, 1]⟩, ⟨(some 9), (.mv (.t 3)), none, []⟩, ⟨(some 10), (.callv (.t 9) [(.c (.int .i64 2))]), none, [4, 3]⟩, ⟨(some 11), (.call 24 [(.t 8), (.t 10)]), none, [3, 5, 5]⟩, ⟨(some 12), (.call 23 [(.t 6), (.t 11)]), none, [1, 6, 6]⟩, ⟨(some 2), (.mv (.t 12)), none, [7, 7, 0, 1, 2, 3, 4, 5, 6, 7]⟩] false) .ret)))
theorem mcOkt51 : (match Tryd.f51.body with | some c => compC Tryd.prog 13 c | none => none) = some mct51 := by kernel_rfl

theorem tc51 (M : Nat → Int) : FC Tryd.prog 51 [.agg (mL M)] [] (iv (detS M)) [] false := by
  refine fc_run (nt := 13) Tryd.func51 rfl rfl mcOkt51 (Nat.le_of_ble_eq_true rfl) ?_
  delta mct51
  refine aw_seq ?_
  refine aw_reg ?_
  refine rs_box rfl rfl rfl rfl rfl rfl ?_
  refine rs_mv rfl rfl ?_
  refine rs_nil fun _ => ?_
  refine th_n ?_
  refine aw_seq ?_
  refine aw_reg ?_
  refine rs_mkfn rfl rfl ?_
  refine rs_mv rfl rfl ?_
  refine rs_nil fun _ => ?_
  refine th_n ?_
  refine aw_seq ?_
  refine aw_reg ?_
  refine rs_mv rfl rfl ?_
  refine rs_callvo [(1, mO (mL M))] rfl rfl (by kernel_rfl) rfl (tc54_0 M) (.cons (hv_same rfl) (.cons (hv_same rfl) (.nil))) (.cons rfl .nil) rfl rfl rfl ?_
  refine rs_mv rfl rfl ?_
  refine rs_callvo [(1, mO (mL M))] rfl rfl (by kernel_rfl) rfl (tc54_1 M) (.cons (hv_same rfl) (.cons (hv_same rfl) (.nil))) (.cons rfl .nil) rfl rfl rfl ?_
  refine rs_mv rfl rfl ?_
  refine rs_callvo [(1, mO (mL M))] rfl rfl (by kernel_rfl) rfl (tc54_2 M) (.cons (hv_same rfl) (.cons (hv_same rfl) (.nil))) (.cons rfl .nil) rfl rfl rfl ?_
  refine rs_calln [] rfl rfl (fc31 ⟨M 3, M 4, M 5⟩ ⟨M 6, M 7, M 8⟩) (.cons (hv_same rfl) (.cons (hv_same rfl) (.nil))) rfl ?_
  refine rs_calln [] rfl rfl (fc30 ⟨M 0, M 1, M 2⟩ (crossW ⟨M 3, M 4, M 5⟩ ⟨M 6, M 7, M 8⟩)) (.cons (hv_same rfl) (.cons (hv_same rfl) (.nil))) rfl ?_
  refine rs_mv rfl rfl ?_
  refine rs_nil fun _ => ?_
  refine th_n ?_
  refine aw_ret ?_
  exact ret_pure rfl rfl rfl (.inr rfl)

def mct28 : MC := (.seq (.reg [⟨(some 2), (.box 67 9 (.t 0)), none, []⟩, ⟨(some 3), (.box 26 3 (.t 1)), none, []⟩, ⟨(some 4), (.alloc 26 3 [(.int .i64 0), (.int .i64 0), (.int .i64 0)]), none, []⟩] false) (.seq (.reg [⟨(some 5), (.alloc 32 3 [(.int .i64 0), (.int .i64 0), (.int .i64 0)]), none, []⟩] false) (.seq (.seq (.reg [⟨(some 7), (.mv (.c (.int .i64 0))), none, []⟩] false) (.block 0 (.loop (.seq (.reg [⟨(some 8), (.bin .lss (.t 7) (.c (.int .i64 3))), none, []⟩] false) (.seq (.cond (.t 8) .skip (.exit 0)) (.seq (.block 1 (.seq (.reg [⟨(some 9), (.mv (.t 7)), none, []⟩, ⟨(some 6), (.mv (.t 9)), none, [0, 0]⟩] false) (.reg [⟨(some 10), (.mv (.t 6)), none, []⟩, ⟨(some 11), (.mv (.t 6)), none, []⟩, ⟨(some 12), (.ixarr 3 3 (.t 2) (.t 11)), none, [1]⟩, ⟨(some 13), (.ixarr 3 1 (.t 12) (.c (.int .i64 0))), none, [2]⟩, ⟨(some 14), (.ld false 1 (.t 13)), none, [3]⟩, ⟨(some 15), (.fa 0 (.t 3)), none, []⟩, ⟨(some 16), (.ld false 1 (.t 15)), none, [5]⟩, ⟨(some 17), (.bin .mul (.t 14) (.t 16)), none, [4, 6]⟩, ⟨(some 18), (.mv (.t 6)), none, []⟩, ⟨(some 19), (.ixarr 3 3 (.t 2) (.t 18)), none, [8]⟩, ⟨(some 20), (.ixarr 3 1 (.t 19) (.c (.int .i64 1))), none, [9]⟩, ⟨(some 21), (.ld false 1 (.t 20)), none, [10]⟩, ⟨(some 22), (.fa 1 (.t 3)), none, []⟩, ⟨(some 23), (.ld false 1 (.t 22)), none, [12]⟩, ⟨(some 24), (.bin .mul (.t 21) (.t 23)), none, [11, 13]⟩, ⟨(some 25), (.bin .add (.t 17) (.t 24)), none, [7, 14]⟩, ⟨(some 26), (.mv (.t 6)), none, []⟩, ⟨(some 27), (.ixarr 3 3 (.t 2) (.t 26)), none, [16]⟩, ⟨(some 28), (.ixarr 3 1 (.t 27) (.c (.int .i64 2))), none, [17]⟩, ⟨(some 29), (.ld false 1 (.t 28)), none, [18]⟩, ⟨(some 30), (.fa 2 (.t 3)), none, []⟩, ⟨(some 31), (.ld false 1 (.t 30)), none, [20]⟩, ⟨(some 32), (.bin .mul (.t 29) (.t 31)), none, [19, 21]⟩, ⟨(some 33), (.bin .add (.t 25) (.t 32)), none, [15, 22]⟩, ⟨(some 34), (.ixarr 3 1 (.t 5) (.t 10)), none, [0, 0, 1, 2, 3, 4, 5, 6, 7, 8, 9, 10, 11, 12, 13, 14, 15, 16, 17, 18, 19, 20, 21, 22, 23]⟩, ⟨none, (.st 1 (.t 34) (.t 33)), none, [24, 23, 0, 1, 2, 3, 4, 5, 6, 7, 8, 9, 10, 11, 12, 13, 14, 15, 16, 17, 18, 19, 20, 21, 22, 23]⟩] true))) (.reg [⟨(some 35), (.bin .add (.t 7) (.c (.int .i64 1))), none, []⟩, ⟨(some 7), (.mv (.t 35)), none, [0]⟩] false))))))) (.seq (.reg [⟨(some 36), (.ixarr 3 1 (.t 5) (.c (.int .i64 0))), none, []⟩, ⟨(some 37), (.ld false 1 (.t 36)), none, [0]⟩, ⟨(some 38), (.ixarr 3 1 (.t 5) (.c (.int .i64 1))), none, []⟩, ⟨(some 39), (.ld false 1 (.t 38)), none, [2]⟩, ⟨(some 40), (.ixarr 3 1 (.t 5) (.c (.int .i64 2))), none, []⟩, ⟨(some 41), (.ld false 1 (.t 40)), none, [4]⟩, ⟨(some 42), (.build [(.int .i64 0), (.int .i64 0), (.int .i64 0)] [(0, (1, (.t 37))), (1, (1, (.t 39))), (2, (1, (.t 41)))]), none, [1, 3, 5]⟩, ⟨none, (.st 3 (.t 4) (.t 42)), none, [6, 0, 1, 2, 3, 4, 5, 6]⟩] false) .ret))))
theorem mcOkt28 : (match Tryd.f28.body with | some c => compC Tryd.prog 43 c | none => none) = some mct28 := by kernel_rfl

theorem tc28 (M : Nat → Int) (v : V3) : FC Tryd.prog 28 [.agg (mL M), aV v] [] (aV (ofS M v)) [] false := by
  refine fc_run (nt := 43) Tryd.func28 rfl rfl mcOkt28 (Nat.le_of_ble_eq_true rfl) ?_
  delta mct28
  refine aw_seq ?_
  refine aw_reg ?_
  refine rs_box rfl rfl rfl rfl rfl rfl ?_
  refine rs_box rfl rfl rfl rfl rfl rfl ?_
  refine rs_alloc rfl rfl rfl ?_
  refine rs_nil fun _ => ?_
  refine th_n ?_
  refine aw_seq ?_
  refine aw_reg ?_
  refine rs_alloc rfl rfl rfl ?_
  refine rs_nil fun _ => ?_
  refine th_n ?_
  refine aw_seq ?_
  refine aw_seq ?_
  refine aw_reg ?_
  refine rs_mv rfl rfl ?_
  refine rs_nil fun _ => ?_
  refine th_n ?_
  refine aw_block ?_
  refine aw_fam (α := Nat) (fun k => 3 - k) (fun k => [(2, .ptr 2 0 0), (3, .ptr 3 0 0), (4, .ptr 4 0 0), (5, .ptr 5 0 0), (7, iv (((k) : Nat) : Int))]) (fun k => [(2, mO (mL M)), (3, .cells 26 3 [cV v] true), (4, .cells 26 3 [[iv 0, iv 0, iv 0]] true), (5, .cells 32 3 [ofL M v (k)] true)]) (fun k => k ≤ 3) 0 (by omega)
    (weak_to (.cons rfl (rc_same rfl (.inl rfl)) (.cons rfl (rc_same rfl (.inl rfl)) (.cons rfl (rc_same rfl (.inl rfl)) (.cons rfl (rc_same rfl (.inl rfl)) (.cons rfl (rc_same rfl (.inl rfl)) (.nil)))))) (.keep (rfl) rfl (.keep (rfl) rfl (.keep (rfl) rfl (.keep (rfl) rfl (.nil))))) (fun i h => by cases h)) ?_
  intro k hk
  refine aw_seq ?_
  refine aw_reg ?_
  refine rs_lss rfl rfl rfl ?_
  refine rs_nil fun _ => ?_
  refine th_n ?_
  refine aw_seq ?_
  refine aw_cond rfl (fun h8 => ?_) (fun h8 => ?_)
  · replace h8 := of_decide_eq_true h8
    refine aw_skip ?_
    refine th_n ?_
    refine aw_seq ?_
    refine aw_block ?_
    refine aw_seq ?_
    refine aw_reg ?_
    obtain rfl | rfl | rfl : k = 0 ∨ k = 1 ∨ k = 2 := by omega
    · skip
      refine rs_mv rfl rfl ?_
      refine rs_mv rfl rfl ?_
      refine rs_nil fun _ => ?_
      refine th_n ?_
      refine aw_draw hmix ?_
      refine rs_mv rfl rfl ?_
      refine rs_mv rfl rfl ?_
      refine rs_ixarr_p rfl rfl rfl (by decide) (by decide) ?_
      refine rs_ixarr_p rfl rfl rfl (by decide) (by decide) ?_
      refine rs_ld_p rfl rfl rfl rfl rfl ?_
      refine rs_fa_p rfl rfl ?_
      refine rs_ld_p rfl rfl rfl rfl rfl ?_
      refine rs_mulw rfl rfl rfl rfl ?_
      refine rs_mv rfl rfl ?_
      refine rs_ixarr_p rfl rfl rfl (by decide) (by decide) ?_
      refine rs_ixarr_p rfl rfl rfl (by decide) (by decide) ?_
      refine rs_ld_p rfl rfl rfl rfl rfl ?_
      refine rs_fa_p rfl rfl ?_
      refine rs_ld_p rfl rfl rfl rfl rfl ?_
      refine rs_mulw rfl rfl rfl rfl ?_
      refine rs_addw rfl rfl rfl rfl ?_
      refine rs_mv rfl rfl ?_
      refine rs_ixarr_p rfl rfl rfl (by decide) (by decide) ?_
      refine rs_ixarr_p rfl rfl rfl (by decide) (by decide) ?_
      refine rs_ld_p rfl rfl rfl rfl rfl ?_
      refine rs_fa_p rfl rfl ?_
      refine rs_ld_p rfl rfl rfl rfl rfl ?_
      refine rs_mulw rfl rfl rfl rfl ?_
      refine rs_addw rfl rfl rfl rfl ?_
      refine rs_ixarr_p rfl rfl rfl (by decide) (by decide) ?_
      refine rs_st rfl rfl rfl rfl rfl rfl rfl (Nat.le_of_ble_eq_true rfl) rfl rfl ?_
      refine rs_nil ⟨by kernel_rfl, fun _ => ?_⟩
      refine in_n ?_
      refine th_n ?_
      refine aw_reg ?_
      refine rs_add rfl rfl rfl (by omega) ?_
      refine rs_mv rfl rfl ?_
      refine rs_nil fun _ => ?_
      refine th_n ?_
      exact ⟨0 + 1, by omega, by omega, weak_to (.cons rfl (rc_same rfl (.inl rfl)) (.cons rfl (rc_same rfl (.inl rfl)) (.cons rfl (rc_same rfl (.inl rfl)) (.cons rfl (rc_same rfl (.inl rfl)) (.cons rfl (rc_same rfl (.inl rfl)) (.nil)))))) (.keep (rfl) rfl (.keep (rfl) rfl (.keep (rfl) rfl (.keep (rfl) rfl (.nil))))) (fun i h => by cases h)⟩
    · skip
      refine rs_mv rfl rfl ?_
      refine rs_mv rfl rfl ?_
      refine rs_nil fun _ => ?_
      refine th_n ?_
      refine aw_draw hmix ?_
      refine rs_mv rfl rfl ?_
      refine rs_mv rfl rfl ?_
      refine rs_ixarr_p rfl rfl rfl (by decide) (by decide) ?_
      refine rs_ixarr_p rfl rfl rfl (by decide) (by decide) ?_
      refine rs_ld_p rfl rfl rfl rfl rfl ?_
      refine rs_fa_p rfl rfl ?_
      refine rs_ld_p rfl rfl rfl rfl rfl ?_
      refine rs_mulw rfl rfl rfl rfl ?_
      refine rs_mv rfl rfl ?_
      refine rs_ixarr_p rfl rfl rfl (by decide) (by decide) ?_
      refine rs_ixarr_p rfl rfl rfl (by decide) (by decide) ?_
      refine rs_ld_p rfl rfl rfl rfl rfl ?_
      refine rs_fa_p rfl rfl ?_
      refine rs_ld_p rfl rfl rfl rfl rfl ?_
      refine rs_mulw rfl rfl rfl rfl ?_
      refine rs_addw rfl rfl rfl rfl ?_
      refine rs_mv rfl rfl ?_
      refine rs_ixarr_p rfl rfl rfl (by decide) (by decide) ?_
      refine rs_ixarr_p rfl rfl rfl (by decide) (by decide) ?_
      refine rs_ld_p rfl rfl rfl rfl rfl ?_
      refine rs_fa_p rfl rfl ?_
      refine rs_ld_p rfl rfl rfl rfl rfl ?_
      refine rs_mulw rfl rfl rfl rfl ?_
      refine rs_addw rfl rfl rfl rfl ?_
      refine rs_ixarr_p rfl rfl rfl (by decide) (by decide) ?_
      refine rs_st rfl rfl rfl rfl rfl rfl rfl (Nat.le_of_ble_eq_true rfl) rfl rfl ?_
      refine rs_nil ⟨by kernel_rfl, fun _ => ?_⟩
      refine in_n ?_
      refine th_n ?_
      refine aw_reg ?_
      refine rs_add rfl rfl rfl (by omega) ?_
      refine rs_mv rfl rfl ?_
      refine rs_nil fun _ => ?_
      refine th_n ?_
      exact ⟨1 + 1, by omega, by omega, weak_to (.cons rfl (rc_same rfl (.inl rfl)) (.cons rfl (rc_same rfl (.inl rfl)) (.cons rfl (rc_same rfl (.inl rfl)) (.cons rfl (rc_same rfl (.inl rfl)) (.cons rfl (rc_same rfl (.inl rfl)) (.nil)))))) (.keep (rfl) rfl (.keep (rfl) rfl (.keep (rfl) rfl (.keep (rfl) rfl (.nil))))) (fun i h => by cases h)⟩
    · skip
      refine rs_mv rfl rfl ?_
      refine rs_mv rfl rfl ?_
      refine rs_nil fun _ => ?_
      refine th_n ?_
      refine aw_draw hmix ?_
      refine rs_mv rfl rfl ?_
      refine rs_mv rfl rfl ?_
      refine rs_ixarr_p rfl rfl rfl (by decide) (by decide) ?_
      refine rs_ixarr_p rfl rfl rfl (by decide) (by decide) ?_
      refine rs_ld_p rfl rfl rfl rfl rfl ?_
      refine rs_fa_p rfl rfl ?_
      refine rs_ld_p rfl rfl rfl rfl rfl ?_
      refine rs_mulw rfl rfl rfl rfl ?_
      refine rs_mv rfl rfl ?_
      refine rs_ixarr_p rfl rfl rfl (by decide) (by decide) ?_
      refine rs_ixarr_p rfl rfl rfl (by decide) (by decide) ?_
      refine rs_ld_p rfl rfl rfl rfl rfl ?_
      refine rs_fa_p rfl rfl ?_
      refine rs_ld_p rfl rfl rfl rfl rfl ?_
      refine rs_mulw rfl rfl rfl rfl ?_
      refine rs_addw rfl rfl rfl rfl ?_
      refine rs_mv rfl rfl ?_
      refine rs_ixarr_p rfl rfl rfl (by decide) (by decide) ?_
      refine rs_ixarr_p rfl rfl rfl (by decide) (by decide) ?_
      refine rs_ld_p rfl rfl rfl rfl rfl ?_
      refine rs_fa_p rfl rfl ?_
      refine rs_ld_p rfl rfl rfl rfl rfl ?_
      refine rs_mulw rfl rfl rfl rfl ?_
      refine rs_addw rfl rfl rfl rfl ?_
      refine rs_ixarr_p rfl rfl rfl (by decide) (by decide) ?_
      refine rs_st rfl rfl rfl rfl rfl rfl rfl (Nat.le_of_ble_eq_true rfl) rfl rfl ?_
      refine rs_nil ⟨by kernel_rfl, fun _ => ?_⟩
      refine in_n ?_
      refine th_n ?_
      refine aw_reg ?_
      refine rs_add rfl rfl rfl (by omega) ?_
      refine rs_mv rfl rfl ?_
      refine rs_nil fun _ => ?_
      refine th_n ?_
      exact ⟨2 + 1, by omega, by omega, weak_to (.cons rfl (rc_same rfl (.inl rfl)) (.cons rfl (rc_same rfl (.inl rfl)) (.cons rfl (rc_same rfl (.inl rfl)) (.cons rfl (rc_same rfl (.inl rfl)) (.cons rfl (rc_same rfl (.inl rfl)) (.nil)))))) (.keep (rfl) rfl (.keep (rfl) rfl (.keep (rfl) rfl (.keep (rfl) rfl (.nil))))) (fun i h => by cases h)⟩
  · replace h8 := of_decide_eq_false h8
    refine aw_exit ?_
    refine th_e ?_
    refine th_e ?_
    refine in_hit ?_
    refine th_n ?_
    refine aw_seq ?_
    obtain rfl : k = 3 := by omega
    refine aw_reg ?_
    refine rs_ixarr_p rfl rfl rfl (by decide) (by decide) ?_
    refine rs_ld_p rfl rfl rfl rfl rfl ?_
    refine rs_ixarr_p rfl rfl rfl (by decide) (by decide) ?_
    refine rs_ld_p rfl rfl rfl rfl rfl ?_
    refine rs_ixarr_p rfl rfl rfl (by decide) (by decide) ?_
    refine rs_ld_p rfl rfl rfl rfl rfl ?_
    refine rs_build rfl rfl ?_
    refine rs_st rfl rfl rfl rfl rfl rfl rfl (Nat.le_of_ble_eq_true rfl) rfl rfl ?_
    refine rs_nil fun _ => ?_
    refine th_n ?_
    refine aw_ret ?_
    exact ret_pure rfl rfl rfl (.inr rfl)

def mct27 : MC := (.seq (.reg [⟨(some 2), (.box 26 3 (.t 0)), none, []⟩, ⟨(some 4), (.alloc 26 3 [(.int .i64 0), (.int .i64 0), (.int .i64 0)]), none, []⟩, ⟨(some 5), (.mv (.c (.bool false))), none, []⟩] false) (.seq (.reg [⟨(some 6), (.fa 0 (.t 2)), none, []⟩, ⟨(some 7), (.ld false 1 (.t 6)), none, [0]⟩, ⟨(some 8), (.mv (.t 1)), none, []⟩, ⟨(some 9), (.bin .quo (.t 7) (.t 8)), none, [1, 2]⟩, ⟨(some 10), (.fa 1 (.t 2)), none, []⟩, ⟨(some 11), (.ld false 1 (.t 10)), none, [4]⟩, ⟨(some 12), (.mv (.t 1)), none, []⟩, ⟨(some 13), (.bin .quo (.t 11) (.t 12)), none, [5, 6]⟩, ⟨(some 14), (.fa 2 (.t 2)), none, []⟩, ⟨(some 15), (.ld false 1 (.t 14)), none, [8]⟩, ⟨(some 16), (.mv (.t 1)), none, []⟩, ⟨(some 17), (.bin .quo (.t 15) (.t 16)), none, [9, 10]⟩, ⟨(some 18), (.build [(.int .i64 0), (.int .i64 0), (.int .i64 0)] [(0, (1, (.t 9))), (1, (1, (.t 13))), (2, (1, (.t 17)))]), none, [3, 7, 11]⟩, ⟨(some 19), (.fa 0 (.t 2)), none, []⟩, ⟨(some 20), (.ld false 1 (.t 19)), none, [13]⟩, ⟨(some 21), (.mv (.t 1)), none, []⟩, ⟨(some 22), (.bin .rem (.t 20) (.t 21)), none, [14, 15]⟩, ⟨(some 23), (.bin .eql (.t 22) (.c (.int .i64 0))), none, [16]⟩, ⟨(some 24), (.mv (.t 23)), none, [17]⟩, ⟨(some 25), (.fa 1 (.t 2)), (some (24, true)), [18]⟩, ⟨(some 26), (.ld false 1 (.t 25)), (some (24, true)), [19, 18]⟩, ⟨(some 27), (.mv (.t 1)), (some (24, true)), [18]⟩, ⟨(some 28), (.bin .rem (.t 26) (.t 27)), (some (24, true)), [20, 21, 18]⟩, ⟨(some 29), (.bin .eql (.t 28) (.c (.int .i64 0))), (some (24, true)), [22, 18]⟩, ⟨(some 30), (.pick (.t 24) (.t 29) (.c (.bool false))), none, [18, 23]⟩, ⟨(some 31), (.mv (.t 30)), none, [24, 18]⟩, ⟨(some 32), (.fa 2 (.t 2)), (some (31, true)), [25]⟩, ⟨(some 33), (.ld false 1 (.t 32)), (some (31, true)), [26, 25]⟩, ⟨(some 34), (.mv (.t 1)), (some (31, true)), [25]⟩, ⟨(some 35), (.bin .rem (.t 33) (.t 34)), (some (31, true)), [27, 28, 25]⟩, ⟨(some 36), (.bin .eql (.t 35) (.c (.int .i64 0))), (some (31, true)), [29, 25]⟩, ⟨(some 37), (.pick (.t 31) (.t 36) (.c (.bool false))), none, [25, 30]⟩, ⟨none, (.st 3 (.t 4) (.t 18)), none, [12, 25, 0, 1, 2, 3, 4, 5, 6, 7, 8, 9, 10, 11, 12]⟩, ⟨(some 5), (.mv (.t 37)), none, [31, 32, 0, 1, 2, 3, 4, 5, 6, 7, 8, 9, 10, 11, 12, 13, 14, 15, 16, 17, 18, 19, 20, 21, 22, 23, 24, 25, 26, 27, 28, 29, 30, 31, 32]⟩] true) .ret))
theorem mcOkt27 : (match Tryd.f27.body with | some c => compC Tryd.prog 38 c | none => none) = some mct27 := by kernel_rfl

theorem tc27 (v : V3) (hv : Bd 1000 v) : FC Tryd.prog 27 [aV v, iv 1] [] (.tup [aV v, .bool true]) [] false := by
  have hx := hv.x; have hy := hv.y; have hz := hv.z
  refine fc_run (nt := 38) Tryd.func27 rfl rfl mcOkt27 (Nat.le_of_ble_eq_true rfl) ?_
  delta mct27
  refine aw_seq ?_
  refine aw_reg ?_
  refine rs_box rfl rfl rfl rfl rfl rfl ?_
  refine rs_alloc rfl rfl rfl ?_
  refine rs_mv rfl rfl ?_
  refine rs_nil fun _ => ?_
  refine th_n ?_
  refine aw_seq ?_
  refine aw_draw hmix ?_
  refine rs_fa_p rfl rfl ?_
  refine rs_ld_p rfl rfl rfl rfl rfl ?_
  refine rs_mv rfl rfl ?_
  refine rs_quow (c := v.x) rfl rfl rfl (by decide) (by rw [Int.tdiv_one]; exact W_eq (by omega)) ?_
  refine rs_fa_p rfl rfl ?_
  refine rs_ld_p rfl rfl rfl rfl rfl ?_
  refine rs_mv rfl rfl ?_
  refine rs_quow (c := v.y) rfl rfl rfl (by decide) (by rw [Int.tdiv_one]; exact W_eq (by omega)) ?_
  refine rs_fa_p rfl rfl ?_
  refine rs_ld_p rfl rfl rfl rfl rfl ?_
  refine rs_mv rfl rfl ?_
  refine rs_quow (c := v.z) rfl rfl rfl (by decide) (by rw [Int.tdiv_one]; exact W_eq (by omega)) ?_
  refine rs_build rfl rfl ?_
  refine rs_fa_p rfl rfl ?_
  refine rs_ld_p rfl rfl rfl rfl rfl ?_
  refine rs_mv rfl rfl ?_
  refine rs_rem (c := 0) rfl rfl rfl (by decide) (Int.tmod_one _) ?_
  refine rs_cmp_t rfl rfl rfl rfl rfl ?_
  refine rs_mv rfl rfl ?_
  refine rs_fa_p rfl rfl ?_
  refine rs_ld_p rfl rfl rfl rfl rfl ?_
  refine rs_mv rfl rfl ?_
  refine rs_rem (c := 0) rfl rfl rfl (by decide) (Int.tmod_one _) ?_
  refine rs_cmp_t rfl rfl rfl rfl rfl ?_
  refine rs_pick rfl rfl rfl ?_
  refine rs_mv rfl rfl ?_
  refine rs_fa_p rfl rfl ?_
  refine rs_ld_p rfl rfl rfl rfl rfl ?_
  refine rs_mv rfl rfl ?_
  refine rs_rem (c := 0) rfl rfl rfl (by decide) (Int.tmod_one _) ?_
  refine rs_cmp_t rfl rfl rfl rfl rfl ?_
  refine rs_pick rfl rfl rfl ?_
  refine rs_st rfl rfl rfl rfl rfl rfl rfl (Nat.le_of_ble_eq_true rfl) rfl rfl ?_
  refine rs_mv rfl rfl ?_
  refine rs_nil ⟨by kernel_rfl, fun _ => ?_⟩
  refine th_n ?_
  refine aw_ret ?_
  exact ret_pure rfl rfl rfl (.inr rfl)

def mct36 : MC := (.seq (.reg [⟨(some 1), (.box 26 3 (.t 0)), none, []⟩, ⟨(some 2), (.mv (.c (.bool false))), none, []⟩] false) (.seq (.seq (.reg [⟨(some 5), (.fa 0 (.t 1)), none, []⟩, ⟨(some 6), (.ld false 1 (.t 5)), none, [0]⟩, ⟨(some 7), (.fa 1 (.t 1)), none, []⟩, ⟨(some 8), (.ld false 1 (.t 7)), none, [2]⟩, ⟨(some 9), (.fa 2 (.t 1)), none, []⟩, ⟨(some 10), (.ld false 1 (.t 9)), none, [4]⟩, ⟨(some 11), (.build [(.int .i64 0), (.int .i64 0), (.int .i64 0)] [(0, (1, (.t 6))), (1, (1, (.t 8))), (2, (1, (.t 10)))]), none, [1, 3, 5]⟩, ⟨(some 12), (.mv (.c (.int .i64 0))), none, []⟩] false) (.block 0 (.loop (.seq (.reg [⟨(some 13), (.bin .lss (.t 12) (.c (.int .i64 3))), none, []⟩] false) (.seq (.cond (.t 13) .skip (.exit 0)) (.seq (.block 1 (.seq (.reg [⟨(some 14), (.ixval 3 1 false (.t 11) (.t 12)), none, []⟩, ⟨(some 4), (.mv (.t 14)), none, [0, 0]⟩] false) (.seq (.reg [⟨(some 15), (.mv (.t 4)), none, []⟩, ⟨(some 16), (.bin .lss (.t 15) (.c (.int .i64 (-96)))), none, [0]⟩, ⟨(some 17), (.mv (.t 16)), none, [1]⟩, ⟨(some 18), (.mv (.t 4)), (some (17, false)), [2]⟩, ⟨(some 19), (.bin .gtr (.t 18) (.c (.int .i64 96))), (some (17, false)), [3, 2]⟩, ⟨(some 20), (.pick (.t 17) (.c (.bool true)) (.t 19)), none, [2, 4]⟩] false) (.cond (.t 20) (.seq (.reg [⟨(some 2), (.mv (.c (.bool false))), none, []⟩] false) .ret) .skip)))) (.reg [⟨(some 21), (.bin .add (.t 12) (.c (.int .i64 1))), none, []⟩, ⟨(some 12), (.mv (.t 21)), none, [0]⟩] false))))))) (.seq (.reg [⟨(some 2), (.mv (.c (.bool true))), none, []⟩] false) .ret)))
theorem mcOkt36 : (match Tryd.f36.body with | some c => compC Tryd.prog 22 c | none => none) = some mct36 := by kernel_rfl

theorem tc36 (v : V3) (hv : Bd 96 v) : FC Tryd.prog 36 [aV v] [] (.bool true) [] false := by
  have hx := hv.x; have hy := hv.y; have hz := hv.z
  refine fc_run (nt := 22) Tryd.func36 rfl rfl mcOkt36 (Nat.le_of_ble_eq_true rfl) ?_
  delta mct36
  refine aw_seq ?_
  refine aw_reg ?_
  refine rs_box rfl rfl rfl rfl rfl rfl ?_
  refine rs_mv rfl rfl ?_
  refine rs_nil fun _ => ?_
  refine th_n ?_
  refine aw_seq ?_
  refine aw_seq ?_
  refine aw_reg ?_
  refine rs_fa_p rfl rfl ?_
  refine rs_ld_p rfl rfl rfl rfl rfl ?_
  refine rs_fa_p rfl rfl ?_
  refine rs_ld_p rfl rfl rfl rfl rfl ?_
  refine rs_fa_p rfl rfl ?_
  refine rs_ld_p rfl rfl rfl rfl rfl ?_
  refine rs_build rfl rfl ?_
  refine rs_mv rfl rfl ?_
  refine rs_nil fun _ => ?_
  refine th_n ?_
  refine aw_block ?_
  refine aw_fam (α := Nat) (fun k => 3 - k) (fun k => [(11, aV v), (12, iv (((k) : Nat) : Int))]) (fun k => []) (fun k => k ≤ 3) 0 (by omega)
    (weak_to (.cons rfl (rc_same rfl (.inl rfl)) (.cons rfl (rc_same rfl (.inl rfl)) (.nil))) (.nil) (fun i h => by cases h)) ?_
  intro k hk
  refine aw_seq ?_
  refine aw_reg ?_
  refine rs_lss rfl rfl rfl ?_
  refine rs_nil fun _ => ?_
  refine th_n ?_
  refine aw_seq ?_
  refine aw_cond rfl (fun h13 => ?_) (fun h13 => ?_)
  · replace h13 := of_decide_eq_true h13
    refine aw_skip ?_
    refine th_n ?_
    refine aw_seq ?_
    refine aw_block ?_
    refine aw_seq ?_
    refine aw_reg ?_
    obtain rfl | rfl | rfl : k = 0 ∨ k = 1 ∨ k = 2 := by omega
    · skip
      refine rs_ixval rfl rfl rfl (by decide) (by decide) rfl ?_
      refine rs_mv rfl rfl ?_
      refine rs_nil fun _ => ?_
      refine th_n ?_
      refine aw_seq ?_
      refine aw_reg ?_
      refine rs_mv rfl rfl ?_
      refine rs_cmp_f rfl rfl rfl rfl (by omega) ?_
      refine rs_mv rfl rfl ?_
      refine rs_mv rfl rfl ?_
      refine rs_cmp_f rfl rfl rfl rfl (by omega) ?_
      refine rs_pick rfl rfl rfl ?_
      refine rs_nil fun _ => ?_
      refine th_n ?_
      refine aw_cond rfl (fun h => by cases h) (fun _ => ?_)
      refine aw_skip ?_
      refine in_n ?_
      refine th_n ?_
      refine aw_reg ?_
      refine rs_add rfl rfl rfl (by omega) ?_
      refine rs_mv rfl rfl ?_
      refine rs_nil fun _ => ?_
      refine th_n ?_
      exact ⟨0 + 1, by omega, by omega, weak_to (.cons rfl (rc_same rfl (.inl rfl)) (.cons rfl (rc_same rfl (.inl rfl)) (.nil))) (.nil) (fun i h => by cases h)⟩
    · skip
      refine rs_ixval rfl rfl rfl (by decide) (by decide) rfl ?_
      refine rs_mv rfl rfl ?_
      refine rs_nil fun _ => ?_
      refine th_n ?_
      refine aw_seq ?_
      refine aw_reg ?_
      refine rs_mv rfl rfl ?_
      refine rs_cmp_f rfl rfl rfl rfl (by omega) ?_
      refine rs_mv rfl rfl ?_
      refine rs_mv rfl rfl ?_
      refine rs_cmp_f rfl rfl rfl rfl (by omega) ?_
      refine rs_pick rfl rfl rfl ?_
      refine rs_nil fun _ => ?_
      refine th_n ?_
      refine aw_cond rfl (fun h => by cases h) (fun _ => ?_)
      refine aw_skip ?_
      refine in_n ?_
      refine th_n ?_
      refine aw_reg ?_
      refine rs_add rfl rfl rfl (by omega) ?_
      refine rs_mv rfl rfl ?_
      refine rs_nil fun _ => ?_
      refine th_n ?_
      exact ⟨1 + 1, by omega, by omega, weak_to (.cons rfl (rc_same rfl (.inl rfl)) (.cons rfl (rc_same rfl (.inl rfl)) (.nil))) (.nil) (fun i h => by cases h)⟩
    · skip
      refine rs_ixval rfl rfl rfl (by decide) (by decide) rfl ?_
      refine rs_mv rfl rfl ?_
      refine rs_nil fun _ => ?_
      refine th_n ?_
      refine aw_seq ?_
      refine aw_reg ?_
      refine rs_mv rfl rfl ?_
      refine rs_cmp_f rfl rfl rfl rfl (by omega) ?_
      refine rs_mv rfl rfl ?_
      refine rs_mv rfl rfl ?_
      refine rs_cmp_f rfl rfl rfl rfl (by omega) ?_
      refine rs_pick rfl rfl rfl ?_
      refine rs_nil fun _ => ?_
      refine th_n ?_
      refine aw_cond rfl (fun h => by cases h) (fun _ => ?_)
      refine aw_skip ?_
      refine in_n ?_
      refine th_n ?_
      refine aw_reg ?_
      refine rs_add rfl rfl rfl (by omega) ?_
      refine rs_mv rfl rfl ?_
      refine rs_nil fun _ => ?_
      refine th_n ?_
      exact ⟨2 + 1, by omega, by omega, weak_to (.cons rfl (rc_same rfl (.inl rfl)) (.cons rfl (rc_same rfl (.inl rfl)) (.nil))) (.nil) (fun i h => by cases h)⟩
  · replace h13 := of_decide_eq_false h13
    refine aw_exit ?_
    refine th_e ?_
    refine th_e ?_
    refine in_hit ?_
    refine th_n ?_
    refine aw_seq ?_
    refine aw_reg ?_
    refine rs_mv rfl rfl ?_
    refine rs_nil fun _ => ?_
    refine th_n ?_
    refine aw_ret ?_
    exact ret_pure rfl rfl rfl (.inr rfl)

def mct37 : MC := (.seq (.reg [⟨(some 1), (.box 35 10 (.t 0)), none, []⟩, ⟨(some 2), (.mv (.c (.bool false))), none, []⟩] false) (.seq (.reg [⟨(some 6), (.fa 0 (.t 1)), none, []⟩, ⟨(some 7), (.ld true 9 (.t 6)), none, [0]⟩, ⟨(some 3), (.alloc 67 9 [(.int .i64 0), (.int .i64 0), (.int .i64 0), (.int .i64 0), (.int .i64 0), (.int .i64 0), (.int .i64 0), (.int .i64 0), (.int .i64 0)]), none, []⟩, ⟨none, (.st 9 (.t 3) (.t 7)), none, [2, 1, 0, 1, 2]⟩] false) (.seq (.seq (.reg [⟨(some 8), (.fa 9 (.t 1)), none, []⟩, ⟨(some 9), (.ld false 1 (.t 8)), none, [0]⟩, ⟨(some 10), (.bin .lss (.t 9) (.c (.int .i64 1))), none, [1]⟩, ⟨(some 11), (.mv (.t 10)), none, [2]⟩, ⟨(some 12), (.fa 9 (.t 1)), (some (11, false)), [3]⟩, ⟨(some 13), (.ld false 1 (.t 12)), (some (11, false)), [4, 3]⟩, ⟨(some 14), (.bin .gtr (.t 13) (.c (.int .i64 25))), (some (11, false)), [5, 3]⟩, ⟨(some 15), (.pick (.t 11) (.c (.bool true)) (.t 14)), none, [3, 6]⟩, ⟨(some 16), (.mv (.t 15)), none, [7, 3]⟩, ⟨(some 17), (.ld true 9 (.t 3)), (some (16, false)), [8]⟩, ⟨(some 18), (.fa 9 (.t 1)), (some (16, false)), [8]⟩, ⟨(some 19), (.ld false 1 (.t 18)), (some (16, false)), [10, 8]⟩, ⟨(some 20), (.call 46 [(.t 17), (.t 19)]), (some (16, false)), [9, 11, 8, 8]⟩, ⟨(some 21), (.un .not (.t 20)), (some (16, false)), [12, 8]⟩, ⟨(some 22), (.pick (.t 16) (.c (.bool true)) (.t 21)), none, [8, 13]⟩] false) (.cond (.t 22) (.seq (.reg [⟨(some 2), (.mv (.c (.bool false))), none, []⟩] false) .ret) .skip)) (.seq (.reg [⟨(some 24), (.ld true 9 (.t 3)), none, []⟩, ⟨(some 25), (.fa 9 (.t 1)), none, []⟩, ⟨(some 26), (.ld false 1 (.t 25)), none, [1]⟩, ⟨(some 27), (.call 47 [(.t 24), (.t 26)]), none, [0, 2]⟩, ⟨(some 23), (.mv (.t 27)), none, [3]⟩, ⟨(some 28), (.ext (.t 23) 0), none, [4]⟩, ⟨(some 29), (.ext (.t 23) 1), none, [4]⟩, ⟨(some 4), (.alloc 67 9 [(.int .i64 0), (.int .i64 0), (.int .i64 0), (.int .i64 0), (.int .i64 0), (.int .i64 0), (.int .i64 0), (.int .i64 0), (.int .i64 0)]), none, []⟩, ⟨none, (.st 9 (.t 4) (.t 28)), none, [7, 5, 3, 0, 1, 2, 3, 4, 5, 7]⟩, ⟨(some 5), (.mv (.t 29)), none, [6, 8, 0, 1, 2, 3, 4, 5, 6, 7, 8]⟩] false) (.seq (.reg [⟨(some 30), (.ld true 9 (.t 3)), none, []⟩, ⟨(some 31), (.ld true 9 (.t 3)), none, []⟩, ⟨(some 32), (.call 49 [(.t 31)]), none, [1]⟩, ⟨(some 33), (.call 48 [(.t 30), (.t 32)]), none, [0, 2, 2]⟩, ⟨(some 34), (.ldg 9 0), none, []⟩, ⟨(some 35), (.fa 9 (.t 1)), none, []⟩, ⟨(some 36), (.ld false 1 (.t 35)), none, [5]⟩, ⟨(some 37), (.fa 9 (.t 1)), none, []⟩, ⟨(some 38), (.ld false 1 (.t 37)), none, [7]⟩, ⟨(some 39), (.bin .mul (.t 36) (.t 38)), none, [6, 8]⟩, ⟨(some 40), (.call 50 [(.t 34), (.t 39)]), none, [4, 9, 3]⟩, ⟨(some 41), (.aeq false 9 (.t 33) (.t 40)), none, [3, 10]⟩, ⟨(some 42), (.mv (.t 41)), none, [11, 10]⟩, ⟨(some 43), (.ld true 9 (.t 3)), (some (42, true)), [12]⟩, ⟨(some 44), (.call 51 [(.t 43)]), (some (42, true)), [13, 12, 12]⟩, ⟨(some 45), (.fa 9 (.t 1)), (some (42, true)), [12]⟩, ⟨(some 46), (.ld false 1 (.t 45)), (some (42, true)), [15, 12]⟩, ⟨(some 47), (.fa 9 (.t 1)), (some (42, true)), [12]⟩, ⟨(some 48), (.ld false 1 (.t 47)), (some (42, true)), [17, 12]⟩, ⟨(some 49), (.bin .mul (.t 46) (.t 48)), (some (42, true)), [16, 18, 12]⟩, ⟨(some 50), (.fa 9 (.t 1)), (some (42, true)), [12]⟩, ⟨(some 51), (.ld false 1 (.t 50)), (some (42, true)), [20, 12]⟩, ⟨(some 52), (.bin .mul (.t 49) (.t 51)), (some (42, true)), [19, 21, 12]⟩, ⟨(some 53), (.bin .eql (.t 44) (.t 52)), (some (42, true)), [14, 22, 12]⟩, ⟨(some 54), (.pick (.t 42) (.t 53) (.c (.bool false))), none, [12, 23]⟩, ⟨(some 55), (.mv (.t 54)), none, [24, 14]⟩, ⟨(some 56), (.mv (.t 5)), (some (55, true)), [25]⟩, ⟨(some 57), (.fa 9 (.t 1)), (some (55, true)), [25]⟩, ⟨(some 58), (.ld false 1 (.t 57)), (some (55, true)), [27, 25]⟩, ⟨(some 59), (.bin .eql (.t 56) (.t 58)), (some (55, true)), [26, 28, 25]⟩, ⟨(some 60), (.pick (.t 55) (.t 59) (.c (.bool false))), none, [25, 29]⟩, ⟨(some 2), (.mv (.t 60)), none, [30, 25, 0, 1, 2, 3, 4, 5, 6, 7, 8, 9, 10, 11, 12, 13, 14, 15, 16, 17, 18, 19, 20, 21, 22, 23, 24, 25, 26, 27, 28, 29, 30]⟩] true) .ret)))))
theorem mcOkt37 : (match Tryd.f37.body with | some c => compC Tryd.prog 61 c | none => none) = some mct37 := by kernel_rfl

theorem tc37 (M : Nat → Int) (h : OkM M) : FC Tryd.prog 37 [.agg (mL M ++ [iv 1])] [(5000000, .glob 0 idn)] (.bool true) [(5000000, .glob 0 idn)] true := by
  refine fc_run (nt := 61) Tryd.func37 rfl rfl mcOkt37 (Nat.le_of_ble_eq_true rfl) ?_
  delta mct37
  refine aw_seq ?_
  refine aw_reg ?_
  refine rs_box rfl rfl rfl rfl rfl rfl ?_
  refine rs_mv rfl rfl ?_
  refine rs_nil fun _ => ?_
  refine th_n ?_
  refine aw_seq ?_
  refine aw_reg ?_
  refine rs_fa_p rfl rfl ?_
  refine rs_ld_pa rfl rfl rfl rfl (Nat.le_of_ble_eq_true rfl) rfl ?_
  refine rs_alloc rfl rfl rfl ?_
  refine rs_st rfl rfl rfl rfl rfl rfl rfl (Nat.le_of_ble_eq_true rfl) rfl rfl ?_
  refine rs_nil fun _ => ?_
  refine th_n ?_
  refine aw_seq ?_
  refine aw_seq ?_
  refine aw_reg ?_
  refine rs_fa_p rfl rfl ?_
  refine rs_ld_p rfl rfl rfl rfl rfl ?_
  refine rs_cmp_f rfl rfl rfl rfl (by omega) ?_
  refine rs_mv rfl rfl ?_
  refine rs_fa_p rfl rfl ?_
  refine rs_ld_p rfl rfl rfl rfl rfl ?_
  refine rs_cmp_f rfl rfl rfl rfl (by omega) ?_
  refine rs_pick rfl rfl rfl ?_
  refine rs_mv rfl rfl ?_
  refine rs_ld_pa rfl rfl rfl rfl (Nat.le_of_ble_eq_true rfl) rfl ?_
  refine rs_fa_p rfl rfl ?_
  refine rs_ld_p rfl rfl rfl rfl rfl ?_
  refine rs_calln [] rfl rfl (tc46 M h.w) (.cons (hv_same rfl) (.cons (hv_same rfl) (.nil))) rfl ?_
  refine rs_not rfl rfl ?_
  refine rs_pick rfl rfl rfl ?_
  refine rs_nil fun _ => ?_
  refine th_n ?_
  refine aw_cond rfl (fun h => by cases h) (fun _ => ?_)
  refine aw_skip ?_
  refine th_n ?_
  refine aw_seq ?_
  refine aw_reg ?_
  refine rs_ld_pa rfl rfl rfl rfl (Nat.le_of_ble_eq_true rfl) rfl ?_
  refine rs_fa_p rfl rfl ?_
  refine rs_ld_p rfl rfl rfl rfl rfl ?_
  refine rs_calln [] rfl rfl (tc47 M h.w) (.cons (hv_same rfl) (.cons (hv_same rfl) (.nil))) rfl ?_
  refine rs_mv rfl rfl ?_
  refine rs_ext rfl rfl rfl ?_
  refine rs_ext rfl rfl rfl ?_
  refine rs_alloc rfl rfl rfl ?_
  refine rs_st rfl rfl rfl rfl rfl rfl rfl (Nat.le_of_ble_eq_true rfl) rfl rfl ?_
  refine rs_mv rfl rfl ?_
  refine rs_nil fun _ => ?_
  refine th_n ?_
  refine aw_seq ?_
  refine aw_draw hmix ?_
  refine rs_ld_pa rfl rfl rfl rfl (Nat.le_of_ble_eq_true rfl) rfl ?_
  refine rs_ld_pa rfl rfl rfl rfl (Nat.le_of_ble_eq_true rfl) rfl ?_
  refine rs_calln [] rfl rfl (tc49 M) (.cons (hv_same rfl) (.nil)) rfl ?_
  refine rs_calln [] rfl rfl (tc48 M (trM M)) (.cons (hv_same rfl) (.cons (hv_same rfl) (.nil))) rfl ?_
  refine rs_ldg rfl rfl (by decide) ?_
  refine rs_fa_p rfl rfl ?_
  refine rs_ld_p rfl rfl rfl rfl rfl ?_
  refine rs_fa_p rfl rfl ?_
  refine rs_ld_p rfl rfl rfl rfl rfl ?_
  refine rs_mulw (c := 1) rfl rfl rfl rfl ?_
  refine rs_calln [] rfl rfl (tc50 idM 1) (.cons (hv_same rfl) (.cons (hv_same rfl) (.nil))) rfl ?_
  refine rs_aeq (b := true) [tq M (trM M) 0 3, tq M (trM M) 1 3, tq M (trM M) 2 3, tq M (trM M) 3 3, tq M (trM M) 4 3, tq M (trM M) 5 3, tq M (trM M) 6 3, tq M (trM M) 7 3, tq M (trM M) 8 3] [W (idM 0 * 1), W (idM 1 * 1), W (idM 2 * 1), W (idM 3 * 1), W (idM 4 * 1), W (idM 5 * 1), W (idM 6 * 1), W (idM 7 * 1), W (idM 8 * 1)] rfl rfl rfl rfl rfl rfl rfl (by rw [h.i]; rfl) ?_
  refine rs_mv rfl rfl ?_
  refine rs_ld_pa rfl rfl rfl rfl (Nat.le_of_ble_eq_true rfl) rfl ?_
  refine rs_calln [] rfl rfl (tc51 M) (.cons (hv_same rfl) (.nil)) rfl ?_
  refine rs_fa_p rfl rfl ?_
  refine rs_ld_p rfl rfl rfl rfl rfl ?_
  refine rs_fa_p rfl rfl ?_
  refine rs_ld_p rfl rfl rfl rfl rfl ?_
  refine rs_mulw (c := 1) rfl rfl rfl rfl ?_
  refine rs_fa_p rfl rfl ?_
  refine rs_ld_p rfl rfl rfl rfl rfl ?_
  refine rs_mulw (c := 1) rfl rfl rfl rfl ?_
  refine rs_cmp_t rfl rfl rfl rfl h.d ?_
  refine rs_pick rfl rfl rfl ?_
  refine rs_mv rfl rfl ?_
  refine rs_mv rfl rfl ?_
  refine rs_fa_p rfl rfl ?_
  refine rs_ld_p rfl rfl rfl rfl rfl ?_
  refine rs_cmp_t rfl rfl rfl rfl rfl ?_
  refine rs_pick rfl rfl rfl ?_
  refine rs_mv rfl rfl ?_
  refine rs_nil ⟨by kernel_rfl, fun _ => ?_⟩
  refine th_n ?_
  refine aw_ret ?_
  exact ret_own rfl (rc_same rfl (.inl rfl)) (.keep (rfl) rfl (.nil)) (.dead rfl rfl .nil)

def mct25 : MC := (.seq (.reg [⟨(some 1), (.box 37 13 (.t 0)), none, []⟩, ⟨(some 2), (.mv (.c (.bool false))), none, []⟩] false) (.seq (.reg [⟨(some 3), (.fa 10 (.t 1)), none, []⟩, ⟨(some 4), (.ld true 3 (.t 3)), none, [0]⟩, ⟨(some 5), (.call 36 [(.t 4)]), none, [1]⟩, ⟨(some 6), (.mv (.t 5)), none, [2, 2]⟩, ⟨(some 7), (.fa 0 (.t 1)), (some (6, true)), [3]⟩, ⟨(some 8), (.ld true 10 (.t 7)), (some (6, true)), [4, 3]⟩, ⟨(some 9), (.call 37 [(.t 8)]), (some (6, true)), [5, 3, 3]⟩, ⟨(some 10), (.pick (.t 6) (.t 9) (.c (.bool false))), none, [3, 6]⟩, ⟨(some 2), (.mv (.t 10)), none, [7, 6, 0, 1, 2, 3, 4, 5, 6, 7]⟩] false) .ret))
theorem mcOkt25 : (match Tryd.f25.body with | some c => compC Tryd.prog 11 c | none => none) = some mct25 := by kernel_rfl

theorem tc25 (M : Nat → Int) (h : OkM M) (s : V3) (hs : Bd 96 s) : FC Tryd.prog 25 [.agg (mL M ++ [iv 1, iv s.x, iv s.y, iv s.z])] [(5000000, .glob 0 idn)] (.bool true) [(5000000, .glob 0 idn)] true := by
  refine fc_run (nt := 11) Tryd.func25 rfl rfl mcOkt25 (Nat.le_of_ble_eq_true rfl) ?_
  delta mct25
  refine aw_seq ?_
  refine aw_reg ?_
  refine rs_box rfl rfl rfl rfl rfl rfl ?_
  refine rs_mv rfl rfl ?_
  refine rs_nil fun _ => ?_
  refine th_n ?_
  refine aw_seq ?_
  refine aw_reg ?_
  refine rs_fa_p rfl rfl ?_
  refine rs_ld_pa rfl rfl rfl rfl (Nat.le_of_ble_eq_true rfl) rfl ?_
  refine rs_calln [] rfl rfl (tc36 s hs) (.cons (hv_same rfl) (.nil)) rfl ?_
  refine rs_mv rfl rfl ?_
  refine rs_fa_p rfl rfl ?_
  refine rs_ld_pa rfl rfl rfl rfl (Nat.le_of_ble_eq_true rfl) rfl ?_
  refine rs_callo [(5000000, .glob 0 idn)] rfl rfl (tc37 M h) (.cons (hv_same rfl) (.nil)) (.cons rfl (.nil)) rfl rfl rfl ?_
  refine rs_pick rfl rfl rfl ?_
  refine rs_mv rfl rfl ?_
  refine rs_nil fun _ => ?_
  refine th_n ?_
  refine aw_ret ?_
  exact ret_own rfl (rc_same rfl (.inl rfl)) (.keep (rfl) rfl (.nil)) (.dead rfl rfl .nil)

def mct7 : MC := (.seq (.reg [⟨(some 2), (.box 37 13 (.t 0)), none, []⟩, ⟨(some 3), (.box 26 3 (.t 1)), none, []⟩, ⟨(some 4), (.alloc 26 3 [(.int .i64 0), (.int .i64 0), (.int .i64 0)]), none, []⟩, ⟨(some 5), (.mv (.c (.bool false))), none, []⟩] false) (.seq (.seq (.reg [⟨(some 8), (.ld true 13 (.t 2)), none, []⟩, ⟨(some 9), (.call 25 [(.t 8)]), none, [0]⟩, ⟨(some 10), (.un .not (.t 9)), none, [1]⟩, ⟨(some 11), (.mv (.t 10)), none, [2, 1]⟩, ⟨(some 12), (.ld true 3 (.t 3)), (some (11, false)), [3]⟩, ⟨(some 13), (.call 26 [(.t 12)]), (some (11, false)), [4, 3, 3]⟩, ⟨(some 14), (.un .not (.t 13)), (some (11, false)), [5, 3]⟩, ⟨(some 15), (.pick (.t 11) (.c (.bool true)) (.t 14)), none, [3, 6]⟩] false) (.cond (.t 15) (.seq (.reg [⟨(some 16), (.build [(.int .i64 0), (.int .i64 0), (.int .i64 0)] []), none, []⟩, ⟨none, (.st 3 (.t 4) (.t 16)), none, [0, 0]⟩, ⟨(some 5), (.mv (.c (.bool false))), none, [1, 0, 1]⟩] false) .ret) .skip)) (.seq (.reg [⟨(some 18), (.fa 0 (.t 2)), none, []⟩, ⟨(some 19), (.fa 0 (.t 18)), none, [0]⟩, ⟨(some 20), (.ld true 9 (.t 19)), none, [1]⟩, ⟨(some 21), (.ld true 3 (.t 3)), none, []⟩, ⟨(some 22), (.call 28 [(.t 20), (.t 21)]), none, [2, 3]⟩, ⟨(some 23), (.fa 0 (.t 2)), none, []⟩, ⟨(some 24), (.fa 9 (.t 23)), none, [5]⟩, ⟨(some 25), (.ld false 1 (.t 24)), none, [6]⟩, ⟨(some 26), (.call 27 [(.t 22), (.t 25)]), none, [4, 7, 4]⟩, ⟨(some 17), (.mv (.t 26)), none, [8]⟩, ⟨(some 27), (.ext (.t 17) 0), none, [9]⟩, ⟨(some 28), (.ext (.t 17) 1), none, [9]⟩, ⟨(some 6), (.alloc 26 3 [(.int .i64 0), (.int .i64 0), (.int .i64 0)]), none, []⟩, ⟨none, (.st 3 (.t 6) (.t 27)), none, [12, 10, 8, 0, 1, 2, 3, 4, 5, 6, 7, 8, 9, 10, 12]⟩, ⟨(some 7), (.mv (.t 28)), none, [11, 13, 0, 1, 2, 3, 4, 5, 6, 7, 8, 9, 10, 11, 12, 13]⟩] true) (.seq (.seq (.reg [⟨(some 29), (.ld true 3 (.t 6)), none, []⟩, ⟨(some 30), (.fa 10 (.t 2)), none, []⟩, ⟨(some 31), (.ld true 3 (.t 30)), none, [1]⟩, ⟨(some 32), (.call 29 [(.t 29), (.t 31)]), none, [0, 2]⟩, ⟨none, (.st 3 (.t 6) (.t 32)), none, [3, 3, 0, 1, 2, 3]⟩] false) (.seq (.reg [⟨(some 33), (.mv (.t 7)), none, []⟩, ⟨(some 34), (.un .not (.t 33)), none, [0]⟩, ⟨(some 35), (.mv (.t 34)), none, [1]⟩, ⟨(some 36), (.ld true 3 (.t 6)), (some (35, false)), [2]⟩, ⟨(some 37), (.call 26 [(.t 36)]), (some (35, false)), [3, 2, 2]⟩, ⟨(some 38), (.un .not (.t 37)), (some (35, false)), [4, 2]⟩, ⟨(some 39), (.pick (.t 35) (.c (.bool true)) (.t 38)), none, [2, 5]⟩] false) (.cond (.t 39) (.seq (.reg [⟨(some 40), (.build [(.int .i64 0), (.int .i64 0), (.int .i64 0)] []), none, []⟩, ⟨none, (.st 3 (.t 4) (.t 40)), none, [0, 0]⟩, ⟨(some 5), (.mv (.c (.bool false))), none, [1, 0, 1]⟩] false) .ret) .skip))) (.seq (.reg [⟨(some 41), (.ld true 3 (.t 6)), none, []⟩, ⟨none, (.st 3 (.t 4) (.t 41)), none, [0, 0]⟩, ⟨(some 5), (.mv (.c (.bool true))), none, [1, 0, 1]⟩] false) .ret)))))
theorem mcOkt7 : (match Tryd.f7.body with | some c => compC Tryd.prog 42 c | none => none) = some mct7 := by kernel_rfl

theorem tc7 (M : Nat → Int) (h : OkM M) (s : V3) (hs : Bd 96 s) (v : V3) (hv : inS v = true) (hw : Bd 1000 (ofS M v)) (hi : inS (add (ofS M v) s) = true) : FC Tryd.prog 7 [.agg (mL M ++ [iv 1, iv s.x, iv s.y, iv s.z]), aV v] [(5000000, .glob 0 idn)] (.tup [aV (add (ofS M v) s), .bool true]) [(5000000, .glob 0 idn)] true := by
  refine fc_run (nt := 42) Tryd.func7 rfl rfl mcOkt7 (Nat.le_of_ble_eq_true rfl) ?_
  delta mct7
  refine aw_seq ?_
  refine aw_reg ?_
  refine rs_box rfl rfl rfl rfl rfl rfl ?_
  refine rs_box rfl rfl rfl rfl rfl rfl ?_
  refine rs_alloc rfl rfl rfl ?_
  refine rs_mv rfl rfl ?_
  refine rs_nil fun _ => ?_
  refine th_n ?_
  refine aw_seq ?_
  refine aw_seq ?_
  refine aw_reg ?_
  refine rs_ld_pa rfl rfl rfl rfl (Nat.le_of_ble_eq_true rfl) rfl ?_
  refine rs_callo [(5000000, .glob 0 idn)] rfl rfl (tc25 M h s hs) (.cons (hv_same rfl) (.nil)) (.cons rfl (.nil)) rfl rfl rfl ?_
  refine rs_not rfl rfl ?_
  refine rs_mv rfl rfl ?_
  refine rs_ld_pa rfl rfl rfl rfl (Nat.le_of_ble_eq_true rfl) rfl ?_
  refine rs_calln [] rfl rfl (in_t hv) (.cons (hv_same rfl) (.nil)) rfl ?_
  refine rs_not rfl rfl ?_
  refine rs_pick rfl rfl rfl ?_
  refine rs_nil fun _ => ?_
  refine th_n ?_
  refine aw_cond rfl (fun h => by cases h) (fun _ => ?_)
  refine aw_skip ?_
  refine th_n ?_
  refine aw_seq ?_
  refine aw_draw hmix ?_
  refine rs_fa_p rfl rfl ?_
  refine rs_fa_p rfl rfl ?_
  refine rs_ld_pa rfl rfl rfl rfl (Nat.le_of_ble_eq_true rfl) rfl ?_
  refine rs_ld_pa rfl rfl rfl rfl (Nat.le_of_ble_eq_true rfl) rfl ?_
  refine rs_calln [] rfl rfl (tc28 M v) (.cons (hv_same rfl) (.cons (hv_same rfl) (.nil))) rfl ?_
  refine rs_fa_p rfl rfl ?_
  refine rs_fa_p rfl rfl ?_
  refine rs_ld_p rfl rfl rfl rfl rfl ?_
  refine rs_calln [] rfl rfl (tc27 (ofS M v) hw) (.cons (hv_same rfl) (.cons (hv_same rfl) (.nil))) rfl ?_
  refine rs_mv rfl rfl ?_
  refine rs_ext rfl rfl rfl ?_
  refine rs_ext rfl rfl rfl ?_
  refine rs_alloc rfl rfl rfl ?_
  refine rs_st rfl rfl rfl rfl rfl rfl rfl (Nat.le_of_ble_eq_true rfl) rfl rfl ?_
  refine rs_mv rfl rfl ?_
  refine rs_nil ⟨by kernel_rfl, fun _ => ?_⟩
  refine th_n ?_
  refine aw_seq ?_
  refine aw_seq ?_
  refine aw_reg ?_
  refine rs_ld_pa rfl rfl rfl rfl (Nat.le_of_ble_eq_true rfl) rfl ?_
  refine rs_fa_p rfl rfl ?_
  refine rs_ld_pa rfl rfl rfl rfl (Nat.le_of_ble_eq_true rfl) rfl ?_
  refine rs_calln [] rfl rfl (fc28s hw.big hs.big) (.cons (hv_same rfl) (.cons (hv_same rfl) (.nil))) rfl ?_
  refine rs_st rfl rfl rfl rfl rfl rfl rfl (Nat.le_of_ble_eq_true rfl) rfl rfl ?_
  refine rs_nil fun _ => ?_
  refine th_n ?_
  refine aw_seq ?_
  refine aw_reg ?_
  refine rs_mv rfl rfl ?_
  refine rs_not rfl rfl ?_
  refine rs_mv rfl rfl ?_
  refine rs_ld_pa rfl rfl rfl rfl (Nat.le_of_ble_eq_true rfl) rfl ?_
  refine rs_calln [] rfl rfl (in_t hi) (.cons (hv_same rfl) (.nil)) rfl ?_
  refine rs_not rfl rfl ?_
  refine rs_pick rfl rfl rfl ?_
  refine rs_nil fun _ => ?_
  refine th_n ?_
  refine aw_cond rfl (fun h => by cases h) (fun _ => ?_)
  refine aw_skip ?_
  refine th_n ?_
  refine aw_seq ?_
  refine aw_reg ?_
  refine rs_ld_pa rfl rfl rfl rfl (Nat.le_of_ble_eq_true rfl) rfl ?_
  refine rs_st rfl rfl rfl rfl rfl rfl rfl (Nat.le_of_ble_eq_true rfl) rfl rfl ?_
  refine rs_mv rfl rfl ?_
  refine rs_nil fun _ => ?_
  refine th_n ?_
  refine aw_ret ?_
  exact ret_own rfl (rc_same rfl (.inl rfl)) (.keep (rfl) rfl (.nil)) (.dead rfl rfl .nil)

end Go.Proofs.YteommcdafifckaaDoor

/-! Plain law: the steps of a move, one by one: ends, differences. -/
namespace Go.Proofs.YteommcdafifckaaDoor
open Go.RowKit

theorem plus_bd {c u : V3} {k : Int} {n q w : Int} (hc : Bd n c) (hu : Bd q u) (hk : -w ≤ k ∧ k ≤ w) (he : n + w * q ≤ 10000) : Bd 10000 (plus c u k) := (Bd.plus hc hu hk).mono he
theorem arcQ_mem {r n i j : Nat} (h : (i, j) ∈ arcQ r n) : i * i + j * j = r * r ∧ i ≤ r ∧ j < n := by
  unfold arcQ at h
  rw [List.mem_filterMap] at h
  obtain ⟨q, hq, he⟩ := h
  split at he
  · rename_i hc
    injection he with he
    injection he with e1 e2
    subst e1 e2
    exact ⟨hc, iP_le r _, List.mem_range.1 hq⟩
  · cases he
theorem path_bd {m : Mv} (h : checkS m = 0) {x : V3} (hx : x ∈ pathS m) : Bd 10000 x := by
  have hi := ck_in h
  by_cases hk : m.kind = 3
  · have f := arc_facts h hk
    rw [path_a h hk] at hx
    unfold arcV at hx
    rw [List.mem_map] at hx
    obtain ⟨⟨i, j⟩, hm, rfl⟩ := hx
    obtain ⟨_, h1, h2⟩ := arcQ_mem hm
    have := f.r2
    exact ((Bd.plus (Bd.plus hi.c (prim_bd hi.a48) (q := 48) (by dsimp only; omega)) (prim_bd hi.b48) (q := 48) (by dsimp only; omega)).mono (by decide))
  · rw [path_n h hk] at hx
    unfold linQ at hx
    rw [List.mem_map] at hx
    obtain ⟨k, hm, rfl⟩ := hx
    have := List.mem_range.1 hm
    have := gS_le (n := 48) hi.d48
    exact (Bd.plus hi.fr (prim_bd hi.d48) (q := 48) (by omega)).mono (by decide)
theorem arc_ends : ∀ r, r < 49 → (arcQ r (r + 1))[0]? = some (r, 0) ∧ (arcQ r (r + 1))[(arcQ r (r + 1)).length - 1]? = some (0, r) := by decide +kernel
def monoB : List (Nat × Nat) → Bool
  | a :: b :: l => decide (b.1 < a.1 ∧ a.2 < b.2) && monoB (b :: l)
  | _ => true
theorem monoB_at : ∀ {l : List (Nat × Nat)} {k : Nat} {a b : Nat × Nat}, monoB l = true → l[k]? = some a → l[k + 1]? = some b → b.1 < a.1 ∧ a.2 < b.2
  | [], k, a, b, _, h1, _ => by simp at h1
  | [x], k, a, b, _, _, h2 => by simp at h2
  | x :: y :: l, 0, a, b, h, h1, h2 => by
    simp at h1 h2
    subst h1 h2
    simp only [monoB, Bool.and_eq_true, decide_eq_true_eq] at h
    exact h.1
  | x :: y :: l, k + 1, a, b, h, h1, h2 => by
    simp only [monoB, Bool.and_eq_true] at h
    exact monoB_at (l := y :: l) (k := k) h.2 (by simpa using h1) (by simpa using h2)
theorem arc_mono : ∀ r, r < 49 → monoB (arcQ r (r + 1)) = true := by decide +kernel
theorem fr_eq (m : Mv) : m.fr = plus (plus (cenS m) (primV (sA m)) (gS (sA m))) (primV (sB m)) 0 := by
  obtain ⟨h1, h2, h3⟩ := prim_mul (sA m)
  have e := cen_a m
  have e1 := congrArg V3.x e
  have e2 := congrArg V3.y e
  have e3 := congrArg V3.z e
  simp only [sub] at e1 e2 e3
  unfold plus
  simp only [Int.zero_mul, Int.add_zero]
  rw [← h1, ← h2, ← h3, ← e1, ← e2, ← e3]
  obtain ⟨k, ⟨a, b, c⟩, ⟨a', b', c'⟩, co, f⟩ := m
  dsimp only
  congr 1 <;> omega
theorem to_eqA (m : Mv) : m.to = plus (plus (cenS m) (primV (sA m)) 0) (primV (sB m)) (gS (sB m)) := by
  obtain ⟨h1, h2, h3⟩ := prim_mul (sB m)
  have e := cen_b m
  have e1 := congrArg V3.x e
  have e2 := congrArg V3.y e
  have e3 := congrArg V3.z e
  simp only [sub] at e1 e2 e3
  unfold plus
  simp only [Int.zero_mul, Int.add_zero]
  rw [← h1, ← h2, ← h3, ← e1, ← e2, ← e3]
  obtain ⟨k, ⟨a, b, c⟩, ⟨a', b', c'⟩, co, f⟩ := m
  dsimp only
  congr 1 <;> omega
theorem arcV_of {c a b : V3} {r n k : Nat} {x : V3} (h : (arcV c a b r n)[k]? = some x) : ∃ p : Nat × Nat, (arcQ r n)[k]? = some p ∧ x = plus (plus c a p.1) b p.2 := by
  unfold arcV at h
  rw [List.getElem?_map] at h
  cases e : (arcQ r n)[k]? with
  | none => rw [e] at h; cases h
  | some p => rw [e] at h; injection h with h; exact ⟨p, rfl, h.symm⟩
theorem arcV_to {c a b : V3} {r n k : Nat} {p : Nat × Nat} (h : (arcQ r n)[k]? = some p) : (arcV c a b r n)[k]? = some (plus (plus c a p.1) b p.2) := by
  unfold arcV
  rw [List.getElem?_map, h]; rfl
theorem path_first {m : Mv} (h : checkS m = 0) : (pathS m)[0]? = some m.fr := by
  by_cases hk : m.kind = 3
  · have f := arc_facts h hk
    have := f.r2
    rw [path_a h hk, arcV_to (arc_ends _ (by omega)).1]
    exact congrArg some (fr_eq m).symm
  · rw [path_n h hk, linQ_at (by omega)]
    congr 1
    unfold plus
    simp
theorem path_last {m : Mv} (h : checkS m = 0) : (pathS m)[(pathS m).length - 1]? = some m.to := by
  by_cases hk : m.kind = 3
  · have f := arc_facts h hk
    have := f.r2
    have e : (pathS m).length = (arcQ (gS (sA m)) (gS (sA m) + 1)).length := by rw [path_a h hk]; simp [arcV]
    rw [e, path_a h hk, arcV_to (arc_ends _ (by omega)).2]
    have := to_eqA m
    rw [← f.g] at this
    exact congrArg some this.symm
  · have e : (pathS m).length - 1 = gS (dS m) := by rw [path_n h hk, linQ_len]; omega
    rw [e, path_n h hk, linQ_at (by omega)]
    exact congrArg some (to_eq m).symm
theorem gS_prim {v : V3} (h : 1 ≤ gS v) : gS (primV v) = 1 := by
  obtain ⟨h1, h2, h3⟩ := prim_mul v
  have e : gS v = gS v * gS (primV v) := by
    conv => lhs; rw [gS_eq, h1, h2, h3]
    rw [gS_eq (primV v), Int.natAbs_mul, Int.natAbs_mul, Int.natAbs_mul, Int.natAbs_natCast, Nat.gcd_mul_left, Nat.gcd_mul_left]
  have := Nat.mul_left_cancel (show 0 < gS v by omega) (e.symm.trans (Nat.mul_one _).symm)
  exact this
theorem step_line {m : Mv} (h : checkS m = 0) (hk : ¬ m.kind = 3) {k : Nat} {x y : V3} (hy : (pathS m)[k]? = some y) (hx : (pathS m)[k + 1]? = some x) : sub x y = primV (dS m) := by
  rw [path_n h hk] at hx hy
  have l1 := lt_of_at hx
  have l2 := lt_of_at hy
  rw [linQ_len] at l1 l2
  rw [linQ_at l1] at hx
  rw [linQ_at l2] at hy
  injection hx with hx
  injection hy with hy
  subst hx hy
  generalize primV (dS m) = u
  obtain ⟨a, b, c⟩ := u
  simp only [sub, plus]
  congr 1 <;> grind
structure Perp (A B : V3) : Prop where
  a : A.x * A.x + A.y * A.y + A.z * A.z = 1
  b : B.x * B.x + B.y * B.y + B.z * B.z = 1
  ab : A.x * B.x + A.y * B.y + A.z * B.z = 0
theorem aux_sq {A B c : V3} (h : Perp A B) (i j : Int) : dot (sub (plus (plus c A i) B j) c) (sub (plus (plus c A i) B j) c) = i * i + j * j := by
  have := h.a; have := h.b; have := h.ab
  simp only [dot, sub, plus]
  grind
theorem aux_a {A B c : V3} (h : Perp A B) (i j r : Int) : dot (sub (plus (plus c A i) B j) c) ⟨r * A.x, r * A.y, r * A.z⟩ = r * i := by
  have := h.a; have := h.b; have := h.ab
  simp only [dot, sub, plus]
  grind
theorem aux_b {A B c : V3} (h : Perp A B) (i j r : Int) : dot (sub (plus (plus c A i) B j) c) ⟨r * B.x, r * B.y, r * B.z⟩ = r * j := by
  have := h.a; have := h.b; have := h.ab
  simp only [dot, sub, plus]
  grind
theorem aux_da {A B c : V3} (h : Perp A B) (i j i' j' r : Int) : dot (sub (plus (plus c A i') B j') (plus (plus c A i) B j)) ⟨r * A.x, r * A.y, r * A.z⟩ = r * (i' - i) := by
  have := h.a; have := h.b; have := h.ab
  simp only [dot, sub, plus]
  grind
theorem aux_db {A B c : V3} (h : Perp A B) (i j i' j' r : Int) : dot (sub (plus (plus c A i') B j') (plus (plus c A i) B j)) ⟨r * B.x, r * B.y, r * B.z⟩ = r * (j' - j) := by
  have := h.a; have := h.b; have := h.ab
  simp only [dot, sub, plus]
  grind
theorem aux_rr {A : V3} (h : A.x * A.x + A.y * A.y + A.z * A.z = 1) (r : Int) : dot ⟨r * A.x, r * A.y, r * A.z⟩ ⟨r * A.x, r * A.y, r * A.z⟩ = r * r := by
  simp only [dot]
  grind
theorem aux_cr {A B c : V3} (i j r : Int) : dot (cross ⟨r * A.x, r * A.y, r * A.z⟩ ⟨r * B.x, r * B.y, r * B.z⟩) (sub (plus (plus c A i) B j) c) = 0 := by
  simp only [dot, sub, plus, cross]
  grind
theorem arc_perp {m : Mv} (f : ArcF m) : Perp (primV (sA m)) (primV (sB m)) := ⟨f.a, f.b, f.ab⟩
theorem sA_eq {m : Mv} : sA m = ⟨gS (sA m) * (primV (sA m)).x, gS (sA m) * (primV (sA m)).y, gS (sA m) * (primV (sA m)).z⟩ := by
  obtain ⟨h1, h2, h3⟩ := prim_mul (sA m)
  rw [← h1, ← h2, ← h3]
theorem sB_eq {m : Mv} (f : ArcF m) : sB m = ⟨gS (sA m) * (primV (sB m)).x, gS (sA m) * (primV (sB m)).y, gS (sA m) * (primV (sB m)).z⟩ := by
  obtain ⟨h1, h2, h3⟩ := prim_mul (sB m)
  rw [f.g, ← h1, ← h2, ← h3]
theorem step_aux {A B c a b : V3} {r i j i' j' : Int} (hp : Perp A B) (ha : a = ⟨r * A.x, r * A.y, r * A.z⟩) (hb : b = ⟨r * B.x, r * B.y, r * B.z⟩) (hr : 1 ≤ r) (hs : i' * i' + j' * j' = r * r) (hi : 0 ≤ i') (h1 : i' < i) (h2 : j < j') :
    dot (sub (plus (plus c A i') B j') c) (sub (plus (plus c A i') B j') c) = dot a a ∧ dot (sub (plus (plus c A i') B j') (plus (plus c A i) B j)) a < 0 ∧ 0 < dot (sub (plus (plus c A i') B j') (plus (plus c A i) B j)) b ∧
      0 ≤ dot (sub (plus (plus c A i') B j') c) a ∧ dot (cross a b) (sub (plus (plus c A i') B j') c) = 0 := by
  subst ha hb
  refine ⟨by rw [aux_sq hp, aux_rr hp.a, hs], ?_, ?_, ?_, aux_cr _ _ _⟩
  · rw [aux_da hp]; exact Int.mul_neg_of_pos_of_neg (by omega) (by omega)
  · rw [aux_db hp]; exact Int.mul_pos (by omega) (by omega)
  · rw [aux_a hp]; exact Int.mul_nonneg (by omega) hi
theorem step_arc {m : Mv} (h : checkS m = 0) (hk : m.kind = 3) {k : Nat} {x y : V3} (hy : (pathS m)[k]? = some y) (hx : (pathS m)[k + 1]? = some x) :
    dot (sub x (cenS m)) (sub x (cenS m)) = dot (sA m) (sA m) ∧ dot (sub x y) (sA m) < 0 ∧ 0 < dot (sub x y) (sB m) ∧ 0 ≤ dot (sub x (cenS m)) (sA m) ∧ dot (cross (sA m) (sB m)) (sub x (cenS m)) = 0 := by
  have f := arc_facts h hk
  have hr2 := f.r2
  have hr1 := f.r1
  rw [path_a h hk] at hx hy
  obtain ⟨p, hp1, rfl⟩ := arcV_of hx
  obtain ⟨q, hq1, rfl⟩ := arcV_of hy
  have hm := monoB_at (arc_mono _ (by omega)) hq1 hp1
  obtain ⟨hs, _, _⟩ := arcQ_mem (List.mem_of_getElem? hp1)
  exact step_aux (arc_perp f) sA_eq (sB_eq f) (by omega) (by rw [← Int.natCast_mul, ← Int.natCast_mul, ← Int.natCast_add, hs, Int.natCast_mul]) (by omega) (by omega) (by omega)
end Go.Proofs.YteommcdafifckaaDoor

/-! Plain law: the steps of a move lie as far as its ends; what numbers make is small. -/
namespace Go.Proofs.YteommcdafifckaaDoor
open Go.RowKit
set_option linter.unusedVariables false

theorem lin_btw {u k g : Int} (h0 : 0 ≤ k) (h1 : k ≤ g) : (0 ≤ k * u ∧ k * u ≤ g * u) ∨ (g * u ≤ k * u ∧ k * u ≤ 0) := by
  rcases Int.le_total 0 u with h | h
  · exact .inl ⟨Int.mul_nonneg h0 h, Int.mul_le_mul_of_nonneg_right h1 h⟩
  · exact .inr ⟨Int.mul_le_mul_of_nonpos_right h1 h, Int.mul_nonpos_of_nonneg_of_nonpos h0 h⟩
theorem sq_zero {x : Int} (h : x * x ≤ 0) : x = 0 := by
  have h3 : 0 ≤ x * x := by rcases Int.le_total 0 x with h | h; exact Int.mul_nonneg h h; exact Int.mul_nonneg_of_nonpos_of_nonpos h h
  have h1 : x * x = 0 := by omega
  rcases Int.mul_eq_zero.1 h1 with h | h <;> exact h
theorem sq_nn (x : Int) : 0 ≤ x * x := by rcases Int.le_total 0 x with h | h; exact Int.mul_nonneg h h; exact Int.mul_nonneg_of_nonpos_of_nonpos h h
theorem sq_pos {x : Int} (h : x ≠ 0) : 1 ≤ x * x := by
  have := sq_nn x
  by_cases e : x * x ≤ 0
  · exact absurd (sq_zero e) h
  · omega
theorem perp_or {a b c x y z : Int} (h : a * a + b * b + c * c = 1) (hd : a * x + b * y + c * z = 0) : a = 0 ∨ x = 0 := by
  by_cases ha : a = 0
  · exact .inl ha
  · have h1 := sq_pos ha
    have h2 := sq_nn b
    have h3 := sq_nn c
    obtain rfl : b = 0 := sq_zero (by omega)
    obtain rfl : c = 0 := sq_zero (by omega)
    have : a * x = 0 := by simpa using hd
    exact (Int.mul_eq_zero.1 this).imp (fun h => absurd h ha) id
theorem arc_co {c a b i j r n : Int} (hab : a = 0 ∨ b = 0) (hi : 0 ≤ i ∧ i ≤ r) (hj : 0 ≤ j ∧ j ≤ r) (h1 : -n ≤ c + r * a ∧ c + r * a ≤ n) (h2 : -n ≤ c + r * b ∧ c + r * b ≤ n) : -n ≤ c + i * a + j * b ∧ c + i * a + j * b ≤ n := by
  have q1 := lin_btw (u := a) hi.1 hi.2
  have q2 := lin_btw (u := b) hj.1 hj.2
  rcases hab with rfl | rfl
  · simp only [Int.mul_zero] at *; omega
  · simp only [Int.mul_zero] at *; omega
theorem path_in {m : Mv} (h : checkS m = 0) {n : Int} (hf : Bd n m.fr) (ht : Bd n m.to) {x : V3} (hx : x ∈ pathS m) : Bd n x := by
  by_cases hk : m.kind = 3
  · have f := arc_facts h hk
    have hp := arc_perp f
    have e1 : m.fr = plus (cenS m) (primV (sA m)) (gS (sA m)) := by
      have h0 := path_first h
      rw [path_a h hk] at h0
      obtain ⟨p, hp1, h2⟩ := arcV_of h0
      have h3 := (arc_ends _ (show gS (sA m) < 49 by have := f.r2; omega)).1
      rw [h3] at hp1
      injection hp1 with hp1
      subst hp1
      rw [h2]
      unfold plus
      simp
    have e2 : m.to = plus (cenS m) (primV (sB m)) (gS (sA m)) := by rw [to_eqA m, f.g]; unfold plus; simp
    rw [path_a h hk] at hx
    unfold arcV at hx
    rw [List.mem_map] at hx
    obtain ⟨⟨i, j⟩, hm, rfl⟩ := hx
    obtain ⟨hs, h1, h2⟩ := arcQ_mem hm
    rw [e1] at hf
    rw [e2] at ht
    have a1 := hf.x; have a2 := hf.y; have a3 := hf.z
    have b1 := ht.x; have b2 := ht.y; have b3 := ht.z
    unfold plus at a1 a2 a3 b1 b2 b3 ⊢
    dsimp only at a1 a2 a3 b1 b2 b3 ⊢
    have ea := hp.a; have eab := hp.ab
    exact ⟨arc_co (perp_or ea eab) (by omega) (by omega) a1 b1, arc_co (perp_or (a := (primV (sA m)).y) (b := (primV (sA m)).x) (c := (primV (sA m)).z) (x := (primV (sB m)).y) (y := (primV (sB m)).x) (z := (primV (sB m)).z) (by omega) (by omega)) (by omega) (by omega) a2 b2,
      arc_co (perp_or (a := (primV (sA m)).z) (b := (primV (sA m)).x) (c := (primV (sA m)).y) (x := (primV (sB m)).z) (y := (primV (sB m)).x) (z := (primV (sB m)).y) (by omega) (by omega)) (by omega) (by omega) a3 b3⟩
  · have e2 := to_eq m
    rw [path_n h hk] at hx
    unfold linQ at hx
    rw [List.mem_map] at hx
    obtain ⟨k, hm, rfl⟩ := hx
    have hk2 := List.mem_range.1 hm
    rw [e2] at ht
    have a1 := hf.x; have a2 := hf.y; have a3 := hf.z
    have b1 := ht.x; have b2 := ht.y; have b3 := ht.z
    unfold plus at b1 b2 b3 ⊢
    dsimp only at b1 b2 b3 ⊢
    have q1 := lin_btw (u := (primV (dS m)).x) (k := (k : Int)) (g := (gS (dS m) : Int)) (by omega) (by omega)
    have q2 := lin_btw (u := (primV (dS m)).y) (k := (k : Int)) (g := (gS (dS m) : Int)) (by omega) (by omega)
    have q3 := lin_btw (u := (primV (dS m)).z) (k := (k : Int)) (g := (gS (dS m) : Int)) (by omega) (by omega)
    exact ⟨by dsimp only; omega, by dsimp only; omega, by dsimp only; omega⟩
theorem ax_plus {F A : V3} {r n : Int} (hF : Bd n F) (hA : A ∈ axL) (hr : 0 ≤ r) {q : Int} (hq : r ≤ q) : Bd (n + q) (plus F A r) := by
  have hx := hF.x; have hy := hF.y; have hz := hF.z
  rcases ax_cases hA with rfl | rfl | rfl | rfl | rfl | rfl
  all_goals exact ⟨by simp only [plus]; omega, by simp only [plus]; omega, by simp only [plus]; omega⟩
theorem made_bd (l : List Int) : Bd 18 (madeS l).fr ∧ Bd 18 (madeS l).to ∧ Bd 18 (madeS l).co := by
  have n7 := nextV_range l (q5v l) 3 (by omega)
  have n6 := nextV_range l (q6 l) 5 (by omega)
  have hbf := vecV_bd l (q1 l) 8 (by omega)
  have hby := (by_ok l).1
  have hr : mR l = 1 ∨ mR l = 2 ∨ mR l = 5 ∨ mR l = 10 := r_range (nextV l (q6 l) 5) n6.1 n6.2
  have hz : Bd 18 (⟨0, 0, 0⟩ : V3) := ⟨by decide, by decide, by decide⟩
  have hto : Bd 18 (mTo l) := by
    have hx := hbf.x; have hy := hbf.y; have hz := hbf.z
    have ux := hby.x; have uy := hby.y; have uz := hby.z
    have hn : mN l = 1 ∨ mN l = 2 ∨ mN l = 3 := by unfold mN; omega
    unfold mTo
    have hF : mF l = vecV l (q1 l) 8 := rfl
    rw [hF]
    rcases hn with e | e | e <;> rw [e]
    all_goals exact ⟨by simp only [plus]; omega, by simp only [plus]; omega, by simp only [plus]; omega⟩
  have hc : Bd 18 (mC l) := by
    have := ax_plus (n := 8) hbf (ax_mem (nextV l (q3 l) 6)) (r := mR l) (q := 10) (by omega) (by omega)
    exact this
  unfold madeS
  split
  · rename_i hk
    refine ⟨hbf.mono (by decide), ?_, hc⟩
    have hck := made_ok l
    have hcm : (madeS l).kind = 3 := by unfold madeS; rw [if_pos hk]
    show Bd 18 (mT l)
    have n3 := nextV_range l (q3 l) 6 (by omega)
    have n4 := nextV_range l (q4 l) 2 (by omega)
    have n5 := nextV_range l (q5 l) 2 (by omega)
    have hp := perp_dec (nextV l (q3 l) 6).toNat (by omega) (nextV l (q4 l) 2).toNat (by omega) (nextV l (q5 l) 2).toNat (by omega)
    rw [Int.toNat_of_nonneg n3.1, Int.toNat_of_nonneg n4.1, Int.toNat_of_nonneg n5.1] at hp
    have key : ∀ A B F : V3, A ∈ axL → B ∈ axL → dot A B = 0 → Bd 8 F → Bd 18 (plus (plus F A (mR l)) B (mR l)) := fun A B F hA hB hAB hF => by
      have hx := hF.x; have hy := hF.y; have hz := hF.z
      generalize mR l = r at hr
      rcases ax_cases hA with rfl | rfl | rfl | rfl | rfl | rfl <;> rcases ax_cases hB with rfl | rfl | rfl | rfl | rfl | rfl <;> first
        | (exfalso; revert hAB; decide)
        | exact ⟨by simp only [plus]; omega, by simp only [plus]; omega, by simp only [plus]; omega⟩
    exact key _ _ _ (ax_mem _) (ax_mem _) hp hbf
  · split
    · exact ⟨hbf.mono (by decide), hto, hz⟩
    · exact ⟨hbf.mono (by decide), hto, hz⟩
end Go.Proofs.YteommcdafifckaaDoor
