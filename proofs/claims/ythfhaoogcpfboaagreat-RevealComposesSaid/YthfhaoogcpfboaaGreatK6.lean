/-
  Proved: colletlaw38.RevealComposes returns true for every input, and its arguments read as before. No condition.
-/
import Derived.Test.YthfhaoogcpfboaaGreatK5
import Derived.Test.YthfhaoogcpfboaaGreatRows
set_option linter.unusedVariables false
set_option linter.unusedSimpArgs false

/-! Walks: VT. -/
namespace Go.Proofs.YthfhaoogcpfboaaGreat
open Go.RowKit
set_option maxRecDepth 100000
set_option linter.unusedVariables false
def exBox (k : Nat) : List Pl := boxS ⟨k, 0, 0⟩ ⟨k + 1, 1, 1⟩
def exBs (k : Nat) : List (List Pl) := (List.range k).map exBox
def exWs (k : Nat) : List Int := (List.range k).map fun (i : Nat) => (i : Int) + 1
theorem exBs_succ (k : Nat) : exBs (k + 1) = exBs k ++ [exBox k] := by unfold exBs; rw [List.range_succ, List.map_append]; rfl
theorem exWs_succ (k : Nat) : exWs (k + 1) = exWs k ++ [(k : Int) + 1] := by unfold exWs; rw [List.range_succ, List.map_append]; rfl
theorem exBs_len (k : Nat) : (exBs k).length = k := by simp [exBs]
theorem exWs_len (k : Nat) : (exWs k).length = k := by simp [exWs]
def exA : Pa := ⟨[], exBs 3, exWs 3⟩
def exX : Pc := ⟨[false, true, false], [false, true, false], []⟩
theorem exA_ok : PaOK exA := ⟨by decide, by decide, by decide⟩
theorem exX_ok : PcOK exX := ⟨by decide, by decide⟩
/-- The leaves of the chapter's examples. -/
def exL : List Lf := leavesS exA exX [115]
def ixF : Nat → List Lf → Bool
  | _, [] => true
  | k, x :: l => decide (x.ix = (k : Int)) && ixF (k + 1) l
theorem ixF_at {l : List Lf} {k : Nat} {x : Lf} (h : l[k]? = some x) : ixF k (l.drop k) = (decide (x.ix = (k : Int)) && ixF (k + 1) (l.drop (k + 1))) := by rw [drop_at h]; rfl
theorem ixF_ix : ∀ {l : List Lf} {k : Nat}, ixF k l = true → ∀ (i : Nat) (x : Lf), l[i]? = some x → x.ix = ((k + i : Nat) : Int)
  | [], k, _, i, x, h => by simp at h
  | y :: l, k, hl, i, x, h => by
    simp only [ixF, Bool.and_eq_true, decide_eq_true_eq] at hl
    cases i with
    | zero => simp at h; subst h; exact hl.1
    | succ i => rw [ixF_ix hl.2 i x (by simpa using h)]; omega
/-- The error of Show, and what it returns. -/
def showE (ls : List Lf) (w : List Int) : Int := if ls.length = 0 ∨ ls.length > 16 then 2 else if ixF 0 ls = false then 4 else if w.any (outP ls.length) = true then 5 else if incF (ls.length : Int) (-1) w = false then 7 else 0
def showG (ls : List Lf) (w : List Int) : Shn := if showE ls w = 0 then showS ls w else ⟨0, [], []⟩
theorem shE_2 {ls : List Lf} {w : List Int} (h : ls.length = 0 ∨ ls.length > 16) : showE ls w = 2 := if_pos h
theorem shE_4 {ls : List Lf} {w : List Int} (h : ¬ (ls.length = 0 ∨ ls.length > 16)) (h2 : ixF 0 ls = false) : showE ls w = 4 := by unfold showE; rw [if_neg h, if_pos h2]
theorem shE_5 {ls : List Lf} {w : List Int} (h : ¬ (ls.length = 0 ∨ ls.length > 16)) (h2 : ixF 0 ls = true) (h3 : w.any (outP ls.length) = true) : showE ls w = 5 := by unfold showE; rw [if_neg h, if_neg (by rw [h2]; decide), if_pos h3]
theorem shE_7 {ls : List Lf} {w : List Int} (h : ¬ (ls.length = 0 ∨ ls.length > 16)) (h2 : ixF 0 ls = true) (h3 : w.any (outP ls.length) = false) (h4 : incF (ls.length : Int) (-1) w = false) : showE ls w = 7 := by unfold showE; rw [if_neg h, if_neg (by rw [h2]; decide), if_neg (by rw [h3]; decide), if_pos h4]
theorem shE_0 {ls : List Lf} {w : List Int} (h : ¬ (ls.length = 0 ∨ ls.length > 16)) (h2 : ixF 0 ls = true) (h3 : w.any (outP ls.length) = false) (h4 : incF (ls.length : Int) (-1) w = true) : showE ls w = 0 := by unfold showE; rw [if_neg h, if_neg (by rw [h2]; decide), if_neg (by rw [h3]; decide), if_neg (by rw [h4]; decide)]
theorem shG_e {ls : List Lf} {w : List Int} {e : Int} (h : showE ls w = e) (h0 : e ≠ 0) : showG ls w = ⟨0, [], []⟩ := by unfold showG; rw [if_neg (by rw [h]; exact h0)]
theorem shG_0 {ls : List Lf} {w : List Int} (h : showE ls w = 0) : showG ls w = showS ls w := if_pos h
theorem out_bd {n : Nat} {w : List Int} (h : w.any (outP n) = false) : ∀ x ∈ w, 0 ≤ x ∧ x < (n : Int) := fun x hx => by
  have := List.any_eq_false.1 h x hx
  simp only [outP, Bool.or_eq_true, decide_eq_true_eq] at this
  omega
theorem showG_8 {ls : List Lf} {w : List Int} : ∀ d ∈ (showG ls w).hid, B8 d ∧ d.length ≤ LIM := fun d hd => by
  unfold showG at hd
  split at hd
  · obtain ⟨s, _, rfl⟩ := List.mem_map.1 hd
    exact (ofK_ok ls).tree _ _
  · cases hd
def shB (ls : List Lf) (w : List Int) (want : List (List Int)) : Bool := decide (showE ls w = 0) && (decide ((showG ls w).size = ls.length) && (decide ((showG ls w).hid = want) && decide (((showG ls w).leaves.length : Int) = w.length)))
def mcv39 : MC := (.seq (.reg [oN 0 (.mv (.c .nils)) []] false) (.seq (.reg [oN 1 (.alloc 31 3 [(.str (strN [])), .nils, .nils]) []] false) (.seq (.seq (.reg [oN 2 (.mv (.c (.int .i64 0))) []] false) (.block 0 (.loop (.seq (.seq (.reg [oN 3 (.mv (.t 2)) [], oN 4 (.bin .lss (.t 3) (.c (.int .i64 3))) [0]] false) (.cond (.t 4) .skip (.exit 0))) (.seq (.block 1 (.seq (.reg [oN 7 (.fa 1 (.t 1)) [], oN 8 (.ld false 1 (.t 7)) [0], oN 9 (.mv (.t 2)) [], oN 10 (.build [(.int .i64 0), (.int .i64 0), (.int .i64 0)] [(0, (1, (.t 9)))]) [2], oN 11 (.mv (.t 2)) [], oN 12 (.bin .add (.t 11) (.c (.int .i64 1))) [4], oN 13 (.build [(.int .i64 0), (.int .i64 0), (.int .i64 0)] [(0, (1, (.t 12))), (1, (1, (.c (.int .i64 1)))), (2, (1, (.c (.int .i64 1))))]) [5], oN 14 (.call 47 [(.t 10), (.t 13)]) [3, 6], oN 15 (.bslice 85 1 [.nils] 1 [(0, (.t 14))]) [7], oN 16 (.app 85 1 24 [.nils] (.t 8) (.t 15)) [1, 8, 7], oN 17 (.fa 1 (.t 1)) [0, 1, 2, 3, 4, 5, 6, 7, 8, 9], ⟨none, (.st 1 (.t 17) (.t 16)), none, [10, 9, 9, 0, 1, 2, 3, 4, 5, 6, 7, 8, 9]⟩] true) (.reg [oN 18 (.fa 2 (.t 1)) [], oN 19 (.ld false 1 (.t 18)) [0], oN 20 (.mv (.t 2)) [], oN 21 (.bin .add (.t 20) (.c (.int .i64 1))) [2], oN 22 (.bslice 3 1 [(.int .i64 0)] 1 [(0, (.t 21))]) [3], oN 23 (.app 3 1 8 [(.int .i64 0)] (.t 19) (.t 22)) [1, 4], oN 24 (.fa 2 (.t 1)) [0, 1, 2, 3, 4, 5], ⟨none, (.st 1 (.t 24) (.t 23)), none, [6, 5, 5, 0, 1, 2, 3, 4, 5]⟩] false))) (.reg [oN 5 (.mv (.t 2)) [], oN 6 (.bin .add (.t 5) (.c (.int .i64 1))) [0], oN 2 (.mv (.t 6)) [1, 0, 1]] false)))))) (.seq (.reg [oN 25 (.ld true 3 (.t 1)) [], oN 26 (.bslice 4 1 [(.bool false)] 3 [(0, (.c (.bool false))), (1, (.c (.bool true))), (2, (.c (.bool false)))]) [], oN 27 (.bslice 4 1 [(.bool false)] 3 [(0, (.c (.bool false))), (1, (.c (.bool true))), (2, (.c (.bool false)))]) [], oN 28 (.build [.nils, .nils, .nils] [(0, (1, (.t 26))), (1, (1, (.t 27)))]) [1, 2], oN 29 (.call 16 [(.t 25), (.t 28), (.c (.str (strN [115])))]) [0, 3], oN 0 (.mv (.t 29)) [4, 4, 0, 1, 2, 3, 4]] false) .ret))))
theorem mcOkv39 : (match Tryz.f39.body with | some c => compC Tryz.prog 30 c | none => none) = some mcv39 := by kernel_rfl
set_option maxHeartbeats 1000000 in
theorem vc39  : FC Tryz.prog 39 [] [] (.rs 5 (exL.map cLf)) [] true := by
  refine fc_run (nt := 30) Tryz.func39 rfl rfl mcOkv39 (Nat.le_of_ble_eq_true rfl) ?_
  delta mcv39
  refine aw_seq (aw_reg (rs_mv rfl rfl ?_))
  refine rs_nil fun _ => (th_n (aw_seq (aw_reg (rs_alloc rfl rfl rfl ?_))))
  refine rs_nil fun _ => (th_n (aw_seq (aw_seq (aw_reg (rs_mv rfl rfl ?_)))))
  refine rs_nil fun _ => (th_n (aw_block (aw_weak (F0 := [(1, .ptr 1 0 0), (2, iv (((0) : Nat) : Int))]) (H0 := [(1, .cells 31 3 [[.str (strN []), .sl 905 0 (0), .sl 906 0 (0)]] false), (905, .cells 85 1 ((exBs (0)).map cR) true), (906, .cells 3 1 ((exWs (0)).map civ) true)]) (Weak.trans (F1 := [(1, .ptr 1 0 0), (2, iv (((0) : Nat) : Int))]) (H1 := [(1, .cells 31 3 [[.str (strN []), .nils, .nils]] true)]) (weak_to (.cons rfl sm (.cons rfl sm (.nil))) (.keep (rfl) rfl (.nil)) fun i h => by cases h) (Weak.trans (F1 := [(1, .ptr 1 0 0), (2, iv (((0) : Nat) : Int))]) (H1 := [(1, .cells 31 3 [[.str (strN []), .sl 905 0 0, .nils]] false), (905, .cells 85 1 ((exBs (0)).map cR) true)]) (Weak.trans (F1 := [(1, .ptr 1 0 0), (2, iv (((0) : Nat) : Int))]) (weak_seed_any (i := 905) (k := 1) (e2 := 85) (z2 := 1) (fl2 := true) rfl rfl (.next .here)) (weak_to (.cons rfl sm (.cons rfl sm (.nil))) (.keep (rfl) rfl (.keep (rfl) rfl (.nil))) fun i h => by cases h)) (Weak.trans (F1 := [(1, .ptr 1 0 0), (2, iv (((0) : Nat) : Int))]) (weak_seed_any (i := 906) (k := 1) (e2 := 3) (z2 := 1) (fl2 := true) rfl rfl (.next (.next .here))) (weak_to (.cons rfl sm (.cons rfl sm (.nil))) (.keep (rfl) rfl (.keep (rfl) rfl (.keep (rfl) rfl (.nil)))) fun i h => by cases h)))) ?_)))
  refine aw_fam (α := Nat) (fun k => 3 - k) (fun k => [(1, .ptr 1 0 0), (2, iv (((k) : Nat) : Int))]) (fun k => [(1, .cells 31 3 [[.str (strN []), .sl 905 0 (k), .sl 906 0 (k)]] false), (905, .cells 85 1 ((exBs (k)).map cR) true), (906, .cells 3 1 ((exWs (k)).map civ) true)]) (fun k => k ≤ 3) 0 (by omega)
    (weak_to (.cons rfl sm (.cons rfl sm (.nil))) (.keep (rfl) rfl (.keep (rfl) rfl (.keep (rfl) rfl (.nil)))) (fun i h => by cases h)) ?_
  intro k hk
  refine aw_seq (aw_seq ?_)
  
  refine aw_reg (rs_mv rfl rfl ?_)
  refine rs_lss rfl rfl rfl ?_
  refine rs_nil fun _ => (th_n (aw_cond rfl (fun h4 => ?_) (fun h4 => ?_)))
  · replace h4 := of_decide_eq_true h4
    refine aw_skip (th_n (aw_seq (aw_block (aw_seq (aw_draw hmix ?_)))))
    refine rs_fa_p rfl rfl ?_
    refine rs_ld_p rfl rfl rfl rfl rfl ?_
    refine rs_mv rfl rfl ?_
    refine rs_build rfl rfl ?_
    refine rs_mv rfl rfl ?_
    refine rs_add rfl rfl rfl (by omega) ?_
    refine rs_build rfl rfl ?_
    refine rs_calln [] rfl rfl (vc47 ⟨k, 0, 0⟩ ⟨k + 1, 1, 1⟩ ⟨by dsimp only; omega, by dsimp only; omega, by dsimp only; omega⟩) (.cons (hv_same rfl) (.cons (hv_same rfl) (.nil))) rfl ?_
    refine rs_bslice (l := (([exBox k] : List (List Pl))).flatMap cR) (els := (([exBox k] : List (List Pl))).map cR) (fl := true) rfl (by kernel_rfl) rfl rfl (by kernel_rfl) (by kernel_rfl) ?_
    refine rs_app_m (f := cR) (xs := exBs k) (y := exBox k) (fl' := true) rfl rfl rfl rfl (exBs_len k) rfl rfl rfl (by decide) rfl (by omega) (by omega) rfl ?_
    refine rs_fa_p rfl rfl ?_
    refine rs_st rfl rfl rfl rfl rfl rfl rfl (Nat.le_of_ble_eq_true rfl) rfl rfl ?_
    refine rs_nil ⟨by kernel_rfl, fun _ => ?_⟩
    refine th_n (aw_reg (rs_fa_p rfl rfl ?_))
    refine rs_ld_p rfl rfl rfl rfl rfl ?_
    refine rs_mv rfl rfl ?_
    refine rs_add rfl rfl rfl (by omega) ?_
    refine rs_bslice (l := (([(k : Int) + 1] : List Int)).flatMap civ) (els := (([(k : Int) + 1] : List Int)).map civ) (fl := true) rfl (by kernel_rfl) rfl rfl (by kernel_rfl) (by kernel_rfl) ?_
    refine rs_app_m (f := civ) (xs := exWs k) (y := (k : Int) + 1) (fl' := true) rfl rfl rfl rfl (exWs_len k) rfl rfl rfl (by decide) rfl (by omega) (by omega) rfl ?_
    refine rs_fa_p rfl rfl ?_
    refine rs_st rfl rfl rfl rfl rfl rfl rfl (Nat.le_of_ble_eq_true rfl) rfl rfl ?_
    refine rs_nil fun _ => (in_n (th_n (aw_reg (rs_mv rfl rfl ?_))))
    refine rs_add rfl rfl rfl (by omega) ?_
    refine rs_mv rfl rfl ?_
    refine rs_nil fun _ => (th_n ?_)
    exact ⟨k + 1, by omega, by omega, Weak.trans (F1 := [(1, .ptr 1 0 0), (2, iv (((k + 1) : Nat) : Int))]) (H1 := [(1, .cells 31 3 [[.str (strN []), .sl 905 0 (k + 1), .sl 23 0 (k + 1)]] false), (905, .cells 85 1 ((exBs (k + 1)).map cR) true), (23, .cells 3 1 ((exWs (k + 1)).map civ) true)]) (show Weak _ _ _ _ [(1, .ptr 1 0 0), (2, iv (((k + 1) : Nat) : Int))] [(1, .cells 31 3 [[.str (strN []), .sl 905 0 (k + 1), .sl 23 0 (k + 1)]] false), (905, .cells 85 1 ((exBs (k + 1)).map cR) true), (23, .cells 3 1 ((exWs (k + 1)).map civ) true)] from Weak.trans (F1 := [(1, .ptr 1 0 0), (2, iv (((k + 1) : Nat) : Int))]) (H1 := [(1, .cells 31 3 [[.str (strN []), .sl 16 0 (k + 1), .sl 23 0 (k + 1)]] false), (16, .cells 85 1 ((exBs (k + 1)).map cR) true), (23, .cells 3 1 ((exWs (k + 1)).map civ) true)]) (weak_to (.cons rfl sm (.cons rfl sm (.nil))) (.keep (rfl) rfl (.keep (by rw [exBs_succ]; rfl) rfl (.keep (by rw [exWs_succ]; rfl) rfl (.nil)))) fun i h => by cases h) (Weak.trans (F1 := [(1, .ptr 1 0 0), (2, iv (((k + 1) : Nat) : Int))]) (weak_ren_row (i := 16) (i' := 905) (k := 1) rfl rfl (.cons rfl (.same _) (.cons rfl (.same _) (.nil))) (by decide) rfl (.cons (.same _) (.cons (.sl _ _) (RenL.refl _ _ _)))) (weak_to (.cons rfl sm (.cons rfl sm (.nil))) (.keep (rfl) rfl (.keep (rfl) rfl (.keep (rfl) rfl (.nil)))) fun i h => by cases h))) (show Weak _ _ _ _ [(1, .ptr 1 0 0), (2, iv (((k + 1) : Nat) : Int))] [(1, .cells 31 3 [[.str (strN []), .sl 905 0 (k + 1), .sl 906 0 (k + 1)]] false), (905, .cells 85 1 ((exBs (k + 1)).map cR) true), (906, .cells 3 1 ((exWs (k + 1)).map civ) true)] from Weak.trans (F1 := [(1, .ptr 1 0 0), (2, iv (((k + 1) : Nat) : Int))]) (H1 := [(1, .cells 31 3 [[.str (strN []), .sl 905 0 (k + 1), .sl 23 0 (k + 1)]] false), (905, .cells 85 1 ((exBs (k + 1)).map cR) true), (23, .cells 3 1 ((exWs (k + 1)).map civ) true)]) (weak_to (.cons rfl sm (.cons rfl sm (.nil))) (.keep (rfl) rfl (.keep (rfl) rfl (.keep (rfl) rfl (.nil)))) fun i h => by cases h) (Weak.trans (F1 := [(1, .ptr 1 0 0), (2, iv (((k + 1) : Nat) : Int))]) (weak_ren_row (i := 23) (i' := 906) (k := 1) rfl rfl (.cons rfl (.same _) (.cons rfl (.same _) (.nil))) (by decide) rfl (.cons (.same _) (.cons (.same _) (.cons (.sl _ _) (RenL.refl _ _ _))))) (weak_to (.cons rfl sm (.cons rfl sm (.nil))) (.keep (rfl) rfl (.keep (rfl) rfl (.keep (rfl) rfl (.nil)))) fun i h => by cases h)))⟩
  · replace h4 := of_decide_eq_false h4
    refine aw_exit ?_
    refine th_e ?_
    refine th_e ?_
    refine in_hit ?_
    refine th_n (aw_seq ?_)
    obtain rfl : k = 3 := by omega
    refine aw_reg (rs_ld_pa rfl rfl rfl rfl (Nat.le_of_ble_eq_true rfl) rfl ?_)
    refine rs_bslice (l := (([false, true, false] : List Bool)).flatMap cB) (els := (([false, true, false] : List Bool)).map cB) (fl := true) rfl (by kernel_rfl) rfl rfl (by kernel_rfl) (by kernel_rfl) ?_
    refine rs_bslice (l := (([false, true, false] : List Bool)).flatMap cB) (els := (([false, true, false] : List Bool)).map cB) (fl := true) rfl (by kernel_rfl) rfl rfl (by kernel_rfl) (by kernel_rfl) ?_
    refine rs_build rfl rfl ?_
    refine rs_calln [905, 906, 26, 27] rfl rfl (vc16 exA exA_ok exX exX_ok [115] ⟨b8_c, by decide⟩) (.cons (hv_agg (.cons (hv_same rfl) (.cons (hv_slm (f := cR) (xs := exBs 3) (by simp) rfl rfl) (.cons (hv_slm (f := civ) (xs := exWs 3) (by simp) rfl rfl) .nil)))) (.cons (hv_agg (.cons (hv_slm (f := cB) (xs := ([false, true, false] : List Bool)) (by simp) rfl rfl) (.cons (hv_slm (f := cB) (xs := ([false, true, false] : List Bool)) (by simp) rfl rfl) (.cons hv_nils .nil)))) (.cons (hv_same rfl) (.nil)))) rfl ?_
    refine rs_mv rfl rfl ?_
    refine rs_nil fun _ => (th_n (aw_ret ?_))
    exact ret_pure rfl rfl rfl (.inl rfl)
set_option maxHeartbeats 2000000 in
theorem vc22 (ls : List Lf) (hl : ls.length ≤ 64) (hok : ∀ x ∈ ls, x.OK) (w : List Int) (hwl : w.length ≤ 64) : FC Tryz.prog 22 [.rs 5 (ls.map cLf), .rs 1 (w.map civ)] [] (.tup [.agg (cSh (showG ls w)), iv (showE ls w)]) [] false := by
  refine fc_run (nt := 90) Tryz.func22 rfl rfl mcOkv22 (Nat.le_of_ble_eq_true rfl) ?_
  delta mcv22
  refine aw_seq (aw_reg (rs_alloc rfl rfl rfl ?_))
  refine rs_mv rfl rfl ?_
  refine rs_nil fun _ => (th_n (aw_seq (aw_reg (rs_mv rfl rfl ?_))))
  refine rs_len_m rfl rfl ?_
  refine rs_alloc rfl rfl rfl ?_
  refine rs_st rfl rfl rfl rfl rfl rfl rfl (Nat.le_of_ble_eq_true rfl) rfl rfl ?_
  refine rs_nil fun _ => (th_n (aw_seq (aw_seq (aw_reg (rs_ld_p rfl rfl rfl rfl rfl ?_)))))
  refine rs_cmp rfl rfl rfl rfl (fun h17 => ?_) (fun h17 => ?_)
  · skip
    refine rs_mv rfl rfl ?_
    refine rs_skip rfl ?_
    refine rs_skip rfl ?_
    refine rs_pick rfl rfl rfl ?_
    refine rs_nil fun _ => (th_n (aw_cond rfl (fun _ => ?_) (fun h => by cases h)))
    refine aw_seq (aw_reg (rs_build rfl rfl ?_))
    refine rs_st rfl rfl rfl rfl rfl rfl rfl (Nat.le_of_ble_eq_true rfl) rfl rfl ?_
    refine rs_mv rfl rfl ?_
    refine rs_nil fun _ => (th_n (aw_ret (th_r ?_)))
    have he : showE ls w = 2 := shE_2 (by omega)
    rw [shG_e he (by decide), he]
    exact ret_new rfl (rc_tup (.cons (rc_agg (.cons (rc_same rfl (.inr rfl)) (.cons rc_nils (.cons rc_nils .nil)))) (.cons (rc_same rfl (.inr rfl)) .nil))) .nil
  · skip
    refine rs_mv rfl rfl ?_
    refine rs_ld_p rfl rfl rfl rfl rfl ?_
    refine rs_cmp rfl rfl rfl rfl (fun h20 => ?_) (fun h20 => ?_)
    · skip
      refine rs_pick rfl rfl rfl ?_
      refine rs_nil fun _ => (th_n (aw_cond rfl (fun _ => ?_) (fun h => by cases h)))
      refine aw_seq (aw_reg (rs_build rfl rfl ?_))
      refine rs_st rfl rfl rfl rfl rfl rfl rfl (Nat.le_of_ble_eq_true rfl) rfl rfl ?_
      refine rs_mv rfl rfl ?_
      refine rs_nil fun _ => (th_n (aw_ret (th_r ?_)))
      have he : showE ls w = 2 := shE_2 (by omega)
      rw [shG_e he (by decide), he]
      exact ret_new rfl (rc_tup (.cons (rc_agg (.cons (rc_same rfl (.inr rfl)) (.cons rc_nils (.cons rc_nils .nil)))) (.cons (rc_same rfl (.inr rfl)) .nil))) .nil
    · skip
      refine rs_pick rfl rfl rfl ?_
      refine rs_nil fun _ => (th_n (aw_cond rfl (fun h => by cases h) (fun _ => ?_)))
      refine aw_skip (th_n (aw_seq (aw_seq (aw_reg (rs_mv rfl rfl ?_)))))
      refine rs_len_m rfl rfl ?_
      refine rs_mv rfl rfl ?_
      refine rs_nil fun _ => (th_n (aw_block ?_))
      refine aw_fam (α := Nat) (fun k => ls.length - k) (fun k => [(0, .rs 5 (ls.map cLf)), (1, .rs 1 (w.map civ)), (4, .ptr 4 0 0), (6, .ptr 6 0 0), (23, .rs 5 (ls.map cLf)), (24, iv (ls.length : Int)), (25, iv (((k) : Nat) : Int))]) (fun k => [(4, .cells 55 3 [[iv 0, .nils, .nils]] true), (6, .cells 3 1 [[iv (ls.length : Int)]] true)]) (fun k => k ≤ ls.length ∧ ixF k (ls.drop k) = ixF 0 ls) 0 (⟨by omega, rfl⟩)
        (weak_to (.cons rfl sm (.cons rfl sm (.cons rfl sm (.cons rfl sm (.cons rfl sm (.cons rfl sm (.cons rfl sm (.nil)))))))) (.keep (rfl) rfl (.keep (rfl) rfl (.nil))) (fun i h => by cases h)) ?_
      rintro k ⟨hk, hinv⟩
      refine aw_seq (aw_reg (rs_lss rfl rfl rfl ?_))
      refine rs_nil fun _ => (th_n (aw_seq (aw_cond rfl (fun h26 => ?_) (fun h26 => ?_))))
      · replace h26 := of_decide_eq_true h26
        refine aw_skip (th_n (aw_seq (aw_block (aw_seq (aw_reg (rs_mv rfl rfl ?_))))))
        obtain ⟨x, hxk, hxm⟩ := at_some (L := ls) (k := k) (by omega)
        refine rs_ix_g (f := cLf) (y := x) rfl rfl rfl (by omega) hxk ?_
        refine rs_ld_ra (cs := cLf x) rfl rfl (Nat.le_of_ble_eq_true rfl) rfl ?_
        refine rs_alloc rfl rfl rfl ?_
        refine rs_mv rfl rfl ?_
        refine rs_st rfl rfl rfl rfl rfl rfl rfl (Nat.le_of_ble_eq_true rfl) rfl rfl ?_
        refine rs_nil fun _ => (th_n (aw_seq (aw_reg (rs_fa_p rfl rfl ?_))))
        refine rs_ld_p rfl rfl rfl rfl rfl ?_
        refine rs_mv rfl rfl ?_
        refine rs_neq rfl rfl rfl ?_
        refine rs_nil fun _ => (th_n (aw_cond rfl (fun h33 => ?_) (fun h33 => ?_)))
        · replace h33 := of_decide_eq_true h33
          refine aw_seq (aw_reg (rs_build rfl rfl ?_))
          refine rs_st rfl rfl rfl rfl rfl rfl rfl (Nat.le_of_ble_eq_true rfl) rfl rfl ?_
          refine rs_mv rfl rfl ?_
          refine rs_nil fun _ => (th_n (aw_ret (in_r (th_r (th_r (in_r (th_r ?_)))))))
          have he : showE ls w = 4 := shE_4 (by omega) (by rw [← hinv, ixF_at hxk, decide_eq_false h33]; rfl)
          rw [shG_e he (by decide), he]
          exact ret_new rfl (rc_tup (.cons (rc_agg (.cons (rc_same rfl (.inr rfl)) (.cons rc_nils (.cons rc_nils .nil)))) (.cons (rc_same rfl (.inr rfl)) .nil))) .nil
        · replace h33 := of_decide_eq_false h33
          refine aw_skip (in_n (th_n (aw_reg (rs_add rfl rfl rfl (by omega) ?_))))
          refine rs_mv rfl rfl ?_
          refine rs_nil fun _ => (th_n ?_)
          rw [ixF_at hxk, decide_eq_true (Decidable.byContradiction h33), Bool.true_and] at hinv
          exact ⟨k + 1, ⟨by omega, hinv⟩, by omega, weak_to (.cons rfl sm (.cons rfl sm (.cons rfl sm (.cons rfl sm (.cons rfl sm (.cons rfl sm (.cons rfl sm (.nil)))))))) (.keep (rfl) rfl (.keep (rfl) rfl (.nil))) (fun i h => by cases h)⟩
      · replace h26 := of_decide_eq_false h26
        refine aw_exit ?_
        refine th_e ?_
        refine th_e ?_
        refine in_hit ?_
        refine th_n (aw_seq (aw_seq ?_))
        have hix : ixF 0 ls = true := by rw [← hinv, List.drop_eq_nil_of_le (by omega)]; rfl
        refine aw_weak (F0 := [(0, .rs 5 (ls.map cLf)), (1, .rs 1 (w.map civ)), (4, .ptr 4 0 0), (6, .rp [iv (ls.length : Int)])]) (H0 := [(4, .cells 55 3 [[iv 0, .nils, .nils]] true)]) (weak_to (.cons rfl sm (.cons rfl sm (.cons rfl sm (.cons rfl (rc_pfrz rfl rfl (.inl rfl)) (.nil))))) (.keep (rfl) rfl (.nil)) fun i h => by cases h) ?_
        refine aw_reg (rs_mv rfl rfl ?_)
        refine rs_mkfn rfl rfl ?_
        refine rs_calln [] rfl rfl (vcC_out ls.length w (by omega)) (.cons (hv_same rfl) (.cons (hv_same rfl) (.nil))) rfl ?_
        cases h38 : w.any (outP ls.length)
        · skip
          refine rs_nil fun _ => (th_n (aw_cond rfl (fun h => by cases h) (fun _ => ?_)))
          refine aw_skip (th_n (aw_seq (aw_reg (rs_ld_r rfl rfl rfl ?_))))
          refine rs_build rfl rfl ?_
          refine rs_alloc rfl rfl rfl ?_
          refine rs_st rfl rfl rfl rfl rfl rfl rfl (Nat.le_of_ble_eq_true rfl) rfl rfl ?_
          refine rs_nil fun _ => (th_n (aw_seq (aw_seq ?_)))
          have hbd := out_bd h38
          refine aw_weak (F0 := [(0, .rs 5 (ls.map cLf)), (1, .rs 1 (w.map civ)), (4, .ptr 4 0 0), (6, .rp [iv (ls.length : Int)]), (9, .ptr 9 0 0)]) (H0 := [(4, .cells 55 3 [[iv 0, .nils, .nils]] true), (9, .cells 55 3 [[iv (ls.length : Int), .sl 905 0 (0), .sl 906 0 (0)]] false), (905, .cells 51 5 (((w.take (0)).map (selF ls)).map cLf) true), (906, .cells 9 1 ((((hidA ls.length w).take (0)).map (hidT ls)).map cS) true)]) (Weak.trans (F1 := [(0, .rs 5 (ls.map cLf)), (1, .rs 1 (w.map civ)), (4, .ptr 4 0 0), (6, .rp [iv (ls.length : Int)]), (9, .ptr 9 0 0)]) (H1 := [(4, .cells 55 3 [[iv 0, .nils, .nils]] true), (9, .cells 55 3 [[iv (ls.length : Int), .nils, .nils]] true)]) (weak_to (.cons rfl sm (.cons rfl sm (.cons rfl sm (.cons rfl sm (.cons rfl sm (.nil)))))) (.keep (rfl) rfl (.keep (rfl) rfl (.nil))) fun i h => by cases h) (Weak.trans (F1 := [(0, .rs 5 (ls.map cLf)), (1, .rs 1 (w.map civ)), (4, .ptr 4 0 0), (6, .rp [iv (ls.length : Int)]), (9, .ptr 9 0 0)]) (H1 := [(4, .cells 55 3 [[iv 0, .nils, .nils]] true), (9, .cells 55 3 [[iv (ls.length : Int), .sl 905 0 0, .nils]] false), (905, .cells 51 5 (((w.take (0)).map (selF ls)).map cLf) true)]) (Weak.trans (F1 := [(0, .rs 5 (ls.map cLf)), (1, .rs 1 (w.map civ)), (4, .ptr 4 0 0), (6, .rp [iv (ls.length : Int)]), (9, .ptr 9 0 0)]) (weak_seed_any (i := 905) (k := 9) (e2 := 51) (z2 := 5) (fl2 := true) rfl rfl (.next .here)) (weak_to (.cons rfl sm (.cons rfl sm (.cons rfl sm (.cons rfl sm (.cons rfl sm (.nil)))))) (.keep (rfl) rfl (.keep (rfl) rfl (.keep (rfl) rfl (.nil)))) fun i h => by cases h)) (Weak.trans (F1 := [(0, .rs 5 (ls.map cLf)), (1, .rs 1 (w.map civ)), (4, .ptr 4 0 0), (6, .rp [iv (ls.length : Int)]), (9, .ptr 9 0 0)]) (weak_seed_any (i := 906) (k := 9) (e2 := 9) (z2 := 1) (fl2 := true) rfl rfl (.next (.next .here))) (weak_to (.cons rfl sm (.cons rfl sm (.cons rfl sm (.cons rfl sm (.cons rfl sm (.nil)))))) (.keep (rfl) rfl (.keep (rfl) rfl (.keep (rfl) rfl (.keep (rfl) rfl (.nil))))) fun i h => by cases h)))) ?_
          refine aw_reg (rs_mv rfl rfl ?_)
          refine rs_len_m rfl rfl ?_
          refine rs_mv rfl rfl ?_
          refine rs_nil fun _ => (th_n (aw_block ?_))
          refine aw_fam (α := Nat × Int) (fun s => w.length - s.1) (fun s => [(0, .rs 5 (ls.map cLf)), (1, .rs 1 (w.map civ)), (4, .ptr 4 0 0), (6, .rp [iv (ls.length : Int)]), (9, .ptr 9 0 0), (42, .rs 1 (w.map civ)), (43, iv (w.length : Int)), (44, iv (((s.1) : Nat) : Int))]) (fun s => [(4, .cells 55 3 [[iv 0, .nils, .nils]] true), (9, .cells 55 3 [[iv (ls.length : Int), .sl 905 0 (s.1), .sl 906 0 (0)]] false), (905, .cells 51 5 (((w.take (s.1)).map (selF ls)).map cLf) true), (906, .cells 9 1 ((((hidA ls.length w).take (0)).map (hidT ls)).map cS) true)]) (fun s => s.1 ≤ w.length ∧ (s.1 = 0 ∧ s.2 = -1 ∨ 1 ≤ s.1 ∧ w[s.1 - 1]? = some s.2) ∧ incF (ls.length : Int) s.2 (w.drop s.1) = incF (ls.length : Int) (-1) w) (0, -1) (⟨by show 0 ≤ _; omega, .inl ⟨rfl, rfl⟩, rfl⟩)
            (weak_to (.cons rfl sm (.cons rfl sm (.cons rfl sm (.cons rfl sm (.cons rfl sm (.cons rfl sm (.cons rfl sm (.cons rfl sm (.nil))))))))) (.keep (rfl) rfl (.keep (rfl) rfl (.keep (rfl) rfl (.keep (rfl) rfl (.nil))))) (fun i h => by cases h)) ?_
          rintro ⟨k, p⟩ ⟨hk, hp, hinv2⟩
          dsimp only at hk hp hinv2 ⊢
          refine aw_seq (aw_reg (rs_lss rfl rfl rfl ?_))
          refine rs_nil fun _ => (th_n (aw_seq (aw_cond rfl (fun h45 => ?_) (fun h45 => ?_))))
          · replace h45 := of_decide_eq_true h45
            refine aw_skip (th_n (aw_seq (aw_block (aw_seq (aw_reg (rs_mv rfl rfl ?_))))))
            obtain ⟨b, hbk, hbm⟩ := at_some (L := w) (k := k) (by omega)
            obtain ⟨hb0, hb1⟩ := hbd b hbm
            obtain ⟨x, hx, hxm⟩ := at_some (L := ls) (k := b.toNat) (by omega)
            refine rs_ix_g (f := civ) (y := b) rfl rfl rfl (by omega) hbk ?_
            refine rs_ld_r rfl rfl rfl ?_
            refine rs_mv rfl rfl ?_
            refine rs_mv rfl rfl ?_
            refine rs_nil fun _ => (th_n (aw_seq (aw_seq (aw_reg (rs_mv rfl rfl ?_)))))
            refine rs_cmp rfl rfl rfl rfl (fun h50 => ?_) (fun h50 => ?_)
            · skip
              refine rs_mv rfl rfl ?_
              refine rs_mv rfl rfl ?_
              refine rs_mv rfl rfl ?_
              refine rs_sub rfl rfl rfl (by omega) ?_
              obtain ⟨a, ha, ham⟩ := at_some (L := w) (k := k - 1) (by omega)
              refine rs_ix_g (f := civ) (y := a) rfl rfl rfl (by omega) (by rw [show ((k : Int) - 1).toNat = k - 1 by omega]; exact ha) ?_
              refine rs_ld_r rfl rfl rfl ?_
              refine rs_mv rfl rfl ?_
              refine rs_cmp rfl rfl rfl rfl (fun h58 => ?_) (fun h58 => ?_)
              · skip
                refine rs_pick rfl rfl rfl ?_
                refine rs_nil fun _ => (th_n (aw_cond rfl (fun _ => ?_) (fun h => by cases h)))
                refine aw_seq (aw_reg (rs_build rfl rfl ?_))
                refine rs_st rfl rfl rfl rfl rfl rfl rfl (Nat.le_of_ble_eq_true rfl) rfl rfl ?_
                refine rs_mv rfl rfl ?_
                refine rs_nil fun _ => (th_n (aw_ret (th_r (in_r (th_r (th_r (in_r (th_r ?_))))))))
                have he : showE ls w = 7 := shE_7 (by omega) hix h38 (by rw [← hinv2, incF_at hbk, decide_eq_false (show ¬ p < b by have hp2 := (hp.resolve_left (fun h => by omega)).2; rw [hp2] at ha; injection ha with ha; omega), Bool.and_false]; rfl)
                rw [shG_e he (by decide), he]
                exact ret_new rfl (rc_tup (.cons (rc_agg (.cons (rc_same rfl (.inr rfl)) (.cons rc_nils (.cons rc_nils .nil)))) (.cons (rc_same rfl (.inr rfl)) .nil))) .nil
              · skip
                refine rs_pick rfl rfl rfl ?_
                refine rs_nil fun _ => (th_n (aw_cond rfl (fun h => by cases h) (fun _ => ?_)))
                refine aw_skip (th_n (aw_draw hmix ?_))
                refine rs_fa_p rfl rfl ?_
                refine rs_ld_p rfl rfl rfl rfl rfl ?_
                refine rs_mv rfl rfl ?_
                refine rs_mv rfl rfl ?_
                refine rs_ix_g (f := cLf) (y := x) rfl rfl rfl hb0 hx ?_
                refine rs_ld_ra (cs := cLf x) rfl rfl (Nat.le_of_ble_eq_true rfl) rfl ?_
                refine rs_bslice (l := (([x] : List Lf)).flatMap cLf) (els := (([x] : List Lf)).map cLf) (fl := true) rfl (by kernel_rfl) rfl rfl (by kernel_rfl) (by kernel_rfl) ?_
                refine rs_app_m (f := cLf) (xs := (w.take k).map (selF ls)) (y := x) (fl' := true) rfl rfl rfl rfl (by simp; omega) rfl rfl rfl (by decide) rfl (by omega) (by omega) rfl ?_
                refine rs_fa_p rfl rfl ?_
                refine rs_st rfl rfl rfl rfl rfl rfl rfl (Nat.le_of_ble_eq_true rfl) rfl rfl ?_
                refine rs_nil ⟨by kernel_rfl, fun _ => ?_⟩
                refine in_n (th_n (aw_reg (rs_add rfl rfl rfl (by omega) ?_)))
                refine rs_mv rfl rfl ?_
                refine rs_nil fun _ => (th_n ?_)
                rw [incF_at hbk, show (decide (0 ≤ b) && decide (b < (ls.length : Int)) && decide (p < b)) = true from by simp only [Bool.and_eq_true, decide_eq_true_eq]; exact ⟨⟨hb0, hb1⟩, (by have hp2 := (hp.resolve_left (fun h => by omega)).2; rw [hp2] at ha; injection ha with ha; omega)⟩, Bool.true_and] at hinv2
                exact ⟨(k + 1, b), ⟨by show k + 1 ≤ _; omega, .inr ⟨by show 1 ≤ k + 1; omega, by show w[k + 1 - 1]? = _; rw [show k + 1 - 1 = k by omega]; exact hbk⟩, hinv2⟩, by show _ - (k + 1) < _; omega, show Weak _ _ _ _ [(0, .rs 5 (ls.map cLf)), (1, .rs 1 (w.map civ)), (4, .ptr 4 0 0), (6, .rp [iv (ls.length : Int)]), (9, .ptr 9 0 0), (42, .rs 1 (w.map civ)), (43, iv (w.length : Int)), (44, iv (((k + 1) : Nat) : Int))] [(4, .cells 55 3 [[iv 0, .nils, .nils]] true), (9, .cells 55 3 [[iv (ls.length : Int), .sl 905 0 (k + 1), .sl 906 0 (0)]] false), (905, .cells 51 5 (((w.take (k + 1)).map (selF ls)).map cLf) true), (906, .cells 9 1 ((((hidA ls.length w).take (0)).map (hidT ls)).map cS) true)] from Weak.trans (F1 := [(0, .rs 5 (ls.map cLf)), (1, .rs 1 (w.map civ)), (4, .ptr 4 0 0), (6, .rp [iv (ls.length : Int)]), (9, .ptr 9 0 0), (42, .rs 1 (w.map civ)), (43, iv (w.length : Int)), (44, iv (((k + 1) : Nat) : Int))]) (H1 := [(4, .cells 55 3 [[iv 0, .nils, .nils]] true), (9, .cells 55 3 [[iv (ls.length : Int), .sl 68 0 (k + 1), .sl 906 0 (0)]] false), (68, .cells 51 5 (((w.take (k + 1)).map (selF ls)).map cLf) true), (906, .cells 9 1 ((((hidA ls.length w).take (0)).map (hidT ls)).map cS) true)]) (weak_to (.cons rfl sm (.cons rfl sm (.cons rfl sm (.cons rfl sm (.cons rfl sm (.cons rfl sm (.cons rfl sm (.cons rfl sm (.nil))))))))) (.keep (rfl) rfl (.keep (rfl) rfl (.keep (by rw [sel_succ hbk hx]; rfl) rfl (.keep (rfl) rfl (.nil))))) fun i h => by cases h) (Weak.trans (F1 := [(0, .rs 5 (ls.map cLf)), (1, .rs 1 (w.map civ)), (4, .ptr 4 0 0), (6, .rp [iv (ls.length : Int)]), (9, .ptr 9 0 0), (42, .rs 1 (w.map civ)), (43, iv (w.length : Int)), (44, iv (((k + 1) : Nat) : Int))]) (weak_ren_row (i := 68) (i' := 905) (k := 9) rfl rfl (.cons rfl (.same _) (.cons rfl (.same _) (.cons rfl (.same _) (.cons rfl (.same _) (.cons rfl (.same _) (.cons rfl (.same _) (.cons rfl (.same _) (.cons rfl (.same _) (.nil))))))))) (by decide) rfl (.cons (.same _) (.cons (.sl _ _) (RenL.refl _ _ _)))) (weak_to (.cons rfl sm (.cons rfl sm (.cons rfl sm (.cons rfl sm (.cons rfl sm (.cons rfl sm (.cons rfl sm (.cons rfl sm (.nil))))))))) (.keep (rfl) rfl (.keep (rfl) rfl (.keep (rfl) rfl (.keep (rfl) rfl (.nil))))) fun i h => by cases h))⟩
            · skip
              refine rs_mv rfl rfl ?_
              refine rs_skip rfl ?_
              refine rs_skip rfl ?_
              refine rs_skip rfl ?_
              refine rs_skip rfl ?_
              refine rs_skip rfl ?_
              refine rs_skip rfl ?_
              refine rs_skip rfl ?_
              refine rs_pick rfl rfl rfl ?_
              refine rs_nil fun _ => (th_n (aw_cond rfl (fun h => by cases h) (fun _ => ?_)))
              refine aw_skip (th_n (aw_draw hmix ?_))
              refine rs_fa_p rfl rfl ?_
              refine rs_ld_p rfl rfl rfl rfl rfl ?_
              refine rs_mv rfl rfl ?_
              refine rs_mv rfl rfl ?_
              refine rs_ix_g (f := cLf) (y := x) rfl rfl rfl hb0 hx ?_
              refine rs_ld_ra (cs := cLf x) rfl rfl (Nat.le_of_ble_eq_true rfl) rfl ?_
              refine rs_bslice (l := (([x] : List Lf)).flatMap cLf) (els := (([x] : List Lf)).map cLf) (fl := true) rfl (by kernel_rfl) rfl rfl (by kernel_rfl) (by kernel_rfl) ?_
              refine rs_app_m (f := cLf) (xs := (w.take k).map (selF ls)) (y := x) (fl' := true) rfl rfl rfl rfl (by simp; omega) rfl rfl rfl (by decide) rfl (by omega) (by omega) rfl ?_
              refine rs_fa_p rfl rfl ?_
              refine rs_st rfl rfl rfl rfl rfl rfl rfl (Nat.le_of_ble_eq_true rfl) rfl rfl ?_
              refine rs_nil ⟨by kernel_rfl, fun _ => ?_⟩
              refine in_n (th_n (aw_reg (rs_add rfl rfl rfl (by omega) ?_)))
              refine rs_mv rfl rfl ?_
              refine rs_nil fun _ => (th_n ?_)
              rw [incF_at hbk, show (decide (0 ≤ b) && decide (b < (ls.length : Int)) && decide (p < b)) = true from by simp only [Bool.and_eq_true, decide_eq_true_eq]; exact ⟨⟨hb0, hb1⟩, (hp.elim (fun h => by omega) (fun h => by omega))⟩, Bool.true_and] at hinv2
              exact ⟨(k + 1, b), ⟨by show k + 1 ≤ _; omega, .inr ⟨by show 1 ≤ k + 1; omega, by show w[k + 1 - 1]? = _; rw [show k + 1 - 1 = k by omega]; exact hbk⟩, hinv2⟩, by show _ - (k + 1) < _; omega, show Weak _ _ _ _ [(0, .rs 5 (ls.map cLf)), (1, .rs 1 (w.map civ)), (4, .ptr 4 0 0), (6, .rp [iv (ls.length : Int)]), (9, .ptr 9 0 0), (42, .rs 1 (w.map civ)), (43, iv (w.length : Int)), (44, iv (((k + 1) : Nat) : Int))] [(4, .cells 55 3 [[iv 0, .nils, .nils]] true), (9, .cells 55 3 [[iv (ls.length : Int), .sl 905 0 (k + 1), .sl 906 0 (0)]] false), (905, .cells 51 5 (((w.take (k + 1)).map (selF ls)).map cLf) true), (906, .cells 9 1 ((((hidA ls.length w).take (0)).map (hidT ls)).map cS) true)] from Weak.trans (F1 := [(0, .rs 5 (ls.map cLf)), (1, .rs 1 (w.map civ)), (4, .ptr 4 0 0), (6, .rp [iv (ls.length : Int)]), (9, .ptr 9 0 0), (42, .rs 1 (w.map civ)), (43, iv (w.length : Int)), (44, iv (((k + 1) : Nat) : Int))]) (H1 := [(4, .cells 55 3 [[iv 0, .nils, .nils]] true), (9, .cells 55 3 [[iv (ls.length : Int), .sl 68 0 (k + 1), .sl 906 0 (0)]] false), (68, .cells 51 5 (((w.take (k + 1)).map (selF ls)).map cLf) true), (906, .cells 9 1 ((((hidA ls.length w).take (0)).map (hidT ls)).map cS) true)]) (weak_to (.cons rfl sm (.cons rfl sm (.cons rfl sm (.cons rfl sm (.cons rfl sm (.cons rfl sm (.cons rfl sm (.cons rfl sm (.nil))))))))) (.keep (rfl) rfl (.keep (rfl) rfl (.keep (by rw [sel_succ hbk hx]; rfl) rfl (.keep (rfl) rfl (.nil))))) fun i h => by cases h) (Weak.trans (F1 := [(0, .rs 5 (ls.map cLf)), (1, .rs 1 (w.map civ)), (4, .ptr 4 0 0), (6, .rp [iv (ls.length : Int)]), (9, .ptr 9 0 0), (42, .rs 1 (w.map civ)), (43, iv (w.length : Int)), (44, iv (((k + 1) : Nat) : Int))]) (weak_ren_row (i := 68) (i' := 905) (k := 9) rfl rfl (.cons rfl (.same _) (.cons rfl (.same _) (.cons rfl (.same _) (.cons rfl (.same _) (.cons rfl (.same _) (.cons rfl (.same _) (.cons rfl (.same _) (.cons rfl (.same _) (.nil))))))))) (by decide) rfl (.cons (.same _) (.cons (.sl _ _) (RenL.refl _ _ _)))) (weak_to (.cons rfl sm (.cons rfl sm (.cons rfl sm (.cons rfl sm (.cons rfl sm (.cons rfl sm (.cons rfl sm (.cons rfl sm (.nil))))))))) (.keep (rfl) rfl (.keep (rfl) rfl (.keep (rfl) rfl (.keep (rfl) rfl (.nil))))) fun i h => by cases h))⟩
          · replace h45 := of_decide_eq_false h45
            refine aw_exit ?_
            refine th_e ?_
            refine th_e ?_
            refine in_hit ?_
            refine th_n (aw_seq (aw_seq ?_))
            obtain rfl : k = w.length := by omega
            have hinc : incF (ls.length : Int) (-1) w = true := by rw [← hinv2, List.drop_eq_nil_of_le (Nat.le_refl _)]; rfl
            have hlv : LvsOK ls := ⟨by omega, fun i x h => by rw [ixF_ix hix i x h]; omega, hok⟩
            have he : showE ls w = 0 := shE_0 (by omega) hix h38 hinc
            have hha := hidA_len (w := w) hlv.n.2
            refine aw_reg (rs_ld_r rfl rfl rfl ?_)
            refine rs_mv rfl rfl ?_
            refine rs_calln [] rfl rfl (vc67 ls.length hlv.n w (by omega)) (.cons (hv_same rfl) (.cons (hv_same rfl) (.nil))) rfl ?_
            refine rs_len_m rfl rfl ?_
            refine rs_mv rfl rfl ?_
            refine rs_nil fun _ => (th_n (aw_block ?_))
            refine aw_fam (α := Nat) (fun k => (hidA ls.length w).length - k) (fun k => [(0, .rs 5 (ls.map cLf)), (1, .rs 1 (w.map civ)), (4, .ptr 4 0 0), (6, .rp [iv (ls.length : Int)]), (9, .ptr 9 0 0), (73, .rs 2 ((hidA ls.length w).map cSp)), (74, iv ((hidA ls.length w).length : Int)), (75, iv (((k) : Nat) : Int))]) (fun k => [(4, .cells 55 3 [[iv 0, .nils, .nils]] true), (9, .cells 55 3 [[iv (ls.length : Int), .sl 905 0 (w.length), .sl 906 0 (k)]] false), (905, .cells 51 5 (((w.take (w.length)).map (selF ls)).map cLf) true), (906, .cells 9 1 ((((hidA ls.length w).take (k)).map (hidT ls)).map cS) true)]) (fun k => k ≤ (hidA ls.length w).length) 0 (by omega)
              (weak_to (.cons rfl sm (.cons rfl sm (.cons rfl sm (.cons rfl sm (.cons rfl sm (.cons rfl sm (.cons rfl sm (.cons rfl sm (.nil))))))))) (.keep (rfl) rfl (.keep (rfl) rfl (.keep (rfl) rfl (.keep (rfl) rfl (.nil))))) (fun i h => by cases h)) ?_
            intro k hk
            refine aw_seq (aw_reg (rs_lss rfl rfl rfl ?_))
            refine rs_nil fun _ => (th_n (aw_seq (aw_cond rfl (fun h76 => ?_) (fun h76 => ?_))))
            · replace h76 := of_decide_eq_true h76
              refine aw_skip (th_n (aw_seq (aw_block (aw_seq (aw_reg ?_)))))
              obtain ⟨s, hsk, hsm⟩ := at_some (L := hidA ls.length w) (k := k) (by omega)
              obtain ⟨c, e, rfl, he2, hce, hcn⟩ := hidA_mem hlv.n.2 hsm
              refine rs_ix_g (f := cSp) (y := (c, 2 ^ e)) rfl rfl rfl (by omega) hsk ?_
              refine rs_ld_ra (cs := cP c (2 ^ e)) rfl rfl (Nat.le_of_ble_eq_true rfl) rfl ?_
              refine rs_alloc rfl rfl rfl ?_
              refine rs_st rfl rfl rfl rfl rfl rfl rfl (Nat.le_of_ble_eq_true rfl) rfl rfl ?_
              refine rs_nil fun _ => (th_n (aw_draw hmix ?_))
              refine rs_fa_p rfl rfl ?_
              refine rs_ld_p rfl rfl rfl rfl rfl ?_
              refine rs_mv rfl rfl ?_
              refine rs_callo [] rfl rfl (vc68 ls) (.cons (hv_same rfl) .nil) .nil rfl rfl rfl ?_
              refine rs_ld_pa rfl rfl rfl rfl (Nat.le_of_ble_eq_true rfl) rfl ?_
              refine rs_calln [] rfl rfl (vc69_1 ls (ofK ls) (ofK_ok ls) (fun b m _ => vc119 ls hlv.ls b m) e c (by omega)) (.cons (hv_same rfl) (.cons (hv_same rfl) (.nil))) rfl ?_
              refine rs_bslice (l := (([treeD (ofK ls) e c] : List (List Int))).flatMap cS) (els := (([treeD (ofK ls) e c] : List (List Int))).map cS) (fl := true) rfl (by kernel_rfl) rfl rfl (by kernel_rfl) (by kernel_rfl) ?_
              refine rs_app_m (f := cS) (xs := ((hidA ls.length w).take k).map (hidT ls)) (y := treeD (ofK ls) e c) (fl' := true) rfl rfl rfl rfl (by simp; omega) rfl rfl rfl (by decide) rfl (by omega) (by omega) rfl ?_
              refine rs_fa_p rfl rfl ?_
              refine rs_st rfl rfl rfl rfl rfl rfl rfl (Nat.le_of_ble_eq_true rfl) rfl rfl ?_
              refine rs_nil ⟨by kernel_rfl, fun _ => ?_⟩
              refine in_n (th_n (aw_reg (rs_add rfl rfl rfl (by omega) ?_)))
              refine rs_mv rfl rfl ?_
              refine rs_nil fun _ => (th_n ?_)
              exact ⟨k + 1, by omega, by omega, show Weak _ _ _ _ [(0, .rs 5 (ls.map cLf)), (1, .rs 1 (w.map civ)), (4, .ptr 4 0 0), (6, .rp [iv (ls.length : Int)]), (9, .ptr 9 0 0), (73, .rs 2 ((hidA ls.length w).map cSp)), (74, iv ((hidA ls.length w).length : Int)), (75, iv (((k + 1) : Nat) : Int))] [(4, .cells 55 3 [[iv 0, .nils, .nils]] true), (9, .cells 55 3 [[iv (ls.length : Int), .sl 905 0 (w.length), .sl 906 0 (k + 1)]] false), (905, .cells 51 5 (((w.take (w.length)).map (selF ls)).map cLf) true), (906, .cells 9 1 ((((hidA ls.length w).take (k + 1)).map (hidT ls)).map cS) true)] from Weak.trans (F1 := [(0, .rs 5 (ls.map cLf)), (1, .rs 1 (w.map civ)), (4, .ptr 4 0 0), (6, .rp [iv (ls.length : Int)]), (9, .ptr 9 0 0), (73, .rs 2 ((hidA ls.length w).map cSp)), (74, iv ((hidA ls.length w).length : Int)), (75, iv (((k + 1) : Nat) : Int))]) (H1 := [(4, .cells 55 3 [[iv 0, .nils, .nils]] true), (9, .cells 55 3 [[iv (ls.length : Int), .sl 905 0 (w.length), .sl 86 0 (k + 1)]] false), (905, .cells 51 5 (((w.take (w.length)).map (selF ls)).map cLf) true), (86, .cells 9 1 ((((hidA ls.length w).take (k + 1)).map (hidT ls)).map cS) true)]) (weak_to (.cons rfl sm (.cons rfl sm (.cons rfl sm (.cons rfl sm (.cons rfl sm (.cons rfl sm (.cons rfl sm (.cons rfl sm (.nil))))))))) (.keep (rfl) rfl (.keep (rfl) rfl (.keep (rfl) rfl (.keep (by rw [hidT_succ hsk he2]; rfl) rfl (.nil))))) fun i h => by cases h) (Weak.trans (F1 := [(0, .rs 5 (ls.map cLf)), (1, .rs 1 (w.map civ)), (4, .ptr 4 0 0), (6, .rp [iv (ls.length : Int)]), (9, .ptr 9 0 0), (73, .rs 2 ((hidA ls.length w).map cSp)), (74, iv ((hidA ls.length w).length : Int)), (75, iv (((k + 1) : Nat) : Int))]) (weak_ren_row (i := 86) (i' := 906) (k := 9) rfl rfl (.cons rfl (.same _) (.cons rfl (.same _) (.cons rfl (.same _) (.cons rfl (.same _) (.cons rfl (.same _) (.cons rfl (.same _) (.cons rfl (.same _) (.cons rfl (.same _) (.nil))))))))) (by decide) rfl (.cons (.same _) (.cons (.same _) (.cons (.sl _ _) (RenL.refl _ _ _))))) (weak_to (.cons rfl sm (.cons rfl sm (.cons rfl sm (.cons rfl sm (.cons rfl sm (.cons rfl sm (.cons rfl sm (.cons rfl sm (.nil))))))))) (.keep (rfl) rfl (.keep (rfl) rfl (.keep (rfl) rfl (.keep (rfl) rfl (.nil))))) fun i h => by cases h))⟩
            · replace h76 := of_decide_eq_false h76
              refine aw_exit ?_
              refine th_e ?_
              refine th_e ?_
              refine in_hit ?_
              refine th_n (aw_seq (aw_reg (rs_ld_pa rfl rfl rfl rfl (Nat.le_of_ble_eq_true rfl) rfl ?_)))
              refine rs_st rfl rfl rfl rfl rfl rfl rfl (Nat.le_of_ble_eq_true rfl) rfl rfl ?_
              refine rs_mv rfl rfl ?_
              refine rs_nil fun _ => (th_n (aw_ret ?_))
              obtain rfl : k = (hidA ls.length w).length := by omega
              rw [shG_0 he, he, show cSh (showS ls w) = [iv (ls.length : Int), .rs 5 (((w.take w.length).map (selF ls)).map cLf), .rs 1 ((((hidA ls.length w).take (hidA ls.length w).length).map (hidT ls)).map cS)] by rw [List.take_of_length_le (Nat.le_refl _), List.take_of_length_le (Nat.le_refl _)]; rfl]
              exact ret_new rfl (rc_tup (.cons (rc_agg (.cons (rc_same rfl (.inr rfl)) (.cons (rc_frz rfl rfl (by simp) (fun _ => rfl)) (.cons (rc_frz rfl rfl (by simp) (fun _ => rfl)) .nil)))) (.cons (rc_same rfl (.inr rfl)) .nil))) .nil
        · skip
          refine rs_nil fun _ => (th_n (aw_cond rfl (fun _ => ?_) (fun h => by cases h)))
          refine aw_seq (aw_reg (rs_build rfl rfl ?_))
          refine rs_st rfl rfl rfl rfl rfl rfl rfl (Nat.le_of_ble_eq_true rfl) rfl rfl ?_
          refine rs_mv rfl rfl ?_
          refine rs_nil fun _ => (th_n (aw_ret (th_r ?_)))
          have he : showE ls w = 5 := shE_5 (by omega) hix h38
          rw [shG_e he (by decide), he]
          exact ret_new rfl (rc_tup (.cons (rc_agg (.cons (rc_same rfl (.inr rfl)) (.cons rc_nils (.cons rc_nils .nil)))) (.cons (rc_same rfl (.inr rfl)) .nil))) .nil
def mcv45 : MC := (.seq (.reg [oN 6 (.mv (.c (.bool false))) []] false) (.seq (.reg [oN 10 (.mv (.t 0)) [], oN 11 (.mv (.t 1)) [], oN 12 (.call 22 [(.t 10), (.t 11)]) [0, 1], oN 9 (.mv (.t 12)) [2], oN 13 (.ext (.t 9) 0) [3], oN 14 (.ext (.t 9) 1) [3], oN 7 (.alloc 55 3 [(.int .i64 0), .nils, .nils]) [], ⟨none, (.st 3 (.t 7) (.t 13)), none, [6, 4, 2, 0, 1, 2, 3, 4, 6]⟩, oN 8 (.mv (.t 14)) [5, 7, 0, 1, 2, 3, 4, 5, 6, 7]] false) (.seq (.reg [oN 15 (.mv (.t 8)) [], oN 16 (.bin .eql (.t 15) (.c (.int .i64 0))) [0], oN 17 (.mv (.t 16)) [1], oG 18 (.fa 0 (.t 7)) 17 true [2], oG 19 (.ld false 1 (.t 18)) 17 true [3, 2], oG 20 (.mv (.t 0)) 17 true [2], oG 21 (.len (.t 20)) 17 true [5, 2], oG 22 (.bin .eql (.t 19) (.t 21)) 17 true [4, 6, 2], oN 23 (.pick (.t 17) (.t 22) (.c (.bool false))) [2, 7], oN 24 (.mv (.t 23)) [8, 2], oG 25 (.fa 2 (.t 7)) 24 true [9], oG 26 (.ld false 1 (.t 25)) 24 true [10, 9], oG 27 (.mv (.t 2)) 24 true [9], oG 28 (.call 34 [(.t 26), (.t 27)]) 24 true [11, 12, 9, 9], oN 29 (.pick (.t 24) (.t 28) (.c (.bool false))) [9, 13], oN 30 (.mv (.t 29)) [14, 13], oG 31 (.fa 1 (.t 7)) 30 true [15], oG 32 (.ld false 1 (.t 31)) 30 true [16, 15], oG 33 (.len (.t 32)) 30 true [17, 15], oG 34 (.mv (.t 1)) 30 true [15], oG 35 (.len (.t 34)) 30 true [19, 15], oG 36 (.bin .eql (.t 33) (.t 35)) 30 true [18, 20, 15], oN 37 (.pick (.t 30) (.t 36) (.c (.bool false))) [15, 21], oN 6 (.mv (.t 37)) [22, 15, 0, 1, 2, 3, 4, 5, 6, 7, 8, 9, 10, 11, 12, 13, 14, 15, 16, 17, 18, 19, 20, 21, 22]] false) .ret)))
theorem mcOkv45 : (match Tryz.f45.body with | some c => compC Tryz.prog 38 c | none => none) = some mcv45 := by kernel_rfl
theorem vc45 (ls : List Lf) (hl : ls.length ≤ 64) (hok : ∀ x ∈ ls, x.OK) (w : List Int) (hwl : w.length ≤ 64) (want : List (List Int)) (hwa : ∀ d ∈ want, B8 d) : FC Tryz.prog 45 [.rs 5 (ls.map cLf), .rs 1 (w.map civ), .rs 1 (want.map cS)] [] (.bool (shB ls w want)) [] false := by
  have h8 : ∀ d ∈ (showG ls w).hid, B8 d := fun d hd => (showG_8 d hd).1
  have hgl : (showG ls w).hid.length ≤ 16 := by
    by_cases h0 : showE ls w = 0
    · rw [shG_0 h0]; show ((hidA ls.length w).map (hidT ls)).length ≤ 16; rw [List.length_map]; exact hidA_len (by unfold showE at h0; split at h0; cases h0; omega)
    · rw [shG_e rfl h0]; exact Nat.zero_le _
  refine fc_run (nt := 38) Tryz.func45 rfl rfl mcOkv45 (Nat.le_of_ble_eq_true rfl) ?_
  delta mcv45
  refine aw_seq (aw_reg (rs_mv rfl rfl ?_))
  refine rs_nil fun _ => (th_n (aw_seq (aw_reg (rs_mv rfl rfl ?_))))
  refine rs_mv rfl rfl ?_
  refine rs_calln [] rfl rfl (vc22 ls hl hok w hwl) (.cons (hv_same rfl) (.cons (hv_same rfl) (.nil))) rfl ?_
  refine rs_mv rfl rfl ?_
  refine rs_ext rfl rfl rfl ?_
  refine rs_ext rfl rfl rfl ?_
  refine rs_alloc rfl rfl rfl ?_
  refine rs_st rfl rfl rfl rfl rfl rfl rfl (Nat.le_of_ble_eq_true rfl) rfl rfl ?_
  refine rs_mv rfl rfl ?_
  refine rs_nil fun _ => (th_n (aw_seq (aw_reg (rs_mv rfl rfl ?_))))
  refine rs_cmp rfl rfl rfl rfl (fun h16 => ?_) (fun h16 => ?_)
  · skip
    refine rs_mv rfl rfl ?_
    refine rs_fa_p rfl rfl ?_
    refine rs_ld_p rfl rfl rfl rfl rfl ?_
    refine rs_mv rfl rfl ?_
    refine rs_len_m rfl rfl ?_
    refine rs_cmp rfl rfl rfl rfl (fun h22 => ?_) (fun h22 => ?_)
    · skip
      refine rs_pick rfl rfl rfl ?_
      refine rs_mv rfl rfl ?_
      refine rs_fa_p rfl rfl ?_
      refine rs_ld_p rfl rfl rfl rfl rfl ?_
      refine rs_mv rfl rfl ?_
      refine rs_calln [] rfl rfl (vc34 (showG ls w).hid want h8 hwa (by omega)) (.cons (hv_same rfl) (.cons (hv_same rfl) (.nil))) rfl ?_
      cases h28 : decide ((showG ls w).hid = want)
      · skip
        refine rs_pick rfl rfl rfl ?_
        refine rs_mv rfl rfl ?_
        refine rs_skip rfl ?_
        refine rs_skip rfl ?_
        refine rs_skip rfl ?_
        refine rs_skip rfl ?_
        refine rs_skip rfl ?_
        refine rs_skip rfl ?_
        refine rs_pick rfl rfl rfl ?_
        refine rs_mv rfl rfl ?_
        refine rs_nil fun _ => (th_n (aw_ret ?_))
        rw [show shB ls w want = false from by unfold shB; rw [decide_eq_true h16, decide_eq_true h22, h28]; rfl]
        exact ret_pure rfl rfl rfl (.inr rfl)
      · skip
        refine rs_pick rfl rfl rfl ?_
        refine rs_mv rfl rfl ?_
        refine rs_fa_p rfl rfl ?_
        refine rs_ld_p rfl rfl rfl rfl rfl ?_
        refine rs_len_m rfl rfl ?_
        refine rs_mv rfl rfl ?_
        refine rs_len_m rfl rfl ?_
        refine rs_cmp rfl rfl rfl rfl (fun h36 => ?_) (fun h36 => ?_)
        · skip
          refine rs_pick rfl rfl rfl ?_
          refine rs_mv rfl rfl ?_
          refine rs_nil fun _ => (th_n (aw_ret ?_))
          rw [show shB ls w want = true from by unfold shB; rw [decide_eq_true h16, decide_eq_true h22, h28, decide_eq_true h36]; rfl]
          exact ret_pure rfl rfl rfl (.inr rfl)
        · skip
          refine rs_pick rfl rfl rfl ?_
          refine rs_mv rfl rfl ?_
          refine rs_nil fun _ => (th_n (aw_ret ?_))
          rw [show shB ls w want = false from by unfold shB; rw [decide_eq_true h16, decide_eq_true h22, h28, decide_eq_false h36]; rfl]
          exact ret_pure rfl rfl rfl (.inr rfl)
    · skip
      refine rs_pick rfl rfl rfl ?_
      refine rs_mv rfl rfl ?_
      refine rs_skip rfl ?_
      refine rs_skip rfl ?_
      refine rs_skip rfl ?_
      refine rs_skip rfl ?_
      refine rs_pick rfl rfl rfl ?_
      refine rs_mv rfl rfl ?_
      refine rs_skip rfl ?_
      refine rs_skip rfl ?_
      refine rs_skip rfl ?_
      refine rs_skip rfl ?_
      refine rs_skip rfl ?_
      refine rs_skip rfl ?_
      refine rs_pick rfl rfl rfl ?_
      refine rs_mv rfl rfl ?_
      refine rs_nil fun _ => (th_n (aw_ret ?_))
      rw [show shB ls w want = false from by unfold shB; rw [decide_eq_true h16, decide_eq_false h22]; rfl]
      exact ret_pure rfl rfl rfl (.inr rfl)
  · skip
    refine rs_mv rfl rfl ?_
    refine rs_skip rfl ?_
    refine rs_skip rfl ?_
    refine rs_skip rfl ?_
    refine rs_skip rfl ?_
    refine rs_skip rfl ?_
    refine rs_pick rfl rfl rfl ?_
    refine rs_mv rfl rfl ?_
    refine rs_skip rfl ?_
    refine rs_skip rfl ?_
    refine rs_skip rfl ?_
    refine rs_skip rfl ?_
    refine rs_pick rfl rfl rfl ?_
    refine rs_mv rfl rfl ?_
    refine rs_skip rfl ?_
    refine rs_skip rfl ?_
    refine rs_skip rfl ?_
    refine rs_skip rfl ?_
    refine rs_skip rfl ?_
    refine rs_skip rfl ?_
    refine rs_pick rfl rfl rfl ?_
    refine rs_mv rfl rfl ?_
    refine rs_nil fun _ => (th_n (aw_ret ?_))
    rw [show shB ls w want = false from by unfold shB; rw [decide_eq_false h16]; rfl]
    exact ret_pure rfl rfl rfl (.inr rfl)
end Go.Proofs.YthfhaoogcpfboaaGreat

/-! Walks: VU. -/
namespace Go.Proofs.YthfhaoogcpfboaaGreat
open Go.RowKit
set_option maxRecDepth 100000
set_option linter.unusedVariables false
def eL (k : Nat) : Lf := match k with
  | 0 => ⟨0, 1, false, false, markS [115] [0]⟩
  | 1 => ⟨1, 2, true, true, markS [115] [2]⟩
  | _ => ⟨2, 3, false, false, markS [115] [4]⟩
abbrev eLs : List Lf := [eL 0, eL 1, eL 2]
def eN : Lf := ⟨1, 2, false, true, markS [115] [2]⟩
theorem exF : fineB (verdS exA exX) = true := by decide +kernel
theorem exL_eq : exL = eLs := by
  unfold exL leavesS
  rw [if_pos ⟨exF, by decide⟩]
  rfl
def eD (k : Nat) : List Int := leafS (textS (eL k))
def eLow : List Int := innerS (eD 0) (eD 1)
def eHigh : List Int := innerS (eD 2) missS
def eRoot : List Int := innerS eLow eHigh
theorem mark_ok (k m : List Int) : B8 (markS k m) ∧ (markS k m).length ≤ LIM := ⟨(dg_ok _).1, by rw [show (markS k m).length = 8 from (dg_ok _).2]; decide⟩
theorem inner_ok (k m : List Int) : B8 (innerS k m) ∧ (innerS k m).length ≤ LIM := ⟨(dg_ok _).1, by rw [show (innerS k m).length = 8 from (dg_ok _).2]; decide⟩
theorem leafD_ok (k : List Int) : B8 (leafS k) ∧ (leafS k).length ≤ LIM := ⟨(dg_ok _).1, by rw [show (leafS k).length = 8 from (dg_ok _).2]; decide⟩
theorem eL_ok (k : Nat) : (eL k).OK := by
  have h8 : ∀ m, (markS [115] m).length ≤ 1000000000 := fun m => by rw [show (markS [115] m).length = 8 from (dg_ok _).2]; decide
  unfold eL
  split <;> exact ⟨by decide, by decide, (mark_ok _ _).1, h8 _⟩
theorem eN_ok : eN.OK := ⟨by decide, by decide, (mark_ok _ _).1, by rw [show eN.salt.length = 8 from (dg_ok _).2]; decide⟩
theorem eLs_ok : ∀ x ∈ eLs, x.OK := fun x hx => by
  simp only [eLs, List.mem_cons, List.not_mem_nil, or_false] at hx
  rcases hx with rfl | rfl | rfl <;> exact eL_ok _
theorem text_ok (k : Nat) : B8 (textS (eL k)) ∧ (textS (eL k)).length ≤ LIM := ⟨textS_8 (eL_ok k).b, Nat.le_trans (textS_len (eL_ok k).n) (by decide)⟩
theorem eText : textS (eL 1) = [8, 2, 4, 2, 2, 16] ++ markS [115] [2] := by decide +kernel
theorem eRootF : rootF eLs = eRoot := by decide +kernel
theorem eS1 : shB eLs [1] [eD 0, eHigh] = true := by decide +kernel
theorem eS2 : shB eLs [2] [eLow] = true := by decide +kernel
theorem eS3 : shB eLs [] [eRoot] = true := by decide +kernel
theorem eS4 : shB eLs [0, 1, 2] [] = true := by decide +kernel
theorem eE3 : showE eLs [3] = 5 := by decide +kernel
theorem eE11 : showE eLs [1, 1] = 7 := by decide +kernel
theorem eE0 : showE [] [] = 2 := by decide +kernel
theorem eE1 : showE eLs [1] = 0 := by decide +kernel
abbrev eSh : Shn := ⟨3, [eL 1], [eD 0, eHigh]⟩
theorem eG1 : showG eLs [1] = eSh := by decide +kernel
theorem eR1 : rootOfS 3 [eL 1] [eD 0, eHigh] = some eRoot := by decide +kernel
theorem eC1 : changeS 3 [eL 1] [eD 0, eHigh] 3 [eN] [eD 0, eHigh] = 7 := by decide +kernel
theorem eC2 : changeS 3 [eN] [eD 0, eHigh] 3 [eL 1] [eD 0, eHigh] = 0 := by decide +kernel
theorem eSh_ok : ShOK [eL 1] [eD 0, eHigh] := ⟨by decide, by decide, fun x hx => by rw [List.mem_singleton.1 hx]; exact eL_ok 1, fun d hd => by
  simp only [List.mem_cons, List.not_mem_nil, or_false] at hd
  rcases hd with rfl | rfl
  · exact leafD_ok _
  · exact inner_ok _ _⟩
theorem eShN_ok : ShOK [eN] [eD 0, eHigh] := ⟨by decide, by decide, fun x hx => by rw [List.mem_singleton.1 hx]; exact eN_ok, eSh_ok.b⟩
def eAr (k : Nat) : List AV := match k with
  | 0 => [.str (strN []), .str (strN []), .str (strN [])]
  | 1 => [.str (strN (eD 0)), .str (strN []), .str (strN [])]
  | 2 => [.str (strN (eD 0)), .str (strN (eD 1)), .str (strN [])]
  | _ => [.str (strN (eD 0)), .str (strN (eD 1)), .str (strN (eD 2))]
def mcv8 : MC := (.seq (.reg [oN 0 (.mv (.c (.bool false))) []] false) (.seq (.reg [oN 19 (.call 39 []) [], oN 1 (.mv (.t 19)) [0, 0, 0]] false) (.seq (.seq (.reg [oN 20 (.mv (.t 1)) [], oN 21 (.len (.t 20)) [0], oN 22 (.bin .neq (.t 21) (.c (.int .i64 3))) [1], oN 23 (.mv (.t 22)) [2], oG 24 (.mv (.t 1)) 23 false [3], oG 25 (.ixsl 5 (.t 24) (.c (.int .i64 1))) 23 false [4, 3], oG 26 (.ld true 5 (.t 25)) 23 false [5, 3], oG 27 (.call 40 [(.c (.str (strN [115]))), (.c (.str (strN [2])))]) 23 false [3, 3], oG 28 (.build [(.int .i64 0), (.int .i64 0), (.bool false), (.bool false), (.str (strN []))] [(0, (1, (.c (.int .i64 1)))), (1, (1, (.c (.int .i64 2)))), (2, (1, (.c (.bool true)))), (3, (1, (.c (.bool true)))), (4, (1, (.t 27)))]) 23 false [7, 3], oG 29 (.aeqx true [0, 0, 1, 1, 2] (.t 26) (.t 28)) 23 false [6, 8, 3], oN 30 (.pick (.t 23) (.c (.bool true)) (.t 29)) [3, 9]] true) (.cond (.t 30) (.seq (.reg [oN 0 (.mv (.c (.bool false))) []] false) .ret) .skip)) (.seq (.reg [oN 2 (.alloc 76 3 [(.str (strN [])), (.str (strN [])), (.str (strN []))]) []] false) (.seq (.seq (.reg [oN 31 (.mv (.c (.int .i64 0))) []] false) (.block 0 (.loop (.seq (.reg [oN 32 (.bin .lss (.t 31) (.c (.int .i64 3))) []] false) (.seq (.cond (.t 32) .skip (.exit 0)) (.seq (.block 1 (.seq (.reg [oN 33 (.mv (.t 31)) [], oN 3 (.mv (.t 33)) [0, 0]] false) (.reg [oN 34 (.mv (.t 3)) [], oN 35 (.mv (.t 1)) [], oN 36 (.mv (.t 3)) [], oN 37 (.ixsl 5 (.t 35) (.t 36)) [1, 2], oN 38 (.ld true 5 (.t 37)) [3], oN 39 (.call 42 [(.t 38)]) [4], oN 40 (.call 41 [(.t 39)]) [5, 5], oN 41 (.ixarr 3 1 (.t 2) (.t 34)) [0, 0, 1, 2, 3, 4, 5, 6], ⟨none, (.st 1 (.t 41) (.t 40)), none, [7, 6, 6, 0, 1, 2, 3, 4, 5, 6]⟩] false))) (.reg [oN 42 (.bin .add (.t 31) (.c (.int .i64 1))) [], oN 31 (.mv (.t 42)) [0]] false))))))) (.seq (.reg [oN 43 (.ixarr 3 1 (.t 2) (.c (.int .i64 0))) [], oN 44 (.ld false 1 (.t 43)) [0], oN 45 (.ixarr 3 1 (.t 2) (.c (.int .i64 1))) [], oN 46 (.ld false 1 (.t 45)) [2], oN 47 (.call 43 [(.t 44), (.t 46)]) [1, 3], oN 48 (.ixarr 3 1 (.t 2) (.c (.int .i64 2))) [], oN 49 (.ld false 1 (.t 48)) [5], oN 50 (.call 44 []) [4], oN 51 (.call 43 [(.t 49), (.t 50)]) [6, 7, 7], oN 4 (.mv (.t 47)) [4, 8, 0, 1, 2, 3, 4], oN 5 (.mv (.t 51)) [8, 9, 0, 1, 2, 3, 4, 5, 6, 7, 8, 9]] true) (.seq (.reg [oN 52 (.mv (.t 4)) [], oN 53 (.mv (.t 5)) [], oN 54 (.call 43 [(.t 52), (.t 53)]) [0, 1], oN 6 (.mv (.t 54)) [2, 2, 0, 1, 2]] false) (.seq (.reg [oN 55 (.mv (.t 1)) [], oN 56 (.ixsl 5 (.t 55) (.c (.int .i64 1))) [0], oN 57 (.ld true 5 (.t 56)) [1], oN 58 (.call 42 [(.t 57)]) [2], oN 59 (.call 40 [(.c (.str (strN [115]))), (.c (.str (strN [2])))]) [3], oN 60 (.scat (.c (.str (strN [8, 2, 4, 2, 2, 16]))) (.t 59)) [4], oN 61 (.seq false (.t 58) (.t 60)) [3, 5], oN 62 (.mv (.t 61)) [6, 4], oG 63 (.mv (.t 1)) 62 true [7], oG 64 (.call 19 [(.t 63)]) 62 true [8, 7, 7], oG 65 (.mv (.t 6)) 62 true [7], oG 66 (.seq false (.t 64) (.t 65)) 62 true [9, 10, 7], oN 67 (.pick (.t 62) (.t 66) (.c (.bool false))) [7, 11], oN 68 (.mv (.t 67)) [12, 9], oG 69 (.mv (.t 1)) 68 true [13], oG 70 (.bslice 3 1 [(.int .i64 0)] 1 [(0, (.c (.int .i64 1)))]) 68 true [13], oG 71 (.ixarr 3 1 (.t 2) (.c (.int .i64 0))) 68 true [13], oG 72 (.ld false 1 (.t 71)) 68 true [16, 13], oG 73 (.mv (.t 5)) 68 true [13], oG 74 (.bslice 9 1 [(.str (strN []))] 2 [(0, (.t 72)), (1, (.t 73))]) 68 true [17, 18, 13], oG 75 (.call 45 [(.t 69), (.t 70), (.t 74)]) 68 true [14, 15, 19, 13, 13], oN 76 (.pick (.t 68) (.t 75) (.c (.bool false))) [13, 20], oN 77 (.mv (.t 76)) [21, 20], oG 78 (.mv (.t 1)) 77 true [22], oG 79 (.bslice 3 1 [(.int .i64 0)] 1 [(0, (.c (.int .i64 2)))]) 77 true [22], oG 80 (.mv (.t 4)) 77 true [22], oG 81 (.bslice 9 1 [(.str (strN []))] 1 [(0, (.t 80))]) 77 true [25, 22], oG 82 (.call 45 [(.t 78), (.t 79), (.t 81)]) 77 true [23, 24, 26, 22, 22], oN 83 (.pick (.t 77) (.t 82) (.c (.bool false))) [22, 27], oN 84 (.mv (.t 83)) [28, 27], oG 85 (.mv (.t 1)) 84 true [29], oG 86 (.mv (.t 6)) 84 true [29], oG 87 (.bslice 9 1 [(.str (strN []))] 1 [(0, (.t 86))]) 84 true [31, 29], oG 88 (.call 45 [(.t 85), (.c .nils), (.t 87)]) 84 true [30, 32, 29, 29], oN 89 (.pick (.t 84) (.t 88) (.c (.bool false))) [29, 33], oN 90 (.mv (.t 89)) [34, 33], oG 91 (.mv (.t 1)) 90 true [35], oG 92 (.bslice 3 1 [(.int .i64 0)] 3 [(0, (.c (.int .i64 0))), (1, (.c (.int .i64 1))), (2, (.c (.int .i64 2)))]) 90 true [35], oG 93 (.call 45 [(.t 91), (.t 92), (.c .nils)]) 90 true [36, 37, 35, 35], oN 94 (.pick (.t 90) (.t 93) (.c (.bool false))) [35, 38], oN 7 (.mv (.t 94)) [39, 38, 0, 1, 2, 3, 4, 5, 6, 7, 8, 9, 10, 11, 12, 13, 14, 15, 16, 17, 18, 19, 20, 21, 22, 23, 24, 25, 26, 27, 28, 29, 30, 31, 32, 33, 34, 35, 36, 37, 38, 39]] false) (.seq (.reg [oN 96 (.mv (.t 1)) [], oN 97 (.bslice 3 1 [(.int .i64 0)] 1 [(0, (.c (.int .i64 3)))]) [], oN 98 (.call 22 [(.t 96), (.t 97)]) [0, 1], oN 95 (.mv (.t 98)) [2], oN 99 (.ext (.t 95) 0) [3], oN 100 (.ext (.t 95) 1) [3], oN 8 (.alloc 55 3 [(.int .i64 0), .nils, .nils]) [], ⟨none, (.st 3 (.t 8) (.t 99)), none, [6, 4, 2, 0, 1, 2, 3, 4, 6]⟩, oN 9 (.mv (.t 100)) [5, 7, 0, 1, 2, 3, 4, 5, 6, 7]] false) (.seq (.reg [oN 102 (.mv (.t 1)) [], oN 103 (.bslice 3 1 [(.int .i64 0)] 2 [(0, (.c (.int .i64 1))), (1, (.c (.int .i64 1)))]) [], oN 104 (.call 22 [(.t 102), (.t 103)]) [0, 1], oN 101 (.mv (.t 104)) [2], oN 105 (.ext (.t 101) 0) [3], oN 106 (.ext (.t 101) 1) [3], oN 10 (.alloc 55 3 [(.int .i64 0), .nils, .nils]) [], ⟨none, (.st 3 (.t 10) (.t 105)), none, [6, 4, 2, 0, 1, 2, 3, 4, 6]⟩, oN 11 (.mv (.t 106)) [5, 7, 0, 1, 2, 3, 4, 5, 6, 7]] false) (.seq (.reg [oN 108 (.call 22 [(.c .nils), (.c .nils)]) [], oN 107 (.mv (.t 108)) [0], oN 109 (.ext (.t 107) 0) [1], oN 110 (.ext (.t 107) 1) [1], oN 12 (.alloc 55 3 [(.int .i64 0), .nils, .nils]) [], ⟨none, (.st 3 (.t 12) (.t 109)), none, [4, 2, 0, 0, 1, 2, 4]⟩, oN 13 (.mv (.t 110)) [3, 5, 0, 1, 2, 3, 4, 5]] false) (.seq (.reg [oN 112 (.mv (.t 1)) [], oN 113 (.bslice 3 1 [(.int .i64 0)] 1 [(0, (.c (.int .i64 1)))]) [], oN 114 (.call 22 [(.t 112), (.t 113)]) [0, 1], oN 111 (.mv (.t 114)) [2], oN 115 (.ext (.t 111) 0) [3], oN 116 (.ext (.t 111) 1) [3], oN 14 (.alloc 55 3 [(.int .i64 0), .nils, .nils]) [], ⟨none, (.st 3 (.t 14) (.t 115)), none, [6, 4, 2, 0, 1, 2, 3, 4, 6]⟩, oN 15 (.mv (.t 116)) [5, 7, 0, 1, 2, 3, 4, 5, 6, 7]] false) (.seq (.reg [oN 118 (.ld true 3 (.t 14)) [], oN 119 (.call 27 [(.t 118)]) [0], oN 117 (.mv (.t 119)) [1], oN 120 (.ext (.t 117) 0) [2], oN 121 (.ext (.t 117) 1) [2], oN 16 (.mv (.t 120)) [3, 1, 0, 1, 2, 3], oN 17 (.mv (.t 121)) [4, 5, 0, 1, 2, 3, 4, 5]] false) (.seq (.reg [oN 122 (.ld true 3 (.t 14)) [], oN 123 (.call 31 [(.t 122)]) [0], oN 18 (.alloc 55 3 [(.int .i64 0), .nils, .nils]) [], ⟨none, (.st 3 (.t 18) (.t 123)), none, [2, 1, 1, 0, 1, 2]⟩] false) (.seq (.seq (.reg [oN 124 (.fa 1 (.t 18)) [], oN 125 (.ld false 1 (.t 124)) [0], oN 126 (.len (.t 125)) [1], oN 127 (.bin .neq (.t 126) (.c (.int .i64 1))) [2]] false) (.cond (.t 127) (.seq (.reg [oN 0 (.mv (.c (.bool false))) []] false) .ret) .skip)) (.seq (.reg [oN 128 (.fa 1 (.t 18)) [], oN 129 (.ld false 1 (.t 128)) [0], oN 130 (.ixsl 5 (.t 129) (.c (.int .i64 0))) [1, 0, 1], oN 131 (.fa 2 (.t 130)) [2, 0, 1], ⟨none, (.st 1 (.t 131) (.c (.bool false))), none, [3, 0, 1]⟩] false) (.seq (.reg [oN 132 (.mv (.t 7)) [], oN 133 (.mv (.t 132)) [0], oG 134 (.mv (.t 9)) 133 true [1], oG 135 (.bin .eql (.t 134) (.c (.int .i64 5))) 133 true [2, 1], oN 136 (.pick (.t 133) (.t 135) (.c (.bool false))) [1, 3], oN 137 (.mv (.t 136)) [4, 1], oG 138 (.mv (.t 11)) 137 true [5], oG 139 (.bin .eql (.t 138) (.c (.int .i64 7))) 137 true [6, 5], oN 140 (.pick (.t 137) (.t 139) (.c (.bool false))) [5, 7], oN 141 (.mv (.t 140)) [8, 5], oG 142 (.mv (.t 13)) 141 true [9], oG 143 (.bin .eql (.t 142) (.c (.int .i64 2))) 141 true [10, 9], oN 144 (.pick (.t 141) (.t 143) (.c (.bool false))) [9, 11], oN 145 (.mv (.t 144)) [12, 9], oG 146 (.mv (.t 17)) 145 true [13], oN 147 (.pick (.t 145) (.t 146) (.c (.bool false))) [13, 14], oN 148 (.mv (.t 147)) [15, 13], oG 149 (.mv (.t 16)) 148 true [16], oG 150 (.mv (.t 6)) 148 true [16], oG 151 (.seq false (.t 149) (.t 150)) 148 true [17, 18, 16], oN 152 (.pick (.t 148) (.t 151) (.c (.bool false))) [16, 19], oN 153 (.mv (.t 152)) [20, 16], oG 154 (.ld true 3 (.t 14)) 153 true [21], oG 155 (.ld true 3 (.t 18)) 153 true [21], oG 156 (.call 29 [(.t 154), (.t 155)]) 153 true [22, 23, 21, 21], oG 157 (.bin .eql (.t 156) (.c (.int .i64 7))) 153 true [24, 21], oN 158 (.pick (.t 153) (.t 157) (.c (.bool false))) [21, 25], oN 159 (.mv (.t 158)) [26, 24], oG 160 (.ld true 3 (.t 18)) 159 true [27], oG 161 (.ld true 3 (.t 14)) 159 true [27], oG 162 (.call 29 [(.t 160), (.t 161)]) 159 true [28, 29, 27, 27], oG 163 (.bin .eql (.t 162) (.c (.int .i64 0))) 159 true [30, 27], oN 164 (.pick (.t 159) (.t 163) (.c (.bool false))) [27, 31], oN 0 (.mv (.t 164)) [32, 30, 0, 1, 2, 3, 4, 5, 6, 7, 8, 9, 10, 11, 12, 13, 14, 15, 16, 17, 18, 19, 20, 21, 22, 23, 24, 25, 26, 27, 28, 29, 30, 31, 32]] false) .ret)))))))))))))))))
theorem mcOkv8 : (match Tryz.f8.body with | some c => compC Tryz.prog 165 c | none => none) = some mcv8 := by kernel_rfl
set_option maxHeartbeats 4000000 in
theorem vc8  : FC Tryz.prog 8 [] [] (.bool true) [] false := by
  refine fc_run (nt := 165) Tryz.func8 rfl rfl mcOkv8 (Nat.le_of_ble_eq_true rfl) ?_
  delta mcv8
  refine aw_seq (aw_reg (rs_mv rfl rfl ?_))
  refine rs_nil fun _ => (th_n (aw_seq (aw_reg (rs_callo [] rfl rfl vc39 .nil .nil rfl rfl rfl ?_))))
  rw [exL_eq]
  refine rs_mv rfl rfl ?_
  refine rs_nil fun _ => (th_n (aw_seq (aw_seq (aw_draw hmix ?_))))
  refine rs_mv rfl rfl ?_
  refine rs_len_m rfl rfl ?_
  refine rs_cmp_f rfl rfl rfl rfl (by decide) ?_
  refine rs_mv rfl rfl ?_
  refine rs_mv rfl rfl ?_
  refine rs_ix_g (f := cLf) (xs := eLs) (y := eL 1) rfl rfl rfl (by decide) rfl ?_
  refine rs_ld_ra (cs := cLf (eL 1)) rfl rfl (Nat.le_of_ble_eq_true rfl) rfl ?_
  refine rs_calln [] rfl rfl (vc40 [115] [2] ⟨b8_c, by decide⟩ ⟨b8_c, by decide⟩) (.cons (hv_same rfl) (.cons (hv_same rfl) (.nil))) rfl ?_
  refine rs_build rfl rfl ?_
  refine rs_aeqx (r := false) (scs (eL 1)) (scs (eL 1)) rfl rfl rfl rfl rfl rfl rfl (by simp) ?_
  refine rs_pick rfl rfl rfl ?_
  refine rs_nil ⟨by kernel_rfl, fun _ => ?_⟩
  refine th_n (aw_cond rfl (fun h => by cases h) (fun _ => ?_))
  refine aw_skip (th_n (aw_seq (aw_reg (rs_alloc rfl rfl rfl ?_))))
  refine rs_nil fun _ => (th_n (aw_seq (aw_seq (aw_reg (rs_mv rfl rfl ?_)))))
  refine rs_nil fun _ => (th_n (aw_block ?_))
  refine aw_fam (α := Nat) (fun k => 3 - k) (fun k => [(1, .rs 5 (eLs.map cLf)), (2, .ptr 2 0 0), (31, iv (((k) : Nat) : Int))]) (fun k => [(2, .cells 76 3 [eAr (k)] true)]) (fun k => k ≤ 3) 0 (by omega)
    (weak_to (.cons rfl sm (.cons rfl sm (.cons rfl sm (.nil)))) (.keep (rfl) rfl (.nil)) (fun i h => by cases h)) ?_
  intro k hk
  refine aw_seq (aw_reg (rs_lss rfl rfl rfl ?_))
  refine rs_nil fun _ => (th_n (aw_seq (aw_cond rfl (fun h32 => ?_) (fun h32 => ?_))))
  · replace h32 := of_decide_eq_true h32
    refine aw_skip (th_n (aw_seq (aw_block (aw_seq (aw_reg ?_)))))
    obtain rfl | rfl | rfl : k = 0 ∨ k = 1 ∨ k = 2 := by omega
    · skip
      refine rs_mv rfl rfl ?_
      refine rs_mv rfl rfl ?_
      refine rs_nil fun _ => (th_n (aw_reg (rs_mv rfl rfl ?_)))
      refine rs_mv rfl rfl ?_
      refine rs_mv rfl rfl ?_
      refine rs_ix_g (f := cLf) (xs := eLs) (y := eL 0) rfl rfl rfl (by decide) rfl ?_
      refine rs_ld_ra (cs := cLf (eL 0)) rfl rfl (Nat.le_of_ble_eq_true rfl) rfl ?_
      refine rs_calln [] rfl rfl (vc42 (eL 0) (eL_ok 0)) (.cons (hv_same rfl) (.nil)) rfl ?_
      refine rs_calln [] rfl rfl (vc41 (textS (eL 0)) (text_ok 0)) (.cons (hv_same rfl) (.nil)) rfl ?_
      refine rs_ixarr_p rfl rfl rfl (by decide) (by decide) ?_
      refine rs_st rfl rfl rfl rfl rfl rfl rfl (Nat.le_of_ble_eq_true rfl) rfl rfl ?_
      refine rs_nil fun _ => (in_n (th_n (aw_reg (rs_add rfl rfl rfl (by omega) ?_))))
      refine rs_mv rfl rfl ?_
      refine rs_nil fun _ => (th_n ?_)
      exact ⟨0 + 1, by omega, by omega, weak_to (.cons rfl sm (.cons rfl sm (.cons rfl sm (.nil)))) (.keep (rfl) rfl (.nil)) (fun i h => by cases h)⟩
    · skip
      refine rs_mv rfl rfl ?_
      refine rs_mv rfl rfl ?_
      refine rs_nil fun _ => (th_n (aw_reg (rs_mv rfl rfl ?_)))
      refine rs_mv rfl rfl ?_
      refine rs_mv rfl rfl ?_
      refine rs_ix_g (f := cLf) (xs := eLs) (y := eL 1) rfl rfl rfl (by decide) rfl ?_
      refine rs_ld_ra (cs := cLf (eL 1)) rfl rfl (Nat.le_of_ble_eq_true rfl) rfl ?_
      refine rs_calln [] rfl rfl (vc42 (eL 1) (eL_ok 1)) (.cons (hv_same rfl) (.nil)) rfl ?_
      refine rs_calln [] rfl rfl (vc41 (textS (eL 1)) (text_ok 1)) (.cons (hv_same rfl) (.nil)) rfl ?_
      refine rs_ixarr_p rfl rfl rfl (by decide) (by decide) ?_
      refine rs_st rfl rfl rfl rfl rfl rfl rfl (Nat.le_of_ble_eq_true rfl) rfl rfl ?_
      refine rs_nil fun _ => (in_n (th_n (aw_reg (rs_add rfl rfl rfl (by omega) ?_))))
      refine rs_mv rfl rfl ?_
      refine rs_nil fun _ => (th_n ?_)
      exact ⟨1 + 1, by omega, by omega, weak_to (.cons rfl sm (.cons rfl sm (.cons rfl sm (.nil)))) (.keep (rfl) rfl (.nil)) (fun i h => by cases h)⟩
    · skip
      refine rs_mv rfl rfl ?_
      refine rs_mv rfl rfl ?_
      refine rs_nil fun _ => (th_n (aw_reg (rs_mv rfl rfl ?_)))
      refine rs_mv rfl rfl ?_
      refine rs_mv rfl rfl ?_
      refine rs_ix_g (f := cLf) (xs := eLs) (y := eL 2) rfl rfl rfl (by decide) rfl ?_
      refine rs_ld_ra (cs := cLf (eL 2)) rfl rfl (Nat.le_of_ble_eq_true rfl) rfl ?_
      refine rs_calln [] rfl rfl (vc42 (eL 2) (eL_ok 2)) (.cons (hv_same rfl) (.nil)) rfl ?_
      refine rs_calln [] rfl rfl (vc41 (textS (eL 2)) (text_ok 2)) (.cons (hv_same rfl) (.nil)) rfl ?_
      refine rs_ixarr_p rfl rfl rfl (by decide) (by decide) ?_
      refine rs_st rfl rfl rfl rfl rfl rfl rfl (Nat.le_of_ble_eq_true rfl) rfl rfl ?_
      refine rs_nil fun _ => (in_n (th_n (aw_reg (rs_add rfl rfl rfl (by omega) ?_))))
      refine rs_mv rfl rfl ?_
      refine rs_nil fun _ => (th_n ?_)
      exact ⟨2 + 1, by omega, by omega, weak_to (.cons rfl sm (.cons rfl sm (.cons rfl sm (.nil)))) (.keep (rfl) rfl (.nil)) (fun i h => by cases h)⟩
  · replace h32 := of_decide_eq_false h32
    refine aw_exit ?_
    refine th_e ?_
    refine th_e ?_
    refine in_hit ?_
    refine th_n (aw_seq ?_)
    obtain rfl : k = 3 := by omega
    refine aw_draw hmix ?_
    refine rs_ixarr_p rfl rfl rfl (by decide) (by decide) ?_
    refine rs_ld_p rfl rfl rfl rfl rfl ?_
    refine rs_ixarr_p rfl rfl rfl (by decide) (by decide) ?_
    refine rs_ld_p rfl rfl rfl rfl rfl ?_
    refine rs_calln [] rfl rfl (vc43 (eD 0) (eD 1) (leafD_ok _) (leafD_ok _)) (.cons (hv_same rfl) (.cons (hv_same rfl) (.nil))) rfl ?_
    refine rs_ixarr_p rfl rfl rfl (by decide) (by decide) ?_
    refine rs_ld_p rfl rfl rfl rfl rfl ?_
    refine rs_calln [] rfl rfl (vc44) (.nil) rfl ?_
    refine rs_calln [] rfl rfl (vc43 (eD 2) missS (leafD_ok _) ⟨(dg_ok _).1, by rw [show missS.length = 8 from (dg_ok _).2]; decide⟩) (.cons (hv_same rfl) (.cons (hv_same rfl) (.nil))) rfl ?_
    refine rs_mv rfl rfl ?_
    refine rs_mv rfl rfl ?_
    refine rs_nil ⟨by kernel_rfl, fun _ => ?_⟩
    refine th_n (aw_seq (aw_reg (rs_mv rfl rfl ?_)))
    refine rs_mv rfl rfl ?_
    refine rs_calln [] rfl rfl (vc43 eLow eHigh (inner_ok _ _) (inner_ok _ _)) (.cons (hv_same rfl) (.cons (hv_same rfl) (.nil))) rfl ?_
    refine rs_mv rfl rfl ?_
    refine rs_nil fun _ => (th_n (aw_seq (aw_reg (rs_mv rfl rfl ?_))))
    refine rs_ix_g (f := cLf) (xs := eLs) (y := eL 1) rfl rfl rfl (by decide) rfl ?_
    refine rs_ld_ra (cs := cLf (eL 1)) rfl rfl (Nat.le_of_ble_eq_true rfl) rfl ?_
    refine rs_calln [] rfl rfl (vc42 (eL 1) (eL_ok 1)) (.cons (hv_same rfl) (.nil)) rfl ?_
    refine rs_calln [] rfl rfl (vc40 [115] [2] ⟨b8_c, by decide⟩ ⟨b8_c, by decide⟩) (.cons (hv_same rfl) (.cons (hv_same rfl) (.nil))) rfl ?_
    refine rs_scat (c := [8, 2, 4, 2, 2, 16] ++ markS [115] [2]) rfl rfl rfl (by rw [show (markS [115] [2]).length = 8 from (dg_ok _).2]; decide) rfl ?_
    refine rs_seq (r := true) rfl rfl rfl (text_ok 1).1 (b8_app (fun x hx => by simp only [List.mem_cons, List.not_mem_nil, or_false] at hx; rcases hx with rfl | rfl | rfl | rfl | rfl | rfl <;> decide) (mark_ok _ _).1) (by rw [decide_eq_true eText]; rfl) ?_
    refine rs_mv rfl rfl ?_
    refine rs_mv rfl rfl ?_
    refine rs_calln [] rfl rfl (vc19 eLs ⟨by decide, eLs_ok⟩) (.cons (hv_same rfl) (.nil)) rfl ?_
    rw [eRootF]
    refine rs_mv rfl rfl ?_
    refine rs_seq (r := true) rfl rfl rfl (inner_ok _ _).1 (inner_ok _ _).1 (by rw [decide_eq_true (show eRoot = innerS eLow eHigh from rfl)]; rfl) ?_
    refine rs_pick rfl rfl rfl ?_
    refine rs_mv rfl rfl ?_
    refine rs_mv rfl rfl ?_
    refine rs_bslice (l := (([1] : List Int)).flatMap civ) (els := (([1] : List Int)).map civ) (fl := true) rfl (by kernel_rfl) rfl rfl (by kernel_rfl) (by kernel_rfl) ?_
    refine rs_ixarr_p rfl rfl rfl (by decide) (by decide) ?_
    refine rs_ld_p rfl rfl rfl rfl rfl ?_
    refine rs_mv rfl rfl ?_
    refine rs_bslice (l := (([eD 0, eHigh] : List (List Int))).flatMap cS) (els := (([eD 0, eHigh] : List (List Int))).map cS) (fl := true) rfl (by kernel_rfl) rfl rfl (by kernel_rfl) (by kernel_rfl) ?_
    refine rs_calln [70, 74] rfl rfl (vc45 eLs (by decide) eLs_ok [1] (by decide) [eD 0, eHigh] (fun d hd => (eSh_ok.b d hd).1)) (.cons (hv_same rfl) (.cons (hv_slm (f := civ) (xs := [1]) (by simp) rfl rfl) (.cons (hv_slm (f := cS) (xs := [eD 0, eHigh]) (by simp) rfl rfl) (.nil)))) rfl ?_
    rw [eS1]
    refine rs_pick rfl rfl rfl ?_
    refine rs_mv rfl rfl ?_
    refine rs_mv rfl rfl ?_
    refine rs_bslice (l := (([2] : List Int)).flatMap civ) (els := (([2] : List Int)).map civ) (fl := true) rfl (by kernel_rfl) rfl rfl (by kernel_rfl) (by kernel_rfl) ?_
    refine rs_mv rfl rfl ?_
    refine rs_bslice (l := (([eLow] : List (List Int))).flatMap cS) (els := (([eLow] : List (List Int))).map cS) (fl := true) rfl (by kernel_rfl) rfl rfl (by kernel_rfl) (by kernel_rfl) ?_
    refine rs_calln [79, 81] rfl rfl (vc45 eLs (by decide) eLs_ok [2] (by decide) [eLow] (fun d hd => by rw [List.mem_singleton.1 hd]; exact (inner_ok _ _).1)) (.cons (hv_same rfl) (.cons (hv_slm (f := civ) (xs := [2]) (by simp) rfl rfl) (.cons (hv_slm (f := cS) (xs := [eLow]) (by simp) rfl rfl) (.nil)))) rfl ?_
    rw [eS2]
    refine rs_pick rfl rfl rfl ?_
    refine rs_mv rfl rfl ?_
    refine rs_mv rfl rfl ?_
    refine rs_mv rfl rfl ?_
    refine rs_bslice (l := (([eRoot] : List (List Int))).flatMap cS) (els := (([eRoot] : List (List Int))).map cS) (fl := true) rfl (by kernel_rfl) rfl rfl (by kernel_rfl) (by kernel_rfl) ?_
    refine rs_calln [87] rfl rfl (vc45 eLs (by decide) eLs_ok [] (by decide) [eRoot] (fun d hd => by rw [List.mem_singleton.1 hd]; exact (inner_ok _ _).1)) (.cons (hv_same rfl) (.cons (hv_nils) (.cons (hv_slm (f := cS) (xs := [eRoot]) (by simp) rfl rfl) (.nil)))) rfl ?_
    rw [eS3]
    refine rs_pick rfl rfl rfl ?_
    refine rs_mv rfl rfl ?_
    refine rs_mv rfl rfl ?_
    refine rs_bslice (l := (([0, 1, 2] : List Int)).flatMap civ) (els := (([0, 1, 2] : List Int)).map civ) (fl := true) rfl (by kernel_rfl) rfl rfl (by kernel_rfl) (by kernel_rfl) ?_
    refine rs_calln [92] rfl rfl (vc45 eLs (by decide) eLs_ok [0, 1, 2] (by decide) [] (fun d hd => by cases hd)) (.cons (hv_same rfl) (.cons (hv_slm (f := civ) (xs := [0, 1, 2]) (by simp) rfl rfl) (.cons (hv_nils) (.nil)))) rfl ?_
    rw [eS4]
    refine rs_pick rfl rfl rfl ?_
    refine rs_mv rfl rfl ?_
    refine rs_nil fun _ => (th_n (aw_seq (aw_reg (rs_mv rfl rfl ?_))))
    refine rs_bslice (l := (([3] : List Int)).flatMap civ) (els := (([3] : List Int)).map civ) (fl := true) rfl (by kernel_rfl) rfl rfl (by kernel_rfl) (by kernel_rfl) ?_
    refine rs_calln [97] rfl rfl (vc22 eLs (by decide) eLs_ok [3] (by decide)) (.cons (hv_same rfl) (.cons (hv_slm (f := civ) (xs := [3]) (by simp) rfl rfl) (.nil))) rfl ?_
    rw [eE3]
    refine rs_mv rfl rfl ?_
    refine rs_ext rfl rfl rfl ?_
    refine rs_ext rfl rfl rfl ?_
    refine rs_alloc rfl rfl rfl ?_
    refine rs_st rfl rfl rfl rfl rfl rfl rfl (Nat.le_of_ble_eq_true rfl) rfl rfl ?_
    refine rs_mv rfl rfl ?_
    refine rs_nil fun _ => (th_n (aw_seq (aw_reg (rs_mv rfl rfl ?_))))
    refine rs_bslice (l := (([1, 1] : List Int)).flatMap civ) (els := (([1, 1] : List Int)).map civ) (fl := true) rfl (by kernel_rfl) rfl rfl (by kernel_rfl) (by kernel_rfl) ?_
    refine rs_calln [103] rfl rfl (vc22 eLs (by decide) eLs_ok [1, 1] (by decide)) (.cons (hv_same rfl) (.cons (hv_slm (f := civ) (xs := [1, 1]) (by simp) rfl rfl) (.nil))) rfl ?_
    rw [eE11]
    refine rs_mv rfl rfl ?_
    refine rs_ext rfl rfl rfl ?_
    refine rs_ext rfl rfl rfl ?_
    refine rs_alloc rfl rfl rfl ?_
    refine rs_st rfl rfl rfl rfl rfl rfl rfl (Nat.le_of_ble_eq_true rfl) rfl rfl ?_
    refine rs_mv rfl rfl ?_
    refine rs_nil fun _ => (th_n (aw_seq (aw_reg (rs_calln [] rfl rfl (vc22 [] (by decide) (fun x hx => by cases hx) [] (by decide)) (.cons (hv_nils) (.cons (hv_nils) (.nil))) rfl ?_))))
    rw [eE0]
    refine rs_mv rfl rfl ?_
    refine rs_ext rfl rfl rfl ?_
    refine rs_ext rfl rfl rfl ?_
    refine rs_alloc rfl rfl rfl ?_
    refine rs_st rfl rfl rfl rfl rfl rfl rfl (Nat.le_of_ble_eq_true rfl) rfl rfl ?_
    refine rs_mv rfl rfl ?_
    refine rs_nil fun _ => (th_n (aw_seq (aw_reg (rs_mv rfl rfl ?_))))
    refine rs_bslice (l := (([1] : List Int)).flatMap civ) (els := (([1] : List Int)).map civ) (fl := true) rfl (by kernel_rfl) rfl rfl (by kernel_rfl) (by kernel_rfl) ?_
    refine rs_calln [113] rfl rfl (vc22 eLs (by decide) eLs_ok [1] (by decide)) (.cons (hv_same rfl) (.cons (hv_slm (f := civ) (xs := [1]) (by simp) rfl rfl) (.nil))) rfl ?_
    rw [eE1, eG1]
    refine rs_mv rfl rfl ?_
    refine rs_ext rfl rfl rfl ?_
    refine rs_ext rfl rfl rfl ?_
    refine rs_alloc rfl rfl rfl ?_
    refine rs_st rfl rfl rfl rfl rfl rfl rfl (Nat.le_of_ble_eq_true rfl) rfl rfl ?_
    refine rs_mv rfl rfl ?_
    refine rs_nil fun _ => (th_n (aw_seq (aw_reg (rs_ld_pa rfl rfl rfl rfl (Nat.le_of_ble_eq_true rfl) rfl ?_))))
    refine rs_calln [] rfl rfl (vc27 3 [eL 1] [eD 0, eHigh] eSh_ok) (.cons (hv_same rfl) (.nil)) rfl ?_
    rw [eR1]
    refine rs_mv rfl rfl ?_
    refine rs_ext rfl rfl rfl ?_
    refine rs_ext rfl rfl rfl ?_
    refine rs_mv rfl rfl ?_
    refine rs_mv rfl rfl ?_
    refine rs_nil fun _ => (th_n (aw_seq (aw_weak (F0 := [(1, .rs 5 (eLs.map cLf)), (6, .str (strN eRoot)), (7, .bool true), (9, iv 5), (11, iv 7), (13, iv 2), (14, .ptr 14 0 0), (16, .str (strN eRoot)), (17, .bool true)]) (H0 := [(14, .cells 55 3 [cSh eSh] true)]) (weak_to (.cons rfl sm (.cons rfl sm (.cons rfl sm (.cons rfl sm (.cons rfl sm (.cons rfl sm (.cons rfl sm (.cons rfl sm (.cons rfl sm (.nil)))))))))) (.keep (rfl) rfl (.nil)) (fun i h => by cases h)) ?_)))
    refine aw_reg (rs_ld_pa rfl rfl rfl rfl (Nat.le_of_ble_eq_true rfl) rfl ?_)
    refine rs_calln [] rfl rfl (vc31 3 [eL 1] [eD 0, eHigh] (by decide) (by decide)) (.cons (hv_same rfl) .nil) rfl ?_
    refine rs_alloc rfl rfl rfl ?_
    refine rs_st rfl rfl rfl rfl rfl rfl rfl (Nat.le_of_ble_eq_true rfl) rfl rfl ?_
    refine rs_nil fun _ => (th_n (aw_seq (aw_seq (aw_reg (rs_fa_p rfl rfl ?_)))))
    refine rs_ld_p rfl rfl rfl rfl rfl ?_
    refine rs_len_s rfl rfl ?_
    refine rs_cmp_f rfl rfl rfl rfl (by decide) ?_
    refine rs_nil fun _ => (th_n (aw_cond rfl (fun h => by cases h) (fun _ => ?_)))
    refine aw_skip (th_n (aw_seq (aw_reg (rs_fa_p rfl rfl ?_))))
    refine rs_ld_p rfl rfl rfl rfl rfl ?_
    refine rs_ix_s rfl rfl rfl rfl (by decide) (by decide) ?_
    refine rs_fa_p rfl rfl ?_
    refine rs_st rfl rfl rfl rfl rfl rfl rfl (Nat.le_of_ble_eq_true rfl) rfl rfl ?_
    refine rs_nil fun _ => (th_n (aw_seq (aw_reg (rs_mv rfl rfl ?_))))
    refine rs_mv rfl rfl ?_
    refine rs_mv rfl rfl ?_
    refine rs_cmp_t rfl rfl rfl rfl rfl ?_
    refine rs_pick rfl rfl rfl ?_
    refine rs_mv rfl rfl ?_
    refine rs_mv rfl rfl ?_
    refine rs_cmp_t rfl rfl rfl rfl rfl ?_
    refine rs_pick rfl rfl rfl ?_
    refine rs_mv rfl rfl ?_
    refine rs_mv rfl rfl ?_
    refine rs_cmp_t rfl rfl rfl rfl rfl ?_
    refine rs_pick rfl rfl rfl ?_
    refine rs_mv rfl rfl ?_
    refine rs_mv rfl rfl ?_
    refine rs_pick rfl rfl rfl ?_
    refine rs_mv rfl rfl ?_
    refine rs_mv rfl rfl ?_
    refine rs_mv rfl rfl ?_
    refine rs_seq (r := true) rfl rfl rfl (inner_ok _ _).1 (inner_ok _ _).1 (by simp) ?_
    refine rs_pick rfl rfl rfl ?_
    refine rs_mv rfl rfl ?_
    refine rs_ld_pa rfl rfl rfl rfl (Nat.le_of_ble_eq_true rfl) rfl ?_
    refine rs_ld_pa rfl rfl rfl rfl (Nat.le_of_ble_eq_true rfl) rfl ?_
    refine rs_calln [8, 12] rfl rfl (vc29 3 [eL 1] [eD 0, eHigh] eSh_ok 3 [eN] [eD 0, eHigh] eShN_ok) (.cons (hv_same rfl) (.cons (hv_agg (.cons (hv_same rfl) (.cons (hv_slm (f := cLf) (xs := [eN]) (by simp) rfl rfl) (.cons (hv_slm (f := cS) (xs := [eD 0, eHigh]) (by simp) rfl rfl) .nil)))) (.nil))) rfl ?_
    rw [eC1]
    refine rs_cmp_t rfl rfl rfl rfl rfl ?_
    refine rs_pick rfl rfl rfl ?_
    refine rs_mv rfl rfl ?_
    refine rs_ld_pa rfl rfl rfl rfl (Nat.le_of_ble_eq_true rfl) rfl ?_
    refine rs_ld_pa rfl rfl rfl rfl (Nat.le_of_ble_eq_true rfl) rfl ?_
    refine rs_calln [8, 12] rfl rfl (vc29 3 [eN] [eD 0, eHigh] eShN_ok 3 [eL 1] [eD 0, eHigh] eSh_ok) (.cons (hv_agg (.cons (hv_same rfl) (.cons (hv_slm (f := cLf) (xs := [eN]) (by simp) rfl rfl) (.cons (hv_slm (f := cS) (xs := [eD 0, eHigh]) (by simp) rfl rfl) .nil)))) (.cons (hv_same rfl) (.nil))) rfl ?_
    rw [eC2]
    refine rs_cmp_t rfl rfl rfl rfl rfl ?_
    refine rs_pick rfl rfl rfl ?_
    refine rs_mv rfl rfl ?_
    refine rs_nil fun _ => (th_n (aw_ret ?_))
    exact ret_pure rfl rfl rfl (.inr rfl)
end Go.Proofs.YthfhaoogcpfboaaGreat

/-! Leaves that are changed where they are shown: what Show, RootOf and Change say of them, in plain words. -/
namespace Go.Proofs.YthfhaoogcpfboaaGreat
open Go.RowKit
set_option linter.unusedVariables false
def bitZ (s : Int) (k : Nat) : Bool := decide (bits .and .i64 (s.fdiv (2 ^ min k 64)) 1 = 0)
/-- A leaf that becomes another one. -/
def nfB (b0 b1 b2 : Int) (k : Nat) (x : Lf) : Lf := ⟨x.ix, x.want, (x.sure || bitB b0 k) && bitZ b2 k, (x.touched || bitB b1 k) && bitZ b2 k, x.salt⟩
def newL (ls : List Lf) (w : List Int) (b0 b1 b2 : Int) (k : Nat) : Lf := nfB b0 b1 b2 k (selF ls (w.getD k 0))
def chgS (ls : List Lf) (w : List Int) (b0 b1 b2 : Int) : Nat → List Lf
  | 0 => ls
  | k + 1 => (chgS ls w b0 b1 b2 k).set (w.getD k 0).toNat (newL ls w b0 b1 b2 k)
def workS (ls : List Lf) (w : List Int) (b0 b1 b2 : Int) : Nat → List Lf
  | 0 => w.map (selF ls)
  | k + 1 => (workS ls w b0 b1 b2 k).set k (newL ls w b0 b1 b2 k)
def lostB (ls : List Lf) (w : List Int) (b0 b1 b2 : Int) (j : Nat) : Bool := !keepB (selF ls (w.getD j 0)) (newL ls w b0 b1 b2 j)
def wholeV (ls : List Lf) (w : List Int) (b0 b1 b2 : Int) (k : Nat) : Bool := (List.range k).any (lostB ls w b0 b1 b2)
theorem wholeV_succ (ls : List Lf) (w : List Int) (b0 b1 b2 : Int) (k : Nat) : wholeV ls w b0 b1 b2 (k + 1) = (wholeV ls w b0 b1 b2 k || lostB ls w b0 b1 b2 k) := by
  unfold wholeV; rw [List.range_succ, List.any_append]; simp
section
variable {ls : List Lf} {w : List Int} {b0 b1 b2 : Int}
theorem chg_len : ∀ k, (chgS ls w b0 b1 b2 k).length = ls.length
  | 0 => rfl
  | k + 1 => by show ((chgS ls w b0 b1 b2 k).set _ _).length = _; rw [List.length_set, chg_len k]
theorem work_len : ∀ k, (workS ls w b0 b1 b2 k).length = w.length
  | 0 => by show (w.map (selF ls)).length = _; rw [List.length_map]
  | k + 1 => by show ((workS ls w b0 b1 b2 k).set _ _).length = _; rw [List.length_set, work_len k]
theorem w_at {k : Nat} (h : k < w.length) : w[k]? = some (w.getD k 0) := by
  rw [List.getD_eq_getElem?_getD, List.getElem?_eq_getElem h]; rfl
theorem IxOK.at_ {n : Nat} (h : IxOK n w) {k : Nat} (hk : k < w.length) : 0 ≤ w.getD k 0 ∧ w.getD k 0 < (n : Int) := h.bd _ (mem_of_at (w_at hk))
theorem IxOK.lt {n : Nat} (h : IxOK n w) {i : Nat} : ∀ {j : Nat}, i < j → j < w.length → w.getD i 0 < w.getD j 0
  | 0, hij, _ => by omega
  | j + 1, hij, hj => by
    have h1 := h.inc j _ _ (w_at (by omega)) (w_at hj)
    by_cases e : i = j
    · rw [e]; exact h1
    · have := h.lt (i := i) (j := j) (by omega) (by omega); omega
theorem new_ix {k : Nat} (h : LvsOK ls) (hw : IxOK ls.length w) (hk : k < w.length) : (newL ls w b0 b1 b2 k).ix = w.getD k 0 := sel_ix h (hw.at_ hk).1 (hw.at_ hk).2
theorem sel_mem {i : Int} (h0 : 0 ≤ i) (h1 : i < (ls.length : Int)) : selF ls i ∈ ls := mem_of_at (sel_some h0 h1)
theorem new_ok {k : Nat} (h : LvsOK ls) (hw : IxOK ls.length w) (hk : k < w.length) : (newL ls w b0 b1 b2 k).OK := by
  have := h.ok _ (sel_mem (hw.at_ hk).1 (hw.at_ hk).2)
  exact ⟨this.i, this.w, this.b, this.n⟩
theorem LvsOK.set {i : Nat} {y : Lf} (h : LvsOK ls) (hy : y.ix = (i : Int)) (ho : y.OK) : LvsOK (ls.set i y) where
  n := by rw [List.length_set]; exact h.n
  ix k x hx := by
    rw [List.getElem?_set] at hx
    split at hx
    · rename_i e
      split at hx
      · injection hx with hx; rw [← hx, ← e]; exact hy
      · cases hx
    · exact h.ix k x hx
  ok x hx := by
    rcases List.mem_or_eq_of_mem_set hx with hx | hx
    · exact h.ok x hx
    · rw [hx]; exact ho
theorem chg_ok (h : LvsOK ls) (hw : IxOK ls.length w) : ∀ k, k ≤ w.length → LvsOK (chgS ls w b0 b1 b2 k)
  | 0, _ => h
  | k + 1, hk => (chg_ok h hw k (by omega)).set (by rw [new_ix h hw (by omega)]; have := (hw.at_ (k := k) (by omega)).1; omega) (new_ok h hw (by omega))
theorem chg_out {b : Nat} (h : ∀ j, j < w.length → (w.getD j 0).toNat ≠ b) : ∀ k, k ≤ w.length → (chgS ls w b0 b1 b2 k)[b]? = ls[b]?
  | 0, _ => rfl
  | k + 1, hk => by
    show ((chgS ls w b0 b1 b2 k).set _ _)[b]? = _
    rw [List.getElem?_set_ne (h k (by omega)), chg_out h k (by omega)]
theorem chg_in (hw : IxOK ls.length w) {j : Nat} : ∀ k, j < k → k ≤ w.length → (chgS ls w b0 b1 b2 k)[(w.getD j 0).toNat]? = some (newL ls w b0 b1 b2 j)
  | 0, h, _ => by omega
  | k + 1, h, hk => by
    show ((chgS ls w b0 b1 b2 k).set _ _)[_]? = _
    have hj := hw.at_ (k := j) (by omega)
    by_cases e : j = k
    · subst e
      rw [List.getElem?_set_self (by rw [chg_len]; omega)]
    · have := hw.lt (i := j) (j := k) (by omega) (by omega)
      rw [List.getElem?_set_ne (by omega), chg_in hw k (by omega) (by omega)]
theorem work_at : ∀ k j, j < w.length → (workS ls w b0 b1 b2 k)[j]? = some (if j < k then newL ls w b0 b1 b2 j else selF ls (w.getD j 0))
  | 0, j, h => by
    show (w.map (selF ls))[j]? = _
    rw [List.getElem?_map, w_at h]; rfl
  | k + 1, j, h => by
    show ((workS ls w b0 b1 b2 k).set _ _)[j]? = _
    by_cases e : k = j
    · subst e
      rw [List.getElem?_set_self (by rw [work_len]; exact h), if_pos (by omega)]
    · rw [List.getElem?_set_ne e, work_at k j h]
      by_cases h2 : j < k
      · rw [if_pos h2, if_pos (by omega)]
      · rw [if_neg h2, if_neg (by omega)]
theorem work_sel (hw : IxOK ls.length w) : w.map (selF (chgS ls w b0 b1 b2 w.length)) = workS ls w b0 b1 b2 w.length := by
  apply List.ext_getElem?
  intro j
  by_cases h : j < w.length
  · rw [work_at _ j h, if_pos h, List.getElem?_map, w_at h, Option.map_some, selF_at (chg_in hw w.length h (Nat.le_refl _))]
  · rw [List.getElem?_eq_none (by rw [List.length_map]; omega), List.getElem?_eq_none (by rw [work_len]; omega)]
theorem not_in {b : Nat} (hw : IxOK ls.length w) (h : w.any (inSp (b, 1)) = false) : ∀ j, j < w.length → (w.getD j 0).toNat ≠ b := fun j hj e => by
  have h1 := List.any_eq_false.1 h _ (mem_of_at (w_at hj))
  have h2 := (hw.at_ hj).1
  simp only [inSp, Bool.and_eq_true, decide_eq_true_eq] at h1
  omega
theorem hid_chg (h : LvsOK ls) (hw : IxOK ls.length w) : (hidA ls.length w).map (hidT (chgS ls w b0 b1 b2 w.length)) = (hidA ls.length w).map (hidT ls) :=
  List.map_congr_left fun s hs => hidT_same h.n.2 hs fun b hb => chg_out (not_in hw hb) _ (Nat.le_refl _)
/-- Show of the changed leaves is what was shown, changed. -/
theorem show_chg (h : LvsOK ls) (hw : IxOK ls.length w) : showS (chgS ls w b0 b1 b2 w.length) w = ⟨ls.length, workS ls w b0 b1 b2 w.length, (hidA ls.length w).map (hidT ls)⟩ := by
  unfold showS
  rw [chg_len, work_sel hw, hid_chg h hw]
theorem root_chg (h : LvsOK ls) (hw : IxOK ls.length w) : rootOfS (ls.length : Int) (workS ls w b0 b1 b2 w.length) ((hidA ls.length w).map (hidT ls)) = some (rootF (chgS ls w b0 b1 b2 w.length)) := by
  have h1 := chg_ok (b0 := b0) (b1 := b1) (b2 := b2) h hw w.length (Nat.le_refl _)
  have := root_show h1 (w := w) (by rw [chg_len]; exact hw)
  rw [chg_len, work_sel hw, hid_chg h hw] at this
  exact this
theorem fm_work (h : LvsOK ls) (hw : IxOK ls.length w) : fmS (ls.length : Int) (workS ls w b0 b1 b2 w.length) ((hidA ls.length w).map (hidT ls)) = some (hidA ls.length w) := by
  have h1 := chg_ok (b0 := b0) (b1 := b1) (b2 := b2) h hw w.length (Nat.le_refl _)
  have := fm_show h1 (w := w) (by rw [chg_len]; exact hw)
  rw [chg_len, work_sel hw, hid_chg h hw] at this
  exact this
theorem allZ_iff {p : Lf → Lf → Bool} : ∀ {l m : List Lf}, allZ p l m = true ↔ ∀ (k : Nat) (x y : Lf), l[k]? = some x → m[k]? = some y → p x y = true
  | [], m => ⟨fun _ k x y h => by simp at h, fun _ => by unfold allZ; rfl⟩
  | x :: l, [] => ⟨fun _ k x y _ h => by simp at h, fun _ => rfl⟩
  | x :: l, y :: m => by
    show (p x y && allZ p l m) = true ↔ _
    rw [Bool.and_eq_true, allZ_iff]
    constructor
    · rintro ⟨h1, h2⟩ k a b ha hb
      cases k with
      | zero => simp at ha hb; subst ha hb; exact h1
      | succ k => exact h2 k a b (by simpa using ha) (by simpa using hb)
    · intro h
      exact ⟨h 0 x y rfl rfl, fun k a b ha hb => h (k + 1) a b (by simpa using ha) (by simpa using hb)⟩
/-- What Change says of it. -/
theorem change_chg (h : LvsOK ls) (hw : IxOK ls.length w) : changeS (ls.length : Int) (w.map (selF ls)) ((hidA ls.length w).map (hidT ls)) (ls.length : Int) (workS ls w b0 b1 b2 w.length) ((hidA ls.length w).map (hidT ls)) = if wholeV ls w b0 b1 b2 w.length = true then 7 else 0 := by
  have h1 : ((fmS (ls.length : Int) (w.map (selF ls)) ((hidA ls.length w).map (hidT ls))).isSome && (fmS (ls.length : Int) (workS ls w b0 b1 b2 w.length) ((hidA ls.length w).map (hidT ls))).isSome) = true := by rw [fm_show h hw, fm_work h hw]; rfl
  have e1 := ixsF_sel h hw.bd
  have h0 := chg_ok (b0 := b0) (b1 := b1) (b2 := b2) h hw w.length (Nat.le_refl _)
  have e2 := ixsF_sel h0 (w := w) (by rw [chg_len]; exact hw.bd)
  rw [work_sel hw] at e2
  have h2 : (decide ((ls.length : Int) = (ls.length : Int)) && decide ((hidA ls.length w).map (hidT ls) = (hidA ls.length w).map (hidT ls)) && decide (ixsF (w.map (selF ls)) = ixsF (workS ls w b0 b1 b2 w.length))) = true := by rw [e1, e2]; simp
  have at_ : ∀ (k : Nat) (x y : Lf), (w.map (selF ls))[k]? = some x → (workS ls w b0 b1 b2 w.length)[k]? = some y → k < w.length ∧ x = selF ls (w.getD k 0) ∧ y = newL ls w b0 b1 b2 k := fun k x y hx hy => by
    have hk : k < w.length := by have := lt_of_at hx; rwa [List.length_map] at this
    rw [List.getElem?_map, w_at hk] at hx
    rw [work_at _ k hk, if_pos hk] at hy
    injection hx with hx
    injection hy with hy
    exact ⟨hk, hx.symm, hy.symm⟩
  have h3 : allZ sameWS (w.map (selF ls)) (workS ls w b0 b1 b2 w.length) = true := allZ_iff.2 fun k x y hx hy => by
    obtain ⟨_, rfl, rfl⟩ := at_ k x y hx hy
    simp [sameWS, newL, nfB]
  cases hv : wholeV ls w b0 b1 b2 w.length with
  | false =>
    rw [ch_5 h1 h2 h3 (allZ_iff.2 fun k x y hx hy => ?_), if_neg (by decide)]
    obtain ⟨hk, rfl, rfl⟩ := at_ k x y hx hy
    have := List.any_eq_false.1 hv k (List.mem_range.2 hk)
    simpa [lostB] using this
  | true =>
    rw [ch_4 h1 h2 h3 ?_, if_pos rfl]
    obtain ⟨k, hk, hl⟩ := List.any_eq_true.1 hv
    have hk := List.mem_range.1 hk
    cases ha : allZ keepB (w.map (selF ls)) (workS ls w b0 b1 b2 w.length) with
    | false => rfl
    | true =>
      have := allZ_iff.1 ha k _ _ (by rw [List.getElem?_map, w_at hk]; rfl) (by rw [work_at _ k hk, if_pos hk])
      rw [lostB, this] at hl; cases hl
end
end Go.Proofs.YthfhaoogcpfboaaGreat

/-! Walks: VV. -/
namespace Go.Proofs.YthfhaoogcpfboaaGreat
open Go.RowKit
set_option maxRecDepth 100000
set_option linter.unusedVariables false
theorem aw_cutw {P : Program} {N : Nat} {Z : List Nat} {rn : Option Nat} {Q : Post} {F F0 : Fr} {H H0 : Hp} {x y : MC} (h1 : AW P N Z rn x (fun e F' H' => e = .normal ∧ Weak N Z F' H' F0 H0) F H) (h2 : AW P N Z rn y Q F0 H0) : AW P N Z rn (.seq x y) Q F H :=
  aw_seq (aw_mono h1 fun e F' H' ⟨he, hw⟩ => by subst he; exact aw_weak hw h2)
theorem rootF_8 {ls : List Lf} (h : LvsOK ls) : B8 (rootF ls) := (rootS_8 (by rw [List.length_map]; have := h.n; omega)).1
theorem show_ok {ls : List Lf} (h : LvsOK ls) {w : List Int} (hw : IxOK ls.length w) : ShOK (w.map (selF ls)) ((hidA ls.length w).map (hidT ls)) where
  nl := by rw [List.length_map]; have := hw.n; omega
  nh := by rw [List.length_map]; have := hidA_len (w := w) h.n.2; omega
  ok x hx := by
    obtain ⟨i, hi, rfl⟩ := List.mem_map.1 hx
    exact h.ok _ (sel_mem (hw.bd i hi).1 (hw.bd i hi).2)
  b d hd := by
    obtain ⟨s, _, rfl⟩ := List.mem_map.1 hd
    exact (ofK_ok ls).tree _ _
theorem work_ok {ls : List Lf} (h : LvsOK ls) {w : List Int} (hw : IxOK ls.length w) {b0 b1 b2 : Int} : ShOK (workS ls w b0 b1 b2 w.length) ((hidA ls.length w).map (hidT ls)) := by
  have h0 := chg_ok (b0 := b0) (b1 := b1) (b2 := b2) h hw w.length (Nat.le_refl _)
  have := show_ok h0 (w := w) (by rw [chg_len]; exact hw)
  rw [chg_len, work_sel hw, hid_chg h hw] at this
  exact this
def mcv5 : MC := (.seq (.reg [oN 5 (.box 25 3 (.t 2)) [], oN 6 (.mv (.c (.bool false))) []] false) (.seq (.reg [oN 25 (.call 8 []) [], oN 7 (.mv (.t 25)) [0, 0, 0]] false) (.seq (.reg [oN 26 (.mv (.t 0)) [], oN 27 (.call 14 [(.t 26)]) [0], oN 8 (.mv (.t 27)) [1, 1, 0, 1]] false) (.seq (.reg [oN 28 (.mv (.t 1)) [], oN 29 (.mv (.t 8)) [], oN 30 (.len (.t 29)) [1], oN 31 (.call 21 [(.t 28), (.t 30)]) [0, 2], oN 9 (.mv (.t 31)) [3, 3, 0, 1, 2, 3]] false) (.seq (.reg [oN 33 (.mv (.t 8)) [], oN 34 (.mv (.t 9)) [], oN 35 (.call 22 [(.t 33), (.t 34)]) [0, 1], oN 32 (.mv (.t 35)) [2], oN 36 (.ext (.t 32) 0) [3], oN 37 (.ext (.t 32) 1) [3], oN 10 (.alloc 55 3 [(.int .i64 0), .nils, .nils]) [], ⟨none, (.st 3 (.t 10) (.t 36)), none, [6, 4, 2, 0, 1, 2, 3, 4, 6]⟩, oN 11 (.mv (.t 37)) [5, 7, 0, 1, 2, 3, 4, 5, 6, 7]] false) (.seq (.reg [oN 39 (.ld true 3 (.t 10)) [], oN 40 (.call 27 [(.t 39)]) [0], oN 38 (.mv (.t 40)) [1], oN 41 (.ext (.t 38) 0) [2], oN 42 (.ext (.t 38) 1) [2], oN 12 (.mv (.t 41)) [3, 1, 0, 1, 2, 3], oN 13 (.mv (.t 42)) [4, 5, 0, 1, 2, 3, 4, 5]] false) (.seq (.seq (.reg [oN 43 (.mv (.t 11)) [], oN 44 (.bin .neq (.t 43) (.c (.int .i64 0))) [0], oN 45 (.mv (.t 44)) [1], oG 46 (.mv (.t 13)) 45 false [2], oG 47 (.un .not (.t 46)) 45 false [3, 2], oN 48 (.pick (.t 45) (.c (.bool true)) (.t 47)) [2, 4], oN 49 (.mv (.t 48)) [5, 2], oG 50 (.mv (.t 12)) 49 false [6], oG 51 (.mv (.t 8)) 49 false [6], oG 52 (.call 19 [(.t 51)]) 49 false [8, 6, 6], oG 53 (.seq true (.t 50) (.t 52)) 49 false [7, 9, 6], oN 54 (.pick (.t 49) (.c (.bool true)) (.t 53)) [6, 10], oN 55 (.mv (.t 54)) [11, 9], oG 56 (.fa 1 (.t 10)) 55 false [12], oG 57 (.ld false 1 (.t 56)) 55 false [13, 12], oG 58 (.len (.t 57)) 55 false [14, 12], oG 59 (.mv (.t 9)) 55 false [12], oG 60 (.len (.t 59)) 55 false [16, 12], oG 61 (.bin .neq (.t 58) (.t 60)) 55 false [15, 17, 12], oN 62 (.pick (.t 55) (.c (.bool true)) (.t 61)) [12, 18]] false) (.cond (.t 62) (.seq (.reg [oN 6 (.mv (.c (.bool false))) []] false) .ret) .skip)) (.seq (.reg [oN 63 (.ld true 3 (.t 10)) [], oN 64 (.call 31 [(.t 63)]) [0], oN 14 (.alloc 55 3 [(.int .i64 0), .nils, .nils]) [], ⟨none, (.st 3 (.t 14) (.t 64)), none, [2, 1, 1, 0, 1, 2]⟩] false) (.seq (.reg [oN 65 (.bslice 51 5 [(.int .i64 0), (.int .i64 0), (.bool false), (.bool false), (.str (strN []))] 0 []) [], oN 66 (.mv (.t 8)) [], oN 67 (.app 51 5 40 [(.int .i64 0), (.int .i64 0), (.bool false), (.bool false), (.str (strN []))] (.t 65) (.t 66)) [0, 1], oN 15 (.mv (.t 67)) [2, 2, 0, 1, 2]] false) (.seq (.reg [oN 16 (.mv (.c (.bool false))) []] false) (.seq (.seq (.reg [oN 68 (.mv (.t 9)) [], oN 69 (.len (.t 68)) [0], oN 70 (.mv (.c (.int .i64 0))) []] false) (.block 0 (.loop (.seq (.reg [oN 71 (.bin .lss (.t 70) (.t 69)) []] false) (.seq (.cond (.t 71) .skip (.exit 0)) (.seq (.block 1 (.seq (.reg [oN 72 (.mv (.t 70)) [], oN 73 (.ixsl 1 (.t 68) (.t 70)) [], oN 74 (.ld false 1 (.t 73)) [1], oN 17 (.mv (.t 72)) [0, 0, 1, 2], oN 18 (.mv (.t 74)) [2, 3, 0, 1, 2, 3]] false) (.seq (.reg [oN 75 (.mv (.t 8)) [], oN 76 (.mv (.t 18)) [], oN 77 (.ixsl 5 (.t 75) (.t 76)) [0, 1], oN 78 (.ld true 5 (.t 77)) [2], oN 19 (.alloc 51 5 [(.int .i64 0), (.int .i64 0), (.bool false), (.bool false), (.str (strN []))]) [], ⟨none, (.st 5 (.t 19) (.t 78)), none, [4, 3, 0, 1, 2, 3, 4]⟩] false) (.seq (.seq (.reg [oN 79 (.fa 1 (.t 10)) [], oN 80 (.ld false 1 (.t 79)) [0], oN 81 (.mv (.t 17)) [], oN 82 (.ixsl 5 (.t 80) (.t 81)) [1, 2], oN 83 (.ld true 5 (.t 82)) [3], oN 84 (.ld true 5 (.t 19)) [], oN 85 (.aeqx true [0, 0, 1, 1, 2] (.t 83) (.t 84)) [4, 5]] true) (.cond (.t 85) (.seq (.reg [oN 6 (.mv (.c (.bool false))) []] false) .ret) .skip)) (.seq (.reg [oN 86 (.fa 2 (.t 19)) [], oN 87 (.ld false 1 (.t 86)) [0], oN 88 (.mv (.t 87)) [1], oG 89 (.ixarr 3 1 (.t 5) (.c (.int .i64 0))) 88 false [2], oG 90 (.ld false 1 (.t 89)) 88 false [3, 2], oG 91 (.mv (.t 17)) 88 false [2], oG 92 (.bin .shr (.t 90) (.t 91)) 88 false [4, 5, 2], oG 93 (.bin .and (.t 92) (.c (.int .i64 1))) 88 false [6, 2], oG 94 (.bin .eql (.t 93) (.c (.int .i64 1))) 88 false [7, 2], oN 95 (.pick (.t 88) (.c (.bool true)) (.t 94)) [2, 8], oN 96 (.mv (.t 95)) [9, 2], oG 97 (.ixarr 3 1 (.t 5) (.c (.int .i64 2))) 96 true [10], oG 98 (.ld false 1 (.t 97)) 96 true [11, 10], oG 99 (.mv (.t 17)) 96 true [10], oG 100 (.bin .shr (.t 98) (.t 99)) 96 true [12, 13, 10], oG 101 (.bin .and (.t 100) (.c (.int .i64 1))) 96 true [14, 10], oG 102 (.bin .eql (.t 101) (.c (.int .i64 0))) 96 true [15, 10], oN 103 (.pick (.t 96) (.t 102) (.c (.bool false))) [10, 16], oN 104 (.fa 2 (.t 19)) [0, 1, 2, 3, 4, 5, 6, 7, 8, 9, 10, 11, 12, 13, 14, 15, 16, 17], ⟨none, (.st 1 (.t 104) (.t 103)), none, [18, 17, 10, 0, 1, 2, 3, 4, 5, 6, 7, 8, 9, 10, 11, 12, 13, 14, 15, 16, 17]⟩] false) (.seq (.reg [oN 105 (.fa 3 (.t 19)) [], oN 106 (.ld false 1 (.t 105)) [0], oN 107 (.mv (.t 106)) [1], oG 108 (.ixarr 3 1 (.t 5) (.c (.int .i64 1))) 107 false [2], oG 109 (.ld false 1 (.t 108)) 107 false [3, 2], oG 110 (.mv (.t 17)) 107 false [2], oG 111 (.bin .shr (.t 109) (.t 110)) 107 false [4, 5, 2], oG 112 (.bin .and (.t 111) (.c (.int .i64 1))) 107 false [6, 2], oG 113 (.bin .eql (.t 112) (.c (.int .i64 1))) 107 false [7, 2], oN 114 (.pick (.t 107) (.c (.bool true)) (.t 113)) [2, 8], oN 115 (.mv (.t 114)) [9, 2], oG 116 (.ixarr 3 1 (.t 5) (.c (.int .i64 2))) 115 true [10], oG 117 (.ld false 1 (.t 116)) 115 true [11, 10], oG 118 (.mv (.t 17)) 115 true [10], oG 119 (.bin .shr (.t 117) (.t 118)) 115 true [12, 13, 10], oG 120 (.bin .and (.t 119) (.c (.int .i64 1))) 115 true [14, 10], oG 121 (.bin .eql (.t 120) (.c (.int .i64 0))) 115 true [15, 10], oN 122 (.pick (.t 115) (.t 121) (.c (.bool false))) [10, 16], oN 123 (.fa 3 (.t 19)) [0, 1, 2, 3, 4, 5, 6, 7, 8, 9, 10, 11, 12, 13, 14, 15, 16, 17], ⟨none, (.st 1 (.t 123) (.t 122)), none, [18, 17, 10, 0, 1, 2, 3, 4, 5, 6, 7, 8, 9, 10, 11, 12, 13, 14, 15, 16, 17]⟩] false) (.seq (.reg [oN 124 (.mv (.t 16)) [], oN 125 (.mv (.t 124)) [0], oG 126 (.mv (.t 8)) 125 false [1], oG 127 (.mv (.t 18)) 125 false [1], oG 128 (.ixsl 5 (.t 126) (.t 127)) 125 false [2, 3, 1], oG 129 (.fa 2 (.t 128)) 125 false [4, 1], oG 130 (.ld false 1 (.t 129)) 125 false [5, 1], oG 131 (.mv (.t 130)) 125 false [6, 1, 1], oG 132 (.fa 2 (.t 19)) 131 true [7], oG 133 (.ld false 1 (.t 132)) 131 true [8, 7], oG 134 (.un .not (.t 133)) 131 true [9, 7], oG 135 (.pick (.t 131) (.t 134) (.c (.bool false))) 125 false [7, 10, 1], oN 136 (.pick (.t 125) (.c (.bool true)) (.t 135)) [1, 11], oN 137 (.mv (.t 136)) [12, 7], oG 138 (.mv (.t 8)) 137 false [13], oG 139 (.mv (.t 18)) 137 false [13], oG 140 (.ixsl 5 (.t 138) (.t 139)) 137 false [14, 15, 13], oG 141 (.fa 3 (.t 140)) 137 false [16, 13], oG 142 (.ld false 1 (.t 141)) 137 false [17, 13], oG 143 (.mv (.t 142)) 137 false [18, 13, 13], oG 144 (.fa 3 (.t 19)) 143 true [19], oG 145 (.ld false 1 (.t 144)) 143 true [20, 19], oG 146 (.un .not (.t 145)) 143 true [21, 19], oG 147 (.pick (.t 143) (.t 146) (.c (.bool false))) 137 false [19, 22, 13], oN 148 (.pick (.t 137) (.c (.bool true)) (.t 147)) [13, 23], oN 16 (.mv (.t 148)) [24, 19, 0, 1, 2, 3, 4, 5, 6, 7, 8, 9, 10, 11, 12, 13, 14, 15, 16, 17, 18, 19, 20, 21, 22, 23, 24]] false) (.reg [oN 149 (.fa 1 (.t 14)) [], oN 150 (.ld false 1 (.t 149)) [0], oN 151 (.mv (.t 17)) [], oN 152 (.mv (.t 15)) [], oN 153 (.mv (.t 18)) [], oN 154 (.ld true 5 (.t 19)) [], oN 155 (.ld true 5 (.t 19)) [], oN 156 (.ixsl 5 (.t 150) (.t 151)) [1, 2, 0, 1, 2, 5], ⟨none, (.st 5 (.t 156) (.t 154)), none, [7, 5, 0, 1, 2, 5]⟩, oN 157 (.ixsl 5 (.t 152) (.t 153)) [3, 4, 0, 1, 2, 3, 4, 5, 6, 7, 8], ⟨none, (.st 5 (.t 157) (.t 155)), none, [9, 6, 8, 0, 1, 2, 3, 4, 5, 6, 7, 8]⟩] true)))))))) (.reg [oN 158 (.bin .add (.t 70) (.c (.int .i64 1))) [], oN 70 (.mv (.t 158)) [0]] false))))))) (.seq (.reg [oN 160 (.ld true 3 (.t 14)) [], oN 161 (.call 27 [(.t 160)]) [0], oN 159 (.mv (.t 161)) [1], oN 162 (.ext (.t 159) 0) [2], oN 163 (.ext (.t 159) 1) [2], oN 20 (.mv (.t 162)) [3, 1, 0, 1, 2, 3], oN 21 (.mv (.t 163)) [4, 5, 0, 1, 2, 3, 4, 5]] false) (.seq (.reg [oN 22 (.mv (.c (.int .i64 0))) []] false) (.seq (.seq (.reg [oN 164 (.mv (.t 16)) []] false) (.cond (.t 164) (.reg [oN 22 (.mv (.c (.int .i64 7))) []] false) .skip)) (.seq (.reg [oN 166 (.mv (.t 15)) [], oN 167 (.mv (.t 9)) [], oN 168 (.call 22 [(.t 166), (.t 167)]) [0, 1], oN 165 (.mv (.t 168)) [2], oN 169 (.ext (.t 165) 0) [3], oN 170 (.ext (.t 165) 1) [3], oN 23 (.alloc 55 3 [(.int .i64 0), .nils, .nils]) [], ⟨none, (.st 3 (.t 23) (.t 169)), none, [6, 4, 2, 0, 1, 2, 3, 4, 6]⟩, oN 24 (.mv (.t 170)) [5, 7, 0, 1, 2, 3, 4, 5, 6, 7]] false) (.seq (.reg [oN 171 (.mv (.t 7)) [], oN 172 (.mv (.t 171)) [0], oG 173 (.mv (.t 21)) 172 true [1], oN 174 (.pick (.t 172) (.t 173) (.c (.bool false))) [1, 2], oN 175 (.mv (.t 174)) [3, 1], oG 176 (.mv (.t 20)) 175 true [4], oG 177 (.mv (.t 15)) 175 true [4], oG 178 (.call 19 [(.t 177)]) 175 true [6, 4, 4], oG 179 (.seq false (.t 176) (.t 178)) 175 true [5, 7, 4], oN 180 (.pick (.t 175) (.t 179) (.c (.bool false))) [4, 8], oN 181 (.mv (.t 180)) [9, 7], oG 182 (.ld true 3 (.t 10)) 181 true [10], oG 183 (.ld true 3 (.t 14)) 181 true [10], oG 184 (.call 29 [(.t 182), (.t 183)]) 181 true [11, 12, 10, 10], oG 185 (.mv (.t 22)) 181 true [10], oG 186 (.bin .eql (.t 184) (.t 185)) 181 true [13, 14, 10], oN 187 (.pick (.t 181) (.t 186) (.c (.bool false))) [10, 15], oN 188 (.mv (.t 187)) [16, 13], oG 189 (.mv (.t 24)) 188 true [17], oG 190 (.bin .eql (.t 189) (.c (.int .i64 0))) 188 true [18, 17], oN 191 (.pick (.t 188) (.t 190) (.c (.bool false))) [17, 19], oN 192 (.mv (.t 191)) [20, 17], oG 193 (.ld true 3 (.t 23)) 192 true [21], oG 194 (.ld true 3 (.t 14)) 192 true [21], oG 195 (.call 24 [(.t 193), (.t 194)]) 192 true [22, 23, 21, 21], oN 196 (.pick (.t 192) (.t 195) (.c (.bool false))) [21, 24], oN 6 (.mv (.t 196)) [25, 24, 0, 1, 2, 3, 4, 5, 6, 7, 8, 9, 10, 11, 12, 13, 14, 15, 16, 17, 18, 19, 20, 21, 22, 23, 24, 25]] false) .ret))))))))))))))))
theorem mcOkv5 : (match Tryz.f5.body with | some c => compC Tryz.prog 197 c | none => none) = some mcv5 := by kernel_rfl
set_option maxHeartbeats 4000000 in
theorem vc5 (L : List Int) (hL : L.length ≤ 4611686018427387904) (s b0 b1 b2 : Int) : FC Tryz.prog 5 [ints L, iv s, .agg [iv b0, iv b1, iv b2]] [] (.bool true) [] false := by
  refine fc_run (nt := 197) Tryz.func5 rfl rfl mcOkv5 (Nat.le_of_ble_eq_true rfl) ?_
  delta mcv5
  refine aw_seq (aw_reg (rs_box rfl rfl rfl rfl rfl rfl ?_))
  refine rs_mv rfl rfl ?_
  refine rs_nil fun _ => (th_n (aw_seq (aw_reg (rs_calln [] rfl rfl (vc8) (.nil) rfl ?_))))
  refine rs_mv rfl rfl ?_
  refine rs_nil fun _ => (th_n (aw_seq (aw_reg (rs_mv rfl rfl ?_))))
  refine rs_calln [] rfl rfl (vc14 L hL) (.cons (hv_same rfl) (.nil)) rfl ?_
  refine rs_mv rfl rfl ?_
  refine rs_nil fun _ => (th_n (aw_seq ?_))
  have hl := made_ok L
  generalize madeS L = ls at hl ⊢
  have hln := hl.n
  refine aw_reg (rs_mv rfl rfl ?_)
  refine rs_mv rfl rfl ?_
  refine rs_len_m rfl rfl ?_
  refine rs_calln [] rfl rfl (vc21 s ls.length (by omega)) (.cons (hv_same rfl) (.cons (hv_same rfl) (.nil))) rfl ?_
  refine rs_mv rfl rfl ?_
  refine rs_nil fun _ => (th_n (aw_seq ?_))
  have hw := some_ix s hl.n.2
  generalize someS s ls.length = w at hw ⊢
  have hwn := hw.n
  have hha := hidA_len (w := w) hl.n.2
  refine aw_reg (rs_mv rfl rfl ?_)
  refine rs_mv rfl rfl ?_
  refine rs_calln [] rfl rfl (vc22_ok ls hl w hw) (.cons (hv_same rfl) (.cons (hv_same rfl) (.nil))) rfl ?_
  refine rs_mv rfl rfl ?_
  refine rs_ext rfl rfl rfl ?_
  refine rs_ext rfl rfl rfl ?_
  refine rs_alloc rfl rfl rfl ?_
  refine rs_st rfl rfl rfl rfl rfl rfl rfl (Nat.le_of_ble_eq_true rfl) rfl rfl ?_
  refine rs_mv rfl rfl ?_
  refine rs_nil fun _ => (th_n (aw_seq (aw_reg (rs_ld_pa rfl rfl rfl rfl (Nat.le_of_ble_eq_true rfl) rfl ?_))))
  refine rs_calln [] rfl rfl (vc27 (ls.length : Int) (w.map (selF ls)) ((hidA ls.length w).map (hidT ls)) (show_ok hl hw)) (.cons (hv_same rfl) (.nil)) rfl ?_
  rw [root_show hl hw]
  refine rs_mv rfl rfl ?_
  refine rs_ext rfl rfl rfl ?_
  refine rs_ext rfl rfl rfl ?_
  refine rs_mv rfl rfl ?_
  refine rs_mv rfl rfl ?_
  refine rs_nil fun _ => (th_n (aw_seq (aw_seq (aw_reg (rs_mv rfl rfl ?_)))))
  refine rs_cmp_f rfl rfl rfl rfl (by decide) ?_
  refine rs_mv rfl rfl ?_
  refine rs_mv rfl rfl ?_
  refine rs_not rfl rfl ?_
  refine rs_pick rfl rfl rfl ?_
  refine rs_mv rfl rfl ?_
  refine rs_mv rfl rfl ?_
  refine rs_mv rfl rfl ?_
  refine rs_calln [] rfl rfl (vc19 ls hl.ls) (.cons (hv_same rfl) (.nil)) rfl ?_
  refine rs_seq (r := false) rfl rfl rfl (rootF_8 hl) (rootF_8 hl) (by simp) ?_
  refine rs_pick rfl rfl rfl ?_
  refine rs_mv rfl rfl ?_
  refine rs_fa_p rfl rfl ?_
  refine rs_ld_p rfl rfl rfl rfl rfl ?_
  refine rs_len_m rfl rfl ?_
  refine rs_mv rfl rfl ?_
  refine rs_len_m rfl rfl ?_
  refine rs_cmp_f rfl rfl rfl rfl (by simp [showS]) ?_
  refine rs_pick rfl rfl rfl ?_
  refine rs_nil fun _ => (th_n (aw_cond rfl (fun h => by cases h) (fun _ => ?_)))
  refine aw_skip (th_n (aw_seq (aw_reg (rs_ld_pa rfl rfl rfl rfl (Nat.le_of_ble_eq_true rfl) rfl ?_))))
  refine rs_calln [] rfl rfl (vc31 (ls.length : Int) (w.map (selF ls)) ((hidA ls.length w).map (hidT ls)) (by rw [List.length_map]; omega) (by rw [List.length_map]; omega)) (.cons (hv_same rfl) .nil) rfl ?_
  refine rs_alloc rfl rfl rfl ?_
  refine rs_st rfl rfl rfl rfl rfl rfl rfl (Nat.le_of_ble_eq_true rfl) rfl rfl ?_
  refine rs_nil fun _ => (th_n (aw_seq (aw_reg (rs_bslice (l := []) (els := []) (fl := true) rfl (by kernel_rfl) rfl rfl rfl rfl ?_))))
  refine rs_mv rfl rfl ?_
  refine rs_app_e (f := cLf) (ys := ls) (n := ls.length) (rd := []) rfl rfl rfl rfl rfl rfl rfl (by simp) (fun _ => rfl) rfl (by omega) (by omega) (fun _ => rfl) ?_
  refine rs_mv rfl rfl ?_
  refine rs_nil fun _ => (th_n (aw_seq (aw_reg (rs_mv rfl rfl ?_))))
  refine rs_nil fun _ => (th_n (aw_seq (aw_seq (aw_reg (rs_mv rfl rfl ?_)))))
  refine rs_len_m rfl rfl ?_
  refine rs_mv rfl rfl ?_
  refine rs_nil fun _ => (th_n (aw_block ?_))
  refine aw_fam (α := Nat) (fun k => w.length - k) (fun k => [(5, .ptr 5 0 0), (7, .bool true), (8, .rs 5 (ls.map cLf)), (9, .rs 1 (w.map civ)), (10, .ptr 10 0 0), (14, .ptr 14 0 0), (15, .sl 67 0 ls.length), (68, .rs 1 (w.map civ)), (69, iv (w.length : Int)), (16, .bool (wholeV ls w b0 b1 b2 (k))), (70, iv (((k) : Nat) : Int))]) (fun k => [(5, .cells 25 3 [[iv b0, iv b1, iv b2]] true), (10, .cells 55 3 [cSh (showS ls w)] true), (14, .cells 55 3 [[iv (ls.length : Int), .sl 8 0 (w.map (selF ls)).length, .sl 12 0 ((hidA ls.length w).map (hidT ls)).length]] false), (8, .cells 51 5 ((workS ls w b0 b1 b2 (k)).map cLf) true), (12, .cells 9 1 (((hidA ls.length w).map (hidT ls)).map cS) true), (67, .cells 51 5 ((chgS ls w b0 b1 b2 (k)).map cLf) true)]) (fun k => k ≤ w.length) 0 (by omega)
    (weak_to (.cons rfl sm (.cons rfl sm (.cons rfl sm (.cons rfl sm (.cons rfl sm (.cons rfl sm (.cons rfl sm (.cons rfl sm (.cons rfl sm (.cons rfl sm (.cons rfl sm (.nil)))))))))))) (.keep (rfl) rfl (.keep (rfl) rfl (.keep (rfl) rfl (.keep (rfl) rfl (.keep (rfl) rfl (.keep (rfl) rfl (.nil))))))) (fun i h => by cases h)) ?_
  intro k hk
  refine aw_seq (aw_reg (rs_lss rfl rfl rfl ?_))
  refine rs_nil fun _ => (th_n (aw_seq (aw_cond rfl (fun h71 => ?_) (fun h71 => ?_))))
  · replace h71 := of_decide_eq_true h71
    refine aw_skip (th_n (aw_seq (aw_block (aw_seq (aw_reg (rs_mv rfl rfl ?_))))))
    obtain ⟨hb0, hb1⟩ := hw.at_ (k := k) (by omega)
    have hsk : (w.map (selF ls))[k]? = some (selF ls (w.getD k 0)) := by rw [List.getElem?_map, w_at (by omega)]; rfl
    refine rs_ix_g (f := civ) (y := w.getD k 0) rfl rfl rfl (by omega) (w_at (by omega)) ?_
    refine rs_ld_r rfl rfl rfl ?_
    refine rs_mv rfl rfl ?_
    refine rs_mv rfl rfl ?_
    refine rs_nil fun _ => (th_n (aw_seq (aw_reg (rs_mv rfl rfl ?_))))
    refine rs_mv rfl rfl ?_
    refine rs_ix_g (f := cLf) (y := (selF ls (w.getD k 0))) rfl rfl rfl hb0 (sel_some hb0 hb1) ?_
    refine rs_ld_ra (cs := cLf (selF ls (w.getD k 0))) rfl rfl (Nat.le_of_ble_eq_true rfl) rfl ?_
    refine rs_alloc rfl rfl rfl ?_
    refine rs_st rfl rfl rfl rfl rfl rfl rfl (Nat.le_of_ble_eq_true rfl) rfl rfl ?_
    refine rs_nil fun _ => (th_n (aw_seq (aw_seq (aw_draw hmix ?_))))
    refine rs_fa_p rfl rfl ?_
    refine rs_ld_p rfl rfl rfl rfl rfl ?_
    refine rs_mv rfl rfl ?_
    refine rs_ix_g (f := cLf) (xs := w.map (selF ls)) (y := (selF ls (w.getD k 0))) rfl rfl rfl (by omega) hsk ?_
    refine rs_ld_ra (cs := cLf (selF ls (w.getD k 0))) rfl rfl (Nat.le_of_ble_eq_true rfl) rfl ?_
    refine rs_ld_pa rfl rfl rfl rfl (Nat.le_of_ble_eq_true rfl) rfl ?_
    refine rs_aeqx (r := false) (scs (selF ls (w.getD k 0))) (scs (selF ls (w.getD k 0))) rfl rfl rfl rfl rfl rfl rfl (by simp) ?_
    refine rs_nil ⟨by kernel_rfl, fun _ => ?_⟩
    refine th_n (aw_cond rfl (fun h => by cases h) (fun _ => ?_))
    refine aw_skip (th_n (aw_cutw (F0 := [(5, .ptr 5 0 0), (7, .bool true), (8, .rs 5 (ls.map cLf)), (9, .rs 1 (w.map civ)), (10, .ptr 10 0 0), (14, .ptr 14 0 0), (15, .sl 67 0 ls.length), (68, .rs 1 (w.map civ)), (69, iv (w.length : Int)), (16, .bool (wholeV ls w b0 b1 b2 (k))), (70, iv (((k) : Nat) : Int)), (17, iv (((k) : Nat) : Int)), (18, iv (w.getD k 0)), (19, .ptr 19 0 0)]) (H0 := [(5, .cells 25 3 [[iv b0, iv b1, iv b2]] true), (10, .cells 55 3 [cSh (showS ls w)] true), (14, .cells 55 3 [[iv (ls.length : Int), .sl 8 0 (w.map (selF ls)).length, .sl 12 0 ((hidA ls.length w).map (hidT ls)).length]] false), (8, .cells 51 5 ((workS ls w b0 b1 b2 (k)).map cLf) true), (12, .cells 9 1 (((hidA ls.length w).map (hidT ls)).map cS) true), (67, .cells 51 5 ((chgS ls w b0 b1 b2 (k)).map cLf) true), (19, .cells 51 5 [[iv (selF ls (w.getD k 0)).ix, iv (selF ls (w.getD k 0)).want, .bool (((selF ls (w.getD k 0)).sure || bitB b0 k) && bitZ b2 k), .bool (selF ls (w.getD k 0)).touched, .str (strN (selF ls (w.getD k 0)).salt)]] true)]) ?_ ?_))
    · skip
      refine aw_reg (rs_fa_p rfl rfl ?_)
      refine rs_ld_p rfl rfl rfl rfl rfl ?_
      cases h87 : (selF ls (w.getD k 0)).sure
      · skip
        refine rs_mv rfl rfl ?_
        refine rs_ixarr_p rfl rfl rfl (by decide) (by decide) ?_
        refine rs_ld_p rfl rfl rfl rfl rfl ?_
        refine rs_mv rfl rfl ?_
        refine rs_shr rfl rfl rfl (by omega) rfl ?_
        refine rs_and rfl rfl rfl rfl ?_
        refine rs_cmp rfl rfl rfl rfl (fun h94 => ?_) (fun h94 => ?_)
        · skip
          refine rs_pick rfl rfl rfl ?_
          refine rs_mv rfl rfl ?_
          refine rs_ixarr_p rfl rfl rfl (by decide) (by decide) ?_
          refine rs_ld_p rfl rfl rfl rfl rfl ?_
          refine rs_mv rfl rfl ?_
          refine rs_shr rfl rfl rfl (by omega) rfl ?_
          refine rs_and rfl rfl rfl rfl ?_
          refine rs_cmp rfl rfl rfl rfl (fun h102 => ?_) (fun h102 => ?_)
          · skip
            refine rs_pick rfl rfl rfl ?_
            refine rs_fa_p rfl rfl ?_
            refine rs_st rfl rfl rfl rfl rfl rfl rfl (Nat.le_of_ble_eq_true rfl) rfl rfl ?_
            refine rs_nil fun _ => ?_
            exact ⟨rfl, weak_to (.cons rfl sm (.cons rfl sm (.cons rfl sm (.cons rfl sm (.cons rfl sm (.cons rfl sm (.cons rfl sm (.cons rfl sm (.cons rfl sm (.cons rfl sm (.cons rfl sm (.cons rfl sm (.cons rfl sm (.cons rfl sm (.nil))))))))))))))) (.keep (rfl) rfl (.keep (rfl) rfl (.keep (rfl) rfl (.keep (rfl) rfl (.keep (rfl) rfl (.keep (rfl) rfl (.keep (by rw [show ((false || bitB b0 k) && bitZ b2 k) = true from by rw [show bitB b0 k = true from decide_eq_true h94, show bitZ b2 k = true from decide_eq_true h102]; rfl]; rfl) rfl (.nil)))))))) (fun i h => by cases h)⟩
          · skip
            refine rs_pick rfl rfl rfl ?_
            refine rs_fa_p rfl rfl ?_
            refine rs_st rfl rfl rfl rfl rfl rfl rfl (Nat.le_of_ble_eq_true rfl) rfl rfl ?_
            refine rs_nil fun _ => ?_
            exact ⟨rfl, weak_to (.cons rfl sm (.cons rfl sm (.cons rfl sm (.cons rfl sm (.cons rfl sm (.cons rfl sm (.cons rfl sm (.cons rfl sm (.cons rfl sm (.cons rfl sm (.cons rfl sm (.cons rfl sm (.cons rfl sm (.cons rfl sm (.nil))))))))))))))) (.keep (rfl) rfl (.keep (rfl) rfl (.keep (rfl) rfl (.keep (rfl) rfl (.keep (rfl) rfl (.keep (rfl) rfl (.keep (by rw [show ((false || bitB b0 k) && bitZ b2 k) = false from by rw [show bitB b0 k = true from decide_eq_true h94, show bitZ b2 k = false from decide_eq_false h102]; rfl]; rfl) rfl (.nil)))))))) (fun i h => by cases h)⟩
        · skip
          refine rs_pick rfl rfl rfl ?_
          refine rs_mv rfl rfl ?_
          refine rs_skip rfl ?_
          refine rs_skip rfl ?_
          refine rs_skip rfl ?_
          refine rs_skip rfl ?_
          refine rs_skip rfl ?_
          refine rs_skip rfl ?_
          refine rs_pick rfl rfl rfl ?_
          refine rs_fa_p rfl rfl ?_
          refine rs_st rfl rfl rfl rfl rfl rfl rfl (Nat.le_of_ble_eq_true rfl) rfl rfl ?_
          refine rs_nil fun _ => ?_
          exact ⟨rfl, weak_to (.cons rfl sm (.cons rfl sm (.cons rfl sm (.cons rfl sm (.cons rfl sm (.cons rfl sm (.cons rfl sm (.cons rfl sm (.cons rfl sm (.cons rfl sm (.cons rfl sm (.cons rfl sm (.cons rfl sm (.cons rfl sm (.nil))))))))))))))) (.keep (rfl) rfl (.keep (rfl) rfl (.keep (rfl) rfl (.keep (rfl) rfl (.keep (rfl) rfl (.keep (rfl) rfl (.keep (by rw [show ((false || bitB b0 k) && bitZ b2 k) = false from by rw [show bitB b0 k = false from decide_eq_false h94]; rfl]; rfl) rfl (.nil)))))))) (fun i h => by cases h)⟩
      · skip
        refine rs_mv rfl rfl ?_
        refine rs_skip rfl ?_
        refine rs_skip rfl ?_
        refine rs_skip rfl ?_
        refine rs_skip rfl ?_
        refine rs_skip rfl ?_
        refine rs_skip rfl ?_
        refine rs_pick rfl rfl rfl ?_
        refine rs_mv rfl rfl ?_
        refine rs_ixarr_p rfl rfl rfl (by decide) (by decide) ?_
        refine rs_ld_p rfl rfl rfl rfl rfl ?_
        refine rs_mv rfl rfl ?_
        refine rs_shr rfl rfl rfl (by omega) rfl ?_
        refine rs_and rfl rfl rfl rfl ?_
        refine rs_cmp rfl rfl rfl rfl (fun h102 => ?_) (fun h102 => ?_)
        · skip
          refine rs_pick rfl rfl rfl ?_
          refine rs_fa_p rfl rfl ?_
          refine rs_st rfl rfl rfl rfl rfl rfl rfl (Nat.le_of_ble_eq_true rfl) rfl rfl ?_
          refine rs_nil fun _ => ?_
          exact ⟨rfl, weak_to (.cons rfl sm (.cons rfl sm (.cons rfl sm (.cons rfl sm (.cons rfl sm (.cons rfl sm (.cons rfl sm (.cons rfl sm (.cons rfl sm (.cons rfl sm (.cons rfl sm (.cons rfl sm (.cons rfl sm (.cons rfl sm (.nil))))))))))))))) (.keep (rfl) rfl (.keep (rfl) rfl (.keep (rfl) rfl (.keep (rfl) rfl (.keep (rfl) rfl (.keep (rfl) rfl (.keep (by rw [show ((true || bitB b0 k) && bitZ b2 k) = true from by rw [show bitZ b2 k = true from decide_eq_true h102]; rfl]; rfl) rfl (.nil)))))))) (fun i h => by cases h)⟩
        · skip
          refine rs_pick rfl rfl rfl ?_
          refine rs_fa_p rfl rfl ?_
          refine rs_st rfl rfl rfl rfl rfl rfl rfl (Nat.le_of_ble_eq_true rfl) rfl rfl ?_
          refine rs_nil fun _ => ?_
          exact ⟨rfl, weak_to (.cons rfl sm (.cons rfl sm (.cons rfl sm (.cons rfl sm (.cons rfl sm (.cons rfl sm (.cons rfl sm (.cons rfl sm (.cons rfl sm (.cons rfl sm (.cons rfl sm (.cons rfl sm (.cons rfl sm (.cons rfl sm (.nil))))))))))))))) (.keep (rfl) rfl (.keep (rfl) rfl (.keep (rfl) rfl (.keep (rfl) rfl (.keep (rfl) rfl (.keep (rfl) rfl (.keep (by rw [show ((true || bitB b0 k) && bitZ b2 k) = false from by rw [show bitZ b2 k = false from decide_eq_false h102]; rfl]; rfl) rfl (.nil)))))))) (fun i h => by cases h)⟩
    · skip
      refine aw_cutw (F0 := [(5, .ptr 5 0 0), (7, .bool true), (8, .rs 5 (ls.map cLf)), (9, .rs 1 (w.map civ)), (10, .ptr 10 0 0), (14, .ptr 14 0 0), (15, .sl 67 0 ls.length), (68, .rs 1 (w.map civ)), (69, iv (w.length : Int)), (16, .bool (wholeV ls w b0 b1 b2 (k))), (70, iv (((k) : Nat) : Int)), (17, iv (((k) : Nat) : Int)), (18, iv (w.getD k 0)), (19, .ptr 19 0 0)]) (H0 := [(5, .cells 25 3 [[iv b0, iv b1, iv b2]] true), (10, .cells 55 3 [cSh (showS ls w)] true), (14, .cells 55 3 [[iv (ls.length : Int), .sl 8 0 (w.map (selF ls)).length, .sl 12 0 ((hidA ls.length w).map (hidT ls)).length]] false), (8, .cells 51 5 ((workS ls w b0 b1 b2 (k)).map cLf) true), (12, .cells 9 1 (((hidA ls.length w).map (hidT ls)).map cS) true), (67, .cells 51 5 ((chgS ls w b0 b1 b2 (k)).map cLf) true), (19, .cells 51 5 [[iv (selF ls (w.getD k 0)).ix, iv (selF ls (w.getD k 0)).want, .bool (((selF ls (w.getD k 0)).sure || bitB b0 k) && bitZ b2 k), .bool (((selF ls (w.getD k 0)).touched || bitB b1 k) && bitZ b2 k), .str (strN (selF ls (w.getD k 0)).salt)]] true)]) ?_ ?_
      · skip
        refine aw_reg (rs_fa_p rfl rfl ?_)
        refine rs_ld_p rfl rfl rfl rfl rfl ?_
        cases h106 : (selF ls (w.getD k 0)).touched
        · skip
          refine rs_mv rfl rfl ?_
          refine rs_ixarr_p rfl rfl rfl (by decide) (by decide) ?_
          refine rs_ld_p rfl rfl rfl rfl rfl ?_
          refine rs_mv rfl rfl ?_
          refine rs_shr rfl rfl rfl (by omega) rfl ?_
          refine rs_and rfl rfl rfl rfl ?_
          refine rs_cmp rfl rfl rfl rfl (fun h113 => ?_) (fun h113 => ?_)
          · skip
            refine rs_pick rfl rfl rfl ?_
            refine rs_mv rfl rfl ?_
            refine rs_ixarr_p rfl rfl rfl (by decide) (by decide) ?_
            refine rs_ld_p rfl rfl rfl rfl rfl ?_
            refine rs_mv rfl rfl ?_
            refine rs_shr rfl rfl rfl (by omega) rfl ?_
            refine rs_and rfl rfl rfl rfl ?_
            refine rs_cmp rfl rfl rfl rfl (fun h121 => ?_) (fun h121 => ?_)
            · skip
              refine rs_pick rfl rfl rfl ?_
              refine rs_fa_p rfl rfl ?_
              refine rs_st rfl rfl rfl rfl rfl rfl rfl (Nat.le_of_ble_eq_true rfl) rfl rfl ?_
              refine rs_nil fun _ => ?_
              exact ⟨rfl, weak_to (.cons rfl sm (.cons rfl sm (.cons rfl sm (.cons rfl sm (.cons rfl sm (.cons rfl sm (.cons rfl sm (.cons rfl sm (.cons rfl sm (.cons rfl sm (.cons rfl sm (.cons rfl sm (.cons rfl sm (.cons rfl sm (.nil))))))))))))))) (.keep (rfl) rfl (.keep (rfl) rfl (.keep (rfl) rfl (.keep (rfl) rfl (.keep (rfl) rfl (.keep (rfl) rfl (.keep (by rw [show ((false || bitB b1 k) && bitZ b2 k) = true from by rw [show bitB b1 k = true from decide_eq_true h113, show bitZ b2 k = true from decide_eq_true h121]; rfl]; rfl) rfl (.nil)))))))) (fun i h => by cases h)⟩
            · skip
              refine rs_pick rfl rfl rfl ?_
              refine rs_fa_p rfl rfl ?_
              refine rs_st rfl rfl rfl rfl rfl rfl rfl (Nat.le_of_ble_eq_true rfl) rfl rfl ?_
              refine rs_nil fun _ => ?_
              exact ⟨rfl, weak_to (.cons rfl sm (.cons rfl sm (.cons rfl sm (.cons rfl sm (.cons rfl sm (.cons rfl sm (.cons rfl sm (.cons rfl sm (.cons rfl sm (.cons rfl sm (.cons rfl sm (.cons rfl sm (.cons rfl sm (.cons rfl sm (.nil))))))))))))))) (.keep (rfl) rfl (.keep (rfl) rfl (.keep (rfl) rfl (.keep (rfl) rfl (.keep (rfl) rfl (.keep (rfl) rfl (.keep (by rw [show ((false || bitB b1 k) && bitZ b2 k) = false from by rw [show bitB b1 k = true from decide_eq_true h113, show bitZ b2 k = false from decide_eq_false h121]; rfl]; rfl) rfl (.nil)))))))) (fun i h => by cases h)⟩
          · skip
            refine rs_pick rfl rfl rfl ?_
            refine rs_mv rfl rfl ?_
            refine rs_skip rfl ?_
            refine rs_skip rfl ?_
            refine rs_skip rfl ?_
            refine rs_skip rfl ?_
            refine rs_skip rfl ?_
            refine rs_skip rfl ?_
            refine rs_pick rfl rfl rfl ?_
            refine rs_fa_p rfl rfl ?_
            refine rs_st rfl rfl rfl rfl rfl rfl rfl (Nat.le_of_ble_eq_true rfl) rfl rfl ?_
            refine rs_nil fun _ => ?_
            exact ⟨rfl, weak_to (.cons rfl sm (.cons rfl sm (.cons rfl sm (.cons rfl sm (.cons rfl sm (.cons rfl sm (.cons rfl sm (.cons rfl sm (.cons rfl sm (.cons rfl sm (.cons rfl sm (.cons rfl sm (.cons rfl sm (.cons rfl sm (.nil))))))))))))))) (.keep (rfl) rfl (.keep (rfl) rfl (.keep (rfl) rfl (.keep (rfl) rfl (.keep (rfl) rfl (.keep (rfl) rfl (.keep (by rw [show ((false || bitB b1 k) && bitZ b2 k) = false from by rw [show bitB b1 k = false from decide_eq_false h113]; rfl]; rfl) rfl (.nil)))))))) (fun i h => by cases h)⟩
        · skip
          refine rs_mv rfl rfl ?_
          refine rs_skip rfl ?_
          refine rs_skip rfl ?_
          refine rs_skip rfl ?_
          refine rs_skip rfl ?_
          refine rs_skip rfl ?_
          refine rs_skip rfl ?_
          refine rs_pick rfl rfl rfl ?_
          refine rs_mv rfl rfl ?_
          refine rs_ixarr_p rfl rfl rfl (by decide) (by decide) ?_
          refine rs_ld_p rfl rfl rfl rfl rfl ?_
          refine rs_mv rfl rfl ?_
          refine rs_shr rfl rfl rfl (by omega) rfl ?_
          refine rs_and rfl rfl rfl rfl ?_
          refine rs_cmp rfl rfl rfl rfl (fun h121 => ?_) (fun h121 => ?_)
          · skip
            refine rs_pick rfl rfl rfl ?_
            refine rs_fa_p rfl rfl ?_
            refine rs_st rfl rfl rfl rfl rfl rfl rfl (Nat.le_of_ble_eq_true rfl) rfl rfl ?_
            refine rs_nil fun _ => ?_
            exact ⟨rfl, weak_to (.cons rfl sm (.cons rfl sm (.cons rfl sm (.cons rfl sm (.cons rfl sm (.cons rfl sm (.cons rfl sm (.cons rfl sm (.cons rfl sm (.cons rfl sm (.cons rfl sm (.cons rfl sm (.cons rfl sm (.cons rfl sm (.nil))))))))))))))) (.keep (rfl) rfl (.keep (rfl) rfl (.keep (rfl) rfl (.keep (rfl) rfl (.keep (rfl) rfl (.keep (rfl) rfl (.keep (by rw [show ((true || bitB b1 k) && bitZ b2 k) = true from by rw [show bitZ b2 k = true from decide_eq_true h121]; rfl]; rfl) rfl (.nil)))))))) (fun i h => by cases h)⟩
          · skip
            refine rs_pick rfl rfl rfl ?_
            refine rs_fa_p rfl rfl ?_
            refine rs_st rfl rfl rfl rfl rfl rfl rfl (Nat.le_of_ble_eq_true rfl) rfl rfl ?_
            refine rs_nil fun _ => ?_
            exact ⟨rfl, weak_to (.cons rfl sm (.cons rfl sm (.cons rfl sm (.cons rfl sm (.cons rfl sm (.cons rfl sm (.cons rfl sm (.cons rfl sm (.cons rfl sm (.cons rfl sm (.cons rfl sm (.cons rfl sm (.cons rfl sm (.cons rfl sm (.nil))))))))))))))) (.keep (rfl) rfl (.keep (rfl) rfl (.keep (rfl) rfl (.keep (rfl) rfl (.keep (rfl) rfl (.keep (rfl) rfl (.keep (by rw [show ((true || bitB b1 k) && bitZ b2 k) = false from by rw [show bitZ b2 k = false from decide_eq_false h121]; rfl]; rfl) rfl (.nil)))))))) (fun i h => by cases h)⟩
      · skip
        refine aw_cutw (F0 := [(5, .ptr 5 0 0), (7, .bool true), (8, .rs 5 (ls.map cLf)), (9, .rs 1 (w.map civ)), (10, .ptr 10 0 0), (14, .ptr 14 0 0), (15, .sl 67 0 ls.length), (68, .rs 1 (w.map civ)), (69, iv (w.length : Int)), (16, .bool (wholeV ls w b0 b1 b2 (k + 1))), (70, iv (((k) : Nat) : Int)), (17, iv (((k) : Nat) : Int)), (18, iv (w.getD k 0)), (19, .ptr 19 0 0)]) (H0 := [(5, .cells 25 3 [[iv b0, iv b1, iv b2]] true), (10, .cells 55 3 [cSh (showS ls w)] true), (14, .cells 55 3 [[iv (ls.length : Int), .sl 8 0 (w.map (selF ls)).length, .sl 12 0 ((hidA ls.length w).map (hidT ls)).length]] false), (8, .cells 51 5 ((workS ls w b0 b1 b2 (k)).map cLf) true), (12, .cells 9 1 (((hidA ls.length w).map (hidT ls)).map cS) true), (67, .cells 51 5 ((chgS ls w b0 b1 b2 (k)).map cLf) true), (19, .cells 51 5 [[iv (selF ls (w.getD k 0)).ix, iv (selF ls (w.getD k 0)).want, .bool (((selF ls (w.getD k 0)).sure || bitB b0 k) && bitZ b2 k), .bool (((selF ls (w.getD k 0)).touched || bitB b1 k) && bitZ b2 k), .str (strN (selF ls (w.getD k 0)).salt)]] true)]) ?_ ?_
        · skip
          refine aw_reg (rs_mv rfl rfl ?_)
          cases h124 : wholeV ls w b0 b1 b2 k
          · skip
            refine rs_mv rfl rfl ?_
            refine rs_mv rfl rfl ?_
            refine rs_mv rfl rfl ?_
            refine rs_ix_g (f := cLf) (y := (selF ls (w.getD k 0))) rfl rfl rfl hb0 (sel_some hb0 hb1) ?_
            refine rs_fa_r rfl rfl rfl ?_
            refine rs_ld_r rfl rfl rfl ?_
            cases h130 : (selF ls (w.getD k 0)).sure
            · skip
              refine rs_mv rfl rfl ?_
              refine rs_skip rfl ?_
              refine rs_skip rfl ?_
              refine rs_skip rfl ?_
              refine rs_pick rfl rfl rfl ?_
              refine rs_pick rfl rfl rfl ?_
              refine rs_mv rfl rfl ?_
              refine rs_mv rfl rfl ?_
              refine rs_mv rfl rfl ?_
              refine rs_ix_g (f := cLf) (y := (selF ls (w.getD k 0))) rfl rfl rfl hb0 (sel_some hb0 hb1) ?_
              refine rs_fa_r rfl rfl rfl ?_
              refine rs_ld_r rfl rfl rfl ?_
              cases h142 : (selF ls (w.getD k 0)).touched
              · skip
                refine rs_mv rfl rfl ?_
                refine rs_skip rfl ?_
                refine rs_skip rfl ?_
                refine rs_skip rfl ?_
                refine rs_pick rfl rfl rfl ?_
                refine rs_pick rfl rfl rfl ?_
                refine rs_mv rfl rfl ?_
                refine rs_nil fun _ => ?_
                exact ⟨rfl, weak_to (.cons rfl sm (.cons rfl sm (.cons rfl sm (.cons rfl sm (.cons rfl sm (.cons rfl sm (.cons rfl sm (.cons rfl sm (.cons rfl sm (.cons rfl (rc_eq (by rw [wholeV_succ, h124]; simp only [lostB, keepB, newL, nfB]; rw [h130, h142]; rfl) rfl) (.cons rfl sm (.cons rfl sm (.cons rfl sm (.cons rfl sm (.nil))))))))))))))) (.keep (rfl) rfl (.keep (rfl) rfl (.keep (rfl) rfl (.keep (rfl) rfl (.keep (rfl) rfl (.keep (rfl) rfl (.keep (rfl) rfl (.nil)))))))) (fun i h => by cases h)⟩
              · skip
                refine rs_mv rfl rfl ?_
                refine rs_fa_p rfl rfl ?_
                refine rs_ld_p rfl rfl rfl rfl rfl ?_
                cases h145 : ((true || bitB b1 k) && bitZ b2 k)
                · skip
                  refine rs_not rfl rfl ?_
                  refine rs_pick rfl rfl rfl ?_
                  refine rs_pick rfl rfl rfl ?_
                  refine rs_mv rfl rfl ?_
                  refine rs_nil fun _ => ?_
                  exact ⟨rfl, weak_to (.cons rfl sm (.cons rfl sm (.cons rfl sm (.cons rfl sm (.cons rfl sm (.cons rfl sm (.cons rfl sm (.cons rfl sm (.cons rfl sm (.cons rfl (rc_eq (by rw [wholeV_succ, h124]; simp only [lostB, keepB, newL, nfB]; rw [h130, h142, h145]; rfl) rfl) (.cons rfl sm (.cons rfl sm (.cons rfl sm (.cons rfl sm (.nil))))))))))))))) (.keep (rfl) rfl (.keep (rfl) rfl (.keep (rfl) rfl (.keep (rfl) rfl (.keep (rfl) rfl (.keep (rfl) rfl (.keep (rfl) rfl (.nil)))))))) (fun i h => by cases h)⟩
                · skip
                  refine rs_not rfl rfl ?_
                  refine rs_pick rfl rfl rfl ?_
                  refine rs_pick rfl rfl rfl ?_
                  refine rs_mv rfl rfl ?_
                  refine rs_nil fun _ => ?_
                  exact ⟨rfl, weak_to (.cons rfl sm (.cons rfl sm (.cons rfl sm (.cons rfl sm (.cons rfl sm (.cons rfl sm (.cons rfl sm (.cons rfl sm (.cons rfl sm (.cons rfl (rc_eq (by rw [wholeV_succ, h124]; simp only [lostB, keepB, newL, nfB]; rw [h130, h142, h145]; rfl) rfl) (.cons rfl sm (.cons rfl sm (.cons rfl sm (.cons rfl sm (.nil))))))))))))))) (.keep (rfl) rfl (.keep (rfl) rfl (.keep (rfl) rfl (.keep (rfl) rfl (.keep (rfl) rfl (.keep (rfl) rfl (.keep (rfl) rfl (.nil)))))))) (fun i h => by cases h)⟩
            · skip
              refine rs_mv rfl rfl ?_
              refine rs_fa_p rfl rfl ?_
              refine rs_ld_p rfl rfl rfl rfl rfl ?_
              cases h133 : ((true || bitB b0 k) && bitZ b2 k)
              · skip
                refine rs_not rfl rfl ?_
                refine rs_pick rfl rfl rfl ?_
                refine rs_pick rfl rfl rfl ?_
                refine rs_mv rfl rfl ?_
                refine rs_skip rfl ?_
                refine rs_skip rfl ?_
                refine rs_skip rfl ?_
                refine rs_skip rfl ?_
                refine rs_skip rfl ?_
                refine rs_skip rfl ?_
                refine rs_skip rfl ?_
                refine rs_skip rfl ?_
                refine rs_skip rfl ?_
                refine rs_skip rfl ?_
                refine rs_pick rfl rfl rfl ?_
                refine rs_mv rfl rfl ?_
                refine rs_nil fun _ => ?_
                exact ⟨rfl, weak_to (.cons rfl sm (.cons rfl sm (.cons rfl sm (.cons rfl sm (.cons rfl sm (.cons rfl sm (.cons rfl sm (.cons rfl sm (.cons rfl sm (.cons rfl (rc_eq (by rw [wholeV_succ, h124]; simp only [lostB, keepB, newL, nfB]; rw [h130, h133]; rfl) rfl) (.cons rfl sm (.cons rfl sm (.cons rfl sm (.cons rfl sm (.nil))))))))))))))) (.keep (rfl) rfl (.keep (rfl) rfl (.keep (rfl) rfl (.keep (rfl) rfl (.keep (rfl) rfl (.keep (rfl) rfl (.keep (rfl) rfl (.nil)))))))) (fun i h => by cases h)⟩
              · skip
                refine rs_not rfl rfl ?_
                refine rs_pick rfl rfl rfl ?_
                refine rs_pick rfl rfl rfl ?_
                refine rs_mv rfl rfl ?_
                refine rs_mv rfl rfl ?_
                refine rs_mv rfl rfl ?_
                refine rs_ix_g (f := cLf) (y := (selF ls (w.getD k 0))) rfl rfl rfl hb0 (sel_some hb0 hb1) ?_
                refine rs_fa_r rfl rfl rfl ?_
                refine rs_ld_r rfl rfl rfl ?_
                cases h142 : (selF ls (w.getD k 0)).touched
                · skip
                  refine rs_mv rfl rfl ?_
                  refine rs_skip rfl ?_
                  refine rs_skip rfl ?_
                  refine rs_skip rfl ?_
                  refine rs_pick rfl rfl rfl ?_
                  refine rs_pick rfl rfl rfl ?_
                  refine rs_mv rfl rfl ?_
                  refine rs_nil fun _ => ?_
                  exact ⟨rfl, weak_to (.cons rfl sm (.cons rfl sm (.cons rfl sm (.cons rfl sm (.cons rfl sm (.cons rfl sm (.cons rfl sm (.cons rfl sm (.cons rfl sm (.cons rfl (rc_eq (by rw [wholeV_succ, h124]; simp only [lostB, keepB, newL, nfB]; rw [h130, h133, h142]; rfl) rfl) (.cons rfl sm (.cons rfl sm (.cons rfl sm (.cons rfl sm (.nil))))))))))))))) (.keep (rfl) rfl (.keep (rfl) rfl (.keep (rfl) rfl (.keep (rfl) rfl (.keep (rfl) rfl (.keep (rfl) rfl (.keep (rfl) rfl (.nil)))))))) (fun i h => by cases h)⟩
                · skip
                  refine rs_mv rfl rfl ?_
                  refine rs_fa_p rfl rfl ?_
                  refine rs_ld_p rfl rfl rfl rfl rfl ?_
                  cases h145 : ((true || bitB b1 k) && bitZ b2 k)
                  · skip
                    refine rs_not rfl rfl ?_
                    refine rs_pick rfl rfl rfl ?_
                    refine rs_pick rfl rfl rfl ?_
                    refine rs_mv rfl rfl ?_
                    refine rs_nil fun _ => ?_
                    exact ⟨rfl, weak_to (.cons rfl sm (.cons rfl sm (.cons rfl sm (.cons rfl sm (.cons rfl sm (.cons rfl sm (.cons rfl sm (.cons rfl sm (.cons rfl sm (.cons rfl (rc_eq (by rw [wholeV_succ, h124]; simp only [lostB, keepB, newL, nfB]; rw [h130, h133, h142, h145]; rfl) rfl) (.cons rfl sm (.cons rfl sm (.cons rfl sm (.cons rfl sm (.nil))))))))))))))) (.keep (rfl) rfl (.keep (rfl) rfl (.keep (rfl) rfl (.keep (rfl) rfl (.keep (rfl) rfl (.keep (rfl) rfl (.keep (rfl) rfl (.nil)))))))) (fun i h => by cases h)⟩
                  · skip
                    refine rs_not rfl rfl ?_
                    refine rs_pick rfl rfl rfl ?_
                    refine rs_pick rfl rfl rfl ?_
                    refine rs_mv rfl rfl ?_
                    refine rs_nil fun _ => ?_
                    exact ⟨rfl, weak_to (.cons rfl sm (.cons rfl sm (.cons rfl sm (.cons rfl sm (.cons rfl sm (.cons rfl sm (.cons rfl sm (.cons rfl sm (.cons rfl sm (.cons rfl (rc_eq (by rw [wholeV_succ, h124]; simp only [lostB, keepB, newL, nfB]; rw [h130, h133, h142, h145]; rfl) rfl) (.cons rfl sm (.cons rfl sm (.cons rfl sm (.cons rfl sm (.nil))))))))))))))) (.keep (rfl) rfl (.keep (rfl) rfl (.keep (rfl) rfl (.keep (rfl) rfl (.keep (rfl) rfl (.keep (rfl) rfl (.keep (rfl) rfl (.nil)))))))) (fun i h => by cases h)⟩
          · skip
            refine rs_mv rfl rfl ?_
            refine rs_skip rfl ?_
            refine rs_skip rfl ?_
            refine rs_skip rfl ?_
            refine rs_skip rfl ?_
            refine rs_skip rfl ?_
            refine rs_skip rfl ?_
            refine rs_skip rfl ?_
            refine rs_skip rfl ?_
            refine rs_skip rfl ?_
            refine rs_skip rfl ?_
            refine rs_pick rfl rfl rfl ?_
            refine rs_mv rfl rfl ?_
            refine rs_skip rfl ?_
            refine rs_skip rfl ?_
            refine rs_skip rfl ?_
            refine rs_skip rfl ?_
            refine rs_skip rfl ?_
            refine rs_skip rfl ?_
            refine rs_skip rfl ?_
            refine rs_skip rfl ?_
            refine rs_skip rfl ?_
            refine rs_skip rfl ?_
            refine rs_pick rfl rfl rfl ?_
            refine rs_mv rfl rfl ?_
            refine rs_nil fun _ => ?_
            exact ⟨rfl, weak_to (.cons rfl sm (.cons rfl sm (.cons rfl sm (.cons rfl sm (.cons rfl sm (.cons rfl sm (.cons rfl sm (.cons rfl sm (.cons rfl sm (.cons rfl (rc_eq (by rw [wholeV_succ, h124]; rfl) rfl) (.cons rfl sm (.cons rfl sm (.cons rfl sm (.cons rfl sm (.nil))))))))))))))) (.keep (rfl) rfl (.keep (rfl) rfl (.keep (rfl) rfl (.keep (rfl) rfl (.keep (rfl) rfl (.keep (rfl) rfl (.keep (rfl) rfl (.nil)))))))) (fun i h => by cases h)⟩
        · skip
          refine aw_draw hmix ?_
          refine rs_fa_p rfl rfl ?_
          refine rs_ld_p rfl rfl rfl rfl rfl ?_
          refine rs_mv rfl rfl ?_
          refine rs_mv rfl rfl ?_
          refine rs_mv rfl rfl ?_
          refine rs_ld_pa rfl rfl rfl rfl (Nat.le_of_ble_eq_true rfl) rfl ?_
          refine rs_ld_pa rfl rfl rfl rfl (Nat.le_of_ble_eq_true rfl) rfl ?_
          refine rs_ix_si rfl rfl rfl rfl (by omega) (by rw [List.length_map]; omega) ?_
          refine rs_st_m (f := cLf) (xs := workS ls w b0 b1 b2 k) (t := k) (v := newL ls w b0 b1 b2 k) (fl' := true) rfl rfl rfl rfl (by rw [work_len]; omega) rfl rfl (Nat.le_of_ble_eq_true rfl) rfl rfl ?_
          refine rs_ix_si rfl rfl rfl rfl hb0 hb1 ?_
          refine rs_st_m (f := cLf) (xs := chgS ls w b0 b1 b2 k) (t := (w.getD k 0).toNat) (v := newL ls w b0 b1 b2 k) (fl' := true) rfl rfl rfl rfl (by rw [chg_len]; omega) rfl rfl (Nat.le_of_ble_eq_true rfl) rfl rfl ?_
          refine rs_nil ⟨by kernel_rfl, fun _ => ?_⟩
          refine in_n (th_n (aw_reg (rs_add rfl rfl rfl (by omega) ?_)))
          refine rs_mv rfl rfl ?_
          refine rs_nil fun _ => (th_n ?_)
          exact ⟨k + 1, by omega, by omega, weak_to (.cons rfl sm (.cons rfl sm (.cons rfl sm (.cons rfl sm (.cons rfl sm (.cons rfl sm (.cons rfl sm (.cons rfl sm (.cons rfl sm (.cons rfl sm (.cons rfl sm (.nil)))))))))))) (.keep (rfl) rfl (.keep (rfl) rfl (.keep (rfl) rfl (.keep (rfl) rfl (.keep (rfl) rfl (.keep (rfl) rfl (.nil))))))) (fun i h => by cases h)⟩
  · replace h71 := of_decide_eq_false h71
    refine aw_exit ?_
    refine th_e ?_
    refine th_e ?_
    refine in_hit ?_
    refine th_n (aw_seq ?_)
    obtain rfl : k = w.length := by omega
    refine aw_reg (rs_ld_pa rfl rfl rfl rfl (Nat.le_of_ble_eq_true rfl) rfl ?_)
    refine rs_calln [8, 12] rfl rfl (vc27 (ls.length : Int) (workS ls w b0 b1 b2 w.length) ((hidA ls.length w).map (hidT ls)) (work_ok hl hw)) (.cons (hv_agg (.cons (hv_same rfl) (.cons (hv_slm (f := cLf) (xs := (workS ls w b0 b1 b2 w.length)) (by simp) rfl (by rw [work_len, List.length_map])) (.cons (hv_slm (f := cS) (xs := ((hidA ls.length w).map (hidT ls))) (by simp) rfl rfl) .nil)))) (.nil)) rfl ?_
    rw [root_chg hl hw]
    refine rs_mv rfl rfl ?_
    refine rs_ext rfl rfl rfl ?_
    refine rs_ext rfl rfl rfl ?_
    refine rs_mv rfl rfl ?_
    refine rs_mv rfl rfl ?_
    refine rs_nil fun _ => (th_n (aw_seq (aw_reg (rs_mv rfl rfl ?_))))
    refine rs_nil fun _ => (th_n (aw_seq (aw_seq (aw_reg (rs_mv rfl rfl ?_)))))
    refine rs_nil fun _ => (th_n (aw_cond rfl (fun h164 => ?_) (fun h164 => ?_)))
    · skip
      refine aw_reg (rs_mv rfl rfl ?_)
      refine rs_nil fun _ => (th_n (aw_seq (aw_reg (rs_mv rfl rfl ?_))))
      refine rs_mv rfl rfl ?_
      refine rs_calln [67] rfl rfl (vc22_ok (chgS ls w b0 b1 b2 w.length) (chg_ok hl hw _ (Nat.le_refl _)) w (by rw [chg_len]; exact hw)) (.cons (hv_slm (f := cLf) (xs := (chgS ls w b0 b1 b2 w.length)) (by simp) rfl (chg_len _)) (.cons (hv_same rfl) (.nil))) rfl ?_
      rw [show_chg hl hw]
      refine rs_mv rfl rfl ?_
      refine rs_ext rfl rfl rfl ?_
      refine rs_ext rfl rfl rfl ?_
      refine rs_alloc rfl rfl rfl ?_
      refine rs_st rfl rfl rfl rfl rfl rfl rfl (Nat.le_of_ble_eq_true rfl) rfl rfl ?_
      refine rs_mv rfl rfl ?_
      refine rs_nil fun _ => (th_n (aw_seq (aw_reg (rs_mv rfl rfl ?_))))
      refine rs_mv rfl rfl ?_
      refine rs_mv rfl rfl ?_
      refine rs_pick rfl rfl rfl ?_
      refine rs_mv rfl rfl ?_
      refine rs_mv rfl rfl ?_
      refine rs_mv rfl rfl ?_
      refine rs_calln [67] rfl rfl (vc19 (chgS ls w b0 b1 b2 w.length) (chg_ok hl hw _ (Nat.le_refl _)).ls) (.cons (hv_slm (f := cLf) (xs := (chgS ls w b0 b1 b2 w.length)) (by simp) rfl (chg_len _)) (.nil)) rfl ?_
      refine rs_seq (r := true) rfl rfl rfl (rootF_8 (chg_ok hl hw _ (Nat.le_refl _))) (rootF_8 (chg_ok hl hw _ (Nat.le_refl _))) (by simp) ?_
      refine rs_pick rfl rfl rfl ?_
      refine rs_mv rfl rfl ?_
      refine rs_ld_pa rfl rfl rfl rfl (Nat.le_of_ble_eq_true rfl) rfl ?_
      refine rs_ld_pa rfl rfl rfl rfl (Nat.le_of_ble_eq_true rfl) rfl ?_
      refine rs_calln [8, 12] rfl rfl (vc29 (ls.length : Int) (w.map (selF ls)) ((hidA ls.length w).map (hidT ls)) (show_ok hl hw) (ls.length : Int) (workS ls w b0 b1 b2 w.length) ((hidA ls.length w).map (hidT ls)) (work_ok hl hw)) (.cons (hv_same rfl) (.cons (hv_agg (.cons (hv_same rfl) (.cons (hv_slm (f := cLf) (xs := (workS ls w b0 b1 b2 w.length)) (by simp) rfl (by rw [work_len, List.length_map])) (.cons (hv_slm (f := cS) (xs := ((hidA ls.length w).map (hidT ls))) (by simp) rfl rfl) .nil)))) (.nil))) rfl ?_
      rw [change_chg hl hw, h164, if_pos rfl]
      refine rs_mv rfl rfl ?_
      refine rs_cmp_t rfl rfl rfl rfl rfl ?_
      refine rs_pick rfl rfl rfl ?_
      refine rs_mv rfl rfl ?_
      refine rs_mv rfl rfl ?_
      refine rs_cmp_t rfl rfl rfl rfl rfl ?_
      refine rs_pick rfl rfl rfl ?_
      refine rs_mv rfl rfl ?_
      refine rs_ld_pa rfl rfl rfl rfl (Nat.le_of_ble_eq_true rfl) rfl ?_
      refine rs_ld_pa rfl rfl rfl rfl (Nat.le_of_ble_eq_true rfl) rfl ?_
      refine rs_calln [8, 12] rfl rfl (vc24 (ls.length : Int) (workS ls w b0 b1 b2 w.length) ((hidA ls.length w).map (hidT ls)) (work_ok hl hw) (ls.length : Int) (workS ls w b0 b1 b2 w.length) ((hidA ls.length w).map (hidT ls)) (work_ok hl hw)) (.cons (hv_same rfl) (.cons (hv_agg (.cons (hv_same rfl) (.cons (hv_slm (f := cLf) (xs := (workS ls w b0 b1 b2 w.length)) (by simp) rfl (by rw [work_len, List.length_map])) (.cons (hv_slm (f := cS) (xs := ((hidA ls.length w).map (hidT ls))) (by simp) rfl rfl) .nil)))) (.nil))) rfl ?_
      rw [decide_eq_true rfl]
      refine rs_pick rfl rfl rfl ?_
      refine rs_mv rfl rfl ?_
      refine rs_nil fun _ => (th_n (aw_ret ?_))
      exact ret_pure rfl rfl rfl (.inr rfl)
    · skip
      refine aw_skip (th_n (aw_seq (aw_reg (rs_mv rfl rfl ?_))))
      refine rs_mv rfl rfl ?_
      refine rs_calln [67] rfl rfl (vc22_ok (chgS ls w b0 b1 b2 w.length) (chg_ok hl hw _ (Nat.le_refl _)) w (by rw [chg_len]; exact hw)) (.cons (hv_slm (f := cLf) (xs := (chgS ls w b0 b1 b2 w.length)) (by simp) rfl (chg_len _)) (.cons (hv_same rfl) (.nil))) rfl ?_
      rw [show_chg hl hw]
      refine rs_mv rfl rfl ?_
      refine rs_ext rfl rfl rfl ?_
      refine rs_ext rfl rfl rfl ?_
      refine rs_alloc rfl rfl rfl ?_
      refine rs_st rfl rfl rfl rfl rfl rfl rfl (Nat.le_of_ble_eq_true rfl) rfl rfl ?_
      refine rs_mv rfl rfl ?_
      refine rs_nil fun _ => (th_n (aw_seq (aw_reg (rs_mv rfl rfl ?_))))
      refine rs_mv rfl rfl ?_
      refine rs_mv rfl rfl ?_
      refine rs_pick rfl rfl rfl ?_
      refine rs_mv rfl rfl ?_
      refine rs_mv rfl rfl ?_
      refine rs_mv rfl rfl ?_
      refine rs_calln [67] rfl rfl (vc19 (chgS ls w b0 b1 b2 w.length) (chg_ok hl hw _ (Nat.le_refl _)).ls) (.cons (hv_slm (f := cLf) (xs := (chgS ls w b0 b1 b2 w.length)) (by simp) rfl (chg_len _)) (.nil)) rfl ?_
      refine rs_seq (r := true) rfl rfl rfl (rootF_8 (chg_ok hl hw _ (Nat.le_refl _))) (rootF_8 (chg_ok hl hw _ (Nat.le_refl _))) (by simp) ?_
      refine rs_pick rfl rfl rfl ?_
      refine rs_mv rfl rfl ?_
      refine rs_ld_pa rfl rfl rfl rfl (Nat.le_of_ble_eq_true rfl) rfl ?_
      refine rs_ld_pa rfl rfl rfl rfl (Nat.le_of_ble_eq_true rfl) rfl ?_
      refine rs_calln [8, 12] rfl rfl (vc29 (ls.length : Int) (w.map (selF ls)) ((hidA ls.length w).map (hidT ls)) (show_ok hl hw) (ls.length : Int) (workS ls w b0 b1 b2 w.length) ((hidA ls.length w).map (hidT ls)) (work_ok hl hw)) (.cons (hv_same rfl) (.cons (hv_agg (.cons (hv_same rfl) (.cons (hv_slm (f := cLf) (xs := (workS ls w b0 b1 b2 w.length)) (by simp) rfl (by rw [work_len, List.length_map])) (.cons (hv_slm (f := cS) (xs := ((hidA ls.length w).map (hidT ls))) (by simp) rfl rfl) .nil)))) (.nil))) rfl ?_
      rw [change_chg hl hw, h164, if_neg (by decide)]
      refine rs_mv rfl rfl ?_
      refine rs_cmp_t rfl rfl rfl rfl rfl ?_
      refine rs_pick rfl rfl rfl ?_
      refine rs_mv rfl rfl ?_
      refine rs_mv rfl rfl ?_
      refine rs_cmp_t rfl rfl rfl rfl rfl ?_
      refine rs_pick rfl rfl rfl ?_
      refine rs_mv rfl rfl ?_
      refine rs_ld_pa rfl rfl rfl rfl (Nat.le_of_ble_eq_true rfl) rfl ?_
      refine rs_ld_pa rfl rfl rfl rfl (Nat.le_of_ble_eq_true rfl) rfl ?_
      refine rs_calln [8, 12] rfl rfl (vc24 (ls.length : Int) (workS ls w b0 b1 b2 w.length) ((hidA ls.length w).map (hidT ls)) (work_ok hl hw) (ls.length : Int) (workS ls w b0 b1 b2 w.length) ((hidA ls.length w).map (hidT ls)) (work_ok hl hw)) (.cons (hv_same rfl) (.cons (hv_agg (.cons (hv_same rfl) (.cons (hv_slm (f := cLf) (xs := (workS ls w b0 b1 b2 w.length)) (by simp) rfl (by rw [work_len, List.length_map])) (.cons (hv_slm (f := cS) (xs := ((hidA ls.length w).map (hidT ls))) (by simp) rfl rfl) .nil)))) (.nil))) rfl ?_
      rw [decide_eq_true rfl]
      refine rs_pick rfl rfl rfl ?_
      refine rs_mv rfl rfl ?_
      refine rs_nil fun _ => (th_n (aw_ret ?_))
      exact ret_pure rfl rfl rfl (.inr rfl)
end Go.Proofs.YthfhaoogcpfboaaGreat

/-! The arguments of the laws of reveal, as they are read. -/
namespace Go.Proofs.YthfhaoogcpfboaaGreat
open Go.RowKit Go.WideShapes Go.ChangeShapes Go.ChangeAt
set_option maxRecDepth 100000
theorem own_knob : ownKnob Tryz.prog.godebug = none := by kernel_rfl
theorem laid_out : laidOutB Tryz.prog = true := by kernel_rfl
theorem rd_i {H : Type} (d : DataW H) (h : Gd (.int .i64) d) : ∃ n : Int, True ∧ avD (.int .i64) d = ci n := by
  obtain ⟨n, _, e⟩ := rd_int d h
  exact ⟨n, trivial, e⟩
end Go.Proofs.YthfhaoogcpfboaaGreat
namespace Go.Proofs.YthfhaoogcpfboaaGreat
open Go.RowKit Go.WideShapes Go.ChangeShapes Go.ChangeAt
set_option maxRecDepth 100000
abbrev shs5 : List Sh := [.sl 1 (.int .i64), .int .i64, .arr 3 (.int .i64)]
theorem lifted5 (os : Os) (started : os.Started) (H : Type) (enc : TypeId × Value → H) :
    ReturnsInHanded {} Tryz.checked os 5 .any (Rows.revealComposesSpec.pre6 enc Tryz.prog Tryz.f5 Rows.revealComposesRow.domain false) (Rows.revealComposesSpec.post enc Tryz.prog Tryz.f5 false true false false) := by
  refine law_row (C := Tryz.checked) own_knob started (by kernel_rfl) Tryz.func5 laid_out rfl (tb := 4) rfl Tryz.underlying4 shs5 (by kernel_rfl) (fun ds h => ?_)
    (ChangeSpec.witness6 (enc := enc) (C := Tryz.checked) false ⟨#[], #[.slice none 0 0, .int .i64 0, .agg #[.int .i64 0, .int .i64 0, .int .i64 0]], []⟩ 8 (by kernel_rfl) (by kernel_rfl) (by kernel_rfl) (by kernel_rfl)) fun ds hg => ⟨false, ?_⟩
  · match ds, h with
    | [_, _, _], _ => rfl
  · simp only [shs5, GdFs] at hg
    obtain ⟨d0, _, rfl, g0, d1, _, rfl, g1, d2, _, rfl, g2, rfl⟩ := hg
    obtain ⟨L, ⟨hl_L, hr_L⟩, e0⟩ := rd_sl _ ci rd_i d0 g0
    obtain ⟨s, _, e1⟩ := rd_i d1 g1
    obtain ⟨q2, ⟨hq2, hr2⟩, e2⟩ := rd_arr _ ci rd_i d2 g2
    match q2, hq2 with
    | [b0, b1, b2], _ =>
      have e : argAs shs5 [d0, d1, d2] = [.rs 1 (L.map ci), iv s, .agg [iv b0, iv b1, iv b2]] := by
        simp only [argAs, shs5]
        simp only [argA]
        rw [e0, e1, e2]
        rfl
      rw [e]
      exact vc5 L (Nat.le_trans hl_L (by decide)) s b0 b1 b2
theorem over5 : Rows.revealComposesRow.holds Tryz.pinned (OpenSpec.ofChange Rows.revealComposesSpec) :=
  OpenClaim.holds_of_wide 5 Tryz.f5 rfl rfl rfl rfl rfl rfl rfl ⟨rfl, rfl, rfl, rfl, rfl⟩ rfl rfl rfl rfl rfl (by kernel_rfl) Tryz.func5 (by kernel_rfl)
    (of_decide_eq_true (by kernel_rfl)) (by unfold Func.isWrapper; rw [if_neg (of_decide_eq_false (by kernel_rfl))]; exact ⟨rfl, rfl⟩)
    (fun os started H enc _ => lifted5 os started H enc)
theorem revealComposes_holds : Rows.RevealComposesSaid := over5
#print axioms revealComposes_holds
end Go.Proofs.YthfhaoogcpfboaaGreat
