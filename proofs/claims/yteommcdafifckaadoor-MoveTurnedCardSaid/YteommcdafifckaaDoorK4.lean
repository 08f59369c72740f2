/-
  Parts of the proof: M4 M5 M6 P1 P5.
-/
import Derived.Test.YteommcdafifckaaDoorK3
set_option linter.unusedVariables false
set_option linter.unusedSimpArgs false

/-! Walks: M4. -/
namespace Go.Proofs.YteommcdafifckaaDoor
open Go.RowKit
set_option maxRecDepth 100000

theorem cenS_eq (m : Mv) : cenS m = sub (add m.fr m.to) m.co := by
  obtain ⟨h1, h2, h3⟩ := prim_mul (sA m)
  unfold cenS plus
  rw [Int.neg_mul, Int.neg_mul, Int.neg_mul, ← h1, ← h2, ← h3]
  simp only [sub, add, sA]
  congr 1 <;> omega
theorem cen_a (m : Mv) : sub m.fr (cenS m) = sA m := by
  rw [cenS_eq]; simp only [sub, add, sA]; congr 1 <;> omega
theorem cen_b (m : Mv) : sub m.to (cenS m) = sB m := by
  rw [cenS_eq]; simp only [sub, add, sB]; congr 1 <;> omega
theorem path_len (m : Mv) : (pathS m).length ≤ 49 := by
  unfold pathS
  split
  · rename_i h
    have hi := ck_in h
    split
    · have := arcV_len (cenS m) (primV (sA m)) (primV (sB m)) (gS (sA m)) (gS (sA m) + 1)
      have := gS_le (n := 48) hi.a48
      omega
    · rw [linQ_len]
      have := gS_le (n := 48) hi.d48
      omega
  · simp
theorem path_0 {m : Mv} (h : ¬ checkS m = 0) : pathS m = [] := if_neg h
theorem path_l {m : Mv} (h : checkS m = 0) (hk : m.kind = 1 ∨ m.kind = 2) : pathS m = linQ m.fr (primV (dS m)) (gS (dS m) + 1) := by unfold pathS; rw [if_pos h, if_neg (by omega)]
theorem path_n {m : Mv} (h : checkS m = 0) (hk : ¬ m.kind = 3) : pathS m = linQ m.fr (primV (dS m)) (gS (dS m) + 1) := by unfold pathS; rw [if_pos h, if_neg hk]
theorem path_a {m : Mv} (h : checkS m = 0) (hk : m.kind = 3) : pathS m = arcV (cenS m) (primV (sA m)) (primV (sB m)) (gS (sA m)) (gS (sA m) + 1) := by unfold pathS; rw [if_pos h, if_pos hk]
def stepsS (m : Mv) : Int := max (((pathS m).length : Int) - 1) 0
def atV (m : Mv) (s : Int) : V3 := if 0 ≤ s then ((pathS m)[s.toNat]?).getD ⟨0, 0, 0⟩ else ⟨0, 0, 0⟩
def atB (m : Mv) (s : Int) : Bool := decide (0 ≤ s ∧ s < (pathS m).length)
theorem at_no {m : Mv} {s : Int} (h : s < 0 ∨ ((pathS m).length : Int) ≤ s) : atV m s = ⟨0, 0, 0⟩ ∧ atB m s = false := by
  refine ⟨?_, decide_eq_false (by omega)⟩
  unfold atV
  split
  · rw [List.getElem?_eq_none (by omega)]; rfl
  · rfl
theorem at_yes {m : Mv} {k : Nat} {v : V3} (h : (pathS m)[k]? = some v) : atV m k = v ∧ atB m k = true := by
  have := lt_of_at h
  refine ⟨?_, decide_eq_true (by omega)⟩
  unfold atV
  rw [if_pos (by omega), Int.toNat_natCast, h]; rfl
def btwB (m : Mv) (i j : Int) : Bool := decide (0 ≤ i ∧ i ≤ j ∧ j < (pathS m).length)
def btwS (m : Mv) (i j : Int) : List V3 := if btwB m i j = true then ((pathS m).drop i.toNat).take ((j + 1).toNat - i.toNat) else []
def elS (m : Mv) (i : Int) : V3 := ((pathS m)[i.toNat]?).getD ⟨0, 0, 0⟩
def outS (m : Mv) (i j : Int) : List V3 := if btwB m i j = true then (if i = j then [elS m i] else if m.kind = 3 then [m.fr, m.co, m.to] else [elS m i, elS m j]) else []
def knS (m : Mv) (i j : Int) : List (V3 × V3) := if btwB m i j = true then (if m.kind = 3 then (btwS m i j).map fun v => (v, v) else [(elS m i, elS m j)]) else []
abbrev cP (p : V3 × V3) : List AV := [iv p.1.x, iv p.1.y, iv p.1.z, iv p.2.x, iv p.2.y, iv p.2.z]
theorem el_at {m : Mv} {i : Int} (h0 : 0 ≤ i) (h : i < (pathS m).length) : (pathS m)[i.toNat]? = some (elS m i) := by
  unfold elS
  rw [List.getElem?_eq_getElem (by omega)]
  rfl
theorem btw_len {m : Mv} {i j : Int} (h : btwB m i j = true) : ((btwS m i j).length : Int) = j - i + 1 := by
  have h1 := of_decide_eq_true h
  unfold btwS
  rw [if_pos h]
  simp
  omega
theorem btw_at {m : Mv} {i j : Int} (h : btwB m i j = true) {k : Nat} (hk : (k : Int) ≤ j - i) : (btwS m i j)[k]? = some (elS m (i + k)) := by
  have h1 := of_decide_eq_true h
  unfold btwS
  rw [if_pos h, List.getElem?_take, if_pos (by omega), List.getElem?_drop, ← el_at (by omega) (by omega)]
  congr 1
  omega
theorem btw_one {m : Mv} {i : Int} (h : btwB m i i = true) : btwS m i i = [elS m i] := by
  have h1 := btw_len h
  have h2 := btw_at (k := 0) h (by omega)
  match hb : btwS m i i, h1, h2 with
  | [v], _, h2 => simpa using h2
  | [], h1, _ => simp at h1
  | v :: w :: l, h1, _ => simp at h1; omega
theorem take_succ_at {α : Type} {l : List α} {k : Nat} {x : α} (h : l[k]? = some x) : l.take (k + 1) = l.take k ++ [x] := by
  obtain ⟨hk, rfl⟩ := List.getElem?_eq_some_iff.1 h
  rw [List.take_succ_eq_append_getElem hk]
/-- The reference's order of an arc's points. -/
def rowR (r i n : Nat) : List (Nat × Nat) := (List.range n).filterMap fun j => if i * i + j * j = r * r then some (i, j) else none
def arcRo (r d : Nat) : List (Nat × Nat) := (List.range d).flatMap fun q => rowR r (r - q) (r + 1)
def arcRV (c a b : V3) (r d j : Nat) : List V3 := (arcRo r d ++ rowR r (r - d) j).map fun p => plus (plus c a p.1) b p.2
theorem rowR_t {r i j : Nat} (h : i * i + j * j = r * r) : rowR r i (j + 1) = rowR r i j ++ [(i, j)] := by
  unfold rowR
  rw [List.range_succ, List.filterMap_append]
  simp [h]
theorem rowR_f {r i j : Nat} (h : ¬ i * i + j * j = r * r) : rowR r i (j + 1) = rowR r i j := by
  unfold rowR
  rw [List.range_succ, List.filterMap_append]
  simp [h]
theorem arcRV_t {c a b : V3} {r d j : Nat} (h : (r - d) * (r - d) + j * j = r * r) : arcRV c a b r d (j + 1) = arcRV c a b r d j ++ [plus (plus c a ((r - d : Nat) : Int)) b j] := by
  unfold arcRV; rw [rowR_t h, ← List.append_assoc, List.map_append]; rfl
theorem arcRV_f {c a b : V3} {r d j : Nat} (h : ¬ (r - d) * (r - d) + j * j = r * r) : arcRV c a b r d (j + 1) = arcRV c a b r d j := by
  unfold arcRV; rw [rowR_f h]
theorem arcRV_row {c a b : V3} {r d : Nat} : arcRV c a b r (d + 1) 0 = arcRV c a b r d (r + 1) := by
  unfold arcRV arcRo
  rw [List.range_succ, List.flatMap_append]
  simp [rowR]
theorem rowR_len (r i : Nat) : ∀ n, (rowR r i n).length ≤ n
  | 0 => Nat.le_refl _
  | n + 1 => by
    have := rowR_len r i n
    by_cases h : i * i + n * n = r * r
    · rw [rowR_t h]; simp; omega
    · rw [rowR_f h]; omega
theorem arcRo_len (r : Nat) : ∀ d, (arcRo r d).length ≤ d * (r + 1)
  | 0 => by simp [arcRo]
  | d + 1 => by
    have := arcRo_len r d
    have h2 := rowR_len r (r - d) (r + 1)
    have e : arcRo r (d + 1) = arcRo r d ++ rowR r (r - d) (r + 1) := by unfold arcRo; rw [List.range_succ, List.flatMap_append]; simp
    rw [e, List.length_append, Nat.add_mul]
    omega
theorem arcRV_len {c a b : V3} {r d j : Nat} (hr : r ≤ 100) (hd : d ≤ r) (hj : j ≤ r + 1) : (arcRV c a b r d j).length ≤ 20000 := by
  have h1 := arcRo_len r d
  have h2 := rowR_len r (r - d) j
  have h3 : d * (r + 1) ≤ 100 * 101 := Nat.mul_le_mul (by omega) (by omega)
  unfold arcRV
  rw [List.length_map, List.length_append]
  omega
theorem arc_same : ∀ r, r < 49 → arcRo r (r + 1) = arcQ r (r + 1) := by decide +kernel
theorem arc_eq {c a b : V3} {r : Nat} (h : r ≤ 48) : arcRV c a b r (r + 1) 0 = arcV c a b r (r + 1) := by
  unfold arcRV arcV
  rw [← arc_same r (by omega)]
  simp [rowR]

def mc56 : MC := (.seq (.reg [⟨(some 2), (.box 40 1 (.t 0)), none, []⟩, ⟨(some 4), (.mv (.c .nils)), none, []⟩] false) (.seq (.seq (.reg [⟨(some 6), (.mv (.t 1)), none, []⟩] false) (.block 0 (.rfunc (.t 6) [7] (.reg [⟨(some 5), (.alloc 26 3 [(.int .i64 0), (.int .i64 0), (.int .i64 0)]), none, []⟩, ⟨none, (.st 3 (.t 5) (.t 7)), none, [0, 0]⟩] false) (.block 1 (.reg [⟨(some 8), (.ld false 1 (.t 2)), none, []⟩, ⟨(some 9), (.ld true 3 (.t 5)), none, []⟩, ⟨(some 10), (.bslice 26 3 [(.int .i64 0), (.int .i64 0), (.int .i64 0)] 1 [(0, (.t 9))]), none, [1]⟩, ⟨(some 11), (.app 26 3 24 [(.int .i64 0), (.int .i64 0), (.int .i64 0)] (.t 8) (.t 10)), none, [0, 2]⟩, ⟨none, (.st 1 (.t 2) (.t 11)), none, [3, 3, 0, 1, 2, 3]⟩] false))))) (.seq (.reg [⟨(some 12), (.ld false 1 (.t 2)), none, []⟩, ⟨(some 4), (.mv (.t 12)), none, [0, 0]⟩] false) .ret)))
theorem mcOk56 : (match Tryd.f53.body with | some c => compC Tryd.prog 13 c | none => none) = some mc56 := by kernel_rfl

theorem fc56_l (m : Mv) (b : V3) (n : Nat) (hm : Bd 100 m.fr) (hb : Bd 100 b) (hn : n ≤ 100) : FC Tryd.prog 53 [.nils, (.fn (.func 75) [.rp [iv ((n : Nat) : Int)], .rp (cM m), .rp (cV b)])] [] (.rs 3 ((linQ m.fr b (n + 1)).map cV)) [] false := by
  refine fc_run (nt := 13) Tryd.func53 rfl rfl mcOk56 (Nat.le_of_ble_eq_true rfl) ?_
  delta mc56
  refine aw_seq ?_
  refine aw_reg ?_
  refine rs_box rfl rfl rfl rfl rfl rfl ?_
  refine rs_mv rfl rfl ?_
  refine rs_nil fun _ => ?_
  refine th_n ?_
  refine aw_seq ?_
  refine aw_seq ?_
  refine aw_reg ?_
  refine rs_mv rfl rfl ?_
  refine rs_nil fun _ => ?_
  refine th_n ?_
  refine aw_block ?_
  refine aw_weak (F0 := [(6, (.fn (.func 75) [.rp [iv ((n : Nat) : Int)], .rp (cM m), .rp (cV b)])), (2, .ptr 2 0 0)]) (H0 := [(2, .cells 40 1 [[.sl 901 0 (([] : List V3)).length]] false), (901, .cells 26 3 ((([] : List V3)).map cV) true)]) (Weak.trans (F1 := [(6, (.fn (.func 75) [.rp [iv ((n : Nat) : Int)], .rp (cM m), .rp (cV b)])), (2, .ptr 2 0 0)]) (H1 := [(2, .cells 40 1 [[.nils]] true)]) (weak_to (.cons rfl (rc_same rfl (.inl rfl)) (.cons rfl (rc_same rfl (.inl rfl)) (.nil))) (.keep (rfl) rfl (.nil)) (fun i h => by cases h)) (Weak.trans (F1 := [(6, (.fn (.func 75) [.rp [iv ((n : Nat) : Int)], .rp (cM m), .rp (cV b)])), (2, .ptr 2 0 0)]) (weak_seed (i := 901) (k := 2) (e := 40) (z := 1) (e2 := 26) (z2 := 3) (fl := true) (fl2 := true) rfl rfl) (weak_to (.cons rfl (rc_same rfl (.inl rfl)) (.cons rfl (rc_same rfl (.inl rfl)) (.nil))) (.keep (rfl) rfl (.keep (rfl) rfl (.nil))) (fun i h => by cases h)))) ?_
  refine aw_rfunc 900 [(2, .cells 40 1 [[.sl 901 0 (([] : List V3)).length]] false), (901, .cells 26 3 ((([] : List V3)).map cV) true)] [(2, .cells 40 1 [[.sl 903 0 (linQ m.fr b (n + 1)).length]] false), (903, .cells 26 3 ((linQ m.fr b (n + 1)).map cV) true), (901, .dead)] (.inl ⟨rfl, rfl⟩) rfl (by kernel_rfl) rfl rfl rfl (.cons rfl (.cons rfl (.nil))) rfl rfl rfl rfl (fun r0 hrec => ⟨r0, (by rw [hrec.state]; intro h; cases h), hrec.pending, fc77_app (.fn (.func 75) [.rp [iv ((n : Nat) : Int)], .rp (cM m), .rp (cV b)]) (fun D => rfl) m b n hm hb hn r0 hrec⟩) ?_
  refine in_n ?_
  refine th_n ?_
  refine aw_seq ?_
  refine aw_reg ?_
  refine rs_ld_p rfl rfl rfl rfl rfl ?_
  refine rs_mv rfl rfl ?_
  refine rs_nil fun _ => ?_
  refine th_n ?_
  refine aw_ret ?_
  exact ret_new rfl (rc_frz rfl rfl rfl (fun _ => rfl)) .nil

def mc53 : MC := (.seq (.reg [⟨(some 2), (.mv (.c .nils)), none, []⟩] false) (.seq (.reg [⟨(some 3), (.mv (.t 0)), none, []⟩, ⟨(some 4), (.call 53 [(.c .nils), (.t 3)]), none, [0]⟩, ⟨(some 2), (.mv (.t 4)), none, [1, 1, 0, 1]⟩] false) .ret))
theorem mcOk53 : (match Tryd.f45.body with | some c => compC Tryd.prog 5 c | none => none) = some mc53 := by kernel_rfl

theorem fc53_l (m : Mv) (b : V3) (n : Nat) (hm : Bd 100 m.fr) (hb : Bd 100 b) (hn : n ≤ 100) : FC Tryd.prog 45 [(.fn (.func 75) [.rp [iv ((n : Nat) : Int)], .rp (cM m), .rp (cV b)])] [] (.rs 3 ((linQ m.fr b (n + 1)).map cV)) [] true := by
  refine fc_run (nt := 5) Tryd.func45 rfl rfl mcOk53 (Nat.le_of_ble_eq_true rfl) ?_
  delta mc53
  refine aw_seq ?_
  refine aw_reg ?_
  refine rs_mv rfl rfl ?_
  refine rs_nil fun _ => ?_
  refine th_n ?_
  refine aw_seq ?_
  refine aw_reg ?_
  refine rs_mv rfl rfl ?_
  refine rs_calln [] rfl rfl (fc56_l m b n hm hb hn) (.cons (hv_same rfl) (.cons (hv_same rfl) (.nil))) rfl ?_
  refine rs_mv rfl rfl ?_
  refine rs_nil fun _ => ?_
  refine th_n ?_
  refine aw_ret ?_
  exact ret_pure rfl rfl rfl (.inl rfl)

theorem fc56_a (c a b : V3) (r : Nat) (hc : Bd 100 c) (ha : Bd 100 a) (hb : Bd 100 b) (hr : r ≤ 100) : FC Tryd.prog 53 [.nils, (.fn (.func 85) [.rp [iv ((r : Nat) : Int)], .rp (cV c), .rp (cV a), .rp (cV b)])] [] (.rs 3 ((arcV c a b r (r + 1)).map cV)) [] false := by
  refine fc_run (nt := 13) Tryd.func53 rfl rfl mcOk56 (Nat.le_of_ble_eq_true rfl) ?_
  delta mc56
  refine aw_seq ?_
  refine aw_reg ?_
  refine rs_box rfl rfl rfl rfl rfl rfl ?_
  refine rs_mv rfl rfl ?_
  refine rs_nil fun _ => ?_
  refine th_n ?_
  refine aw_seq ?_
  refine aw_seq ?_
  refine aw_reg ?_
  refine rs_mv rfl rfl ?_
  refine rs_nil fun _ => ?_
  refine th_n ?_
  refine aw_block ?_
  refine aw_weak (F0 := [(6, (.fn (.func 85) [.rp [iv ((r : Nat) : Int)], .rp (cV c), .rp (cV a), .rp (cV b)])), (2, .ptr 2 0 0)]) (H0 := [(2, .cells 40 1 [[.sl 901 0 (([] : List V3)).length]] false), (901, .cells 26 3 ((([] : List V3)).map cV) true)]) (Weak.trans (F1 := [(6, (.fn (.func 85) [.rp [iv ((r : Nat) : Int)], .rp (cV c), .rp (cV a), .rp (cV b)])), (2, .ptr 2 0 0)]) (H1 := [(2, .cells 40 1 [[.nils]] true)]) (weak_to (.cons rfl (rc_same rfl (.inl rfl)) (.cons rfl (rc_same rfl (.inl rfl)) (.nil))) (.keep (rfl) rfl (.nil)) (fun i h => by cases h)) (Weak.trans (F1 := [(6, (.fn (.func 85) [.rp [iv ((r : Nat) : Int)], .rp (cV c), .rp (cV a), .rp (cV b)])), (2, .ptr 2 0 0)]) (weak_seed (i := 901) (k := 2) (e := 40) (z := 1) (e2 := 26) (z2 := 3) (fl := true) (fl2 := true) rfl rfl) (weak_to (.cons rfl (rc_same rfl (.inl rfl)) (.cons rfl (rc_same rfl (.inl rfl)) (.nil))) (.keep (rfl) rfl (.keep (rfl) rfl (.nil))) (fun i h => by cases h)))) ?_
  refine aw_rfunc 900 [(2, .cells 40 1 [[.sl 901 0 (([] : List V3)).length]] false), (901, .cells 26 3 ((([] : List V3)).map cV) true)] [(2, .cells 40 1 [[.sl 903 0 (arcV c a b r (r + 1)).length]] false), (903, .cells 26 3 ((arcV c a b r (r + 1)).map cV) true), (901, .dead)] (.inl ⟨rfl, rfl⟩) rfl (by kernel_rfl) rfl rfl rfl (.cons rfl (.cons rfl (.nil))) rfl rfl rfl rfl (fun r0 hrec => ⟨r0, (by rw [hrec.state]; intro h; cases h), hrec.pending, fc85_app (.fn (.func 85) [.rp [iv ((r : Nat) : Int)], .rp (cV c), .rp (cV a), .rp (cV b)]) (fun D => rfl) c a b r hc ha hb hr r0 hrec⟩) ?_
  refine in_n ?_
  refine th_n ?_
  refine aw_seq ?_
  refine aw_reg ?_
  refine rs_ld_p rfl rfl rfl rfl rfl ?_
  refine rs_mv rfl rfl ?_
  refine rs_nil fun _ => ?_
  refine th_n ?_
  refine aw_ret ?_
  exact ret_new rfl (rc_frz rfl rfl rfl (fun _ => rfl)) .nil

theorem fc53_a (c a b : V3) (r : Nat) (hc : Bd 100 c) (ha : Bd 100 a) (hb : Bd 100 b) (hr : r ≤ 100) : FC Tryd.prog 45 [(.fn (.func 85) [.rp [iv ((r : Nat) : Int)], .rp (cV c), .rp (cV a), .rp (cV b)])] [] (.rs 3 ((arcV c a b r (r + 1)).map cV)) [] true := by
  refine fc_run (nt := 5) Tryd.func45 rfl rfl mcOk53 (Nat.le_of_ble_eq_true rfl) ?_
  delta mc53
  refine aw_seq ?_
  refine aw_reg ?_
  refine rs_mv rfl rfl ?_
  refine rs_nil fun _ => ?_
  refine th_n ?_
  refine aw_seq ?_
  refine aw_reg ?_
  refine rs_mv rfl rfl ?_
  refine rs_calln [] rfl rfl (fc56_a c a b r hc ha hb hr) (.cons (hv_same rfl) (.cons (hv_same rfl) (.nil))) rfl ?_
  refine rs_mv rfl rfl ?_
  refine rs_nil fun _ => ?_
  refine th_n ?_
  refine aw_ret ?_
  exact ret_pure rfl rfl rfl (.inl rfl)

def mc43 : MC := (.seq (.reg [⟨(some 1), (.box 28 11 (.t 0)), none, []⟩, ⟨(some 2), (.mv (.c .nils)), none, []⟩] false) (.seq (.seq (.reg [⟨(some 3), (.ld true 11 (.t 1)), none, []⟩, ⟨(some 4), (.call 17 [(.t 3)]), none, [0]⟩, ⟨(some 5), (.bin .neq (.t 4) (.c (.int .i64 0))), none, [1]⟩] false) (.cond (.t 5) (.seq (.reg [⟨(some 2), (.mv (.c .nils)), none, []⟩] false) .ret) .skip)) (.seq (.reg [⟨(some 6), (.ld true 11 (.t 1)), none, []⟩, ⟨(some 7), (.call 33 [(.t 6)]), none, [0]⟩, ⟨(some 8), (.inv "collet/move.steps" (.t 7) []), none, [1, 1]⟩, ⟨(some 9), (.call 45 [(.t 8)]), none, [2, 2]⟩, ⟨(some 2), (.mv (.t 9)), none, [3, 3, 0, 1, 2, 3]⟩] false) .ret)))
theorem mcOk43 : (match Tryd.f32.body with | some c => compC Tryd.prog 10 c | none => none) = some mc43 := by kernel_rfl

theorem fc43_l (m : Mv) (hk : m.kind = 1 ∨ m.kind = 2) : FC Tryd.prog 32 [aM m] [] (.rs 3 ((pathS m).map cV)) [] true := by
  refine fc_run (nt := 10) Tryd.func32 rfl rfl mcOk43 (Nat.le_of_ble_eq_true rfl) ?_
  delta mc43
  refine aw_seq ?_
  refine aw_reg ?_
  refine rs_box rfl rfl rfl rfl rfl rfl ?_
  refine rs_mv rfl rfl ?_
  refine rs_nil fun _ => ?_
  refine th_n ?_
  refine aw_seq ?_
  refine aw_seq ?_
  refine aw_reg ?_
  refine rs_ld_pa rfl rfl rfl rfl (Nat.le_of_ble_eq_true rfl) rfl ?_
  refine rs_calln [] rfl rfl (fc12 m) (.cons (hv_same rfl) (.nil)) rfl ?_
  refine rs_neq rfl rfl rfl ?_
  refine rs_nil fun _ => ?_
  refine th_n ?_
  refine aw_cond rfl (fun h5 => ?_) (fun h5 => ?_)
  · replace h5 := of_decide_eq_true h5
    refine aw_seq ?_
    refine aw_reg ?_
    refine rs_mv rfl rfl ?_
    refine rs_nil fun _ => ?_
    refine th_n ?_
    refine aw_ret ?_
    refine th_r ?_
    (rw [path_0 h5]; exact ret_new rfl rc_nils .nil)
  · replace h5 := of_decide_eq_false h5
    have h0 : checkS m = 0 := by omega
    have hi := ck_in h0
    have hg1 := gS_le (n := 48) hi.d48
    have hp := path_l h0 hk
    rw [hp]
    refine aw_skip ?_
    refine th_n ?_
    refine aw_seq ?_
    refine aw_reg ?_
    refine rs_ld_pa rfl rfl rfl rfl (Nat.le_of_ble_eq_true rfl) rfl ?_
    refine rs_calln [] rfl rfl (fc39_l m hk) (.cons (hv_same rfl) (.nil)) rfl ?_
    refine rs_invn [] rfl rfl (by kernel_rfl) (by kernel_rfl) rfl (fc76 m hi) (.cons (hv_same rfl) (.nil)) rfl ?_
    refine rs_callo [] rfl rfl (fc53_l m (primV (dS m)) (gS (dS m)) (hi.fr.mono (by omega)) ((prim_bd hi.d48).mono (by omega)) (by omega)) (.cons (hv_same rfl) (.nil)) (.nil) rfl rfl rfl ?_
    refine rs_mv rfl rfl ?_
    refine rs_nil fun _ => ?_
    refine th_n ?_
    refine aw_ret ?_
    exact ret_pure rfl rfl rfl (.inl rfl)

theorem fc43_a (m : Mv) (hk : m.kind = 3) : FC Tryd.prog 32 [aM m] [] (.rs 3 ((pathS m).map cV)) [] true := by
  refine fc_run (nt := 10) Tryd.func32 rfl rfl mcOk43 (Nat.le_of_ble_eq_true rfl) ?_
  delta mc43
  refine aw_seq ?_
  refine aw_reg ?_
  refine rs_box rfl rfl rfl rfl rfl rfl ?_
  refine rs_mv rfl rfl ?_
  refine rs_nil fun _ => ?_
  refine th_n ?_
  refine aw_seq ?_
  refine aw_seq ?_
  refine aw_reg ?_
  refine rs_ld_pa rfl rfl rfl rfl (Nat.le_of_ble_eq_true rfl) rfl ?_
  refine rs_calln [] rfl rfl (fc12 m) (.cons (hv_same rfl) (.nil)) rfl ?_
  refine rs_neq rfl rfl rfl ?_
  refine rs_nil fun _ => ?_
  refine th_n ?_
  refine aw_cond rfl (fun h5 => ?_) (fun h5 => ?_)
  · replace h5 := of_decide_eq_true h5
    refine aw_seq ?_
    refine aw_reg ?_
    refine rs_mv rfl rfl ?_
    refine rs_nil fun _ => ?_
    refine th_n ?_
    refine aw_ret ?_
    refine th_r ?_
    (rw [path_0 h5]; exact ret_new rfl rc_nils .nil)
  · replace h5 := of_decide_eq_false h5
    have h0 : checkS m = 0 := by omega
    have hi := ck_in h0
    have hg1 := gS_le (n := 48) hi.a48
    have hp := path_a h0 hk
    rw [hp]
    refine aw_skip ?_
    refine th_n ?_
    refine aw_seq ?_
    refine aw_reg ?_
    refine rs_ld_pa rfl rfl rfl rfl (Nat.le_of_ble_eq_true rfl) rfl ?_
    refine rs_calln [] rfl rfl (fc39_a m hk) (.cons (hv_same rfl) (.nil)) rfl ?_
    refine rs_invn [] rfl rfl (by kernel_rfl) (by kernel_rfl) rfl (fc82 m hi) (.cons (hv_same rfl) (.nil)) rfl ?_
    refine rs_callo [] rfl rfl (fc53_a (cenS m) (primV (sA m)) (primV (sB m)) (gS (sA m)) hi.c ((prim_bd hi.a48).mono (by omega)) ((prim_bd hi.b48).mono (by omega)) (by omega)) (.cons (hv_same rfl) (.nil)) (.nil) rfl rfl rfl ?_
    refine rs_mv rfl rfl ?_
    refine rs_nil fun _ => ?_
    refine th_n ?_
    refine aw_ret ?_
    exact ret_pure rfl rfl rfl (.inl rfl)

theorem fc43_n (m : Mv) (hk : ¬ m.kind = 1 ∧ ¬ m.kind = 2 ∧ ¬ m.kind = 3) : FC Tryd.prog 32 [aM m] [] (.rs 3 ((pathS m).map cV)) [] true := by
  refine fc_run (nt := 10) Tryd.func32 rfl rfl mcOk43 (Nat.le_of_ble_eq_true rfl) ?_
  delta mc43
  refine aw_seq ?_
  refine aw_reg ?_
  refine rs_box rfl rfl rfl rfl rfl rfl ?_
  refine rs_mv rfl rfl ?_
  refine rs_nil fun _ => ?_
  refine th_n ?_
  refine aw_seq ?_
  refine aw_seq ?_
  refine aw_reg ?_
  refine rs_ld_pa rfl rfl rfl rfl (Nat.le_of_ble_eq_true rfl) rfl ?_
  refine rs_calln [] rfl rfl (fc12 m) (.cons (hv_same rfl) (.nil)) rfl ?_
  refine rs_cmp_t rfl rfl rfl rfl (by rw [ck_n hk]; decide) ?_
  refine rs_nil fun _ => ?_
  refine th_n ?_
  refine aw_cond rfl (fun _ => ?_) (fun h => by cases h)
  refine aw_seq ?_
  refine aw_reg ?_
  refine rs_mv rfl rfl ?_
  refine rs_nil fun _ => ?_
  refine th_n ?_
  refine aw_ret ?_
  refine th_r ?_
  rw [path_0 (by rw [ck_n hk]; decide)]
  exact ret_new rfl rc_nils .nil

theorem fc43 (m : Mv) : FC Tryd.prog 32 [aM m] [] (.rs 3 ((pathS m).map cV)) [] true := by
  by_cases h1 : m.kind = 1 ∨ m.kind = 2
  · exact fc43_l m h1
  · by_cases h3 : m.kind = 3
    · exact fc43_a m h3
    · exact fc43_n m (by omega)

def mc14 : MC := (.seq (.reg [⟨(some 1), (.box 28 11 (.t 0)), none, []⟩, ⟨(some 2), (.mv (.c (.int .i64 0))), none, []⟩] false) (.seq (.reg [⟨(some 3), (.ld true 11 (.t 1)), none, []⟩, ⟨(some 4), (.call 32 [(.t 3)]), none, [0]⟩, ⟨(some 5), (.len (.t 4)), none, [1]⟩, ⟨(some 6), (.bin .sub (.t 5) (.c (.int .i64 1))), none, [2]⟩, ⟨(some 7), (.mx (.t 6) (.c (.int .i64 0))), none, [3]⟩, ⟨(some 2), (.mv (.t 7)), none, [4, 1, 0, 1, 2, 3, 4]⟩] false) .ret))
theorem mcOk14 : (match Tryd.f10.body with | some c => compC Tryd.prog 8 c | none => none) = some mc14 := by kernel_rfl

theorem fc14 (m : Mv) : FC Tryd.prog 10 [aM m] [] (iv (stepsS m)) [] false := by
  have hl := path_len m
  refine fc_run (nt := 8) Tryd.func10 rfl rfl mcOk14 (Nat.le_of_ble_eq_true rfl) ?_
  delta mc14
  refine aw_seq ?_
  refine aw_reg ?_
  refine rs_box rfl rfl rfl rfl rfl rfl ?_
  refine rs_mv rfl rfl ?_
  refine rs_nil fun _ => ?_
  refine th_n ?_
  refine aw_seq ?_
  refine aw_reg ?_
  refine rs_ld_pa rfl rfl rfl rfl (Nat.le_of_ble_eq_true rfl) rfl ?_
  refine rs_callo [] rfl rfl (fc43 m) (.cons (hv_same rfl) (.nil)) (.nil) rfl rfl rfl ?_
  refine rs_len_m rfl rfl ?_
  refine rs_sub rfl rfl rfl (by omega) ?_
  refine rs_mx rfl rfl rfl rfl ?_
  refine rs_mv rfl rfl ?_
  refine rs_nil fun _ => ?_
  refine th_n ?_
  refine aw_ret ?_
  exact ret_pure rfl rfl rfl (.inr rfl)

def mc17 : MC := (.seq (.reg [⟨(some 2), (.box 28 11 (.t 0)), none, []⟩, ⟨(some 3), (.box 3 1 (.t 1)), none, []⟩, ⟨(some 4), (.alloc 26 3 [(.int .i64 0), (.int .i64 0), (.int .i64 0)]), none, []⟩, ⟨(some 5), (.alloc 4 1 [(.bool false)]), none, []⟩] false) (.seq (.reg [⟨(some 6), (.alloc 3 1 [(.int .i64 0)]), none, []⟩, ⟨none, (.st 1 (.t 6) (.c (.int .i64 0))), none, [0, 0]⟩] false) (.seq (.seq (.reg [⟨(some 8), (.ld true 11 (.t 2)), none, []⟩, ⟨(some 9), (.call 17 [(.t 8)]), none, [0]⟩, ⟨(some 10), (.bin .neq (.t 9) (.c (.int .i64 0))), none, [1]⟩] false) (.cond (.t 10) (.seq (.reg [⟨(some 11), (.build [(.int .i64 0), (.int .i64 0), (.int .i64 0)] []), none, []⟩, ⟨none, (.st 3 (.t 4) (.t 11)), none, [0, 0]⟩, ⟨none, (.st 1 (.t 5) (.c (.bool false))), none, [1, 0, 1]⟩] false) .ret) .skip)) (.seq (.seq (.reg [⟨(some 12), (.ld true 11 (.t 2)), none, []⟩, ⟨(some 13), (.call 33 [(.t 12)]), none, [0]⟩, ⟨(some 14), (.inv "collet/move.steps" (.t 13) []), none, [1, 1]⟩] false) (.block 0 (.rfunc (.t 14) [15] (.reg [⟨(some 7), (.alloc 26 3 [(.int .i64 0), (.int .i64 0), (.int .i64 0)]), none, []⟩, ⟨none, (.st 3 (.t 7) (.t 15)), none, [0, 0]⟩] false) (.block 1 (.seq (.seq (.reg [⟨(some 16), (.ld false 1 (.t 6)), none, []⟩, ⟨(some 17), (.ld false 1 (.t 3)), none, []⟩, ⟨(some 18), (.bin .eql (.t 16) (.t 17)), none, [0, 1]⟩] false) (.cond (.t 18) (.seq (.reg [⟨(some 19), (.ld true 3 (.t 7)), none, []⟩, ⟨none, (.st 3 (.t 4) (.t 19)), none, [0, 0]⟩, ⟨none, (.st 1 (.t 5) (.c (.bool true))), none, [1, 0, 1]⟩] false) .ret) .skip)) (.reg [⟨(some 20), (.ld false 1 (.t 6)), none, []⟩, ⟨(some 21), (.bin .add (.t 20) (.c (.int .i64 1))), none, [0]⟩, ⟨none, (.st 1 (.t 6) (.t 21)), none, [1, 0, 1]⟩] false)))))) (.seq (.reg [⟨(some 22), (.build [(.int .i64 0), (.int .i64 0), (.int .i64 0)] []), none, []⟩, ⟨none, (.st 3 (.t 4) (.t 22)), none, [0, 0]⟩, ⟨none, (.st 1 (.t 5) (.c (.bool false))), none, [1, 0, 1]⟩] false) .ret)))))
theorem mcOk17 : (match Tryd.f12.body with | some c => compC Tryd.prog 23 c | none => none) = some mc17 := by kernel_rfl

theorem fc17_0 (m : Mv) (step : Int) (h0 : ¬ checkS m = 0) : FC Tryd.prog 12 [aM m, iv step] [] (.tup [aV (atV m step), .bool (atB m step)]) [] false := by
  refine fc_run (nt := 23) Tryd.func12 rfl rfl mcOk17 (Nat.le_of_ble_eq_true rfl) ?_
  delta mc17
  refine aw_seq ?_
  refine aw_reg ?_
  refine rs_box rfl rfl rfl rfl rfl rfl ?_
  refine rs_box rfl rfl rfl rfl rfl rfl ?_
  refine rs_alloc rfl rfl rfl ?_
  refine rs_alloc rfl rfl rfl ?_
  refine rs_nil fun _ => ?_
  refine th_n ?_
  refine aw_seq ?_
  refine aw_reg ?_
  refine rs_alloc rfl rfl rfl ?_
  refine rs_st rfl rfl rfl rfl rfl rfl rfl (Nat.le_of_ble_eq_true rfl) rfl rfl ?_
  refine rs_nil fun _ => ?_
  refine th_n ?_
  refine aw_seq ?_
  refine aw_seq ?_
  refine aw_reg ?_
  refine rs_ld_pa rfl rfl rfl rfl (Nat.le_of_ble_eq_true rfl) rfl ?_
  refine rs_calln [] rfl rfl (fc12 m) (.cons (hv_same rfl) (.nil)) rfl ?_
  refine rs_cmp_t rfl rfl rfl rfl h0 ?_
  refine rs_nil fun _ => ?_
  refine th_n ?_
  refine aw_cond rfl (fun _ => ?_) (fun h => by cases h)
  refine aw_seq ?_
  refine aw_reg ?_
  refine rs_build rfl rfl ?_
  refine rs_st rfl rfl rfl rfl rfl rfl rfl (Nat.le_of_ble_eq_true rfl) rfl rfl ?_
  refine rs_st rfl rfl rfl rfl rfl rfl rfl (Nat.le_of_ble_eq_true rfl) rfl rfl ?_
  refine rs_nil fun _ => ?_
  refine th_n ?_
  refine aw_ret ?_
  refine th_r ?_
  obtain ⟨hv, hb⟩ := at_no (m := m) (s := step) (by rw [path_0 h0]; simp; omega)
  rw [hv, hb]
  exact ret_pure rfl rfl rfl (.inr rfl)

theorem fc17_ln (m : Mv) (step : Int) (h0 : checkS m = 0) (hk : m.kind = 1 ∨ m.kind = 2) (hs : step < 0 ∨ ((pathS m).length : Int) ≤ step) : FC Tryd.prog 12 [aM m, iv step] [] (.tup [aV (atV m step), .bool (atB m step)]) [] false := by
  have hi := ck_in h0
  have hg1 := gS_le (n := 48) hi.d48
  have hp := path_l h0 hk
  refine fc_run (nt := 23) Tryd.func12 rfl rfl mcOk17 (Nat.le_of_ble_eq_true rfl) ?_
  delta mc17
  refine aw_seq ?_
  refine aw_reg ?_
  refine rs_box rfl rfl rfl rfl rfl rfl ?_
  refine rs_box rfl rfl rfl rfl rfl rfl ?_
  refine rs_alloc rfl rfl rfl ?_
  refine rs_alloc rfl rfl rfl ?_
  refine rs_nil fun _ => ?_
  refine th_n ?_
  refine aw_seq ?_
  refine aw_reg ?_
  refine rs_alloc rfl rfl rfl ?_
  refine rs_st rfl rfl rfl rfl rfl rfl rfl (Nat.le_of_ble_eq_true rfl) rfl rfl ?_
  refine rs_nil fun _ => ?_
  refine th_n ?_
  refine aw_seq ?_
  refine aw_seq ?_
  refine aw_reg ?_
  refine rs_ld_pa rfl rfl rfl rfl (Nat.le_of_ble_eq_true rfl) rfl ?_
  refine rs_calln [] rfl rfl (fc12 m) (.cons (hv_same rfl) (.nil)) rfl ?_
  refine rs_cmp_f rfl rfl rfl rfl (fun h => h h0) ?_
  refine rs_nil fun _ => ?_
  refine th_n ?_
  refine aw_cond rfl (fun h => by cases h) (fun _ => ?_)
  refine aw_skip ?_
  refine th_n ?_
  refine aw_seq ?_
  refine aw_seq ?_
  refine aw_reg ?_
  refine rs_ld_pa rfl rfl rfl rfl (Nat.le_of_ble_eq_true rfl) rfl ?_
  refine rs_calln [] rfl rfl (fc39_l m hk) (.cons (hv_same rfl) (.nil)) rfl ?_
  refine rs_invn [] rfl rfl (by kernel_rfl) (by kernel_rfl) rfl (fc76 m hi) (.cons (hv_same rfl) (.nil)) rfl ?_
  refine rs_nil fun _ => ?_
  refine th_n ?_
  refine aw_block ?_
  refine aw_weak (F0 := [(14, (.fn (.func 75) [.rp [iv ((gS (dS m) : Nat) : Int)], .rp (cM m), .rp (cV (primV (dS m)))])), (6, .ptr 6 0 0), (3, .ptr 3 0 0), (4, .ptr 4 0 0), (5, .ptr 5 0 0)]) (H0 := [(6, .cells 3 1 [[iv (((0) : Nat) : Int)]] true), (3, .cells 3 1 [[iv step]] true), (4, .cells 26 3 [cV ⟨0, 0, 0⟩] true), (5, .cells 4 1 [[.bool false]] true)]) (weak_to (.cons rfl (rc_same rfl (.inl rfl)) (.cons rfl (rc_same rfl (.inl rfl)) (.cons rfl (rc_same rfl (.inl rfl)) (.cons rfl (rc_same rfl (.inl rfl)) (.cons rfl (rc_same rfl (.inl rfl)) (.nil)))))) (.keep (rfl) rfl (.keep (rfl) rfl (.keep (rfl) rfl (.keep (rfl) rfl (.nil))))) (fun i h => by cases h)) ?_
  refine aw_rfunc 900 [(6, .cells 3 1 [[iv (((0) : Nat) : Int)]] true), (3, .cells 3 1 [[iv step]] true), (4, .cells 26 3 [cV ⟨0, 0, 0⟩] true), (5, .cells 4 1 [[.bool false]] true)] [(6, .cells 3 1 [[iv ((((gS (dS m) + 1)) : Nat) : Int)]] true), (3, .cells 3 1 [[iv step]] true), (4, .cells 26 3 [cV ⟨0, 0, 0⟩] true), (5, .cells 4 1 [[.bool false]] true)] (.inl ⟨rfl, rfl⟩) rfl (by kernel_rfl) rfl rfl rfl (.cons rfl (.cons rfl (.cons rfl (.cons rfl (.nil))))) rfl rfl rfl rfl (fun r0 hrec => ⟨r0, (by rw [hrec.state]; intro h; cases h), hrec.pending, fc77_at_n (.fn (.func 75) [.rp [iv ((gS (dS m) : Nat) : Int)], .rp (cM m), .rp (cV (primV (dS m)))]) (fun D => rfl) step m (primV (dS m)) (gS (dS m)) (hi.fr.mono (by omega)) ((prim_bd hi.d48).mono (by omega)) (by omega) (by rw [hp] at hs; rw [linQ_len] at hs; omega) r0 hrec⟩) ?_
  refine in_n ?_
  refine th_n ?_
  refine aw_seq ?_
  refine aw_reg ?_
  refine rs_build rfl rfl ?_
  refine rs_st rfl rfl rfl rfl rfl rfl rfl (Nat.le_of_ble_eq_true rfl) rfl rfl ?_
  refine rs_st rfl rfl rfl rfl rfl rfl rfl (Nat.le_of_ble_eq_true rfl) rfl rfl ?_
  refine rs_nil fun _ => ?_
  refine th_n ?_
  refine aw_ret ?_
  obtain ⟨hv, hb⟩ := at_no hs
  rw [hv, hb]
  exact ret_pure rfl rfl rfl (.inr rfl)

theorem fc17_ls (m : Mv) (k : Nat) (v : V3) (h0 : checkS m = 0) (hk : m.kind = 1 ∨ m.kind = 2) (hv : (pathS m)[k]? = some v) : FC Tryd.prog 12 [aM m, iv (k : Int)] [] (.tup [aV v, .bool true]) [] false := by
  have hi := ck_in h0
  have hg1 := gS_le (n := 48) hi.d48
  have hp := path_l h0 hk
  rw [hp] at hv
  have hlt := lt_of_at hv
  rw [linQ_len] at hlt
  rw [linQ_at hlt] at hv
  injection hv with hv
  subst hv
  refine fc_run (nt := 23) Tryd.func12 rfl rfl mcOk17 (Nat.le_of_ble_eq_true rfl) ?_
  delta mc17
  refine aw_seq ?_
  refine aw_reg ?_
  refine rs_box rfl rfl rfl rfl rfl rfl ?_
  refine rs_box rfl rfl rfl rfl rfl rfl ?_
  refine rs_alloc rfl rfl rfl ?_
  refine rs_alloc rfl rfl rfl ?_
  refine rs_nil fun _ => ?_
  refine th_n ?_
  refine aw_seq ?_
  refine aw_reg ?_
  refine rs_alloc rfl rfl rfl ?_
  refine rs_st rfl rfl rfl rfl rfl rfl rfl (Nat.le_of_ble_eq_true rfl) rfl rfl ?_
  refine rs_nil fun _ => ?_
  refine th_n ?_
  refine aw_seq ?_
  refine aw_seq ?_
  refine aw_reg ?_
  refine rs_ld_pa rfl rfl rfl rfl (Nat.le_of_ble_eq_true rfl) rfl ?_
  refine rs_calln [] rfl rfl (fc12 m) (.cons (hv_same rfl) (.nil)) rfl ?_
  refine rs_cmp_f rfl rfl rfl rfl (fun h => h h0) ?_
  refine rs_nil fun _ => ?_
  refine th_n ?_
  refine aw_cond rfl (fun h => by cases h) (fun _ => ?_)
  refine aw_skip ?_
  refine th_n ?_
  refine aw_seq ?_
  refine aw_seq ?_
  refine aw_reg ?_
  refine rs_ld_pa rfl rfl rfl rfl (Nat.le_of_ble_eq_true rfl) rfl ?_
  refine rs_calln [] rfl rfl (fc39_l m hk) (.cons (hv_same rfl) (.nil)) rfl ?_
  refine rs_invn [] rfl rfl (by kernel_rfl) (by kernel_rfl) rfl (fc76 m hi) (.cons (hv_same rfl) (.nil)) rfl ?_
  refine rs_nil fun _ => ?_
  refine th_n ?_
  refine aw_block ?_
  refine aw_weak (F0 := [(14, (.fn (.func 75) [.rp [iv ((gS (dS m) : Nat) : Int)], .rp (cM m), .rp (cV (primV (dS m)))])), (6, .ptr 6 0 0), (3, .ptr 3 0 0), (4, .ptr 4 0 0), (5, .ptr 5 0 0)]) (H0 := [(6, .cells 3 1 [[iv (((0) : Nat) : Int)]] true), (3, .cells 3 1 [[iv (k : Int)]] true), (4, .cells 26 3 [cV ⟨0, 0, 0⟩] true), (5, .cells 4 1 [[.bool false]] true)]) (weak_to (.cons rfl (rc_same rfl (.inl rfl)) (.cons rfl (rc_same rfl (.inl rfl)) (.cons rfl (rc_same rfl (.inl rfl)) (.cons rfl (rc_same rfl (.inl rfl)) (.cons rfl (rc_same rfl (.inl rfl)) (.nil)))))) (.keep (rfl) rfl (.keep (rfl) rfl (.keep (rfl) rfl (.keep (rfl) rfl (.nil))))) (fun i h => by cases h)) ?_
  refine aw_rfunc 900 [(6, .cells 3 1 [[iv (((0) : Nat) : Int)]] true), (3, .cells 3 1 [[iv (k : Int)]] true), (4, .cells 26 3 [cV ⟨0, 0, 0⟩] true), (5, .cells 4 1 [[.bool false]] true)] [(6, .cells 3 1 [[iv (((k) : Nat) : Int)]] true), (3, .cells 3 1 [[iv (k : Int)]] true), (4, .cells 26 3 [cV (plus m.fr (primV (dS m)) (k : Int))] true), (5, .cells 4 1 [[.bool true]] true)] (.inr ⟨rfl, rfl⟩) rfl (by kernel_rfl) rfl rfl rfl (.cons rfl (.cons rfl (.cons rfl (.cons rfl (.nil))))) rfl rfl rfl rfl (fun r0 hrec => ⟨{ r0 with state := .done, pending := some .ret }, (by intro h; cases h), rfl, fc77_at_s (.fn (.func 75) [.rp [iv ((gS (dS m) : Nat) : Int)], .rp (cM m), .rp (cV (primV (dS m)))]) (fun D => rfl) (k : Int) m (primV (dS m)) (gS (dS m)) (hi.fr.mono (by omega)) ((prim_bd hi.d48).mono (by omega)) (by omega) k rfl (by omega) r0 hrec⟩) ?_
  refine in_r ?_
  refine th_r ?_
  exact ret_pure rfl rfl rfl (.inr rfl)

theorem fc17_an (m : Mv) (step : Int) (h0 : checkS m = 0) (hk : m.kind = 3) (hs : step < 0 ∨ ((pathS m).length : Int) ≤ step) : FC Tryd.prog 12 [aM m, iv step] [] (.tup [aV (atV m step), .bool (atB m step)]) [] false := by
  have hi := ck_in h0
  have hg1 := gS_le (n := 48) hi.a48
  have hp := path_a h0 hk
  refine fc_run (nt := 23) Tryd.func12 rfl rfl mcOk17 (Nat.le_of_ble_eq_true rfl) ?_
  delta mc17
  refine aw_seq ?_
  refine aw_reg ?_
  refine rs_box rfl rfl rfl rfl rfl rfl ?_
  refine rs_box rfl rfl rfl rfl rfl rfl ?_
  refine rs_alloc rfl rfl rfl ?_
  refine rs_alloc rfl rfl rfl ?_
  refine rs_nil fun _ => ?_
  refine th_n ?_
  refine aw_seq ?_
  refine aw_reg ?_
  refine rs_alloc rfl rfl rfl ?_
  refine rs_st rfl rfl rfl rfl rfl rfl rfl (Nat.le_of_ble_eq_true rfl) rfl rfl ?_
  refine rs_nil fun _ => ?_
  refine th_n ?_
  refine aw_seq ?_
  refine aw_seq ?_
  refine aw_reg ?_
  refine rs_ld_pa rfl rfl rfl rfl (Nat.le_of_ble_eq_true rfl) rfl ?_
  refine rs_calln [] rfl rfl (fc12 m) (.cons (hv_same rfl) (.nil)) rfl ?_
  refine rs_cmp_f rfl rfl rfl rfl (fun h => h h0) ?_
  refine rs_nil fun _ => ?_
  refine th_n ?_
  refine aw_cond rfl (fun h => by cases h) (fun _ => ?_)
  refine aw_skip ?_
  refine th_n ?_
  refine aw_seq ?_
  refine aw_seq ?_
  refine aw_reg ?_
  refine rs_ld_pa rfl rfl rfl rfl (Nat.le_of_ble_eq_true rfl) rfl ?_
  refine rs_calln [] rfl rfl (fc39_a m hk) (.cons (hv_same rfl) (.nil)) rfl ?_
  refine rs_invn [] rfl rfl (by kernel_rfl) (by kernel_rfl) rfl (fc82 m hi) (.cons (hv_same rfl) (.nil)) rfl ?_
  refine rs_nil fun _ => ?_
  refine th_n ?_
  refine aw_block ?_
  refine aw_weak (F0 := [(14, (.fn (.func 85) [.rp [iv ((gS (sA m) : Nat) : Int)], .rp (cV (cenS m)), .rp (cV (primV (sA m))), .rp (cV (primV (sB m)))])), (6, .ptr 6 0 0), (3, .ptr 3 0 0), (4, .ptr 4 0 0), (5, .ptr 5 0 0)]) (H0 := [(6, .cells 3 1 [[iv (((0) : Nat) : Int)]] true), (3, .cells 3 1 [[iv step]] true), (4, .cells 26 3 [cV ⟨0, 0, 0⟩] true), (5, .cells 4 1 [[.bool false]] true)]) (weak_to (.cons rfl (rc_same rfl (.inl rfl)) (.cons rfl (rc_same rfl (.inl rfl)) (.cons rfl (rc_same rfl (.inl rfl)) (.cons rfl (rc_same rfl (.inl rfl)) (.cons rfl (rc_same rfl (.inl rfl)) (.nil)))))) (.keep (rfl) rfl (.keep (rfl) rfl (.keep (rfl) rfl (.keep (rfl) rfl (.nil))))) (fun i h => by cases h)) ?_
  refine aw_rfunc 900 [(6, .cells 3 1 [[iv (((0) : Nat) : Int)]] true), (3, .cells 3 1 [[iv step]] true), (4, .cells 26 3 [cV ⟨0, 0, 0⟩] true), (5, .cells 4 1 [[.bool false]] true)] [(6, .cells 3 1 [[iv ((((arcV (cenS m) (primV (sA m)) (primV (sB m)) (gS (sA m)) (gS (sA m) + 1)).length) : Nat) : Int)]] true), (3, .cells 3 1 [[iv step]] true), (4, .cells 26 3 [cV ⟨0, 0, 0⟩] true), (5, .cells 4 1 [[.bool false]] true)] (.inl ⟨rfl, rfl⟩) rfl (by kernel_rfl) rfl rfl rfl (.cons rfl (.cons rfl (.cons rfl (.cons rfl (.nil))))) rfl rfl rfl rfl (fun r0 hrec => ⟨r0, (by rw [hrec.state]; intro h; cases h), hrec.pending, fc85_at_n (.fn (.func 85) [.rp [iv ((gS (sA m) : Nat) : Int)], .rp (cV (cenS m)), .rp (cV (primV (sA m))), .rp (cV (primV (sB m)))]) (fun D => rfl) step (cenS m) (primV (sA m)) (primV (sB m)) (gS (sA m)) hi.c ((prim_bd hi.a48).mono (by omega)) ((prim_bd hi.b48).mono (by omega)) (by omega) (by rw [hp] at hs; exact hs) r0 hrec⟩) ?_
  refine in_n ?_
  refine th_n ?_
  refine aw_seq ?_
  refine aw_reg ?_
  refine rs_build rfl rfl ?_
  refine rs_st rfl rfl rfl rfl rfl rfl rfl (Nat.le_of_ble_eq_true rfl) rfl rfl ?_
  refine rs_st rfl rfl rfl rfl rfl rfl rfl (Nat.le_of_ble_eq_true rfl) rfl rfl ?_
  refine rs_nil fun _ => ?_
  refine th_n ?_
  refine aw_ret ?_
  obtain ⟨hv, hb⟩ := at_no hs
  rw [hv, hb]
  exact ret_pure rfl rfl rfl (.inr rfl)

theorem fc17_as (m : Mv) (k : Nat) (v : V3) (h0 : checkS m = 0) (hk : m.kind = 3) (hv : (pathS m)[k]? = some v) : FC Tryd.prog 12 [aM m, iv (k : Int)] [] (.tup [aV v, .bool true]) [] false := by
  have hi := ck_in h0
  have hg1 := gS_le (n := 48) hi.a48
  have hp := path_a h0 hk
  rw [hp] at hv
  refine fc_run (nt := 23) Tryd.func12 rfl rfl mcOk17 (Nat.le_of_ble_eq_true rfl) ?_
  delta mc17
  refine aw_seq ?_
  refine aw_reg ?_
  refine rs_box rfl rfl rfl rfl rfl rfl ?_
  refine rs_box rfl rfl rfl rfl rfl rfl ?_
  refine rs_alloc rfl rfl rfl ?_
  refine rs_alloc rfl rfl rfl ?_
  refine rs_nil fun _ => ?_
  refine th_n ?_
  refine aw_seq ?_
  refine aw_reg ?_
  refine rs_alloc rfl rfl rfl ?_
  refine rs_st rfl rfl rfl rfl rfl rfl rfl (Nat.le_of_ble_eq_true rfl) rfl rfl ?_
  refine rs_nil fun _ => ?_
  refine th_n ?_
  refine aw_seq ?_
  refine aw_seq ?_
  refine aw_reg ?_
  refine rs_ld_pa rfl rfl rfl rfl (Nat.le_of_ble_eq_true rfl) rfl ?_
  refine rs_calln [] rfl rfl (fc12 m) (.cons (hv_same rfl) (.nil)) rfl ?_
  refine rs_cmp_f rfl rfl rfl rfl (fun h => h h0) ?_
  refine rs_nil fun _ => ?_
  refine th_n ?_
  refine aw_cond rfl (fun h => by cases h) (fun _ => ?_)
  refine aw_skip ?_
  refine th_n ?_
  refine aw_seq ?_
  refine aw_seq ?_
  refine aw_reg ?_
  refine rs_ld_pa rfl rfl rfl rfl (Nat.le_of_ble_eq_true rfl) rfl ?_
  refine rs_calln [] rfl rfl (fc39_a m hk) (.cons (hv_same rfl) (.nil)) rfl ?_
  refine rs_invn [] rfl rfl (by kernel_rfl) (by kernel_rfl) rfl (fc82 m hi) (.cons (hv_same rfl) (.nil)) rfl ?_
  refine rs_nil fun _ => ?_
  refine th_n ?_
  refine aw_block ?_
  refine aw_weak (F0 := [(14, (.fn (.func 85) [.rp [iv ((gS (sA m) : Nat) : Int)], .rp (cV (cenS m)), .rp (cV (primV (sA m))), .rp (cV (primV (sB m)))])), (6, .ptr 6 0 0), (3, .ptr 3 0 0), (4, .ptr 4 0 0), (5, .ptr 5 0 0)]) (H0 := [(6, .cells 3 1 [[iv (((0) : Nat) : Int)]] true), (3, .cells 3 1 [[iv (k : Int)]] true), (4, .cells 26 3 [cV ⟨0, 0, 0⟩] true), (5, .cells 4 1 [[.bool false]] true)]) (weak_to (.cons rfl (rc_same rfl (.inl rfl)) (.cons rfl (rc_same rfl (.inl rfl)) (.cons rfl (rc_same rfl (.inl rfl)) (.cons rfl (rc_same rfl (.inl rfl)) (.cons rfl (rc_same rfl (.inl rfl)) (.nil)))))) (.keep (rfl) rfl (.keep (rfl) rfl (.keep (rfl) rfl (.keep (rfl) rfl (.nil))))) (fun i h => by cases h)) ?_
  refine aw_rfunc 900 [(6, .cells 3 1 [[iv (((0) : Nat) : Int)]] true), (3, .cells 3 1 [[iv (k : Int)]] true), (4, .cells 26 3 [cV ⟨0, 0, 0⟩] true), (5, .cells 4 1 [[.bool false]] true)] [(6, .cells 3 1 [[iv (((k) : Nat) : Int)]] true), (3, .cells 3 1 [[iv (k : Int)]] true), (4, .cells 26 3 [cV v] true), (5, .cells 4 1 [[.bool true]] true)] (.inr ⟨rfl, rfl⟩) rfl (by kernel_rfl) rfl rfl rfl (.cons rfl (.cons rfl (.cons rfl (.cons rfl (.nil))))) rfl rfl rfl rfl (fun r0 hrec => ⟨{ r0 with state := .done, pending := some .ret }, (by intro h; cases h), rfl, fc85_at_s (.fn (.func 85) [.rp [iv ((gS (sA m) : Nat) : Int)], .rp (cV (cenS m)), .rp (cV (primV (sA m))), .rp (cV (primV (sB m)))]) (fun D => rfl) (k : Int) (cenS m) (primV (sA m)) (primV (sB m)) (gS (sA m)) hi.c ((prim_bd hi.a48).mono (by omega)) ((prim_bd hi.b48).mono (by omega)) (by omega) k v rfl hv r0 hrec⟩) ?_
  refine in_r ?_
  refine th_r ?_
  exact ret_pure rfl rfl rfl (.inr rfl)

theorem fc17 (m : Mv) (step : Int) : FC Tryd.prog 12 [aM m, iv step] [] (.tup [aV (atV m step), .bool (atB m step)]) [] false := by
  by_cases h0 : checkS m = 0
  · have hk : (m.kind = 1 ∨ m.kind = 2) ∨ m.kind = 3 := Decidable.byContradiction fun h => by
      have := ck_n (m := m) (by omega)
      omega
    by_cases hs : step < 0 ∨ ((pathS m).length : Int) ≤ step
    · rcases hk with hk | hk
      · exact fc17_ln m step h0 hk hs
      · exact fc17_an m step h0 hk hs
    · obtain ⟨k, rfl⟩ : ∃ k : Nat, step = k := ⟨step.toNat, by omega⟩
      obtain ⟨v, hv, _⟩ := at_some (L := pathS m) (k := k) (by omega)
      obtain ⟨e1, e2⟩ := at_yes hv
      rw [e1, e2]
      rcases hk with hk | hk
      · exact fc17_ls m k v h0 hk hv
      · exact fc17_as m k v h0 hk hv
  · exact fc17_0 m step h0

end Go.Proofs.YteommcdafifckaaDoor

/-! Walks: M5. -/
namespace Go.Proofs.YteommcdafifckaaDoor
open Go.RowKit
set_option maxRecDepth 100000

theorem btw_fst {m : Mv} {i j : Int} (h : btwB m i j = true) : (btwS m i j)[(0 : Int).toNat]? = some (elS m i) := by
  have h1 := of_decide_eq_true h
  have := btw_at (k := 0) h (by omega)
  simpa using this
theorem btw_lst {m : Mv} {i j : Int} (h : btwB m i j = true) : (btwS m i j)[(((btwS m i j).length : Int) - 1).toNat]? = some (elS m j) := by
  have h1 := of_decide_eq_true h
  have h2 := btw_len h
  have := btw_at (k := (((btwS m i j).length : Int) - 1).toNat) h (by omega)
  rw [this]
  congr 2
  omega
theorem btw_le (m : Mv) (i j : Int) : (btwS m i j).length ≤ 49 := by
  have := path_len m
  unfold btwS
  split
  · rw [List.length_take, List.length_drop]; omega
  · simp
theorem at_el {m : Mv} {s : Int} (h0 : 0 ≤ s) (h : s < (pathS m).length) : atV m s = elS m s ∧ atB m s = true := ⟨if_pos h0, decide_eq_true ⟨h0, h⟩⟩
theorem rs_aeqp {P : Program} {N : Nat} {F : Fr} {H : Hp} {ml : List MOper} {K : List Fp → Fr → Hp → Prop} {d : Nat} {g : Option (Nat × Bool)} {pre : List Nat} {neg : Bool} {x y : Arg} {u v : V3 × V3} (hg : gOK F g = true) (hx : aarg F x = some (.agg (cP u))) (hy : aarg F y = some (.agg (cP v)))
    (h : RS P N ml ((d, .bool (neg != decide (u = v))) :: F) H (fun fps => K (([], []) :: fps))) : RS P N (⟨some d, .aeq neg 6 x y, g, pre⟩ :: ml) F H K :=
  rs_aeq [u.1.x, u.1.y, u.1.z, u.2.x, u.2.y, u.2.z] [v.1.x, v.1.y, v.1.z, v.2.x, v.2.y, v.2.z] hg hx hy rfl rfl rfl rfl (by
    congr 1
    obtain ⟨⟨a, b, c⟩, ⟨d, e, f⟩⟩ := u
    obtain ⟨⟨a', b', c'⟩, ⟨d', e', f'⟩⟩ := v
    simp [and_assoc]) h

def mc45 : MC := (.seq (.reg [⟨(some 3), (.box 28 11 (.t 0)), none, []⟩, ⟨(some 6), (.mv (.c .nils)), none, []⟩, ⟨(some 7), (.mv (.c (.bool false))), none, [1]⟩] false) (.seq (.reg [⟨(some 9), (.ld true 11 (.t 3)), none, []⟩, ⟨(some 10), (.call 32 [(.t 9)]), none, [0]⟩, ⟨(some 8), (.mv (.t 10)), none, [1, 1, 0, 1]⟩] false) (.seq (.seq (.reg [⟨(some 11), (.mv (.t 1)), none, []⟩, ⟨(some 12), (.bin .lss (.t 11) (.c (.int .i64 0))), none, [0]⟩, ⟨(some 13), (.mv (.t 12)), none, [1]⟩, ⟨(some 14), (.mv (.t 2)), (some (13, false)), [2]⟩, ⟨(some 15), (.mv (.t 1)), (some (13, false)), [2]⟩, ⟨(some 16), (.bin .lss (.t 14) (.t 15)), (some (13, false)), [3, 4, 2]⟩, ⟨(some 17), (.pick (.t 13) (.c (.bool true)) (.t 16)), none, [2, 5]⟩, ⟨(some 18), (.mv (.t 17)), none, [6, 2]⟩, ⟨(some 19), (.mv (.t 2)), (some (18, false)), [7]⟩, ⟨(some 20), (.mv (.t 8)), (some (18, false)), [7]⟩, ⟨(some 21), (.len (.t 20)), (some (18, false)), [9, 7]⟩, ⟨(some 22), (.bin .geq (.t 19) (.t 21)), (some (18, false)), [8, 10, 7]⟩, ⟨(some 23), (.pick (.t 18) (.c (.bool true)) (.t 22)), none, [7, 11]⟩] false) (.cond (.t 23) (.seq (.reg [⟨(some 6), (.mv (.c .nils)), none, []⟩, ⟨(some 7), (.mv (.c (.bool false))), none, [0, 0]⟩] false) .ret) .skip)) (.seq (.reg [⟨(some 24), (.mv (.t 8)), none, []⟩, ⟨(some 25), (.mv (.t 1)), none, []⟩, ⟨(some 26), (.mv (.t 2)), none, []⟩, ⟨(some 27), (.bin .add (.t 26) (.c (.int .i64 1))), none, [2]⟩, ⟨(some 28), (.slc 3 (.t 24) (some (.t 25)) (some (.t 27))), none, [0, 1, 3]⟩, ⟨(some 6), (.mv (.t 28)), none, [4, 0, 1, 2, 3, 4]⟩, ⟨(some 7), (.mv (.c (.bool true))), none, [5, 0, 1, 2, 3, 4, 5]⟩] false) .ret))))
theorem mcOk45 : (match Tryd.f34.body with | some c => compC Tryd.prog 29 c | none => none) = some mc45 := by kernel_rfl

theorem fc45 (m : Mv) (i j : Int) : FC Tryd.prog 34 [aM m, iv i, iv j] [] (.tup [.rs 3 ((btwS m i j).map cV), .bool (btwB m i j)]) [] true := by
  have hl := path_len m
  refine fc_run (nt := 29) Tryd.func34 rfl rfl mcOk45 (Nat.le_of_ble_eq_true rfl) ?_
  delta mc45
  refine aw_seq ?_
  refine aw_reg ?_
  refine rs_box rfl rfl rfl rfl rfl rfl ?_
  refine rs_mv rfl rfl ?_
  refine rs_mv rfl rfl ?_
  refine rs_nil fun _ => ?_
  refine th_n ?_
  refine aw_seq ?_
  refine aw_reg ?_
  refine rs_ld_pa rfl rfl rfl rfl (Nat.le_of_ble_eq_true rfl) rfl ?_
  refine rs_callo [] rfl rfl (fc43 m) (.cons (hv_same rfl) (.nil)) (.nil) rfl rfl rfl ?_
  refine rs_mv rfl rfl ?_
  refine rs_nil fun _ => ?_
  refine th_n ?_
  refine aw_seq ?_
  refine aw_seq ?_
  refine aw_reg ?_
  refine rs_mv rfl rfl ?_
  refine rs_cmp rfl rfl rfl rfl (fun h12 => ?_) (fun h12 => ?_)
  · skip
    refine rs_mv rfl rfl ?_
    refine rs_skip rfl ?_
    refine rs_skip rfl ?_
    refine rs_skip rfl ?_
    refine rs_pick rfl rfl rfl ?_
    refine rs_mv rfl rfl ?_
    refine rs_skip rfl ?_
    refine rs_skip rfl ?_
    refine rs_skip rfl ?_
    refine rs_skip rfl ?_
    refine rs_pick rfl rfl rfl ?_
    refine rs_nil fun _ => ?_
    refine th_n ?_
    refine aw_cond rfl (fun _ => ?_) (fun h => by cases h)
    refine aw_seq ?_
    refine aw_reg ?_
    refine rs_mv rfl rfl ?_
    refine rs_mv rfl rfl ?_
    refine rs_nil fun _ => ?_
    refine th_n ?_
    refine aw_ret ?_
    refine th_r ?_
    (have hb : btwB m i j = false := decide_eq_false (by omega)
     have hs : btwS m i j = [] := if_neg (by rw [hb]; decide)
     rw [hs, hb]
     exact ret_new rfl (rc_tup (.cons rc_nils (.cons (rc_same rfl (.inl rfl)) .nil))) .nil)
  · skip
    refine rs_mv rfl rfl ?_
    refine rs_mv rfl rfl ?_
    refine rs_mv rfl rfl ?_
    refine rs_cmp rfl rfl rfl rfl (fun h16 => ?_) (fun h16 => ?_)
    · skip
      refine rs_pick rfl rfl rfl ?_
      refine rs_mv rfl rfl ?_
      refine rs_skip rfl ?_
      refine rs_skip rfl ?_
      refine rs_skip rfl ?_
      refine rs_skip rfl ?_
      refine rs_pick rfl rfl rfl ?_
      refine rs_nil fun _ => ?_
      refine th_n ?_
      refine aw_cond rfl (fun _ => ?_) (fun h => by cases h)
      refine aw_seq ?_
      refine aw_reg ?_
      refine rs_mv rfl rfl ?_
      refine rs_mv rfl rfl ?_
      refine rs_nil fun _ => ?_
      refine th_n ?_
      refine aw_ret ?_
      refine th_r ?_
      (have hb : btwB m i j = false := decide_eq_false (by omega)
       have hs : btwS m i j = [] := if_neg (by rw [hb]; decide)
       rw [hs, hb]
       exact ret_new rfl (rc_tup (.cons rc_nils (.cons (rc_same rfl (.inl rfl)) .nil))) .nil)
    · skip
      refine rs_pick rfl rfl rfl ?_
      refine rs_mv rfl rfl ?_
      refine rs_mv rfl rfl ?_
      refine rs_mv rfl rfl ?_
      refine rs_len_m rfl rfl ?_
      refine rs_cmp rfl rfl rfl rfl (fun h22 => ?_) (fun h22 => ?_)
      · skip
        refine rs_pick rfl rfl rfl ?_
        refine rs_nil fun _ => ?_
        refine th_n ?_
        refine aw_cond rfl (fun _ => ?_) (fun h => by cases h)
        refine aw_seq ?_
        refine aw_reg ?_
        refine rs_mv rfl rfl ?_
        refine rs_mv rfl rfl ?_
        refine rs_nil fun _ => ?_
        refine th_n ?_
        refine aw_ret ?_
        refine th_r ?_
        (have hb : btwB m i j = false := decide_eq_false (by omega)
         have hs : btwS m i j = [] := if_neg (by rw [hb]; decide)
         rw [hs, hb]
         exact ret_new rfl (rc_tup (.cons rc_nils (.cons (rc_same rfl (.inl rfl)) .nil))) .nil)
      · skip
        refine rs_pick rfl rfl rfl ?_
        refine rs_nil fun _ => ?_
        refine th_n ?_
        refine aw_cond rfl (fun h => by cases h) (fun _ => ?_)
        refine aw_skip ?_
        refine th_n ?_
        refine aw_seq ?_
        refine aw_reg ?_
        refine rs_mv rfl rfl ?_
        refine rs_mv rfl rfl ?_
        refine rs_mv rfl rfl ?_
        refine rs_add rfl rfl rfl (by omega) ?_
        refine rs_slc_r rfl rfl rfl rfl rfl (by omega) (by omega) (by simp; omega) rfl ?_
        refine rs_mv rfl rfl ?_
        refine rs_mv rfl rfl ?_
        refine rs_nil fun _ => ?_
        refine th_n ?_
        refine aw_ret ?_
        (have hb : btwB m i j = true := decide_eq_true (by omega)
         have hs : btwS m i j = ((pathS m).drop i.toNat).take ((j + 1).toNat - i.toNat) := if_pos hb
         rw [hs, hb, List.map_take, List.map_drop]
         exact ret_pure rfl rfl rfl (.inl rfl))

def mc75 : MC := (.seq (.reg [⟨(some 3), (.box 87 11 (.t 0)), none, []⟩, ⟨(some 4), (.box 26 3 (.t 1)), none, []⟩, ⟨(some 5), (.box 26 3 (.t 2)), none, []⟩, ⟨(some 6), (.mv (.c .nils)), none, []⟩] false) (.seq (.reg [⟨(some 7), (.ld true 3 (.t 4)), none, []⟩, ⟨(some 8), (.ld true 3 (.t 5)), none, []⟩, ⟨(some 9), (.bslice 26 3 [(.int .i64 0), (.int .i64 0), (.int .i64 0)] 2 [(0, (.t 7)), (1, (.t 8))]), none, [0, 1]⟩, ⟨(some 6), (.mv (.t 9)), none, [2, 0, 1, 2]⟩] false) .ret))
theorem mcOk75 : (match Tryd.f72.body with | some c => compC Tryd.prog 10 c | none => none) = some mc75 := by kernel_rfl

theorem fc75 (m : Mv) (u v : V3) : FC Tryd.prog 72 [aM m, aV u, aV v] [] (.rs 3 ([u, v].map cV)) [] false := by
  refine fc_run (nt := 10) Tryd.func72 rfl rfl mcOk75 (Nat.le_of_ble_eq_true rfl) ?_
  delta mc75
  refine aw_seq ?_
  refine aw_reg ?_
  refine rs_box rfl rfl rfl rfl rfl rfl ?_
  refine rs_box rfl rfl rfl rfl rfl rfl ?_
  refine rs_box rfl rfl rfl rfl rfl rfl ?_
  refine rs_mv rfl rfl ?_
  refine rs_nil fun _ => ?_
  refine th_n ?_
  refine aw_seq ?_
  refine aw_reg ?_
  refine rs_ld_pa rfl rfl rfl rfl (Nat.le_of_ble_eq_true rfl) rfl ?_
  refine rs_ld_pa rfl rfl rfl rfl (Nat.le_of_ble_eq_true rfl) rfl ?_
  refine rs_bslice rfl rfl rfl rfl rfl rfl ?_
  refine rs_mv rfl rfl ?_
  refine rs_nil fun _ => ?_
  refine th_n ?_
  refine aw_ret ?_
  exact ret_new rfl (rc_frz (f := cV) (xs := [u, v]) rfl rfl rfl (fun _ => rfl)) .nil

def mc81 : MC := (.seq (.reg [⟨(some 3), (.box 88 11 (.t 0)), none, []⟩, ⟨(some 4), (.box 26 3 (.t 1)), none, []⟩, ⟨(some 5), (.box 26 3 (.t 2)), none, []⟩, ⟨(some 6), (.mv (.c .nils)), none, []⟩] false) (.seq (.reg [⟨(some 7), (.fa 0 (.t 3)), none, []⟩, ⟨(some 8), (.fa 1 (.t 7)), none, [0]⟩, ⟨(some 9), (.ld true 3 (.t 8)), none, [1]⟩, ⟨(some 10), (.fa 0 (.t 3)), none, []⟩, ⟨(some 11), (.fa 7 (.t 10)), none, [3]⟩, ⟨(some 12), (.ld true 3 (.t 11)), none, [4]⟩, ⟨(some 13), (.fa 0 (.t 3)), none, []⟩, ⟨(some 14), (.fa 4 (.t 13)), none, [6]⟩, ⟨(some 15), (.ld true 3 (.t 14)), none, [7]⟩, ⟨(some 16), (.bslice 26 3 [(.int .i64 0), (.int .i64 0), (.int .i64 0)] 3 [(0, (.t 9)), (1, (.t 12)), (2, (.t 15))]), none, [2, 5, 8]⟩, ⟨(some 6), (.mv (.t 16)), none, [9, 0, 1, 2, 3, 4, 5, 6, 7, 8, 9]⟩] false) .ret))
theorem mcOk81 : (match Tryd.f81.body with | some c => compC Tryd.prog 17 c | none => none) = some mc81 := by kernel_rfl

theorem fc81 (m : Mv) (u v : V3) : FC Tryd.prog 81 [aM m, aV u, aV v] [] (.rs 3 ([m.fr, m.co, m.to].map cV)) [] false := by
  refine fc_run (nt := 17) Tryd.func81 rfl rfl mcOk81 (Nat.le_of_ble_eq_true rfl) ?_
  delta mc81
  refine aw_seq ?_
  refine aw_reg ?_
  refine rs_box rfl rfl rfl rfl rfl rfl ?_
  refine rs_box rfl rfl rfl rfl rfl rfl ?_
  refine rs_box rfl rfl rfl rfl rfl rfl ?_
  refine rs_mv rfl rfl ?_
  refine rs_nil fun _ => ?_
  refine th_n ?_
  refine aw_seq ?_
  refine aw_reg ?_
  refine rs_fa_p rfl rfl ?_
  refine rs_fa_p rfl rfl ?_
  refine rs_ld_pa rfl rfl rfl rfl (Nat.le_of_ble_eq_true rfl) rfl ?_
  refine rs_fa_p rfl rfl ?_
  refine rs_fa_p rfl rfl ?_
  refine rs_ld_pa rfl rfl rfl rfl (Nat.le_of_ble_eq_true rfl) rfl ?_
  refine rs_fa_p rfl rfl ?_
  refine rs_fa_p rfl rfl ?_
  refine rs_ld_pa rfl rfl rfl rfl (Nat.le_of_ble_eq_true rfl) rfl ?_
  refine rs_bslice rfl rfl rfl rfl rfl rfl ?_
  refine rs_mv rfl rfl ?_
  refine rs_nil fun _ => ?_
  refine th_n ?_
  refine aw_ret ?_
  exact ret_new rfl (rc_frz (f := cV) (xs := [m.fr, m.co, m.to]) rfl rfl rfl (fun _ => rfl)) .nil

def mc74 : MC := (.seq (.reg [⟨(some 2), (.box 87 11 (.t 0)), none, []⟩, ⟨(some 4), (.mv (.c .nils)), none, []⟩] false) (.seq (.reg [⟨(some 5), (.mv (.t 1)), none, []⟩, ⟨(some 6), (.ixsl 3 (.t 5) (.c (.int .i64 0))), none, [0]⟩, ⟨(some 7), (.ld true 3 (.t 6)), none, [1]⟩, ⟨(some 8), (.mv (.t 1)), none, []⟩, ⟨(some 9), (.mv (.t 1)), none, []⟩, ⟨(some 10), (.len (.t 9)), none, [4]⟩, ⟨(some 11), (.bin .sub (.t 10) (.c (.int .i64 1))), none, [5]⟩, ⟨(some 12), (.ixsl 3 (.t 8) (.t 11)), none, [3, 6]⟩, ⟨(some 13), (.ld true 3 (.t 12)), none, [7]⟩, ⟨(some 14), (.build [(.int .i64 0), (.int .i64 0), (.int .i64 0), (.int .i64 0), (.int .i64 0), (.int .i64 0)] [(0, (3, (.t 7))), (3, (3, (.t 13)))]), none, [2, 8]⟩, ⟨(some 15), (.bslice 54 6 [(.int .i64 0), (.int .i64 0), (.int .i64 0), (.int .i64 0), (.int .i64 0), (.int .i64 0)] 1 [(0, (.t 14))]), none, [9]⟩, ⟨(some 4), (.mv (.t 15)), none, [10, 0, 1, 2, 3, 4, 5, 6, 7, 8, 9, 10]⟩] true) .ret))
theorem mcOk74 : (match Tryd.f71.body with | some c => compC Tryd.prog 16 c | none => none) = some mc74 := by kernel_rfl

theorem fc74 (m : Mv) (l : List V3) (u v : V3) (hl : l.length ≤ 1000) (hu : l[(0 : Int).toNat]? = some u) (hv : l[((l.length : Int) - 1).toNat]? = some v) : FC Tryd.prog 71 [aM m, .rs 3 (l.map cV)] [] (.rs 6 ([(u, v)].map cP)) [] false := by
  have hl1 := lt_of_at hu
  refine fc_run (nt := 16) Tryd.func71 rfl rfl mcOk74 (Nat.le_of_ble_eq_true rfl) ?_
  delta mc74
  refine aw_seq ?_
  refine aw_reg ?_
  refine rs_box rfl rfl rfl rfl rfl rfl ?_
  refine rs_mv rfl rfl ?_
  refine rs_nil fun _ => ?_
  refine th_n ?_
  refine aw_seq ?_
  refine aw_draw hmix ?_
  refine rs_mv rfl rfl ?_
  refine rs_ix_g rfl rfl rfl (by omega) hu ?_
  refine rs_ld_ra rfl rfl (Nat.le_of_ble_eq_true rfl) rfl ?_
  refine rs_mv rfl rfl ?_
  refine rs_mv rfl rfl ?_
  refine rs_len_m rfl rfl ?_
  refine rs_sub rfl rfl rfl (by omega) ?_
  refine rs_ix_g rfl rfl rfl (by omega) hv ?_
  refine rs_ld_ra rfl rfl (Nat.le_of_ble_eq_true rfl) rfl ?_
  refine rs_build rfl rfl ?_
  refine rs_bslice rfl rfl rfl rfl rfl rfl ?_
  refine rs_mv rfl rfl ?_
  refine rs_nil ⟨by kernel_rfl, fun _ => ?_⟩
  refine th_n ?_
  refine aw_ret ?_
  exact ret_new rfl (rc_frz (f := cP) (xs := [(u, v)]) rfl rfl rfl (fun _ => rfl)) .nil

def mc80 : MC := (.seq (.reg [⟨(some 2), (.box 88 11 (.t 0)), none, []⟩, ⟨(some 4), (.mv (.c .nils)), none, []⟩] false) (.seq (.reg [⟨(some 5), (.mv (.c .nils)), none, []⟩] false) (.seq (.seq (.reg [⟨(some 8), (.mv (.t 1)), none, []⟩, ⟨(some 9), (.len (.t 8)), none, [0]⟩, ⟨(some 10), (.mv (.c (.int .i64 0))), none, []⟩] false) (.block 0 (.loop (.seq (.reg [⟨(some 11), (.bin .lss (.t 10) (.t 9)), none, []⟩] false) (.seq (.cond (.t 11) .skip (.exit 0)) (.seq (.block 1 (.seq (.reg [⟨(some 12), (.ixsl 3 (.t 8) (.t 10)), none, []⟩, ⟨(some 13), (.ld true 3 (.t 12)), none, [0]⟩, ⟨(some 7), (.alloc 26 3 [(.int .i64 0), (.int .i64 0), (.int .i64 0)]), none, []⟩, ⟨none, (.st 3 (.t 7) (.t 13)), none, [2, 1, 0, 1, 2]⟩] false) (.reg [⟨(some 14), (.mv (.t 5)), none, []⟩, ⟨(some 15), (.ld true 3 (.t 7)), none, []⟩, ⟨(some 16), (.ld true 3 (.t 7)), none, []⟩, ⟨(some 17), (.build [(.int .i64 0), (.int .i64 0), (.int .i64 0), (.int .i64 0), (.int .i64 0), (.int .i64 0)] [(0, (3, (.t 15))), (3, (3, (.t 16)))]), none, [1, 2]⟩, ⟨(some 18), (.bslice 54 6 [(.int .i64 0), (.int .i64 0), (.int .i64 0), (.int .i64 0), (.int .i64 0), (.int .i64 0)] 1 [(0, (.t 17))]), none, [3]⟩, ⟨(some 19), (.app 54 6 48 [(.int .i64 0), (.int .i64 0), (.int .i64 0), (.int .i64 0), (.int .i64 0), (.int .i64 0)] (.t 14) (.t 18)), none, [0, 4]⟩, ⟨(some 5), (.mv (.t 19)), none, [5, 5, 0, 1, 2, 3, 4, 5]⟩] false))) (.reg [⟨(some 20), (.bin .add (.t 10) (.c (.int .i64 1))), none, []⟩, ⟨(some 10), (.mv (.t 20)), none, [0]⟩] false))))))) (.seq (.reg [⟨(some 21), (.mv (.t 5)), none, []⟩, ⟨(some 4), (.mv (.t 21)), none, [0, 0]⟩] false) .ret))))
theorem mcOk80 : (match Tryd.f80.body with | some c => compC Tryd.prog 22 c | none => none) = some mc80 := by kernel_rfl

theorem fc80 (m : Mv) (l : List V3) (hl : l.length ≤ 1000) : FC Tryd.prog 80 [aM m, .rs 3 (l.map cV)] [] (.rs 6 ((l.map fun v => (v, v)).map cP)) [] false := by
  refine fc_run (nt := 22) Tryd.func80 rfl rfl mcOk80 (Nat.le_of_ble_eq_true rfl) ?_
  delta mc80
  refine aw_seq ?_
  refine aw_reg ?_
  refine rs_box rfl rfl rfl rfl rfl rfl ?_
  refine rs_mv rfl rfl ?_
  refine rs_nil fun _ => ?_
  refine th_n ?_
  refine aw_seq ?_
  refine aw_reg ?_
  refine rs_mv rfl rfl ?_
  refine rs_nil fun _ => ?_
  refine th_n ?_
  refine aw_seq ?_
  refine aw_seq ?_
  refine aw_reg ?_
  refine rs_mv rfl rfl ?_
  refine rs_len_m rfl rfl ?_
  refine rs_mv rfl rfl ?_
  refine rs_nil fun _ => ?_
  refine th_n ?_
  refine aw_block ?_
  refine aw_fam (α := Nat) (fun k => l.length - k) (fun k => [(8, .rs 3 (l.map cV)), (9, iv (l.length : Int)), (10, iv (((k) : Nat) : Int)), (5, .sl 1005 0 (k))]) (fun k => [(1005, .cells 54 6 (((l.take (k)).map fun v => (v, v)).map cP) true)]) (fun k => k ≤ l.length) 0 (by omega)
    (weak_to (.cons rfl (rc_same rfl (.inl rfl)) (.cons rfl (rc_same rfl (.inl rfl)) (.cons rfl (rc_same rfl (.inl rfl)) (.cons rfl (rc_virt rfl rfl) (.nil))))) (.virt rfl (.nil)) (fun i h => by cases h)) ?_
  intro k hk
  refine aw_seq ?_
  refine aw_reg ?_
  refine rs_lss rfl rfl rfl ?_
  refine rs_nil fun _ => ?_
  refine th_n ?_
  refine aw_seq ?_
  refine aw_cond rfl (fun h11 => ?_) (fun h11 => ?_)
  · replace h11 := of_decide_eq_true h11
    refine aw_skip ?_
    refine th_n ?_
    refine aw_seq ?_
    refine aw_block ?_
    refine aw_seq ?_
    refine aw_reg ?_
    obtain ⟨x, hx, hxm⟩ := at_some (L := l) (k := k) (by omega)
    refine rs_ix_g rfl rfl rfl (by omega) hx ?_
    refine rs_ld_ra rfl rfl (Nat.le_of_ble_eq_true rfl) rfl ?_
    refine rs_alloc rfl rfl rfl ?_
    refine rs_st rfl rfl rfl rfl rfl rfl rfl (Nat.le_of_ble_eq_true rfl) rfl rfl ?_
    refine rs_nil fun _ => ?_
    refine th_n ?_
    refine aw_reg ?_
    refine rs_mv rfl rfl ?_
    refine rs_ld_pa rfl rfl rfl rfl (Nat.le_of_ble_eq_true rfl) rfl ?_
    refine rs_ld_pa rfl rfl rfl rfl (Nat.le_of_ble_eq_true rfl) rfl ?_
    refine rs_build rfl rfl ?_
    refine rs_bslice rfl rfl rfl rfl rfl rfl ?_
    refine rs_app_m (f := cP) (xs := ((l.take (k)).map fun v => (v, v))) (y := (x, x)) rfl rfl rfl rfl (by simp; omega) rfl rfl rfl (by decide) rfl (by omega) (by omega) rfl ?_
    refine rs_mv rfl rfl ?_
    refine rs_nil fun _ => ?_
    refine in_n ?_
    refine th_n ?_
    refine aw_reg ?_
    refine rs_add rfl rfl rfl (by omega) ?_
    refine rs_mv rfl rfl ?_
    refine rs_nil fun _ => ?_
    refine th_n ?_
    have e : ((l.take (k + 1)).map fun v => (v, v)) = ((l.take (k)).map fun v => (v, v)) ++ [(x, x)] := by rw [take_succ_at hx, List.map_append]; rfl
    exact ⟨k + 1, by omega, by omega, weak_to_ren (i := 19) (i' := 1005) (F1 := [(8, .rs 3 (l.map cV)), (9, iv (l.length : Int)), (10, iv (((k + 1) : Nat) : Int)), (5, .sl 19 0 (k + 1))]) (H1 := [(19, .cells 54 6 (((l.take (k + 1)).map fun v => (v, v)).map cP) true)]) (.cons rfl (rc_same rfl (.inl rfl)) (.cons rfl (rc_same rfl (.inl rfl)) (.cons rfl (rc_same rfl (.inl rfl)) (.cons rfl (rc_same rfl (.inl rfl)) (.nil))))) (.keep ((by (rw [e]) <;> rfl)) rfl (.nil)) (fun i h => by cases h) rfl rfl (.cons rfl (.same _) (.cons rfl (.same _) (.cons rfl (.same _) (.cons rfl (.sl _ _) (.nil))))) (.cons rfl (rc_same rfl (.inl rfl)) (.cons rfl (rc_same rfl (.inl rfl)) (.cons rfl (rc_same rfl (.inl rfl)) (.cons rfl (rc_same rfl (.inl rfl)) (.nil))))) (.keep (rfl) rfl (.nil)) (fun i h => by cases h)⟩
  · replace h11 := of_decide_eq_false h11
    refine aw_exit ?_
    refine th_e ?_
    refine th_e ?_
    refine in_hit ?_
    refine th_n ?_
    refine aw_seq ?_
    refine aw_reg ?_
    refine rs_mv rfl rfl ?_
    refine rs_mv rfl rfl ?_
    refine rs_nil fun _ => ?_
    refine th_n ?_
    refine aw_ret ?_
    obtain rfl : k = l.length := by omega
    rw [show (l.map fun v => (v, v)) = ((l.take l.length).map fun v => (v, v)) by rw [List.take_length]]
    exact ret_new rfl (rc_frz rfl rfl (by simp) (fun _ => rfl)) .nil

def mc19 : MC := (.seq (.reg [⟨(some 3), (.box 28 11 (.t 0)), none, []⟩, ⟨(some 6), (.mv (.c .nils)), none, []⟩, ⟨(some 7), (.mv (.c (.bool false))), none, [1]⟩] false) (.seq (.reg [⟨(some 11), (.ld true 11 (.t 3)), none, []⟩, ⟨(some 12), (.mv (.t 1)), none, []⟩, ⟨(some 13), (.mv (.t 2)), none, []⟩, ⟨(some 14), (.call 34 [(.t 11), (.t 12), (.t 13)]), none, [0, 1, 2]⟩, ⟨(some 10), (.mv (.t 14)), none, [3]⟩, ⟨(some 15), (.ext (.t 10) 0), none, [4]⟩, ⟨(some 16), (.ext (.t 10) 1), none, [4]⟩, ⟨(some 8), (.mv (.t 15)), none, [5, 3, 0, 1, 2, 3, 4, 5]⟩, ⟨(some 9), (.mv (.t 16)), none, [6, 7, 0, 1, 2, 3, 4, 5, 6, 7]⟩] false) (.seq (.block 0 (.seq (.reg [⟨(some 18), (.mv (.t 9)), none, []⟩, ⟨(some 19), (.un .not (.t 18)), none, [0]⟩, ⟨(some 17), (.mv (.t 19)), none, [1]⟩] false) (.cond (.t 17) (.seq (.reg [⟨(some 6), (.mv (.c .nils)), none, []⟩, ⟨(some 7), (.mv (.c (.bool false))), none, [0, 0]⟩] false) .ret) (.seq (.reg [⟨(some 21), (.mv (.t 1)), none, []⟩, ⟨(some 22), (.mv (.t 2)), none, []⟩, ⟨(some 23), (.bin .eql (.t 21) (.t 22)), none, [0, 1]⟩, ⟨(some 20), (.mv (.t 23)), none, [2]⟩] false) (.cond (.t 20) (.seq (.reg [⟨(some 24), (.mv (.t 8)), none, []⟩, ⟨(some 6), (.mv (.t 24)), none, [0, 0]⟩, ⟨(some 7), (.mv (.c (.bool true))), none, [1, 0, 1]⟩] false) .ret) .skip))))) (.seq (.reg [⟨(some 25), (.ld true 11 (.t 3)), none, []⟩, ⟨(some 26), (.call 33 [(.t 25)]), none, [0]⟩, ⟨(some 27), (.mv (.t 8)), none, []⟩, ⟨(some 28), (.ixsl 3 (.t 27) (.c (.int .i64 0))), none, [2]⟩, ⟨(some 29), (.ld true 3 (.t 28)), none, [3]⟩, ⟨(some 30), (.mv (.t 8)), none, []⟩, ⟨(some 31), (.mv (.t 8)), none, []⟩, ⟨(some 32), (.len (.t 31)), none, [6]⟩, ⟨(some 33), (.bin .sub (.t 32) (.c (.int .i64 1))), none, [7]⟩, ⟨(some 34), (.ixsl 3 (.t 30) (.t 33)), none, [5, 8]⟩, ⟨(some 35), (.ld true 3 (.t 34)), none, [9]⟩, ⟨(some 36), (.mkbm "collet/move.round" (.t 26)), none, [1]⟩, ⟨(some 37), (.nilc (.t 36)), none, [11]⟩, ⟨(some 38), (.mv (.t 26)), none, [1, 11, 12]⟩, ⟨(some 39), (.inv "collet/move.round" (.t 38) [(.t 29), (.t 35)]), none, [13, 4, 10, 1]⟩, ⟨(some 6), (.mv (.t 39)), none, [14, 14, 0, 1, 2, 3, 4, 5, 6, 7, 8, 9, 10, 11, 12, 13, 14]⟩, ⟨(some 7), (.mv (.c (.bool true))), none, [15, 0, 1, 2, 3, 4, 5, 6, 7, 8, 9, 10, 11, 12, 13, 14, 15]⟩] true) .ret))))
theorem mcOk19 : (match Tryd.f13.body with | some c => compC Tryd.prog 40 c | none => none) = some mc19 := by kernel_rfl

theorem fc19_l (m : Mv) (i j : Int) (hk : m.kind = 1 ∨ m.kind = 2) : FC Tryd.prog 13 [aM m, iv i, iv j] [] (.tup [.rs 3 ((outS m i j).map cV), .bool (btwB m i j)]) [] true := by
  refine fc_run (nt := 40) Tryd.func13 rfl rfl mcOk19 (Nat.le_of_ble_eq_true rfl) ?_
  delta mc19
  refine aw_seq ?_
  refine aw_reg ?_
  refine rs_box rfl rfl rfl rfl rfl rfl ?_
  refine rs_mv rfl rfl ?_
  refine rs_mv rfl rfl ?_
  refine rs_nil fun _ => ?_
  refine th_n ?_
  refine aw_seq ?_
  refine aw_reg ?_
  refine rs_ld_pa rfl rfl rfl rfl (Nat.le_of_ble_eq_true rfl) rfl ?_
  refine rs_mv rfl rfl ?_
  refine rs_mv rfl rfl ?_
  refine rs_callo [] rfl rfl (fc45 m i j) (.cons (hv_same rfl) (.cons (hv_same rfl) (.cons (hv_same rfl) (.nil)))) (.nil) rfl rfl rfl ?_
  refine rs_mv rfl rfl ?_
  refine rs_ext rfl rfl rfl ?_
  refine rs_ext rfl rfl rfl ?_
  cases h16 : btwB m i j
  · skip
    refine rs_mv rfl rfl ?_
    refine rs_mv rfl rfl ?_
    refine rs_nil fun _ => ?_
    refine th_n ?_
    refine aw_seq ?_
    refine aw_block ?_
    refine aw_seq ?_
    refine aw_reg ?_
    refine rs_mv rfl rfl ?_
    refine rs_not rfl rfl ?_
    refine rs_mv rfl rfl ?_
    refine rs_nil fun _ => ?_
    refine th_n ?_
    refine aw_cond rfl (fun _ => ?_) (fun h => by cases h)
    refine aw_seq ?_
    refine aw_reg ?_
    refine rs_mv rfl rfl ?_
    refine rs_mv rfl rfl ?_
    refine rs_nil fun _ => ?_
    refine th_n ?_
    refine aw_ret ?_
    refine in_r ?_
    refine th_r ?_
    (have hs : outS m i j = [] := if_neg (by rw [h16]; decide)
     first | rw [hs, h16] | rw [hs]
     exact ret_new rfl (rc_tup (.cons rc_nils (.cons (rc_same rfl (.inl rfl)) .nil))) .nil)
  · skip
    refine rs_mv rfl rfl ?_
    refine rs_mv rfl rfl ?_
    refine rs_nil fun _ => ?_
    refine th_n ?_
    refine aw_seq ?_
    refine aw_block ?_
    refine aw_seq ?_
    refine aw_reg ?_
    refine rs_mv rfl rfl ?_
    refine rs_not rfl rfl ?_
    refine rs_mv rfl rfl ?_
    refine rs_nil fun _ => ?_
    refine th_n ?_
    refine aw_cond rfl (fun h => by cases h) (fun _ => ?_)
    refine aw_seq ?_
    refine aw_reg ?_
    refine rs_mv rfl rfl ?_
    refine rs_mv rfl rfl ?_
    refine rs_eql rfl rfl rfl ?_
    refine rs_mv rfl rfl ?_
    refine rs_nil fun _ => ?_
    refine th_n ?_
    refine aw_cond rfl (fun h20 => ?_) (fun h20 => ?_)
    · replace h20 := of_decide_eq_true h20
      refine aw_seq ?_
      refine aw_reg ?_
      refine rs_mv rfl rfl ?_
      refine rs_mv rfl rfl ?_
      refine rs_mv rfl rfl ?_
      refine rs_nil fun _ => ?_
      refine th_n ?_
      refine aw_ret ?_
      refine in_r ?_
      refine th_r ?_
      (rw [show outS m i j = [elS m i] by unfold outS; rw [if_pos h16, if_pos h20], ← btw_one (by rw [← h20] at h16; exact h16), h20]; exact ret_pure rfl rfl rfl (.inl rfl))
    · replace h20 := of_decide_eq_false h20
      refine aw_skip ?_
      refine in_n ?_
      refine th_n ?_
      refine aw_seq ?_
      refine aw_draw hmix ?_
      refine rs_ld_pa rfl rfl rfl rfl (Nat.le_of_ble_eq_true rfl) rfl ?_
      refine rs_calln [] rfl rfl (fc39_l m hk) (.cons (hv_same rfl) (.nil)) rfl ?_
      refine rs_mv rfl rfl ?_
      have hbd := of_decide_eq_true h16
      have hbl := btw_len h16
      have e0 := btw_fst h16
      have e1 := btw_lst h16
      have hle := btw_le m i j
      refine rs_ix_g rfl rfl rfl (by omega) e0 ?_
      refine rs_ld_ra rfl rfl (Nat.le_of_ble_eq_true rfl) rfl ?_
      refine rs_mv rfl rfl ?_
      refine rs_mv rfl rfl ?_
      refine rs_len_m rfl rfl ?_
      refine rs_sub rfl rfl rfl (by omega) ?_
      refine rs_ix_g rfl rfl rfl (by omega) e1 ?_
      refine rs_ld_ra rfl rfl (Nat.le_of_ble_eq_true rfl) rfl ?_
      refine rs_mkbm rfl rfl rfl ?_
      refine rs_nilc_m (f := 72) rfl rfl (by kernel_rfl) ?_
      refine rs_mv rfl rfl ?_
      refine rs_invn [] rfl rfl (by kernel_rfl) (by kernel_rfl) rfl (fc75 m (elS m i) (elS m j)) (.cons (hv_same rfl) (.cons (hv_same rfl) (.cons (hv_same rfl) (.nil)))) rfl ?_
      refine rs_mv rfl rfl ?_
      refine rs_mv rfl rfl ?_
      refine rs_nil ⟨by kernel_rfl, fun _ => ?_⟩
      refine th_n ?_
      refine aw_ret ?_
      (rw [show outS m i j = [elS m i, elS m j] by unfold outS; rw [if_pos h16, if_neg h20, if_neg (by omega)]]; exact ret_pure rfl rfl rfl (.inl rfl))

def mc21 : MC := (.seq (.reg [⟨(some 3), (.box 28 11 (.t 0)), none, []⟩, ⟨(some 6), (.mv (.c .nils)), none, []⟩, ⟨(some 7), (.mv (.c (.bool false))), none, [1]⟩] false) (.seq (.reg [⟨(some 11), (.ld true 11 (.t 3)), none, []⟩, ⟨(some 12), (.mv (.t 1)), none, []⟩, ⟨(some 13), (.mv (.t 2)), none, []⟩, ⟨(some 14), (.call 34 [(.t 11), (.t 12), (.t 13)]), none, [0, 1, 2]⟩, ⟨(some 10), (.mv (.t 14)), none, [3]⟩, ⟨(some 15), (.ext (.t 10) 0), none, [4]⟩, ⟨(some 16), (.ext (.t 10) 1), none, [4]⟩, ⟨(some 8), (.mv (.t 15)), none, [5, 3, 0, 1, 2, 3, 4, 5]⟩, ⟨(some 9), (.mv (.t 16)), none, [6, 7, 0, 1, 2, 3, 4, 5, 6, 7]⟩] false) (.seq (.seq (.reg [⟨(some 17), (.mv (.t 9)), none, []⟩, ⟨(some 18), (.un .not (.t 17)), none, [0]⟩] false) (.cond (.t 18) (.seq (.reg [⟨(some 6), (.mv (.c .nils)), none, []⟩, ⟨(some 7), (.mv (.c (.bool false))), none, [0, 0]⟩] false) .ret) .skip)) (.seq (.reg [⟨(some 19), (.ld true 11 (.t 3)), none, []⟩, ⟨(some 20), (.call 33 [(.t 19)]), none, [0]⟩, ⟨(some 21), (.mv (.t 8)), none, []⟩, ⟨(some 22), (.inv "collet/move.pieces" (.t 20) [(.t 21)]), none, [1, 2, 1]⟩, ⟨(some 6), (.mv (.t 22)), none, [3, 3, 0, 1, 2, 3]⟩, ⟨(some 7), (.mv (.c (.bool true))), none, [4, 0, 1, 2, 3, 4]⟩] false) .ret))))
theorem mcOk21 : (match Tryd.f14.body with | some c => compC Tryd.prog 23 c | none => none) = some mc21 := by kernel_rfl

theorem fc21_l (m : Mv) (i j : Int) (hk : m.kind = 1 ∨ m.kind = 2) : FC Tryd.prog 14 [aM m, iv i, iv j] [] (.tup [.rs 6 ((knS m i j).map cP), .bool (btwB m i j)]) [] true := by
  refine fc_run (nt := 23) Tryd.func14 rfl rfl mcOk21 (Nat.le_of_ble_eq_true rfl) ?_
  delta mc21
  refine aw_seq ?_
  refine aw_reg ?_
  refine rs_box rfl rfl rfl rfl rfl rfl ?_
  refine rs_mv rfl rfl ?_
  refine rs_mv rfl rfl ?_
  refine rs_nil fun _ => ?_
  refine th_n ?_
  refine aw_seq ?_
  refine aw_reg ?_
  refine rs_ld_pa rfl rfl rfl rfl (Nat.le_of_ble_eq_true rfl) rfl ?_
  refine rs_mv rfl rfl ?_
  refine rs_mv rfl rfl ?_
  refine rs_callo [] rfl rfl (fc45 m i j) (.cons (hv_same rfl) (.cons (hv_same rfl) (.cons (hv_same rfl) (.nil)))) (.nil) rfl rfl rfl ?_
  refine rs_mv rfl rfl ?_
  refine rs_ext rfl rfl rfl ?_
  refine rs_ext rfl rfl rfl ?_
  cases h16 : btwB m i j
  · skip
    refine rs_mv rfl rfl ?_
    refine rs_mv rfl rfl ?_
    refine rs_nil fun _ => ?_
    refine th_n ?_
    refine aw_seq ?_
    refine aw_seq ?_
    refine aw_reg ?_
    refine rs_mv rfl rfl ?_
    refine rs_not rfl rfl ?_
    refine rs_nil fun _ => ?_
    refine th_n ?_
    refine aw_cond rfl (fun _ => ?_) (fun h => by cases h)
    refine aw_seq ?_
    refine aw_reg ?_
    refine rs_mv rfl rfl ?_
    refine rs_mv rfl rfl ?_
    refine rs_nil fun _ => ?_
    refine th_n ?_
    refine aw_ret ?_
    refine th_r ?_
    (have hs : knS m i j = [] := if_neg (by rw [h16]; decide)
     first | rw [hs, h16] | rw [hs]
     exact ret_new rfl (rc_tup (.cons rc_nils (.cons (rc_same rfl (.inl rfl)) .nil))) .nil)
  · skip
    refine rs_mv rfl rfl ?_
    refine rs_mv rfl rfl ?_
    refine rs_nil fun _ => ?_
    refine th_n ?_
    refine aw_seq ?_
    refine aw_seq ?_
    refine aw_reg ?_
    refine rs_mv rfl rfl ?_
    refine rs_not rfl rfl ?_
    refine rs_nil fun _ => ?_
    refine th_n ?_
    refine aw_cond rfl (fun h => by cases h) (fun _ => ?_)
    refine aw_skip ?_
    refine th_n ?_
    refine aw_seq ?_
    refine aw_reg ?_
    refine rs_ld_pa rfl rfl rfl rfl (Nat.le_of_ble_eq_true rfl) rfl ?_
    refine rs_calln [] rfl rfl (fc39_l m hk) (.cons (hv_same rfl) (.nil)) rfl ?_
    refine rs_mv rfl rfl ?_
    have hbd := of_decide_eq_true h16
    have hbl := btw_len h16
    have e0 := btw_fst h16
    have e1 := btw_lst h16
    have hle := btw_le m i j
    refine rs_invn [] rfl rfl (by kernel_rfl) (by kernel_rfl) rfl (fc74 m (btwS m i j) (elS m i) (elS m j) (by omega) e0 e1) (.cons (hv_same rfl) (.cons (hv_same rfl) (.nil))) rfl ?_
    refine rs_mv rfl rfl ?_
    refine rs_mv rfl rfl ?_
    refine rs_nil fun _ => ?_
    refine th_n ?_
    refine aw_ret ?_
    (rw [show knS m i j = [(elS m i, elS m j)] by unfold knS; rw [if_pos h16, if_neg (by omega)]]; exact ret_pure rfl rfl rfl (.inl rfl))

theorem fc19_a (m : Mv) (i j : Int) (hk : m.kind = 3) : FC Tryd.prog 13 [aM m, iv i, iv j] [] (.tup [.rs 3 ((outS m i j).map cV), .bool (btwB m i j)]) [] true := by
  refine fc_run (nt := 40) Tryd.func13 rfl rfl mcOk19 (Nat.le_of_ble_eq_true rfl) ?_
  delta mc19
  refine aw_seq ?_
  refine aw_reg ?_
  refine rs_box rfl rfl rfl rfl rfl rfl ?_
  refine rs_mv rfl rfl ?_
  refine rs_mv rfl rfl ?_
  refine rs_nil fun _ => ?_
  refine th_n ?_
  refine aw_seq ?_
  refine aw_reg ?_
  refine rs_ld_pa rfl rfl rfl rfl (Nat.le_of_ble_eq_true rfl) rfl ?_
  refine rs_mv rfl rfl ?_
  refine rs_mv rfl rfl ?_
  refine rs_callo [] rfl rfl (fc45 m i j) (.cons (hv_same rfl) (.cons (hv_same rfl) (.cons (hv_same rfl) (.nil)))) (.nil) rfl rfl rfl ?_
  refine rs_mv rfl rfl ?_
  refine rs_ext rfl rfl rfl ?_
  refine rs_ext rfl rfl rfl ?_
  cases h16 : btwB m i j
  · skip
    refine rs_mv rfl rfl ?_
    refine rs_mv rfl rfl ?_
    refine rs_nil fun _ => ?_
    refine th_n ?_
    refine aw_seq ?_
    refine aw_block ?_
    refine aw_seq ?_
    refine aw_reg ?_
    refine rs_mv rfl rfl ?_
    refine rs_not rfl rfl ?_
    refine rs_mv rfl rfl ?_
    refine rs_nil fun _ => ?_
    refine th_n ?_
    refine aw_cond rfl (fun _ => ?_) (fun h => by cases h)
    refine aw_seq ?_
    refine aw_reg ?_
    refine rs_mv rfl rfl ?_
    refine rs_mv rfl rfl ?_
    refine rs_nil fun _ => ?_
    refine th_n ?_
    refine aw_ret ?_
    refine in_r ?_
    refine th_r ?_
    (have hs : outS m i j = [] := if_neg (by rw [h16]; decide)
     first | rw [hs, h16] | rw [hs]
     exact ret_new rfl (rc_tup (.cons rc_nils (.cons (rc_same rfl (.inl rfl)) .nil))) .nil)
  · skip
    refine rs_mv rfl rfl ?_
    refine rs_mv rfl rfl ?_
    refine rs_nil fun _ => ?_
    refine th_n ?_
    refine aw_seq ?_
    refine aw_block ?_
    refine aw_seq ?_
    refine aw_reg ?_
    refine rs_mv rfl rfl ?_
    refine rs_not rfl rfl ?_
    refine rs_mv rfl rfl ?_
    refine rs_nil fun _ => ?_
    refine th_n ?_
    refine aw_cond rfl (fun h => by cases h) (fun _ => ?_)
    refine aw_seq ?_
    refine aw_reg ?_
    refine rs_mv rfl rfl ?_
    refine rs_mv rfl rfl ?_
    refine rs_eql rfl rfl rfl ?_
    refine rs_mv rfl rfl ?_
    refine rs_nil fun _ => ?_
    refine th_n ?_
    refine aw_cond rfl (fun h20 => ?_) (fun h20 => ?_)
    · replace h20 := of_decide_eq_true h20
      refine aw_seq ?_
      refine aw_reg ?_
      refine rs_mv rfl rfl ?_
      refine rs_mv rfl rfl ?_
      refine rs_mv rfl rfl ?_
      refine rs_nil fun _ => ?_
      refine th_n ?_
      refine aw_ret ?_
      refine in_r ?_
      refine th_r ?_
      (rw [show outS m i j = [elS m i] by unfold outS; rw [if_pos h16, if_pos h20], ← btw_one (by rw [← h20] at h16; exact h16), h20]; exact ret_pure rfl rfl rfl (.inl rfl))
    · replace h20 := of_decide_eq_false h20
      refine aw_skip ?_
      refine in_n ?_
      refine th_n ?_
      refine aw_seq ?_
      refine aw_draw hmix ?_
      refine rs_ld_pa rfl rfl rfl rfl (Nat.le_of_ble_eq_true rfl) rfl ?_
      refine rs_calln [] rfl rfl (fc39_a m hk) (.cons (hv_same rfl) (.nil)) rfl ?_
      refine rs_mv rfl rfl ?_
      have hbd := of_decide_eq_true h16
      have hbl := btw_len h16
      have e0 := btw_fst h16
      have e1 := btw_lst h16
      have hle := btw_le m i j
      refine rs_ix_g rfl rfl rfl (by omega) e0 ?_
      refine rs_ld_ra rfl rfl (Nat.le_of_ble_eq_true rfl) rfl ?_
      refine rs_mv rfl rfl ?_
      refine rs_mv rfl rfl ?_
      refine rs_len_m rfl rfl ?_
      refine rs_sub rfl rfl rfl (by omega) ?_
      refine rs_ix_g rfl rfl rfl (by omega) e1 ?_
      refine rs_ld_ra rfl rfl (Nat.le_of_ble_eq_true rfl) rfl ?_
      refine rs_mkbm rfl rfl rfl ?_
      refine rs_nilc_m (f := 81) rfl rfl (by kernel_rfl) ?_
      refine rs_mv rfl rfl ?_
      refine rs_invn [] rfl rfl (by kernel_rfl) (by kernel_rfl) rfl (fc81 m (elS m i) (elS m j)) (.cons (hv_same rfl) (.cons (hv_same rfl) (.cons (hv_same rfl) (.nil)))) rfl ?_
      refine rs_mv rfl rfl ?_
      refine rs_mv rfl rfl ?_
      refine rs_nil ⟨by kernel_rfl, fun _ => ?_⟩
      refine th_n ?_
      refine aw_ret ?_
      (rw [show outS m i j = [m.fr, m.co, m.to] by unfold outS; rw [if_pos h16, if_neg h20, if_pos hk]]; exact ret_pure rfl rfl rfl (.inl rfl))

theorem fc21_a (m : Mv) (i j : Int) (hk : m.kind = 3) : FC Tryd.prog 14 [aM m, iv i, iv j] [] (.tup [.rs 6 ((knS m i j).map cP), .bool (btwB m i j)]) [] true := by
  refine fc_run (nt := 23) Tryd.func14 rfl rfl mcOk21 (Nat.le_of_ble_eq_true rfl) ?_
  delta mc21
  refine aw_seq ?_
  refine aw_reg ?_
  refine rs_box rfl rfl rfl rfl rfl rfl ?_
  refine rs_mv rfl rfl ?_
  refine rs_mv rfl rfl ?_
  refine rs_nil fun _ => ?_
  refine th_n ?_
  refine aw_seq ?_
  refine aw_reg ?_
  refine rs_ld_pa rfl rfl rfl rfl (Nat.le_of_ble_eq_true rfl) rfl ?_
  refine rs_mv rfl rfl ?_
  refine rs_mv rfl rfl ?_
  refine rs_callo [] rfl rfl (fc45 m i j) (.cons (hv_same rfl) (.cons (hv_same rfl) (.cons (hv_same rfl) (.nil)))) (.nil) rfl rfl rfl ?_
  refine rs_mv rfl rfl ?_
  refine rs_ext rfl rfl rfl ?_
  refine rs_ext rfl rfl rfl ?_
  cases h16 : btwB m i j
  · skip
    refine rs_mv rfl rfl ?_
    refine rs_mv rfl rfl ?_
    refine rs_nil fun _ => ?_
    refine th_n ?_
    refine aw_seq ?_
    refine aw_seq ?_
    refine aw_reg ?_
    refine rs_mv rfl rfl ?_
    refine rs_not rfl rfl ?_
    refine rs_nil fun _ => ?_
    refine th_n ?_
    refine aw_cond rfl (fun _ => ?_) (fun h => by cases h)
    refine aw_seq ?_
    refine aw_reg ?_
    refine rs_mv rfl rfl ?_
    refine rs_mv rfl rfl ?_
    refine rs_nil fun _ => ?_
    refine th_n ?_
    refine aw_ret ?_
    refine th_r ?_
    (have hs : knS m i j = [] := if_neg (by rw [h16]; decide)
     first | rw [hs, h16] | rw [hs]
     exact ret_new rfl (rc_tup (.cons rc_nils (.cons (rc_same rfl (.inl rfl)) .nil))) .nil)
  · skip
    refine rs_mv rfl rfl ?_
    refine rs_mv rfl rfl ?_
    refine rs_nil fun _ => ?_
    refine th_n ?_
    refine aw_seq ?_
    refine aw_seq ?_
    refine aw_reg ?_
    refine rs_mv rfl rfl ?_
    refine rs_not rfl rfl ?_
    refine rs_nil fun _ => ?_
    refine th_n ?_
    refine aw_cond rfl (fun h => by cases h) (fun _ => ?_)
    refine aw_skip ?_
    refine th_n ?_
    refine aw_seq ?_
    refine aw_reg ?_
    refine rs_ld_pa rfl rfl rfl rfl (Nat.le_of_ble_eq_true rfl) rfl ?_
    refine rs_calln [] rfl rfl (fc39_a m hk) (.cons (hv_same rfl) (.nil)) rfl ?_
    refine rs_mv rfl rfl ?_
    have hbd := of_decide_eq_true h16
    have hbl := btw_len h16
    have e0 := btw_fst h16
    have e1 := btw_lst h16
    have hle := btw_le m i j
    refine rs_invn [] rfl rfl (by kernel_rfl) (by kernel_rfl) rfl (fc80 m (btwS m i j) (by omega)) (.cons (hv_same rfl) (.cons (hv_same rfl) (.nil))) rfl ?_
    refine rs_mv rfl rfl ?_
    refine rs_mv rfl rfl ?_
    refine rs_nil fun _ => ?_
    refine th_n ?_
    refine aw_ret ?_
    (rw [show knS m i j = ((btwS m i j).map fun v => (v, v)) by unfold knS; rw [if_pos h16, if_pos hk]]; exact ret_pure rfl rfl rfl (.inl rfl))

theorem fc19_n (m : Mv) (i j : Int) (hk : ¬ m.kind = 1 ∧ ¬ m.kind = 2 ∧ ¬ m.kind = 3) : FC Tryd.prog 13 [aM m, iv i, iv j] [] (.tup [.rs 3 ((outS m i j).map cV), .bool (btwB m i j)]) [] true := by
  have h16 : btwB m i j = false := decide_eq_false (by rw [path_0 (m := m) (by rw [ck_n hk]; decide)]; simp; omega)
  have h45 := fc45 m i j
  rw [h16] at h45
  refine fc_run (nt := 40) Tryd.func13 rfl rfl mcOk19 (Nat.le_of_ble_eq_true rfl) ?_
  delta mc19
  refine aw_seq ?_
  refine aw_reg ?_
  refine rs_box rfl rfl rfl rfl rfl rfl ?_
  refine rs_mv rfl rfl ?_
  refine rs_mv rfl rfl ?_
  refine rs_nil fun _ => ?_
  refine th_n ?_
  refine aw_seq ?_
  refine aw_reg ?_
  refine rs_ld_pa rfl rfl rfl rfl (Nat.le_of_ble_eq_true rfl) rfl ?_
  refine rs_mv rfl rfl ?_
  refine rs_mv rfl rfl ?_
  refine rs_callo [] rfl rfl (h45) (.cons (hv_same rfl) (.cons (hv_same rfl) (.cons (hv_same rfl) (.nil)))) (.nil) rfl rfl rfl ?_
  refine rs_mv rfl rfl ?_
  refine rs_ext rfl rfl rfl ?_
  refine rs_ext rfl rfl rfl ?_
  refine rs_mv rfl rfl ?_
  refine rs_mv rfl rfl ?_
  refine rs_nil fun _ => ?_
  refine th_n ?_
  refine aw_seq ?_
  refine aw_block ?_
  refine aw_seq ?_
  refine aw_reg ?_
  refine rs_mv rfl rfl ?_
  refine rs_not rfl rfl ?_
  refine rs_mv rfl rfl ?_
  refine rs_nil fun _ => ?_
  refine th_n ?_
  refine aw_cond rfl (fun _ => ?_) (fun h => by cases h)
  refine aw_seq ?_
  refine aw_reg ?_
  refine rs_mv rfl rfl ?_
  refine rs_mv rfl rfl ?_
  refine rs_nil fun _ => ?_
  refine th_n ?_
  refine aw_ret ?_
  refine in_r ?_
  refine th_r ?_
  (have hs : outS m i j = [] := if_neg (by rw [h16]; decide)
   first | rw [hs, h16] | rw [hs]
   exact ret_new rfl (rc_tup (.cons rc_nils (.cons (rc_same rfl (.inl rfl)) .nil))) .nil)

theorem fc19 (m : Mv) (i j : Int) : FC Tryd.prog 13 [aM m, iv i, iv j] [] (.tup [.rs 3 ((outS m i j).map cV), .bool (btwB m i j)]) [] true := by
  by_cases h1 : m.kind = 1 ∨ m.kind = 2
  · exact fc19_l m i j h1
  · by_cases h3 : m.kind = 3
    · exact fc19_a m i j h3
    · exact fc19_n m i j (by omega)

theorem fc21_n (m : Mv) (i j : Int) (hk : ¬ m.kind = 1 ∧ ¬ m.kind = 2 ∧ ¬ m.kind = 3) : FC Tryd.prog 14 [aM m, iv i, iv j] [] (.tup [.rs 6 ((knS m i j).map cP), .bool (btwB m i j)]) [] true := by
  have h16 : btwB m i j = false := decide_eq_false (by rw [path_0 (m := m) (by rw [ck_n hk]; decide)]; simp; omega)
  have h45 := fc45 m i j
  rw [h16] at h45
  refine fc_run (nt := 23) Tryd.func14 rfl rfl mcOk21 (Nat.le_of_ble_eq_true rfl) ?_
  delta mc21
  refine aw_seq ?_
  refine aw_reg ?_
  refine rs_box rfl rfl rfl rfl rfl rfl ?_
  refine rs_mv rfl rfl ?_
  refine rs_mv rfl rfl ?_
  refine rs_nil fun _ => ?_
  refine th_n ?_
  refine aw_seq ?_
  refine aw_reg ?_
  refine rs_ld_pa rfl rfl rfl rfl (Nat.le_of_ble_eq_true rfl) rfl ?_
  refine rs_mv rfl rfl ?_
  refine rs_mv rfl rfl ?_
  refine rs_callo [] rfl rfl (h45) (.cons (hv_same rfl) (.cons (hv_same rfl) (.cons (hv_same rfl) (.nil)))) (.nil) rfl rfl rfl ?_
  refine rs_mv rfl rfl ?_
  refine rs_ext rfl rfl rfl ?_
  refine rs_ext rfl rfl rfl ?_
  refine rs_mv rfl rfl ?_
  refine rs_mv rfl rfl ?_
  refine rs_nil fun _ => ?_
  refine th_n ?_
  refine aw_seq ?_
  refine aw_seq ?_
  refine aw_reg ?_
  refine rs_mv rfl rfl ?_
  refine rs_not rfl rfl ?_
  refine rs_nil fun _ => ?_
  refine th_n ?_
  refine aw_cond rfl (fun _ => ?_) (fun h => by cases h)
  refine aw_seq ?_
  refine aw_reg ?_
  refine rs_mv rfl rfl ?_
  refine rs_mv rfl rfl ?_
  refine rs_nil fun _ => ?_
  refine th_n ?_
  refine aw_ret ?_
  refine th_r ?_
  (have hs : knS m i j = [] := if_neg (by rw [h16]; decide)
   first | rw [hs, h16] | rw [hs]
   exact ret_new rfl (rc_tup (.cons rc_nils (.cons (rc_same rfl (.inl rfl)) .nil))) .nil)

theorem fc21 (m : Mv) (i j : Int) : FC Tryd.prog 14 [aM m, iv i, iv j] [] (.tup [.rs 6 ((knS m i j).map cP), .bool (btwB m i j)]) [] true := by
  by_cases h1 : m.kind = 1 ∨ m.kind = 2
  · exact fc21_l m i j h1
  · by_cases h3 : m.kind = 3
    · exact fc21_a m i j h3
    · exact fc21_n m i j (by omega)

def mc23 : MC := (.seq (.reg [⟨(some 4), (.mv (.c (.bool false))), none, []⟩] false) (.seq (.seq (.reg [⟨(some 6), (.mv (.t 0)), none, []⟩, ⟨(some 7), (.len (.t 6)), none, [0]⟩, ⟨(some 8), (.mv (.t 1)), none, []⟩, ⟨(some 9), (.len (.t 8)), none, [2]⟩, ⟨(some 10), (.bin .neq (.t 7) (.t 9)), none, [1, 3]⟩] false) (.cond (.t 10) (.seq (.reg [⟨(some 4), (.mv (.c (.bool false))), none, []⟩] false) .ret) .skip)) (.seq (.seq (.reg [⟨(some 5), (.mv (.c (.int .i64 0))), none, []⟩] false) (.block 0 (.loop (.seq (.seq (.reg [⟨(some 11), (.mv (.t 5)), none, []⟩, ⟨(some 12), (.mv (.t 0)), none, []⟩, ⟨(some 13), (.len (.t 12)), none, [1]⟩, ⟨(some 14), (.bin .lss (.t 11) (.t 13)), none, [0, 2]⟩] false) (.cond (.t 14) .skip (.exit 0))) (.seq (.block 1 (.seq (.reg [⟨(some 17), (.mv (.t 0)), none, []⟩, ⟨(some 18), (.mv (.t 5)), none, []⟩, ⟨(some 19), (.ixsl 3 (.t 17) (.t 18)), none, [0, 1]⟩, ⟨(some 20), (.ld true 3 (.t 19)), none, [2]⟩, ⟨(some 21), (.mv (.t 1)), none, []⟩, ⟨(some 22), (.mv (.t 5)), none, []⟩, ⟨(some 23), (.ixsl 3 (.t 21) (.t 22)), none, [4, 5]⟩, ⟨(some 24), (.ld true 3 (.t 23)), none, [6]⟩, ⟨(some 25), (.aeq true 3 (.t 20) (.t 24)), none, [3, 7]⟩] true) (.cond (.t 25) (.seq (.reg [⟨(some 4), (.mv (.c (.bool false))), none, []⟩] false) .ret) .skip))) (.reg [⟨(some 15), (.mv (.t 5)), none, []⟩, ⟨(some 16), (.bin .add (.t 15) (.c (.int .i64 1))), none, [0]⟩, ⟨(some 5), (.mv (.t 16)), none, [1, 0, 1]⟩] false)))))) (.seq (.reg [⟨(some 4), (.mv (.c (.bool true))), none, []⟩] false) .ret))))
theorem mcOk23 : (match Tryd.f15.body with | some c => compC Tryd.prog 26 c | none => none) = some mc23 := by kernel_rfl

theorem fc23 (xs ys : List (V3)) (hx : xs.length ≤ 4611686018427387904) : FC Tryd.prog 15 [.rs 3 (xs.map cV), .rs 3 (ys.map cV)] [] (.bool (decide (xs = ys))) [] false := by
  refine fc_run (nt := 26) Tryd.func15 rfl rfl mcOk23 (Nat.le_of_ble_eq_true rfl) ?_
  delta mc23
  refine aw_seq ?_
  refine aw_reg ?_
  refine rs_mv rfl rfl ?_
  refine rs_nil fun _ => ?_
  refine th_n ?_
  refine aw_seq ?_
  refine aw_seq ?_
  refine aw_reg ?_
  refine rs_mv rfl rfl ?_
  refine rs_len_m rfl rfl ?_
  refine rs_mv rfl rfl ?_
  refine rs_len_m rfl rfl ?_
  refine rs_neq rfl rfl rfl ?_
  refine rs_nil fun _ => ?_
  refine th_n ?_
  refine aw_cond rfl (fun h10 => ?_) (fun h10 => ?_)
  · replace h10 := of_decide_eq_true h10
    refine aw_seq ?_
    refine aw_reg ?_
    refine rs_mv rfl rfl ?_
    refine rs_nil fun _ => ?_
    refine th_n ?_
    refine aw_ret ?_
    refine th_r ?_
    exact ret_pure rfl (congrArg AV.bool (Eq.symm (decide_eq_false (fun e => by subst e; omega)))) rfl (.inr rfl)
  · replace h10 := of_decide_eq_false h10
    refine aw_skip ?_
    refine th_n ?_
    refine aw_seq ?_
    refine aw_seq ?_
    refine aw_reg ?_
    refine rs_mv rfl rfl ?_
    refine rs_nil fun _ => ?_
    refine th_n ?_
    refine aw_block ?_
    refine aw_fam (α := Nat) (fun k => xs.length - k) (fun k => [(0, .rs 3 (xs.map cV)), (1, .rs 3 (ys.map cV)), (5, iv (((k) : Nat) : Int))]) (fun k => []) (fun k => k ≤ xs.length ∧ ∀ j, j < k → xs[j]? = ys[j]?) 0 (⟨by omega, fun j h => by omega⟩)
      (weak_to (.cons rfl (rc_same rfl (.inl rfl)) (.cons rfl (rc_same rfl (.inl rfl)) (.cons rfl (rc_same rfl (.inl rfl)) (.nil)))) (.nil) (fun i h => by cases h)) ?_
    rintro k ⟨hk, hj⟩
    have hlen : xs.length = ys.length := by omega
    refine aw_seq ?_
    refine aw_seq ?_
    refine aw_reg ?_
    refine rs_mv rfl rfl ?_
    refine rs_mv rfl rfl ?_
    refine rs_len_m rfl rfl ?_
    refine rs_lss rfl rfl rfl ?_
    refine rs_nil fun _ => ?_
    refine th_n ?_
    refine aw_cond rfl (fun h14 => ?_) (fun h14 => ?_)
    · replace h14 := of_decide_eq_true h14
      refine aw_skip ?_
      refine th_n ?_
      refine aw_seq ?_
      refine aw_block ?_
      refine aw_seq ?_
      refine aw_draw hmix ?_
      refine rs_mv rfl rfl ?_
      refine rs_mv rfl rfl ?_
      obtain ⟨x, hxk, _⟩ := at_some (L := xs) (k := k) (by omega)
      obtain ⟨y, hyk, _⟩ := at_some (L := ys) (k := k) (by omega)
      refine rs_ix_g rfl rfl rfl (by omega) hxk ?_
      refine rs_ld_ra rfl rfl (Nat.le_of_ble_eq_true rfl) rfl ?_
      refine rs_mv rfl rfl ?_
      refine rs_mv rfl rfl ?_
      refine rs_ix_g rfl rfl rfl (by omega) hyk ?_
      refine rs_ld_ra rfl rfl (Nat.le_of_ble_eq_true rfl) rfl ?_
      refine rs_aeqv rfl rfl rfl ?_
      refine rs_nil ⟨by kernel_rfl, fun _ => ?_⟩
      refine th_n ?_
      refine aw_cond rfl (fun h25 => ?_) (fun h25 => ?_)
      · skip
        have hne : x ≠ y := by simpa using h25
        refine aw_seq ?_
        refine aw_reg ?_
        refine rs_mv rfl rfl ?_
        refine rs_nil fun _ => ?_
        refine th_n ?_
        refine aw_ret ?_
        refine in_r ?_
        refine th_r ?_
        refine th_r ?_
        refine in_r ?_
        refine th_r ?_
        exact ret_pure rfl (congrArg AV.bool (Eq.symm (decide_eq_false (fun e => by subst e; rw [hxk] at hyk; injection hyk with hyk; exact hne hyk)))) rfl (.inr rfl)
      · skip
        have he : x = y := by simpa using h25
        refine aw_skip ?_
        refine in_n ?_
        refine th_n ?_
        refine aw_reg ?_
        refine rs_mv rfl rfl ?_
        refine rs_add rfl rfl rfl (by omega) ?_
        refine rs_mv rfl rfl ?_
        refine rs_nil fun _ => ?_
        refine th_n ?_
        exact ⟨k + 1, ⟨by omega, fun j hj1 => by
          by_cases e : j = k
          · subst e; rw [hxk, hyk, he]
          · exact hj j (by omega)⟩, by omega, weak_to (.cons rfl (rc_same rfl (.inl rfl)) (.cons rfl (rc_same rfl (.inl rfl)) (.cons rfl (rc_same rfl (.inl rfl)) (.nil)))) (.nil) (fun i h => by cases h)⟩
    · replace h14 := of_decide_eq_false h14
      refine aw_exit ?_
      refine th_e ?_
      refine th_e ?_
      refine in_hit ?_
      refine th_n ?_
      refine aw_seq ?_
      refine aw_reg ?_
      refine rs_mv rfl rfl ?_
      refine rs_nil fun _ => ?_
      refine th_n ?_
      refine aw_ret ?_
      first
        | exact ret_pure rfl (congrArg AV.bool (Eq.symm (decide_eq_false (fun e => by subst e; omega)))) rfl (.inr rfl)
        | exact ret_pure rfl (congrArg AV.bool (Eq.symm (decide_eq_false (fun e => by subst e; rw [hxk] at hyk; injection hyk with hyk; exact hne hyk)))) rfl (.inr rfl)
        | exact ret_pure rfl (congrArg AV.bool (Eq.symm (decide_eq_true (List.ext_getElem? fun j => by
            by_cases e : j < k
            · exact hj j e
            · rw [List.getElem?_eq_none (by omega), List.getElem?_eq_none (by omega)])))) rfl (.inr rfl)

def mc24 : MC := (.seq (.reg [⟨(some 4), (.mv (.c (.bool false))), none, []⟩] false) (.seq (.seq (.reg [⟨(some 6), (.mv (.t 0)), none, []⟩, ⟨(some 7), (.len (.t 6)), none, [0]⟩, ⟨(some 8), (.mv (.t 1)), none, []⟩, ⟨(some 9), (.len (.t 8)), none, [2]⟩, ⟨(some 10), (.bin .neq (.t 7) (.t 9)), none, [1, 3]⟩] false) (.cond (.t 10) (.seq (.reg [⟨(some 4), (.mv (.c (.bool false))), none, []⟩] false) .ret) .skip)) (.seq (.seq (.reg [⟨(some 5), (.mv (.c (.int .i64 0))), none, []⟩] false) (.block 0 (.loop (.seq (.seq (.reg [⟨(some 11), (.mv (.t 5)), none, []⟩, ⟨(some 12), (.mv (.t 0)), none, []⟩, ⟨(some 13), (.len (.t 12)), none, [1]⟩, ⟨(some 14), (.bin .lss (.t 11) (.t 13)), none, [0, 2]⟩] false) (.cond (.t 14) .skip (.exit 0))) (.seq (.block 1 (.seq (.reg [⟨(some 17), (.mv (.t 0)), none, []⟩, ⟨(some 18), (.mv (.t 5)), none, []⟩, ⟨(some 19), (.ixsl 6 (.t 17) (.t 18)), none, [0, 1]⟩, ⟨(some 20), (.ld true 6 (.t 19)), none, [2]⟩, ⟨(some 21), (.mv (.t 1)), none, []⟩, ⟨(some 22), (.mv (.t 5)), none, []⟩, ⟨(some 23), (.ixsl 6 (.t 21) (.t 22)), none, [4, 5]⟩, ⟨(some 24), (.ld true 6 (.t 23)), none, [6]⟩, ⟨(some 25), (.aeq true 6 (.t 20) (.t 24)), none, [3, 7]⟩] true) (.cond (.t 25) (.seq (.reg [⟨(some 4), (.mv (.c (.bool false))), none, []⟩] false) .ret) .skip))) (.reg [⟨(some 15), (.mv (.t 5)), none, []⟩, ⟨(some 16), (.bin .add (.t 15) (.c (.int .i64 1))), none, [0]⟩, ⟨(some 5), (.mv (.t 16)), none, [1, 0, 1]⟩] false)))))) (.seq (.reg [⟨(some 4), (.mv (.c (.bool true))), none, []⟩] false) .ret))))
theorem mcOk24 : (match Tryd.f16.body with | some c => compC Tryd.prog 26 c | none => none) = some mc24 := by kernel_rfl

theorem fc24 (xs ys : List (V3 × V3)) (hx : xs.length ≤ 4611686018427387904) : FC Tryd.prog 16 [.rs 6 (xs.map cP), .rs 6 (ys.map cP)] [] (.bool (decide (xs = ys))) [] false := by
  refine fc_run (nt := 26) Tryd.func16 rfl rfl mcOk24 (Nat.le_of_ble_eq_true rfl) ?_
  delta mc24
  refine aw_seq ?_
  refine aw_reg ?_
  refine rs_mv rfl rfl ?_
  refine rs_nil fun _ => ?_
  refine th_n ?_
  refine aw_seq ?_
  refine aw_seq ?_
  refine aw_reg ?_
  refine rs_mv rfl rfl ?_
  refine rs_len_m rfl rfl ?_
  refine rs_mv rfl rfl ?_
  refine rs_len_m rfl rfl ?_
  refine rs_neq rfl rfl rfl ?_
  refine rs_nil fun _ => ?_
  refine th_n ?_
  refine aw_cond rfl (fun h10 => ?_) (fun h10 => ?_)
  · replace h10 := of_decide_eq_true h10
    refine aw_seq ?_
    refine aw_reg ?_
    refine rs_mv rfl rfl ?_
    refine rs_nil fun _ => ?_
    refine th_n ?_
    refine aw_ret ?_
    refine th_r ?_
    exact ret_pure rfl (congrArg AV.bool (Eq.symm (decide_eq_false (fun e => by subst e; omega)))) rfl (.inr rfl)
  · replace h10 := of_decide_eq_false h10
    refine aw_skip ?_
    refine th_n ?_
    refine aw_seq ?_
    refine aw_seq ?_
    refine aw_reg ?_
    refine rs_mv rfl rfl ?_
    refine rs_nil fun _ => ?_
    refine th_n ?_
    refine aw_block ?_
    refine aw_fam (α := Nat) (fun k => xs.length - k) (fun k => [(0, .rs 6 (xs.map cP)), (1, .rs 6 (ys.map cP)), (5, iv (((k) : Nat) : Int))]) (fun k => []) (fun k => k ≤ xs.length ∧ ∀ j, j < k → xs[j]? = ys[j]?) 0 (⟨by omega, fun j h => by omega⟩)
      (weak_to (.cons rfl (rc_same rfl (.inl rfl)) (.cons rfl (rc_same rfl (.inl rfl)) (.cons rfl (rc_same rfl (.inl rfl)) (.nil)))) (.nil) (fun i h => by cases h)) ?_
    rintro k ⟨hk, hj⟩
    have hlen : xs.length = ys.length := by omega
    refine aw_seq ?_
    refine aw_seq ?_
    refine aw_reg ?_
    refine rs_mv rfl rfl ?_
    refine rs_mv rfl rfl ?_
    refine rs_len_m rfl rfl ?_
    refine rs_lss rfl rfl rfl ?_
    refine rs_nil fun _ => ?_
    refine th_n ?_
    refine aw_cond rfl (fun h14 => ?_) (fun h14 => ?_)
    · replace h14 := of_decide_eq_true h14
      refine aw_skip ?_
      refine th_n ?_
      refine aw_seq ?_
      refine aw_block ?_
      refine aw_seq ?_
      refine aw_draw hmix ?_
      refine rs_mv rfl rfl ?_
      refine rs_mv rfl rfl ?_
      obtain ⟨x, hxk, _⟩ := at_some (L := xs) (k := k) (by omega)
      obtain ⟨y, hyk, _⟩ := at_some (L := ys) (k := k) (by omega)
      refine rs_ix_g rfl rfl rfl (by omega) hxk ?_
      refine rs_ld_ra rfl rfl (Nat.le_of_ble_eq_true rfl) rfl ?_
      refine rs_mv rfl rfl ?_
      refine rs_mv rfl rfl ?_
      refine rs_ix_g rfl rfl rfl (by omega) hyk ?_
      refine rs_ld_ra rfl rfl (Nat.le_of_ble_eq_true rfl) rfl ?_
      refine rs_aeqp rfl rfl rfl ?_
      refine rs_nil ⟨by kernel_rfl, fun _ => ?_⟩
      refine th_n ?_
      refine aw_cond rfl (fun h25 => ?_) (fun h25 => ?_)
      · skip
        have hne : x ≠ y := by simpa using h25
        refine aw_seq ?_
        refine aw_reg ?_
        refine rs_mv rfl rfl ?_
        refine rs_nil fun _ => ?_
        refine th_n ?_
        refine aw_ret ?_
        refine in_r ?_
        refine th_r ?_
        refine th_r ?_
        refine in_r ?_
        refine th_r ?_
        exact ret_pure rfl (congrArg AV.bool (Eq.symm (decide_eq_false (fun e => by subst e; rw [hxk] at hyk; injection hyk with hyk; exact hne hyk)))) rfl (.inr rfl)
      · skip
        have he : x = y := by simpa using h25
        refine aw_skip ?_
        refine in_n ?_
        refine th_n ?_
        refine aw_reg ?_
        refine rs_mv rfl rfl ?_
        refine rs_add rfl rfl rfl (by omega) ?_
        refine rs_mv rfl rfl ?_
        refine rs_nil fun _ => ?_
        refine th_n ?_
        exact ⟨k + 1, ⟨by omega, fun j hj1 => by
          by_cases e : j = k
          · subst e; rw [hxk, hyk, he]
          · exact hj j (by omega)⟩, by omega, weak_to (.cons rfl (rc_same rfl (.inl rfl)) (.cons rfl (rc_same rfl (.inl rfl)) (.cons rfl (rc_same rfl (.inl rfl)) (.nil)))) (.nil) (fun i h => by cases h)⟩
    · replace h14 := of_decide_eq_false h14
      refine aw_exit ?_
      refine th_e ?_
      refine th_e ?_
      refine in_hit ?_
      refine th_n ?_
      refine aw_seq ?_
      refine aw_reg ?_
      refine rs_mv rfl rfl ?_
      refine rs_nil fun _ => ?_
      refine th_n ?_
      refine aw_ret ?_
      first
        | exact ret_pure rfl (congrArg AV.bool (Eq.symm (decide_eq_false (fun e => by subst e; omega)))) rfl (.inr rfl)
        | exact ret_pure rfl (congrArg AV.bool (Eq.symm (decide_eq_false (fun e => by subst e; rw [hxk] at hyk; injection hyk with hyk; exact hne hyk)))) rfl (.inr rfl)
        | exact ret_pure rfl (congrArg AV.bool (Eq.symm (decide_eq_true (List.ext_getElem? fun j => by
            by_cases e : j < k
            · exact hj j e
            · rw [List.getElem?_eq_none (by omega), List.getElem?_eq_none (by omega)])))) rfl (.inr rfl)

end Go.Proofs.YteommcdafifckaaDoor

/-! Walks: M6. -/
namespace Go.Proofs.YteommcdafifckaaDoor
open Go.RowKit
set_option maxRecDepth 100000

def axL : List V3 := [⟨1, 0, 0⟩, ⟨0, 1, 0⟩, ⟨0, 0, 1⟩, ⟨-1, 0, 0⟩, ⟨0, -1, 0⟩, ⟨0, 0, -1⟩]
def axS (n : Int) : V3 := (axL[(modS n 6).toNat]?).getD ⟨0, 0, 0⟩
theorem ax_at (n : Int) : axL[0 + (modS n 6).toNat]? = some (axS n) := by
  have h := modS_range n 6 (by omega)
  unfold axS
  generalize modS n 6 = t at h
  obtain rfl | rfl | rfl | rfl | rfl | rfl : t = 0 ∨ t = 1 ∨ t = 2 ∨ t = 3 ∨ t = 4 ∨ t = 5 := by omega
  all_goals rfl
theorem ax_mem (n : Int) : axS n ∈ axL := List.mem_of_getElem? (ax_at n)
theorem ax_bd (n : Int) : Bd 1 (axS n) := by
  have h := ax_mem n
  unfold axL at h
  simp only [List.mem_cons, List.not_mem_nil, or_false] at h
  rcases h with h | h | h | h | h | h <;> rw [h] <;> exact ⟨by decide, by decide, by decide⟩
def rS (t : Int) : Int := (([1, 2, 5, 5, 10] : List Int)[t.toNat]?).getD 0
theorem r_at (t : Int) (h0 : 0 ≤ t) (h1 : t < 5) : ([ci 1, ci 2, ci 5, ci 5, ci 10] : List (List AV))[0 + t.toNat]? = some (ci (rS t)) := by
  obtain rfl | rfl | rfl | rfl | rfl : t = 0 ∨ t = 1 ∨ t = 2 ∨ t = 3 ∨ t = 4 := by omega
  all_goals rfl
theorem r_range (t : Int) (h0 : 0 ≤ t) (h1 : t < 5) : rS t = 1 ∨ rS t = 2 ∨ rS t = 5 ∨ rS t = 10 := by
  obtain rfl | rfl | rfl | rfl | rfl : t = 0 ∨ t = 1 ∨ t = 2 ∨ t = 3 ∨ t = 4 := by omega
  all_goals decide
abbrev q1 (l : List Int) : Nat := nextA l 0
abbrev q2 (l : List Int) : Nat := vecA l (q1 l)
abbrev q3 (l : List Int) : Nat := nextA l (q2 l)
abbrev q4 (l : List Int) : Nat := nextA l (q3 l)
abbrev q5 (l : List Int) : Nat := nextA l (q4 l)
abbrev q6 (l : List Int) : Nat := nextA l (q5 l)
abbrev mK (l : List Int) : Int := nextV l 0 4
abbrev mF (l : List Int) : V3 := vecV l (q1 l) 8
abbrev mG (l : List Int) : Int := 1 + nextV l (q2 l) 100
abbrev mA (l : List Int) : Int := nextV l (q3 l) 6
abbrev mB (l : List Int) : Int := nextV l (q3 l) 6 + 1 + nextV l (q4 l) 2 + 3 * nextV l (q5 l) 2
abbrev mR (l : List Int) : Int := rS (nextV l (q6 l) 5)
abbrev mC (l : List Int) : V3 := plus (mF l) (axS (mA l)) (mR l)
abbrev mT (l : List Int) : V3 := plus (mC l) (axS (mB l)) (mR l)
abbrev mV (l : List Int) : V3 := vecV l (q3 l) 3
abbrev q4v (l : List Int) : Nat := vecA l (q3 l)
def mBy (l : List Int) : V3 := if mV l = ⟨0, 0, 0⟩ then axS (nextV l (q4v l) 6) else mV l
def q5v (l : List Int) : Nat := if mV l = ⟨0, 0, 0⟩ then nextA l (q4v l) else q4v l
def mN (l : List Int) : Int := 1 + nextV l (q5v l) 3
def mTo (l : List Int) : V3 := plus (mF l) (mBy l) (mN l)
def madeS (l : List Int) : Mv := if mK l = 3 then ⟨3, mF l, mT l, mC l, mG l⟩ else if mK l = 0 then ⟨1, mF l, mTo l, ⟨0, 0, 0⟩, 0⟩ else ⟨2, mF l, mTo l, ⟨0, 0, 0⟩, mG l⟩
def nS (a b : Int) : Int := (([b, 0, 1, 100, 101, -1, 24, 25, -25] : List Int)[(modS a 9).toNat]?).getD 0
theorem n_at (a b : Int) : ([ci b, ci 0, ci 1, ci 100, ci 101, ci (-1), ci 24, ci 25, ci (-25)] : List (List AV))[0 + (modS a 9).toNat]? = some (ci (nS a b)) := by
  have h := modS_range a 9 (by omega)
  unfold nS
  generalize modS a 9 = t at h
  obtain rfl | rfl | rfl | rfl | rfl | rfl | rfl | rfl | rfl : t = 0 ∨ t = 1 ∨ t = 2 ∨ t = 3 ∨ t = 4 ∨ t = 5 ∨ t = 6 ∨ t = 7 ∨ t = 8 := by omega
  all_goals rfl
def oddS (m : Mv) (a b c : Int) : Mv :=
  if modS a 8 = 0 then { m with kind := nS b c } else if modS a 8 = 1 then { m with feed := nS b c } else if modS a 8 = 2 then { m with fr := ⟨nS b c, m.fr.y, m.fr.z⟩ } else if modS a 8 = 3 then { m with to := ⟨m.to.x, nS b c, m.to.z⟩ }
  else if modS a 8 = 4 then { m with co := ⟨m.co.x, m.co.y, nS b c⟩ } else if modS a 8 = 5 then { m with to := m.fr } else if modS a 8 = 6 then { m with kind := 1 + modS m.kind 3 } else { m with co := ⟨0, 0, 0⟩ }

def mc38 : MC := (.seq (.reg [⟨(some 2), (.alloc 26 3 [(.int .i64 0), (.int .i64 0), (.int .i64 0)]), none, []⟩] false) (.seq (.reg [⟨(some 4), (.build [(.int .i64 0), (.int .i64 0), (.int .i64 0)] [(0, (1, (.c (.int .i64 1))))]), none, []⟩, ⟨(some 5), (.build [(.int .i64 0), (.int .i64 0), (.int .i64 0)] [(1, (1, (.c (.int .i64 1))))]), none, []⟩, ⟨(some 6), (.build [(.int .i64 0), (.int .i64 0), (.int .i64 0)] [(2, (1, (.c (.int .i64 1))))]), none, []⟩, ⟨(some 7), (.build [(.int .i64 0), (.int .i64 0), (.int .i64 0)] [(0, (1, (.c (.int .i64 (-1)))))]), none, []⟩, ⟨(some 8), (.build [(.int .i64 0), (.int .i64 0), (.int .i64 0)] [(1, (1, (.c (.int .i64 (-1)))))]), none, []⟩, ⟨(some 9), (.build [(.int .i64 0), (.int .i64 0), (.int .i64 0)] [(2, (1, (.c (.int .i64 (-1)))))]), none, []⟩, ⟨(some 10), (.bslice 26 3 [(.int .i64 0), (.int .i64 0), (.int .i64 0)] 6 [(0, (.t 4)), (1, (.t 5)), (2, (.t 6)), (3, (.t 7)), (4, (.t 8)), (5, (.t 9))]), none, [0, 1, 2, 3, 4, 5]⟩, ⟨(some 3), (.mv (.t 10)), none, [6, 0, 1, 2, 3, 4, 5, 6]⟩] false) (.seq (.reg [⟨(some 11), (.mv (.t 3)), none, []⟩, ⟨(some 12), (.mv (.t 0)), none, []⟩, ⟨(some 13), (.call 35 [(.t 12), (.c (.int .i64 6))]), none, [1]⟩, ⟨(some 14), (.ixsl 3 (.t 11) (.t 13)), none, [0, 2]⟩, ⟨(some 15), (.ld true 3 (.t 14)), none, [3]⟩, ⟨none, (.st 3 (.t 2) (.t 15)), none, [4, 2, 0, 1, 2, 3, 4]⟩] false) .ret)))
theorem mcOk38 : (match Tryd.f21.body with | some c => compC Tryd.prog 16 c | none => none) = some mc38 := by kernel_rfl

theorem fc38 (n : Int) : FC Tryd.prog 21 [iv n] [] (aV (axS n)) [] false := by
  have hw := modS_range n 6 (by omega)
  refine fc_run (nt := 16) Tryd.func21 rfl rfl mcOk38 (Nat.le_of_ble_eq_true rfl) ?_
  delta mc38
  refine aw_seq ?_
  refine aw_reg ?_
  refine rs_alloc rfl rfl rfl ?_
  refine rs_nil fun _ => ?_
  refine th_n ?_
  refine aw_seq ?_
  refine aw_reg ?_
  refine rs_build rfl rfl ?_
  refine rs_build rfl rfl ?_
  refine rs_build rfl rfl ?_
  refine rs_build rfl rfl ?_
  refine rs_build rfl rfl ?_
  refine rs_build rfl rfl ?_
  refine rs_bslice rfl rfl rfl rfl rfl rfl ?_
  refine rs_mv rfl rfl ?_
  refine rs_nil fun _ => ?_
  refine th_n ?_
  refine aw_seq ?_
  refine aw_reg ?_
  refine rs_mv rfl rfl ?_
  refine rs_mv rfl rfl ?_
  refine rs_calln [] rfl rfl (fc16 n 6 (by omega)) (.cons (hv_same rfl) (.cons (hv_same rfl) (.nil))) rfl ?_
  refine rs_ix_s rfl rfl rfl rfl hw.1 hw.2 ?_
  refine rs_ld_ga (f := cV) (xs := axL) (y := axS n) rfl rfl rfl (ax_at n) (Nat.le_of_ble_eq_true rfl) rfl ?_
  refine rs_st rfl rfl rfl rfl rfl rfl rfl (Nat.le_of_ble_eq_true rfl) rfl rfl ?_
  refine rs_nil fun _ => ?_
  refine th_n ?_
  refine aw_ret ?_
  exact ret_pure rfl rfl rfl (.inr rfl)

def mc10 : MC := (.seq (.reg [⟨(some 2), (.alloc 28 11 [(.int .i64 0), (.int .i64 0), (.int .i64 0), (.int .i64 0), (.int .i64 0), (.int .i64 0), (.int .i64 0), (.int .i64 0), (.int .i64 0), (.int .i64 0), (.int .i64 0)]), none, []⟩] false) (.seq (.reg [⟨(some 10), (.mv (.t 0)), none, []⟩, ⟨(some 11), (.build [.nils, (.int .i64 0)] [(0, (1, (.t 10)))]), none, [0]⟩, ⟨(some 12), (.box 59 2 (.t 11)), none, [1]⟩, ⟨(some 3), (.mv (.t 12)), none, [2, 0, 1, 2]⟩] false) (.seq (.reg [⟨(some 13), (.mv (.t 3)), none, []⟩, ⟨(some 14), (.call 18 [(.t 13), (.c (.int .i64 4))]), none, [0]⟩, ⟨(some 4), (.mv (.t 14)), none, [1, 1, 0, 1]⟩] false) (.seq (.reg [⟨(some 15), (.mv (.t 3)), none, []⟩, ⟨(some 16), (.call 19 [(.t 15), (.c (.int .i64 8))]), none, [0]⟩, ⟨(some 17), (.mv (.t 3)), none, []⟩, ⟨(some 18), (.call 18 [(.t 17), (.c (.int .i64 100))]), none, [2, 1]⟩, ⟨(some 19), (.bin .add (.c (.int .i64 1)) (.t 18)), none, [3]⟩, ⟨(some 20), (.build [(.int .i64 0), (.int .i64 0), (.int .i64 0), (.int .i64 0), (.int .i64 0), (.int .i64 0), (.int .i64 0), (.int .i64 0), (.int .i64 0), (.int .i64 0), (.int .i64 0)] [(0, (1, (.c (.int .i64 2)))), (1, (3, (.t 16))), (10, (1, (.t 19)))]), none, [1, 4]⟩, ⟨(some 5), (.alloc 28 11 [(.int .i64 0), (.int .i64 0), (.int .i64 0), (.int .i64 0), (.int .i64 0), (.int .i64 0), (.int .i64 0), (.int .i64 0), (.int .i64 0), (.int .i64 0), (.int .i64 0)]), none, []⟩, ⟨none, (.st 11 (.t 5) (.t 20)), none, [6, 5, 3, 0, 1, 2, 3, 4, 5, 6]⟩] false) (.seq (.seq (.reg [⟨(some 21), (.mv (.t 4)), none, []⟩, ⟨(some 22), (.bin .eql (.t 21) (.c (.int .i64 3))), none, [0]⟩] false) (.cond (.t 22) (.seq (.reg [⟨(some 23), (.mv (.t 3)), none, []⟩, ⟨(some 24), (.call 18 [(.t 23), (.c (.int .i64 6))]), none, [0]⟩, ⟨(some 6), (.mv (.t 24)), none, [1, 1, 0, 1]⟩] false) (.seq (.reg [⟨(some 25), (.mv (.t 6)), none, []⟩, ⟨(some 26), (.bin .add (.t 25) (.c (.int .i64 1))), none, [0]⟩, ⟨(some 27), (.mv (.t 3)), none, []⟩, ⟨(some 28), (.call 18 [(.t 27), (.c (.int .i64 2))]), none, [2]⟩, ⟨(some 29), (.bin .add (.t 26) (.t 28)), none, [1, 3]⟩, ⟨(some 30), (.mv (.t 3)), none, []⟩, ⟨(some 31), (.call 18 [(.t 30), (.c (.int .i64 2))]), none, [5, 3]⟩, ⟨(some 32), (.bin .mul (.c (.int .i64 3)) (.t 31)), none, [6]⟩, ⟨(some 33), (.bin .add (.t 29) (.t 32)), none, [4, 7]⟩, ⟨(some 7), (.mv (.t 33)), none, [8, 6, 0, 1, 2, 3, 4, 5, 6, 7, 8]⟩] false) (.seq (.reg [⟨(some 34), (.bslice 3 1 [(.int .i64 0)] 5 [(0, (.c (.int .i64 1))), (1, (.c (.int .i64 2))), (2, (.c (.int .i64 5))), (3, (.c (.int .i64 5))), (4, (.c (.int .i64 10)))]), none, []⟩, ⟨(some 35), (.mv (.t 3)), none, []⟩, ⟨(some 36), (.call 18 [(.t 35), (.c (.int .i64 5))]), none, [1]⟩, ⟨(some 37), (.ixsl 1 (.t 34) (.t 36)), none, [0, 2]⟩, ⟨(some 38), (.ld false 1 (.t 37)), none, [3]⟩, ⟨(some 8), (.mv (.t 38)), none, [4, 2, 0, 1, 2, 3, 4]⟩] false) (.seq (.reg [⟨(some 39), (.fa 0 (.t 5)), none, []⟩, ⟨none, (.st 1 (.t 39) (.c (.int .i64 3))), none, [0]⟩] false) (.seq (.reg [⟨(some 40), (.fa 1 (.t 5)), none, []⟩, ⟨(some 41), (.ld true 3 (.t 40)), none, [0]⟩, ⟨(some 42), (.mv (.t 6)), none, []⟩, ⟨(some 43), (.call 21 [(.t 42)]), none, [2]⟩, ⟨(some 44), (.mv (.t 8)), none, []⟩, ⟨(some 45), (.call 20 [(.t 41), (.t 43), (.t 44)]), none, [1, 3, 4, 3]⟩, ⟨(some 46), (.fa 7 (.t 5)), none, [0, 1, 2, 3, 4, 5]⟩, ⟨none, (.st 3 (.t 46) (.t 45)), none, [6, 5, 5, 0, 1, 2, 3, 4, 5]⟩] true) (.seq (.reg [⟨(some 47), (.fa 7 (.t 5)), none, []⟩, ⟨(some 48), (.ld true 3 (.t 47)), none, [0]⟩, ⟨(some 49), (.mv (.t 7)), none, []⟩, ⟨(some 50), (.call 21 [(.t 49)]), none, [2]⟩, ⟨(some 51), (.mv (.t 8)), none, []⟩, ⟨(some 52), (.call 20 [(.t 48), (.t 50), (.t 51)]), none, [1, 3, 4, 3]⟩, ⟨(some 53), (.fa 4 (.t 5)), none, [0, 1, 2, 3, 4, 5]⟩, ⟨none, (.st 3 (.t 53) (.t 52)), none, [6, 5, 5, 0, 1, 2, 3, 4, 5]⟩] true) (.seq (.reg [⟨(some 54), (.ld true 11 (.t 5)), none, []⟩, ⟨none, (.st 11 (.t 2) (.t 54)), none, [0, 0]⟩] false) .ret))))))) .skip)) (.seq (.reg [⟨(some 55), (.mv (.t 3)), none, []⟩, ⟨(some 56), (.call 19 [(.t 55), (.c (.int .i64 3))]), none, [0]⟩, ⟨(some 9), (.alloc 26 3 [(.int .i64 0), (.int .i64 0), (.int .i64 0)]), none, []⟩, ⟨none, (.st 3 (.t 9) (.t 56)), none, [2, 1, 1, 0, 1, 2]⟩] false) (.seq (.seq (.reg [⟨(some 57), (.ld true 3 (.t 9)), none, []⟩, ⟨(some 58), (.build [(.int .i64 0), (.int .i64 0), (.int .i64 0)] []), none, []⟩, ⟨(some 59), (.aeq false 3 (.t 57) (.t 58)), none, [0, 1]⟩] false) (.cond (.t 59) (.reg [⟨(some 60), (.mv (.t 3)), none, []⟩, ⟨(some 61), (.call 18 [(.t 60), (.c (.int .i64 6))]), none, [0]⟩, ⟨(some 62), (.call 21 [(.t 61)]), none, [1, 1]⟩, ⟨none, (.st 3 (.t 9) (.t 62)), none, [2, 2, 0, 1, 2]⟩] false) .skip)) (.seq (.reg [⟨(some 63), (.fa 1 (.t 5)), none, []⟩, ⟨(some 64), (.ld true 3 (.t 63)), none, [0]⟩, ⟨(some 65), (.ld true 3 (.t 9)), none, []⟩, ⟨(some 66), (.mv (.t 3)), none, []⟩, ⟨(some 67), (.call 18 [(.t 66), (.c (.int .i64 3))]), none, [3]⟩, ⟨(some 68), (.bin .add (.c (.int .i64 1)) (.t 67)), none, [4]⟩, ⟨(some 69), (.call 20 [(.t 64), (.t 65), (.t 68)]), none, [1, 2, 5, 4]⟩, ⟨(some 70), (.fa 4 (.t 5)), none, [0, 1, 2, 3, 4, 5, 6]⟩, ⟨none, (.st 3 (.t 70) (.t 69)), none, [7, 6, 6, 0, 1, 2, 3, 4, 5, 6]⟩] true) (.seq (.seq (.reg [⟨(some 71), (.mv (.t 4)), none, []⟩, ⟨(some 72), (.bin .eql (.t 71) (.c (.int .i64 0))), none, [0]⟩] false) (.cond (.t 72) (.seq (.reg [⟨(some 73), (.fa 0 (.t 5)), none, []⟩, ⟨none, (.st 1 (.t 73) (.c (.int .i64 1))), none, [0]⟩] false) (.reg [⟨(some 74), (.fa 10 (.t 5)), none, []⟩, ⟨none, (.st 1 (.t 74) (.c (.int .i64 0))), none, [0]⟩] false)) .skip)) (.seq (.reg [⟨(some 75), (.ld true 11 (.t 5)), none, []⟩, ⟨none, (.st 11 (.t 2) (.t 75)), none, [0, 0]⟩] false) .ret))))))))))
theorem mcOk10 : (match Tryd.f5.body with | some c => compC Tryd.prog 76 c | none => none) = some mc10 := by kernel_rfl

set_option maxHeartbeats 1600000 in
theorem fc10 (l : List Int) (hl : l.length ≤ 4611686018427387904) : FC Tryd.prog 5 [ints l] [] (aM (madeS l)) [] false := by
  have n0 := nextV_range l 0 4 (by omega)
  have n2 := nextV_range l (q2 l) 100 (by omega)
  have n3 := nextV_range l (q3 l) 6 (by omega)
  have n4 := nextV_range l (q4 l) 2 (by omega)
  have n5 := nextV_range l (q5 l) 2 (by omega)
  have n6 := nextV_range l (q6 l) 5 (by omega)
  have hbf := vecV_bd l (q1 l) 8 (by omega)
  have hbv := vecV_bd l (q3 l) 3 (by omega)
  have hr : mR l = 1 ∨ mR l = 2 ∨ mR l = 5 ∨ mR l = 10 := r_range (nextV l (q6 l) 5) n6.1 n6.2
  refine fc_run (nt := 76) Tryd.func5 rfl rfl mcOk10 (Nat.le_of_ble_eq_true rfl) ?_
  delta mc10
  refine aw_seq ?_
  refine aw_reg ?_
  refine rs_alloc rfl rfl rfl ?_
  refine rs_nil fun _ => ?_
  refine th_n ?_
  refine aw_seq ?_
  refine aw_reg ?_
  refine rs_mv rfl rfl ?_
  refine rs_build rfl rfl ?_
  refine rs_box rfl rfl rfl rfl rfl rfl ?_
  refine rs_mv rfl rfl ?_
  refine rs_nil fun _ => ?_
  refine th_n ?_
  refine aw_seq ?_
  refine aw_reg ?_
  refine rs_mv rfl rfl ?_
  refine rs_callo [(12, drawOb 59 l (0))] rfl rfl (fc35 12 59 l (0) 4 (by omega) hl) (.cons (hv_same rfl) (.cons (hv_same rfl) (.nil))) (.cons rfl (.nil)) rfl rfl rfl ?_
  refine rs_mv rfl rfl ?_
  refine rs_nil fun _ => ?_
  refine th_n ?_
  refine aw_seq ?_
  refine aw_reg ?_
  refine rs_mv rfl rfl ?_
  refine rs_callo [(12, drawOb 59 l (q1 l))] rfl rfl (fc36 12 59 l (q1 l) 8 (by omega) hl) (.cons (hv_same rfl) (.cons (hv_same rfl) (.nil))) (.cons rfl (.nil)) rfl rfl rfl ?_
  refine rs_mv rfl rfl ?_
  refine rs_callo [(12, drawOb 59 l (q2 l))] rfl rfl (fc35 12 59 l (q2 l) 100 (by omega) hl) (.cons (hv_same rfl) (.cons (hv_same rfl) (.nil))) (.cons rfl (.nil)) rfl rfl rfl ?_
  refine rs_add rfl rfl rfl (by omega) ?_
  refine rs_build rfl rfl ?_
  refine rs_alloc rfl rfl rfl ?_
  refine rs_st rfl rfl rfl rfl rfl rfl rfl (Nat.le_of_ble_eq_true rfl) rfl rfl ?_
  refine rs_nil fun _ => ?_
  refine th_n ?_
  refine aw_seq ?_
  refine aw_seq ?_
  refine aw_reg ?_
  refine rs_mv rfl rfl ?_
  refine rs_eql rfl rfl rfl ?_
  refine rs_nil fun _ => ?_
  refine th_n ?_
  refine aw_cond rfl (fun h22 => ?_) (fun h22 => ?_)
  · replace h22 := of_decide_eq_true h22
    refine aw_seq ?_
    refine aw_reg ?_
    refine rs_mv rfl rfl ?_
    refine rs_callo [(12, drawOb 59 l (q3 l))] rfl rfl (fc35 12 59 l (q3 l) 6 (by omega) hl) (.cons (hv_same rfl) (.cons (hv_same rfl) (.nil))) (.cons rfl (.nil)) rfl rfl rfl ?_
    refine rs_mv rfl rfl ?_
    refine rs_nil fun _ => ?_
    refine th_n ?_
    refine aw_seq ?_
    refine aw_reg ?_
    refine rs_mv rfl rfl ?_
    refine rs_add rfl rfl rfl (by omega) ?_
    refine rs_mv rfl rfl ?_
    refine rs_callo [(12, drawOb 59 l (q4 l))] rfl rfl (fc35 12 59 l (q4 l) 2 (by omega) hl) (.cons (hv_same rfl) (.cons (hv_same rfl) (.nil))) (.cons rfl (.nil)) rfl rfl rfl ?_
    refine rs_add rfl rfl rfl (by omega) ?_
    refine rs_mv rfl rfl ?_
    refine rs_callo [(12, drawOb 59 l (q5 l))] rfl rfl (fc35 12 59 l (q5 l) 2 (by omega) hl) (.cons (hv_same rfl) (.cons (hv_same rfl) (.nil))) (.cons rfl (.nil)) rfl rfl rfl ?_
    refine rs_mulw rfl rfl rfl (W_eq (by omega)) ?_
    refine rs_add rfl rfl rfl (by omega) ?_
    refine rs_mv rfl rfl ?_
    refine rs_nil fun _ => ?_
    refine th_n ?_
    refine aw_seq ?_
    refine aw_reg ?_
    refine rs_bslice rfl rfl rfl rfl rfl rfl ?_
    refine rs_mv rfl rfl ?_
    refine rs_callo [(12, drawOb 59 l (q6 l))] rfl rfl (fc35 12 59 l (q6 l) 5 (by omega) hl) (.cons (hv_same rfl) (.cons (hv_same rfl) (.nil))) (.cons rfl (.nil)) rfl rfl rfl ?_
    refine rs_ix_s rfl rfl rfl rfl n6.1 n6.2 ?_
    refine rs_ld_p rfl rfl rfl (el := ci (mR l)) (r_at _ n6.1 n6.2) rfl ?_
    refine rs_mv rfl rfl ?_
    refine rs_nil fun _ => ?_
    refine th_n ?_
    refine aw_seq ?_
    refine aw_reg ?_
    refine rs_fa_p rfl rfl ?_
    refine rs_st rfl rfl rfl rfl rfl rfl rfl (Nat.le_of_ble_eq_true rfl) rfl rfl ?_
    refine rs_nil fun _ => ?_
    refine th_n ?_
    refine aw_seq ?_
    refine aw_weak (F0 := [(2, .ptr 2 0 0), (5, .ptr 5 0 0), (6, iv (mA l)), (7, iv (mB l)), (8, iv (mR l))]) (H0 := [(2, .cells 28 11 [cM ⟨0, ⟨0, 0, 0⟩, ⟨0, 0, 0⟩, ⟨0, 0, 0⟩, 0⟩] true), (5, .cells 28 11 [cM ⟨3, mF l, ⟨0, 0, 0⟩, ⟨0, 0, 0⟩, mG l⟩] true)]) (weak_to (.cons rfl (rc_same rfl (.inl rfl)) (.cons rfl (rc_same rfl (.inl rfl)) (.cons rfl (rc_same rfl (.inl rfl)) (.cons rfl (rc_same rfl (.inl rfl)) (.cons rfl (rc_same rfl (.inl rfl)) (.nil)))))) (.keep (rfl) rfl (.keep (rfl) rfl (.nil))) (fun i h => by cases h)) ?_
    refine aw_draw hmix ?_
    refine rs_fa_p rfl rfl ?_
    refine rs_ld_pa rfl rfl rfl rfl (Nat.le_of_ble_eq_true rfl) rfl ?_
    refine rs_mv rfl rfl ?_
    refine rs_calln [] rfl rfl (fc38 (mA l)) (.cons (hv_same rfl) (.nil)) rfl ?_
    refine rs_mv rfl rfl ?_
    refine rs_calln [] rfl rfl (fc37s hbf.big (ax_bd _).big (by omega)) (.cons (hv_same rfl) (.cons (hv_same rfl) (.cons (hv_same rfl) (.nil)))) rfl ?_
    refine rs_fa_p rfl rfl ?_
    refine rs_st rfl rfl rfl rfl rfl rfl rfl (Nat.le_of_ble_eq_true rfl) rfl rfl ?_
    refine rs_nil ⟨by kernel_rfl, fun _ => ?_⟩
    refine th_n ?_
    refine aw_seq ?_
    refine aw_weak (F0 := [(2, .ptr 2 0 0), (5, .ptr 5 0 0), (7, iv (mB l)), (8, iv (mR l))]) (H0 := [(2, .cells 28 11 [cM ⟨0, ⟨0, 0, 0⟩, ⟨0, 0, 0⟩, ⟨0, 0, 0⟩, 0⟩] true), (5, .cells 28 11 [cM ⟨3, mF l, ⟨0, 0, 0⟩, mC l, mG l⟩] true)]) (weak_to (.cons rfl (rc_same rfl (.inl rfl)) (.cons rfl (rc_same rfl (.inl rfl)) (.cons rfl (rc_same rfl (.inl rfl)) (.cons rfl (rc_same rfl (.inl rfl)) (.nil))))) (.keep (rfl) rfl (.keep (rfl) rfl (.nil))) (fun i h => by cases h)) ?_
    refine aw_draw hmix ?_
    refine rs_fa_p rfl rfl ?_
    refine rs_ld_pa rfl rfl rfl rfl (Nat.le_of_ble_eq_true rfl) rfl ?_
    refine rs_mv rfl rfl ?_
    refine rs_calln [] rfl rfl (fc38 (mB l)) (.cons (hv_same rfl) (.nil)) rfl ?_
    refine rs_mv rfl rfl ?_
    refine rs_calln [] rfl rfl (fc37s (Bd.plus hbf (ax_bd _) (q := 10) (by omega)).big (ax_bd _).big (by omega)) (.cons (hv_same rfl) (.cons (hv_same rfl) (.cons (hv_same rfl) (.nil)))) rfl ?_
    refine rs_fa_p rfl rfl ?_
    refine rs_st rfl rfl rfl rfl rfl rfl rfl (Nat.le_of_ble_eq_true rfl) rfl rfl ?_
    refine rs_nil ⟨by kernel_rfl, fun _ => ?_⟩
    refine th_n ?_
    refine aw_seq ?_
    refine aw_weak (F0 := [(2, .ptr 2 0 0), (5, .ptr 5 0 0)]) (H0 := [(2, .cells 28 11 [cM ⟨0, ⟨0, 0, 0⟩, ⟨0, 0, 0⟩, ⟨0, 0, 0⟩, 0⟩] true), (5, .cells 28 11 [cM ⟨3, mF l, mT l, mC l, mG l⟩] true)]) (weak_to (.cons rfl (rc_same rfl (.inl rfl)) (.cons rfl (rc_same rfl (.inl rfl)) (.nil))) (.keep (rfl) rfl (.keep (rfl) rfl (.nil))) (fun i h => by cases h)) ?_
    refine aw_reg ?_
    refine rs_ld_pa rfl rfl rfl rfl (Nat.le_of_ble_eq_true rfl) rfl ?_
    refine rs_st rfl rfl rfl rfl rfl rfl rfl (Nat.le_of_ble_eq_true rfl) rfl rfl ?_
    refine rs_nil fun _ => ?_
    refine th_n ?_
    refine aw_ret ?_
    refine th_r ?_
    (rw [show madeS l = ⟨3, mF l, mT l, mC l, mG l⟩ from if_pos h22]; exact ret_pure rfl rfl rfl (.inr rfl))
  · replace h22 := of_decide_eq_false h22
    refine aw_skip ?_
    refine th_n ?_
    refine aw_seq ?_
    refine aw_reg ?_
    refine rs_mv rfl rfl ?_
    refine rs_callo [(12, drawOb 59 l (q3 l))] rfl rfl (fc36 12 59 l (q3 l) 3 (by omega) hl) (.cons (hv_same rfl) (.cons (hv_same rfl) (.nil))) (.cons rfl (.nil)) rfl rfl rfl ?_
    refine rs_alloc rfl rfl rfl ?_
    refine rs_st rfl rfl rfl rfl rfl rfl rfl (Nat.le_of_ble_eq_true rfl) rfl rfl ?_
    refine rs_nil fun _ => ?_
    refine th_n ?_
    refine aw_seq ?_
    refine aw_seq ?_
    refine aw_reg ?_
    refine rs_ld_pa rfl rfl rfl rfl (Nat.le_of_ble_eq_true rfl) rfl ?_
    refine rs_build rfl rfl ?_
    refine rs_aeqv (u := mV l) (v := ⟨0, 0, 0⟩) rfl rfl rfl ?_
    refine rs_nil fun _ => ?_
    refine th_n ?_
    refine aw_cond rfl (fun h59 => ?_) (fun h59 => ?_)
    · skip
      have hz : mV l = ⟨0, 0, 0⟩ := by simpa using h59
      have eb : mBy l = axS (nextV l (q4v l) 6) := if_pos hz
      have eq : q5v l = nextA l (q4v l) := if_pos hz
      have eT : mTo l = plus (mF l) (axS (nextV l (q4v l) 6)) (1 + nextV l (nextA l (q4v l)) 3) := by unfold mTo mN; rw [eb, eq]
      have n7 := nextV_range l (nextA l (q4v l)) 3 (by omega)
      refine aw_reg ?_
      refine rs_mv rfl rfl ?_
      refine rs_callo [(12, drawOb 59 l (q4v l))] rfl rfl (fc35 12 59 l (q4v l) 6 (by omega) hl) (.cons (hv_same rfl) (.cons (hv_same rfl) (.nil))) (.cons rfl (.nil)) rfl rfl rfl ?_
      refine rs_calln [] rfl rfl (fc38 _) (.cons (hv_same rfl) (.nil)) rfl ?_
      refine rs_st rfl rfl rfl rfl rfl rfl rfl (Nat.le_of_ble_eq_true rfl) rfl rfl ?_
      refine rs_nil fun _ => ?_
      refine th_n ?_
      refine aw_seq ?_
      refine aw_draw hmix ?_
      refine rs_fa_p rfl rfl ?_
      refine rs_ld_pa rfl rfl rfl rfl (Nat.le_of_ble_eq_true rfl) rfl ?_
      refine rs_ld_pa rfl rfl rfl rfl (Nat.le_of_ble_eq_true rfl) rfl ?_
      refine rs_mv rfl rfl ?_
      refine rs_callo [(12, drawOb 59 l (nextA l (q4v l)))] rfl rfl (fc35 12 59 l (nextA l (q4v l)) 3 (by omega) hl) (.cons (hv_same rfl) (.cons (hv_same rfl) (.nil))) (.cons rfl (.nil)) rfl rfl rfl ?_
      refine rs_add rfl rfl rfl (by omega) ?_
      refine rs_calln [] rfl rfl (fc37s hbf.big (ax_bd _).big (by omega)) (.cons (hv_same rfl) (.cons (hv_same rfl) (.cons (hv_same rfl) (.nil)))) rfl ?_
      refine rs_fa_p rfl rfl ?_
      refine rs_st rfl rfl rfl rfl rfl rfl rfl (Nat.le_of_ble_eq_true rfl) rfl rfl ?_
      refine rs_nil ⟨by kernel_rfl, fun _ => ?_⟩
      refine th_n ?_
      refine aw_seq ?_
      refine aw_seq ?_
      refine aw_weak (F0 := [(2, .ptr 2 0 0), (5, .ptr 5 0 0), (4, iv (mK l))]) (H0 := [(2, .cells 28 11 [cM ⟨0, ⟨0, 0, 0⟩, ⟨0, 0, 0⟩, ⟨0, 0, 0⟩, 0⟩] true), (5, .cells 28 11 [cM ⟨2, mF l, mTo l, ⟨0, 0, 0⟩, mG l⟩] true)]) (weak_to (.cons rfl (rc_same rfl (.inl rfl)) (.cons rfl (rc_same rfl (.inl rfl)) (.cons rfl (rc_same rfl (.inl rfl)) (.nil)))) (.keep (rfl) rfl (.keep ((by rw [eT]; rfl)) rfl (.nil))) (fun i h => by cases h)) ?_
      refine aw_reg ?_
      refine rs_mv rfl rfl ?_
      refine rs_eql rfl rfl rfl ?_
      refine rs_nil fun _ => ?_
      refine th_n ?_
      refine aw_cond rfl (fun h72 => ?_) (fun h72 => ?_)
      · replace h72 := of_decide_eq_true h72
        refine aw_seq ?_
        refine aw_reg ?_
        refine rs_fa_p rfl rfl ?_
        refine rs_st rfl rfl rfl rfl rfl rfl rfl (Nat.le_of_ble_eq_true rfl) rfl rfl ?_
        refine rs_nil fun _ => ?_
        refine th_n ?_
        refine aw_reg ?_
        refine rs_fa_p rfl rfl ?_
        refine rs_st rfl rfl rfl rfl rfl rfl rfl (Nat.le_of_ble_eq_true rfl) rfl rfl ?_
        refine rs_nil fun _ => ?_
        refine th_n ?_
        refine aw_seq ?_
        refine aw_reg ?_
        refine rs_ld_pa rfl rfl rfl rfl (Nat.le_of_ble_eq_true rfl) rfl ?_
        refine rs_st rfl rfl rfl rfl rfl rfl rfl (Nat.le_of_ble_eq_true rfl) rfl rfl ?_
        refine rs_nil fun _ => ?_
        refine th_n ?_
        refine aw_ret ?_
        (rw [show madeS l = ⟨1, mF l, mTo l, ⟨0, 0, 0⟩, 0⟩ by unfold madeS; rw [if_neg h22, if_pos h72]]; exact ret_pure rfl rfl rfl (.inr rfl))
      · replace h72 := of_decide_eq_false h72
        refine aw_skip ?_
        refine th_n ?_
        refine aw_seq ?_
        refine aw_reg ?_
        refine rs_ld_pa rfl rfl rfl rfl (Nat.le_of_ble_eq_true rfl) rfl ?_
        refine rs_st rfl rfl rfl rfl rfl rfl rfl (Nat.le_of_ble_eq_true rfl) rfl rfl ?_
        refine rs_nil fun _ => ?_
        refine th_n ?_
        refine aw_ret ?_
        (rw [show madeS l = ⟨2, mF l, mTo l, ⟨0, 0, 0⟩, mG l⟩ by unfold madeS; rw [if_neg h22, if_neg h72]]; exact ret_pure rfl rfl rfl (.inr rfl))
    · skip
      have hz : ¬ mV l = ⟨0, 0, 0⟩ := by simpa using h59
      have eb : mBy l = mV l := if_neg hz
      have eq : q5v l = q4v l := if_neg hz
      have eT : mTo l = plus (mF l) (mV l) (1 + nextV l (q4v l) 3) := by unfold mTo mN; rw [eb, eq]
      have n7 := nextV_range l (q4v l) 3 (by omega)
      refine aw_skip ?_
      refine th_n ?_
      refine aw_seq ?_
      refine aw_draw hmix ?_
      refine rs_fa_p rfl rfl ?_
      refine rs_ld_pa rfl rfl rfl rfl (Nat.le_of_ble_eq_true rfl) rfl ?_
      refine rs_ld_pa rfl rfl rfl rfl (Nat.le_of_ble_eq_true rfl) rfl ?_
      refine rs_mv rfl rfl ?_
      refine rs_callo [(12, drawOb 59 l (q4v l))] rfl rfl (fc35 12 59 l (q4v l) 3 (by omega) hl) (.cons (hv_same rfl) (.cons (hv_same rfl) (.nil))) (.cons rfl (.nil)) rfl rfl rfl ?_
      refine rs_add rfl rfl rfl (by omega) ?_
      refine rs_calln [] rfl rfl (fc37s hbf.big hbv.big (by omega)) (.cons (hv_same rfl) (.cons (hv_same rfl) (.cons (hv_same rfl) (.nil)))) rfl ?_
      refine rs_fa_p rfl rfl ?_
      refine rs_st rfl rfl rfl rfl rfl rfl rfl (Nat.le_of_ble_eq_true rfl) rfl rfl ?_
      refine rs_nil ⟨by kernel_rfl, fun _ => ?_⟩
      refine th_n ?_
      refine aw_seq ?_
      refine aw_seq ?_
      refine aw_weak (F0 := [(2, .ptr 2 0 0), (5, .ptr 5 0 0), (4, iv (mK l))]) (H0 := [(2, .cells 28 11 [cM ⟨0, ⟨0, 0, 0⟩, ⟨0, 0, 0⟩, ⟨0, 0, 0⟩, 0⟩] true), (5, .cells 28 11 [cM ⟨2, mF l, mTo l, ⟨0, 0, 0⟩, mG l⟩] true)]) (weak_to (.cons rfl (rc_same rfl (.inl rfl)) (.cons rfl (rc_same rfl (.inl rfl)) (.cons rfl (rc_same rfl (.inl rfl)) (.nil)))) (.keep (rfl) rfl (.keep ((by rw [eT]; rfl)) rfl (.nil))) (fun i h => by cases h)) ?_
      refine aw_reg ?_
      refine rs_mv rfl rfl ?_
      refine rs_eql rfl rfl rfl ?_
      refine rs_nil fun _ => ?_
      refine th_n ?_
      refine aw_cond rfl (fun h72 => ?_) (fun h72 => ?_)
      · replace h72 := of_decide_eq_true h72
        refine aw_seq ?_
        refine aw_reg ?_
        refine rs_fa_p rfl rfl ?_
        refine rs_st rfl rfl rfl rfl rfl rfl rfl (Nat.le_of_ble_eq_true rfl) rfl rfl ?_
        refine rs_nil fun _ => ?_
        refine th_n ?_
        refine aw_reg ?_
        refine rs_fa_p rfl rfl ?_
        refine rs_st rfl rfl rfl rfl rfl rfl rfl (Nat.le_of_ble_eq_true rfl) rfl rfl ?_
        refine rs_nil fun _ => ?_
        refine th_n ?_
        refine aw_seq ?_
        refine aw_reg ?_
        refine rs_ld_pa rfl rfl rfl rfl (Nat.le_of_ble_eq_true rfl) rfl ?_
        refine rs_st rfl rfl rfl rfl rfl rfl rfl (Nat.le_of_ble_eq_true rfl) rfl rfl ?_
        refine rs_nil fun _ => ?_
        refine th_n ?_
        refine aw_ret ?_
        (rw [show madeS l = ⟨1, mF l, mTo l, ⟨0, 0, 0⟩, 0⟩ by unfold madeS; rw [if_neg h22, if_pos h72]]; exact ret_pure rfl rfl rfl (.inr rfl))
      · replace h72 := of_decide_eq_false h72
        refine aw_skip ?_
        refine th_n ?_
        refine aw_seq ?_
        refine aw_reg ?_
        refine rs_ld_pa rfl rfl rfl rfl (Nat.le_of_ble_eq_true rfl) rfl ?_
        refine rs_st rfl rfl rfl rfl rfl rfl rfl (Nat.le_of_ble_eq_true rfl) rfl rfl ?_
        refine rs_nil fun _ => ?_
        refine th_n ?_
        refine aw_ret ?_
        (rw [show madeS l = ⟨2, mF l, mTo l, ⟨0, 0, 0⟩, mG l⟩ by unfold madeS; rw [if_neg h22, if_neg h72]]; exact ret_pure rfl rfl rfl (.inr rfl))

theorem odd_0 (m : Mv) (a b c : Int) (h : modS a 8 = 0) : oddS m a b c = { m with kind := nS b c } := by
  unfold oddS; rw [h]; rfl

theorem odd_1 (m : Mv) (a b c : Int) (h : modS a 8 = 1) : oddS m a b c = { m with feed := nS b c } := by
  unfold oddS; rw [h]; rfl

theorem odd_2 (m : Mv) (a b c : Int) (h : modS a 8 = 2) : oddS m a b c = { m with fr := ⟨nS b c, m.fr.y, m.fr.z⟩ } := by
  unfold oddS; rw [h]; rfl

theorem odd_3 (m : Mv) (a b c : Int) (h : modS a 8 = 3) : oddS m a b c = { m with to := ⟨m.to.x, nS b c, m.to.z⟩ } := by
  unfold oddS; rw [h]; rfl

theorem odd_4 (m : Mv) (a b c : Int) (h : modS a 8 = 4) : oddS m a b c = { m with co := ⟨m.co.x, m.co.y, nS b c⟩ } := by
  unfold oddS; rw [h]; rfl

theorem odd_5 (m : Mv) (a b c : Int) (h : modS a 8 = 5) : oddS m a b c = { m with to := m.fr } := by
  unfold oddS; rw [h]; rfl

theorem odd_6 (m : Mv) (a b c : Int) (h : modS a 8 = 6) : oddS m a b c = { m with kind := 1 + modS m.kind 3 } := by
  unfold oddS; rw [h]; rfl

theorem odd_7 (m : Mv) (a b c : Int) (h : modS a 8 = 7) : oddS m a b c = { m with co := ⟨0, 0, 0⟩ } := by
  unfold oddS; rw [h]; rfl

def mc34 : MC := (.seq (.reg [⟨(some 5), (.box 28 11 (.t 0)), none, []⟩, ⟨(some 10), (.mv (.c (.bool false))), none, []⟩] false) (.seq (.reg [⟨(some 14), (.ld true 11 (.t 5)), none, []⟩, ⟨(some 15), (.mv (.t 1)), none, []⟩, ⟨(some 16), (.call 12 [(.t 14), (.t 15)]), none, [0, 1]⟩, ⟨(some 13), (.mv (.t 16)), none, [2]⟩, ⟨(some 17), (.ext (.t 13) 0), none, [3]⟩, ⟨(some 18), (.ext (.t 13) 1), none, [3]⟩, ⟨(some 11), (.alloc 26 3 [(.int .i64 0), (.int .i64 0), (.int .i64 0)]), none, []⟩, ⟨none, (.st 3 (.t 11) (.t 17)), none, [6, 4, 2, 0, 1, 2, 3, 4, 6]⟩, ⟨(some 12), (.mv (.t 18)), none, [5, 7, 0, 1, 2, 3, 4, 5, 6, 7]⟩] false) (.seq (.reg [⟨(some 19), (.mv (.t 12)), none, []⟩, ⟨(some 20), (.mv (.t 19)), none, [0]⟩, ⟨(some 21), (.ld true 3 (.t 11)), (some (20, true)), [1]⟩, ⟨(some 22), (.mv (.t 2)), (some (20, true)), [1]⟩, ⟨(some 23), (.mv (.t 3)), (some (20, true)), [1]⟩, ⟨(some 24), (.mv (.t 4)), (some (20, true)), [1]⟩, ⟨(some 25), (.build [(.int .i64 0), (.int .i64 0), (.int .i64 0)] [(0, (1, (.t 22))), (1, (1, (.t 23))), (2, (1, (.t 24)))]), (some (20, true)), [3, 4, 5, 1]⟩, ⟨(some 26), (.aeq false 3 (.t 21) (.t 25)), (some (20, true)), [2, 6, 1]⟩, ⟨(some 27), (.pick (.t 20) (.t 26) (.c (.bool false))), none, [1, 7]⟩, ⟨(some 10), (.mv (.t 27)), none, [8, 1, 0, 1, 2, 3, 4, 5, 6, 7, 8]⟩] false) .ret)))
theorem mcOk34 : (match Tryd.f11.body with | some c => compC Tryd.prog 28 c | none => none) = some mc34 := by kernel_rfl

theorem fc34 (m : Mv) (s x y z : Int) : FC Tryd.prog 11 [aM m, iv s, iv x, iv y, iv z] [] (.bool (atB m s && decide (atV m s = ⟨x, y, z⟩))) [] false := by
  refine fc_run (nt := 28) Tryd.func11 rfl rfl mcOk34 (Nat.le_of_ble_eq_true rfl) ?_
  delta mc34
  refine aw_seq ?_
  refine aw_reg ?_
  refine rs_box rfl rfl rfl rfl rfl rfl ?_
  refine rs_mv rfl rfl ?_
  refine rs_nil fun _ => ?_
  refine th_n ?_
  refine aw_seq ?_
  refine aw_reg ?_
  refine rs_ld_pa rfl rfl rfl rfl (Nat.le_of_ble_eq_true rfl) rfl ?_
  refine rs_mv rfl rfl ?_
  refine rs_calln [] rfl rfl (fc17 m s) (.cons (hv_same rfl) (.cons (hv_same rfl) (.nil))) rfl ?_
  refine rs_mv rfl rfl ?_
  refine rs_ext rfl rfl rfl ?_
  refine rs_ext rfl rfl rfl ?_
  cases h18 : atB m s
  · skip
    refine rs_alloc rfl rfl rfl ?_
    refine rs_st rfl rfl rfl rfl rfl rfl rfl (Nat.le_of_ble_eq_true rfl) rfl rfl ?_
    refine rs_mv rfl rfl ?_
    refine rs_nil fun _ => ?_
    refine th_n ?_
    refine aw_seq ?_
    refine aw_reg ?_
    refine rs_mv rfl rfl ?_
    refine rs_mv rfl rfl ?_
    refine rs_skip rfl ?_
    refine rs_skip rfl ?_
    refine rs_skip rfl ?_
    refine rs_skip rfl ?_
    refine rs_skip rfl ?_
    refine rs_skip rfl ?_
    refine rs_pick rfl rfl rfl ?_
    refine rs_mv rfl rfl ?_
    refine rs_nil fun _ => ?_
    refine th_n ?_
    refine aw_ret ?_
    exact ret_pure rfl (congrArg AV.bool (by simp_all)) rfl (.inr rfl)
  · skip
    refine rs_alloc rfl rfl rfl ?_
    refine rs_st rfl rfl rfl rfl rfl rfl rfl (Nat.le_of_ble_eq_true rfl) rfl rfl ?_
    refine rs_mv rfl rfl ?_
    refine rs_nil fun _ => ?_
    refine th_n ?_
    refine aw_seq ?_
    refine aw_reg ?_
    refine rs_mv rfl rfl ?_
    refine rs_mv rfl rfl ?_
    refine rs_ld_pa rfl rfl rfl rfl (Nat.le_of_ble_eq_true rfl) rfl ?_
    refine rs_mv rfl rfl ?_
    refine rs_mv rfl rfl ?_
    refine rs_mv rfl rfl ?_
    refine rs_build rfl rfl ?_
    refine rs_aeqv (u := atV m s) (v := ⟨x, y, z⟩) rfl rfl rfl ?_
    refine rs_pick rfl rfl rfl ?_
    refine rs_mv rfl rfl ?_
    refine rs_nil fun _ => ?_
    refine th_n ?_
    refine aw_ret ?_
    exact ret_pure rfl (congrArg AV.bool (by simp_all)) rfl (.inr rfl)

abbrev lineM : Mv := ⟨2, ⟨0, 0, 0⟩, ⟨6, -4, 2⟩, ⟨0, 0, 0⟩, 10⟩
abbrev arcM : Mv := ⟨3, ⟨5, 0, 0⟩, ⟨0, 5, 0⟩, ⟨5, 5, 0⟩, 10⟩
abbrev farM : Mv := ⟨3, ⟨5, 0, 0⟩, ⟨10, 5, 0⟩, ⟨5, 5, 0⟩, 10⟩
theorem fc14e {m : Mv} {n : Int} (h : stepsS m = n) : FC Tryd.prog 10 [aM m] [] (iv n) [] false := by rw [← h]; exact fc14 m
theorem fc34e {m : Mv} {s x y z : Int} {b : Bool} (h : (atB m s && decide (atV m s = ⟨x, y, z⟩)) = b) : FC Tryd.prog 11 [aM m, iv s, iv x, iv y, iv z] [] (.bool b) [] false := by rw [← h]; exact fc34 m s x y z
theorem fc17e {m : Mv} {s : Int} {v : V3} {b : Bool} (h : atV m s = v) (h2 : atB m s = b) : FC Tryd.prog 12 [aM m, iv s] [] (.tup [aV v, .bool b]) [] false := by rw [← h, ← h2]; exact fc17 m s
theorem fc19e {m : Mv} {i j : Int} {l : List V3} {b : Bool} (h : outS m i j = l) (h2 : btwB m i j = b) : FC Tryd.prog 13 [aM m, iv i, iv j] [] (.tup [.rs 3 (l.map cV), .bool b]) [] true := by rw [← h, ← h2]; exact fc19 m i j
theorem fc21e {m : Mv} {i j : Int} {l : List (V3 × V3)} {b : Bool} (h : knS m i j = l) (h2 : btwB m i j = b) : FC Tryd.prog 14 [aM m, iv i, iv j] [] (.tup [.rs 6 (l.map cP), .bool b]) [] true := by rw [← h, ← h2]; exact fc21 m i j
theorem fc12e {m : Mv} {n : Int} (h : checkS m = n) : FC Tryd.prog 17 [aM m] [] (iv n) [] false := by rw [← h]; exact fc12 m

def mc9 : MC := (.seq (.reg [⟨(some 0), (.mv (.c (.bool false))), none, []⟩] false) (.seq (.reg [⟨(some 22), (.build [(.int .i64 0), (.int .i64 0), (.int .i64 0)] [(0, (1, (.c (.int .i64 6)))), (1, (1, (.c (.int .i64 (-4))))), (2, (1, (.c (.int .i64 2))))]), none, []⟩, ⟨(some 23), (.build [(.int .i64 0), (.int .i64 0), (.int .i64 0), (.int .i64 0), (.int .i64 0), (.int .i64 0), (.int .i64 0), (.int .i64 0), (.int .i64 0), (.int .i64 0), (.int .i64 0)] [(0, (1, (.c (.int .i64 2)))), (4, (3, (.t 22))), (10, (1, (.c (.int .i64 10))))]), none, [0]⟩, ⟨(some 1), (.alloc 28 11 [(.int .i64 0), (.int .i64 0), (.int .i64 0), (.int .i64 0), (.int .i64 0), (.int .i64 0), (.int .i64 0), (.int .i64 0), (.int .i64 0), (.int .i64 0), (.int .i64 0)]), none, []⟩, ⟨none, (.st 11 (.t 1) (.t 23)), none, [2, 1, 0, 1, 2]⟩] false) (.seq (.reg [⟨(some 24), (.build [(.int .i64 0), (.int .i64 0), (.int .i64 0)] [(0, (1, (.c (.int .i64 5))))]), none, []⟩, ⟨(some 25), (.build [(.int .i64 0), (.int .i64 0), (.int .i64 0)] [(1, (1, (.c (.int .i64 5))))]), none, []⟩, ⟨(some 26), (.build [(.int .i64 0), (.int .i64 0), (.int .i64 0)] [(0, (1, (.c (.int .i64 5)))), (1, (1, (.c (.int .i64 5))))]), none, []⟩, ⟨(some 27), (.build [(.int .i64 0), (.int .i64 0), (.int .i64 0), (.int .i64 0), (.int .i64 0), (.int .i64 0), (.int .i64 0), (.int .i64 0), (.int .i64 0), (.int .i64 0), (.int .i64 0)] [(0, (1, (.c (.int .i64 3)))), (1, (3, (.t 24))), (4, (3, (.t 25))), (7, (3, (.t 26))), (10, (1, (.c (.int .i64 10))))]), none, [0, 1, 2]⟩, ⟨(some 2), (.alloc 28 11 [(.int .i64 0), (.int .i64 0), (.int .i64 0), (.int .i64 0), (.int .i64 0), (.int .i64 0), (.int .i64 0), (.int .i64 0), (.int .i64 0), (.int .i64 0), (.int .i64 0)]), none, []⟩, ⟨none, (.st 11 (.t 2) (.t 27)), none, [4, 3, 0, 1, 2, 3, 4]⟩] false) (.seq (.reg [⟨(some 28), (.build [(.int .i64 0), (.int .i64 0), (.int .i64 0)] [(0, (1, (.c (.int .i64 5))))]), none, []⟩, ⟨(some 29), (.build [(.int .i64 0), (.int .i64 0), (.int .i64 0)] [(0, (1, (.c (.int .i64 10)))), (1, (1, (.c (.int .i64 5))))]), none, []⟩, ⟨(some 30), (.build [(.int .i64 0), (.int .i64 0), (.int .i64 0)] [(0, (1, (.c (.int .i64 5)))), (1, (1, (.c (.int .i64 5))))]), none, []⟩, ⟨(some 31), (.build [(.int .i64 0), (.int .i64 0), (.int .i64 0), (.int .i64 0), (.int .i64 0), (.int .i64 0), (.int .i64 0), (.int .i64 0), (.int .i64 0), (.int .i64 0), (.int .i64 0)] [(0, (1, (.c (.int .i64 3)))), (1, (3, (.t 28))), (4, (3, (.t 29))), (7, (3, (.t 30))), (10, (1, (.c (.int .i64 10))))]), none, [0, 1, 2]⟩, ⟨(some 3), (.alloc 28 11 [(.int .i64 0), (.int .i64 0), (.int .i64 0), (.int .i64 0), (.int .i64 0), (.int .i64 0), (.int .i64 0), (.int .i64 0), (.int .i64 0), (.int .i64 0), (.int .i64 0)]), none, []⟩, ⟨none, (.st 11 (.t 3) (.t 31)), none, [4, 3, 0, 1, 2, 3, 4]⟩] false) (.seq (.seq (.reg [⟨(some 32), (.ld true 11 (.t 1)), none, []⟩, ⟨(some 33), (.call 10 [(.t 32)]), none, [0]⟩, ⟨(some 34), (.bin .neq (.t 33) (.c (.int .i64 2))), none, [1]⟩, ⟨(some 35), (.mv (.t 34)), none, [2, 1]⟩, ⟨(some 36), (.ld true 11 (.t 1)), (some (35, false)), [3]⟩, ⟨(some 37), (.call 11 [(.t 36), (.c (.int .i64 1)), (.c (.int .i64 3)), (.c (.int .i64 (-2))), (.c (.int .i64 1))]), (some (35, false)), [4, 3, 3]⟩, ⟨(some 38), (.un .not (.t 37)), (some (35, false)), [5, 3]⟩, ⟨(some 39), (.pick (.t 35) (.c (.bool true)) (.t 38)), none, [3, 6]⟩, ⟨(some 40), (.mv (.t 39)), none, [7, 5]⟩, ⟨(some 41), (.ld true 11 (.t 2)), (some (40, false)), [8]⟩, ⟨(some 42), (.call 10 [(.t 41)]), (some (40, false)), [9, 8, 8]⟩, ⟨(some 43), (.bin .neq (.t 42) (.c (.int .i64 3))), (some (40, false)), [10, 8]⟩, ⟨(some 44), (.pick (.t 40) (.c (.bool true)) (.t 43)), none, [8, 11]⟩, ⟨(some 45), (.mv (.t 44)), none, [12, 10]⟩, ⟨(some 46), (.ld true 11 (.t 2)), (some (45, false)), [13]⟩, ⟨(some 47), (.call 11 [(.t 46), (.c (.int .i64 1)), (.c (.int .i64 4)), (.c (.int .i64 3)), (.c (.int .i64 0))]), (some (45, false)), [14, 13, 13]⟩, ⟨(some 48), (.un .not (.t 47)), (some (45, false)), [15, 13]⟩, ⟨(some 49), (.pick (.t 45) (.c (.bool true)) (.t 48)), none, [13, 16]⟩, ⟨(some 50), (.mv (.t 49)), none, [17, 15]⟩, ⟨(some 51), (.ld true 11 (.t 2)), (some (50, false)), [18]⟩, ⟨(some 52), (.call 11 [(.t 51), (.c (.int .i64 2)), (.c (.int .i64 3)), (.c (.int .i64 4)), (.c (.int .i64 0))]), (some (50, false)), [19, 18, 18]⟩, ⟨(some 53), (.un .not (.t 52)), (some (50, false)), [20, 18]⟩, ⟨(some 54), (.pick (.t 50) (.c (.bool true)) (.t 53)), none, [18, 21]⟩, ⟨(some 55), (.mv (.t 54)), none, [22, 20]⟩, ⟨(some 56), (.ld true 11 (.t 2)), (some (55, false)), [23]⟩, ⟨(some 57), (.call 11 [(.t 56), (.c (.int .i64 3)), (.c (.int .i64 0)), (.c (.int .i64 5)), (.c (.int .i64 0))]), (some (55, false)), [24, 23, 23]⟩, ⟨(some 58), (.un .not (.t 57)), (some (55, false)), [25, 23]⟩, ⟨(some 59), (.pick (.t 55) (.c (.bool true)) (.t 58)), none, [23, 26]⟩, ⟨(some 60), (.mv (.t 59)), none, [27, 25]⟩, ⟨(some 61), (.ld true 11 (.t 3)), (some (60, false)), [28]⟩, ⟨(some 62), (.call 10 [(.t 61)]), (some (60, false)), [29, 28, 28]⟩, ⟨(some 63), (.bin .neq (.t 62) (.c (.int .i64 3))), (some (60, false)), [30, 28]⟩, ⟨(some 64), (.pick (.t 60) (.c (.bool true)) (.t 63)), none, [28, 31]⟩, ⟨(some 65), (.mv (.t 64)), none, [32, 30]⟩, ⟨(some 66), (.ld true 11 (.t 3)), (some (65, false)), [33]⟩, ⟨(some 67), (.call 11 [(.t 66), (.c (.int .i64 1)), (.c (.int .i64 6)), (.c (.int .i64 3)), (.c (.int .i64 0))]), (some (65, false)), [34, 33, 33]⟩, ⟨(some 68), (.un .not (.t 67)), (some (65, false)), [35, 33]⟩, ⟨(some 69), (.pick (.t 65) (.c (.bool true)) (.t 68)), none, [33, 36]⟩, ⟨(some 70), (.mv (.t 69)), none, [37, 35]⟩, ⟨(some 71), (.ld true 11 (.t 3)), (some (70, false)), [38]⟩, ⟨(some 72), (.call 11 [(.t 71), (.c (.int .i64 2)), (.c (.int .i64 7)), (.c (.int .i64 4)), (.c (.int .i64 0))]), (some (70, false)), [39, 38, 38]⟩, ⟨(some 73), (.un .not (.t 72)), (some (70, false)), [40, 38]⟩, ⟨(some 74), (.pick (.t 70) (.c (.bool true)) (.t 73)), none, [38, 41]⟩] false) (.cond (.t 74) (.seq (.reg [⟨(some 0), (.mv (.c (.bool false))), none, []⟩] false) .ret) .skip)) (.seq (.reg [⟨(some 76), (.ld true 11 (.t 1)), none, []⟩, ⟨(some 77), (.call 12 [(.t 76), (.c (.int .i64 3))]), none, [0]⟩, ⟨(some 75), (.mv (.t 77)), none, [1]⟩, ⟨(some 78), (.ext (.t 75) 0), none, [2]⟩, ⟨(some 79), (.ext (.t 75) 1), none, [2]⟩, ⟨(some 4), (.alloc 26 3 [(.int .i64 0), (.int .i64 0), (.int .i64 0)]), none, []⟩, ⟨none, (.st 3 (.t 4) (.t 78)), none, [5, 3, 1, 0, 1, 2, 3, 5]⟩, ⟨(some 5), (.mv (.t 79)), none, [4, 6, 0, 1, 2, 3, 4, 5, 6]⟩] false) (.seq (.reg [⟨(some 81), (.ld true 11 (.t 1)), none, []⟩, ⟨(some 82), (.call 13 [(.t 81), (.c (.int .i64 0)), (.c (.int .i64 2))]), none, [0]⟩, ⟨(some 80), (.mv (.t 82)), none, [1]⟩, ⟨(some 83), (.ext (.t 80) 0), none, [2]⟩, ⟨(some 84), (.ext (.t 80) 1), none, [2]⟩, ⟨(some 6), (.mv (.t 83)), none, [3, 1, 0, 1, 2, 3]⟩, ⟨(some 7), (.mv (.t 84)), none, [4, 5, 0, 1, 2, 3, 4, 5]⟩] false) (.seq (.reg [⟨(some 86), (.ld true 11 (.t 1)), none, []⟩, ⟨(some 87), (.call 13 [(.t 86), (.c (.int .i64 1)), (.c (.int .i64 1))]), none, [0]⟩, ⟨(some 85), (.mv (.t 87)), none, [1]⟩, ⟨(some 88), (.ext (.t 85) 0), none, [2]⟩, ⟨(some 89), (.ext (.t 85) 1), none, [2]⟩, ⟨(some 8), (.mv (.t 88)), none, [3, 1, 0, 1, 2, 3]⟩, ⟨(some 9), (.mv (.t 89)), none, [4, 5, 0, 1, 2, 3, 4, 5]⟩] false) (.seq (.reg [⟨(some 91), (.ld true 11 (.t 2)), none, []⟩, ⟨(some 92), (.call 13 [(.t 91), (.c (.int .i64 1)), (.c (.int .i64 2))]), none, [0]⟩, ⟨(some 90), (.mv (.t 92)), none, [1]⟩, ⟨(some 93), (.ext (.t 90) 0), none, [2]⟩, ⟨(some 94), (.ext (.t 90) 1), none, [2]⟩, ⟨(some 10), (.mv (.t 93)), none, [3, 1, 0, 1, 2, 3]⟩, ⟨(some 11), (.mv (.t 94)), none, [4, 5, 0, 1, 2, 3, 4, 5]⟩] false) (.seq (.reg [⟨(some 96), (.ld true 11 (.t 1)), none, []⟩, ⟨(some 97), (.call 13 [(.t 96), (.c (.int .i64 2)), (.c (.int .i64 1))]), none, [0]⟩, ⟨(some 95), (.mv (.t 97)), none, [1]⟩, ⟨(some 98), (.ext (.t 95) 0), none, [2]⟩, ⟨(some 99), (.ext (.t 95) 1), none, [2]⟩, ⟨(some 12), (.mv (.t 98)), none, [3, 1, 0, 1, 2, 3]⟩, ⟨(some 13), (.mv (.t 99)), none, [4, 5, 0, 1, 2, 3, 4, 5]⟩] false) (.seq (.reg [⟨(some 101), (.ld true 11 (.t 2)), none, []⟩, ⟨(some 102), (.call 14 [(.t 101), (.c (.int .i64 1)), (.c (.int .i64 2))]), none, [0]⟩, ⟨(some 100), (.mv (.t 102)), none, [1]⟩, ⟨(some 103), (.ext (.t 100) 0), none, [2]⟩, ⟨(some 104), (.ext (.t 100) 1), none, [2]⟩, ⟨(some 14), (.mv (.t 103)), none, [3, 1, 0, 1, 2, 3]⟩, ⟨(some 15), (.mv (.t 104)), none, [4, 5, 0, 1, 2, 3, 4, 5]⟩] false) (.seq (.seq (.reg [⟨(some 105), (.mv (.t 5)), none, []⟩, ⟨(some 106), (.mv (.t 105)), none, [0]⟩, ⟨(some 107), (.mv (.t 7)), (some (106, false)), [1]⟩, ⟨(some 108), (.un .not (.t 107)), (some (106, false)), [2, 1]⟩, ⟨(some 109), (.pick (.t 106) (.c (.bool true)) (.t 108)), none, [1, 3]⟩, ⟨(some 110), (.mv (.t 109)), none, [4, 1]⟩, ⟨(some 111), (.mv (.t 9)), (some (110, false)), [5]⟩, ⟨(some 112), (.un .not (.t 111)), (some (110, false)), [6, 5]⟩, ⟨(some 113), (.pick (.t 110) (.c (.bool true)) (.t 112)), none, [5, 7]⟩, ⟨(some 114), (.mv (.t 113)), none, [8, 5]⟩, ⟨(some 115), (.mv (.t 11)), (some (114, false)), [9]⟩, ⟨(some 116), (.un .not (.t 115)), (some (114, false)), [10, 9]⟩, ⟨(some 117), (.pick (.t 114) (.c (.bool true)) (.t 116)), none, [9, 11]⟩, ⟨(some 118), (.mv (.t 117)), none, [12, 9]⟩, ⟨(some 119), (.mv (.t 13)), (some (118, false)), [13]⟩, ⟨(some 120), (.pick (.t 118) (.c (.bool true)) (.t 119)), none, [13, 14]⟩, ⟨(some 121), (.mv (.t 120)), none, [15, 13]⟩, ⟨(some 122), (.mv (.t 15)), (some (121, false)), [16]⟩, ⟨(some 123), (.un .not (.t 122)), (some (121, false)), [17, 16]⟩, ⟨(some 124), (.pick (.t 121) (.c (.bool true)) (.t 123)), none, [16, 18]⟩, ⟨(some 125), (.mv (.t 124)), none, [19, 16]⟩, ⟨(some 126), (.mv (.t 6)), (some (125, false)), [20]⟩, ⟨(some 127), (.fa 1 (.t 1)), (some (125, false)), [20]⟩, ⟨(some 128), (.ld true 3 (.t 127)), (some (125, false)), [22, 20]⟩, ⟨(some 129), (.fa 4 (.t 1)), (some (125, false)), [20]⟩, ⟨(some 130), (.ld true 3 (.t 129)), (some (125, false)), [24, 20]⟩, ⟨(some 131), (.bslice 26 3 [(.int .i64 0), (.int .i64 0), (.int .i64 0)] 2 [(0, (.t 128)), (1, (.t 130))]), (some (125, false)), [23, 25, 20]⟩, ⟨(some 132), (.call 15 [(.t 126), (.t 131)]), (some (125, false)), [21, 26, 20, 20]⟩, ⟨(some 133), (.un .not (.t 132)), (some (125, false)), [27, 20]⟩, ⟨(some 134), (.pick (.t 125) (.c (.bool true)) (.t 133)), none, [20, 28]⟩, ⟨(some 135), (.mv (.t 134)), none, [29, 27]⟩, ⟨(some 136), (.mv (.t 8)), (some (135, false)), [30]⟩, ⟨(some 137), (.build [(.int .i64 0), (.int .i64 0), (.int .i64 0)] [(0, (1, (.c (.int .i64 3)))), (1, (1, (.c (.int .i64 (-2))))), (2, (1, (.c (.int .i64 1))))]), (some (135, false)), [30]⟩, ⟨(some 138), (.bslice 26 3 [(.int .i64 0), (.int .i64 0), (.int .i64 0)] 1 [(0, (.t 137))]), (some (135, false)), [32, 30]⟩, ⟨(some 139), (.call 15 [(.t 136), (.t 138)]), (some (135, false)), [31, 33, 30, 30]⟩, ⟨(some 140), (.un .not (.t 139)), (some (135, false)), [34, 30]⟩, ⟨(some 141), (.pick (.t 135) (.c (.bool true)) (.t 140)), none, [30, 35]⟩, ⟨(some 142), (.mv (.t 141)), none, [36, 34]⟩, ⟨(some 143), (.mv (.t 10)), (some (142, false)), [37]⟩, ⟨(some 144), (.fa 1 (.t 2)), (some (142, false)), [37]⟩, ⟨(some 145), (.ld true 3 (.t 144)), (some (142, false)), [39, 37]⟩, ⟨(some 146), (.fa 7 (.t 2)), (some (142, false)), [37]⟩, ⟨(some 147), (.ld true 3 (.t 146)), (some (142, false)), [41, 37]⟩, ⟨(some 148), (.fa 4 (.t 2)), (some (142, false)), [37]⟩, ⟨(some 149), (.ld true 3 (.t 148)), (some (142, false)), [43, 37]⟩, ⟨(some 150), (.bslice 26 3 [(.int .i64 0), (.int .i64 0), (.int .i64 0)] 3 [(0, (.t 145)), (1, (.t 147)), (2, (.t 149))]), (some (142, false)), [40, 42, 44, 37]⟩, ⟨(some 151), (.call 15 [(.t 143), (.t 150)]), (some (142, false)), [38, 45, 37, 37]⟩, ⟨(some 152), (.un .not (.t 151)), (some (142, false)), [46, 37]⟩, ⟨(some 153), (.pick (.t 142) (.c (.bool true)) (.t 152)), none, [37, 47]⟩] false) (.cond (.t 153) (.seq (.reg [⟨(some 0), (.mv (.c (.bool false))), none, []⟩] false) .ret) .skip)) (.seq (.reg [⟨(some 154), (.build [(.int .i64 0), (.int .i64 0), (.int .i64 0)] [(0, (1, (.c (.int .i64 4)))), (1, (1, (.c (.int .i64 3))))]), none, []⟩, ⟨(some 155), (.build [(.int .i64 0), (.int .i64 0), (.int .i64 0)] [(0, (1, (.c (.int .i64 3)))), (1, (1, (.c (.int .i64 4))))]), none, []⟩, ⟨(some 16), (.alloc 26 3 [(.int .i64 0), (.int .i64 0), (.int .i64 0)]), none, []⟩, ⟨(some 17), (.alloc 26 3 [(.int .i64 0), (.int .i64 0), (.int .i64 0)]), none, []⟩, ⟨none, (.st 3 (.t 16) (.t 154)), none, [2, 0, 0, 2, 3]⟩, ⟨none, (.st 3 (.t 17) (.t 155)), none, [3, 1, 4, 0, 1, 2, 3, 4]⟩] false) (.seq (.reg [⟨(some 156), (.ld true 11 (.t 1)), none, []⟩, ⟨(some 157), (.ld true 11 (.t 1)), none, []⟩, ⟨(some 158), (.ld true 11 (.t 1)), none, []⟩, ⟨(some 159), (.ld true 11 (.t 2)), none, []⟩, ⟨(some 18), (.alloc 28 11 [(.int .i64 0), (.int .i64 0), (.int .i64 0), (.int .i64 0), (.int .i64 0), (.int .i64 0), (.int .i64 0), (.int .i64 0), (.int .i64 0), (.int .i64 0), (.int .i64 0)]), none, []⟩, ⟨(some 19), (.alloc 28 11 [(.int .i64 0), (.int .i64 0), (.int .i64 0), (.int .i64 0), (.int .i64 0), (.int .i64 0), (.int .i64 0), (.int .i64 0), (.int .i64 0), (.int .i64 0), (.int .i64 0)]), none, []⟩, ⟨(some 20), (.alloc 28 11 [(.int .i64 0), (.int .i64 0), (.int .i64 0), (.int .i64 0), (.int .i64 0), (.int .i64 0), (.int .i64 0), (.int .i64 0), (.int .i64 0), (.int .i64 0), (.int .i64 0)]), none, []⟩, ⟨(some 21), (.alloc 28 11 [(.int .i64 0), (.int .i64 0), (.int .i64 0), (.int .i64 0), (.int .i64 0), (.int .i64 0), (.int .i64 0), (.int .i64 0), (.int .i64 0), (.int .i64 0), (.int .i64 0)]), none, []⟩, ⟨none, (.st 11 (.t 18) (.t 156)), none, [4, 0, 0, 4, 5, 6, 7]⟩, ⟨none, (.st 11 (.t 19) (.t 157)), none, [5, 1, 8, 0, 1, 4, 5, 6, 7, 8]⟩, ⟨none, (.st 11 (.t 20) (.t 158)), none, [6, 2, 9, 0, 1, 2, 4, 5, 6, 7, 8, 9]⟩, ⟨none, (.st 11 (.t 21) (.t 159)), none, [7, 3, 10, 0, 1, 2, 3, 4, 5, 6, 7, 8, 9, 10]⟩] true) (.seq (.reg [⟨(some 160), (.build [(.int .i64 0), (.int .i64 0), (.int .i64 0)] []), none, []⟩, ⟨(some 161), (.build [(.int .i64 0), (.int .i64 0), (.int .i64 0)] [(0, (1, (.c (.int .i64 5)))), (1, (1, (.c (.int .i64 4))))]), none, []⟩, ⟨(some 162), (.fa 0 (.t 18)), none, []⟩, ⟨none, (.st 1 (.t 162) (.c (.int .i64 1))), none, [2]⟩, ⟨(some 163), (.fa 10 (.t 19)), none, [2, 3]⟩, ⟨none, (.st 1 (.t 163) (.c (.int .i64 0))), none, [4, 3, 2, 3]⟩, ⟨(some 164), (.fa 4 (.t 20)), none, [0, 2, 3, 4, 5]⟩, ⟨none, (.st 3 (.t 164) (.t 160)), none, [6, 0, 5, 0, 2, 3, 4, 5]⟩, ⟨(some 165), (.fa 1 (.t 21)), none, [0, 1, 2, 3, 4, 5, 6, 7]⟩, ⟨none, (.st 3 (.t 165) (.t 161)), none, [8, 1, 7, 0, 1, 2, 3, 4, 5, 6, 7]⟩] false) (.seq (.reg [⟨(some 166), (.mv (.t 14)), none, []⟩, ⟨(some 167), (.ld true 3 (.t 16)), none, []⟩, ⟨(some 168), (.ld true 3 (.t 16)), none, []⟩, ⟨(some 169), (.build [(.int .i64 0), (.int .i64 0), (.int .i64 0), (.int .i64 0), (.int .i64 0), (.int .i64 0)] [(0, (3, (.t 167))), (3, (3, (.t 168)))]), none, [1, 2]⟩, ⟨(some 170), (.ld true 3 (.t 17)), none, []⟩, ⟨(some 171), (.ld true 3 (.t 17)), none, []⟩, ⟨(some 172), (.build [(.int .i64 0), (.int .i64 0), (.int .i64 0), (.int .i64 0), (.int .i64 0), (.int .i64 0)] [(0, (3, (.t 170))), (3, (3, (.t 171)))]), none, [4, 5]⟩, ⟨(some 173), (.bslice 54 6 [(.int .i64 0), (.int .i64 0), (.int .i64 0), (.int .i64 0), (.int .i64 0), (.int .i64 0)] 2 [(0, (.t 169)), (1, (.t 172))]), none, [3, 6]⟩, ⟨(some 174), (.call 16 [(.t 166), (.t 173)]), none, [0, 7]⟩, ⟨(some 175), (.mv (.t 174)), none, [8, 8]⟩, ⟨(some 176), (.ld true 11 (.t 18)), (some (175, true)), [9]⟩, ⟨(some 177), (.call 17 [(.t 176)]), (some (175, true)), [10, 9, 9]⟩, ⟨(some 178), (.bin .eql (.t 177) (.c (.int .i64 3))), (some (175, true)), [11, 9]⟩, ⟨(some 179), (.pick (.t 175) (.t 178) (.c (.bool false))), none, [9, 12]⟩, ⟨(some 180), (.mv (.t 179)), none, [13, 11]⟩, ⟨(some 181), (.ld true 11 (.t 19)), (some (180, true)), [14]⟩, ⟨(some 182), (.call 17 [(.t 181)]), (some (180, true)), [15, 14, 14]⟩, ⟨(some 183), (.bin .eql (.t 182) (.c (.int .i64 3))), (some (180, true)), [16, 14]⟩, ⟨(some 184), (.pick (.t 180) (.t 183) (.c (.bool false))), none, [14, 17]⟩, ⟨(some 185), (.mv (.t 184)), none, [18, 16]⟩, ⟨(some 186), (.ld true 11 (.t 20)), (some (185, true)), [19]⟩, ⟨(some 187), (.call 17 [(.t 186)]), (some (185, true)), [20, 19, 19]⟩, ⟨(some 188), (.bin .eql (.t 187) (.c (.int .i64 16))), (some (185, true)), [21, 19]⟩, ⟨(some 189), (.pick (.t 185) (.t 188) (.c (.bool false))), none, [19, 22]⟩, ⟨(some 190), (.mv (.t 189)), none, [23, 21]⟩, ⟨(some 191), (.ld true 11 (.t 21)), (some (190, true)), [24]⟩, ⟨(some 192), (.call 17 [(.t 191)]), (some (190, true)), [25, 24, 24]⟩, ⟨(some 193), (.bin .eql (.t 192) (.c (.int .i64 16))), (some (190, true)), [26, 24]⟩, ⟨(some 194), (.pick (.t 190) (.t 193) (.c (.bool false))), none, [24, 27]⟩, ⟨(some 0), (.mv (.t 194)), none, [28, 26, 0, 1, 2, 3, 4, 5, 6, 7, 8, 9, 10, 11, 12, 13, 14, 15, 16, 17, 18, 19, 20, 21, 22, 23, 24, 25, 26, 27, 28]⟩] false) .ret))))))))))))))))
theorem mcOk9 : (match Tryd.f4.body with | some c => compC Tryd.prog 195 c | none => none) = some mc9 := by kernel_rfl

theorem fc9  : FC Tryd.prog 4 [] [] (.bool true) [] false := by
  refine fc_run (nt := 195) Tryd.func4 rfl rfl mcOk9 (Nat.le_of_ble_eq_true rfl) ?_
  delta mc9
  refine aw_seq ?_
  refine aw_reg ?_
  refine rs_mv rfl rfl ?_
  refine rs_nil fun _ => ?_
  refine th_n ?_
  refine aw_seq ?_
  refine aw_reg ?_
  refine rs_build rfl rfl ?_
  refine rs_build rfl rfl ?_
  refine rs_alloc rfl rfl rfl ?_
  refine rs_st rfl rfl rfl rfl rfl rfl rfl (Nat.le_of_ble_eq_true rfl) rfl rfl ?_
  refine rs_nil fun _ => ?_
  refine th_n ?_
  refine aw_seq ?_
  refine aw_reg ?_
  refine rs_build rfl rfl ?_
  refine rs_build rfl rfl ?_
  refine rs_build rfl rfl ?_
  refine rs_build rfl rfl ?_
  refine rs_alloc rfl rfl rfl ?_
  refine rs_st rfl rfl rfl rfl rfl rfl rfl (Nat.le_of_ble_eq_true rfl) rfl rfl ?_
  refine rs_nil fun _ => ?_
  refine th_n ?_
  refine aw_seq ?_
  refine aw_reg ?_
  refine rs_build rfl rfl ?_
  refine rs_build rfl rfl ?_
  refine rs_build rfl rfl ?_
  refine rs_build rfl rfl ?_
  refine rs_alloc rfl rfl rfl ?_
  refine rs_st rfl rfl rfl rfl rfl rfl rfl (Nat.le_of_ble_eq_true rfl) rfl rfl ?_
  refine rs_nil fun _ => ?_
  refine th_n ?_
  refine aw_seq ?_
  refine aw_seq ?_
  refine aw_reg ?_
  refine rs_ld_pa rfl rfl rfl rfl (Nat.le_of_ble_eq_true rfl) rfl ?_
  refine rs_calln [] rfl rfl (fc14e (m := lineM) (n := 2) (by decide +kernel)) (.cons (hv_same rfl) (.nil)) rfl ?_
  refine rs_cmp_f rfl rfl rfl rfl (by decide) ?_
  refine rs_mv rfl rfl ?_
  refine rs_ld_pa rfl rfl rfl rfl (Nat.le_of_ble_eq_true rfl) rfl ?_
  refine rs_calln [] rfl rfl (fc34e (m := lineM) (s := 1) (x := 3) (y := (-2)) (z := 1) (b := true) (by decide +kernel)) (.cons (hv_same rfl) (.cons (hv_same rfl) (.cons (hv_same rfl) (.cons (hv_same rfl) (.cons (hv_same rfl) (.nil)))))) rfl ?_
  refine rs_not rfl rfl ?_
  refine rs_pick rfl rfl rfl ?_
  refine rs_mv rfl rfl ?_
  refine rs_ld_pa rfl rfl rfl rfl (Nat.le_of_ble_eq_true rfl) rfl ?_
  refine rs_calln [] rfl rfl (fc14e (m := arcM) (n := 3) (by decide +kernel)) (.cons (hv_same rfl) (.nil)) rfl ?_
  refine rs_cmp_f rfl rfl rfl rfl (by decide) ?_
  refine rs_pick rfl rfl rfl ?_
  refine rs_mv rfl rfl ?_
  refine rs_ld_pa rfl rfl rfl rfl (Nat.le_of_ble_eq_true rfl) rfl ?_
  refine rs_calln [] rfl rfl (fc34e (m := arcM) (s := 1) (x := 4) (y := 3) (z := 0) (b := true) (by decide +kernel)) (.cons (hv_same rfl) (.cons (hv_same rfl) (.cons (hv_same rfl) (.cons (hv_same rfl) (.cons (hv_same rfl) (.nil)))))) rfl ?_
  refine rs_not rfl rfl ?_
  refine rs_pick rfl rfl rfl ?_
  refine rs_mv rfl rfl ?_
  refine rs_ld_pa rfl rfl rfl rfl (Nat.le_of_ble_eq_true rfl) rfl ?_
  refine rs_calln [] rfl rfl (fc34e (m := arcM) (s := 2) (x := 3) (y := 4) (z := 0) (b := true) (by decide +kernel)) (.cons (hv_same rfl) (.cons (hv_same rfl) (.cons (hv_same rfl) (.cons (hv_same rfl) (.cons (hv_same rfl) (.nil)))))) rfl ?_
  refine rs_not rfl rfl ?_
  refine rs_pick rfl rfl rfl ?_
  refine rs_mv rfl rfl ?_
  refine rs_ld_pa rfl rfl rfl rfl (Nat.le_of_ble_eq_true rfl) rfl ?_
  refine rs_calln [] rfl rfl (fc34e (m := arcM) (s := 3) (x := 0) (y := 5) (z := 0) (b := true) (by decide +kernel)) (.cons (hv_same rfl) (.cons (hv_same rfl) (.cons (hv_same rfl) (.cons (hv_same rfl) (.cons (hv_same rfl) (.nil)))))) rfl ?_
  refine rs_not rfl rfl ?_
  refine rs_pick rfl rfl rfl ?_
  refine rs_mv rfl rfl ?_
  refine rs_ld_pa rfl rfl rfl rfl (Nat.le_of_ble_eq_true rfl) rfl ?_
  refine rs_calln [] rfl rfl (fc14e (m := farM) (n := 3) (by decide +kernel)) (.cons (hv_same rfl) (.nil)) rfl ?_
  refine rs_cmp_f rfl rfl rfl rfl (by decide) ?_
  refine rs_pick rfl rfl rfl ?_
  refine rs_mv rfl rfl ?_
  refine rs_ld_pa rfl rfl rfl rfl (Nat.le_of_ble_eq_true rfl) rfl ?_
  refine rs_calln [] rfl rfl (fc34e (m := farM) (s := 1) (x := 6) (y := 3) (z := 0) (b := true) (by decide +kernel)) (.cons (hv_same rfl) (.cons (hv_same rfl) (.cons (hv_same rfl) (.cons (hv_same rfl) (.cons (hv_same rfl) (.nil)))))) rfl ?_
  refine rs_not rfl rfl ?_
  refine rs_pick rfl rfl rfl ?_
  refine rs_mv rfl rfl ?_
  refine rs_ld_pa rfl rfl rfl rfl (Nat.le_of_ble_eq_true rfl) rfl ?_
  refine rs_calln [] rfl rfl (fc34e (m := farM) (s := 2) (x := 7) (y := 4) (z := 0) (b := true) (by decide +kernel)) (.cons (hv_same rfl) (.cons (hv_same rfl) (.cons (hv_same rfl) (.cons (hv_same rfl) (.cons (hv_same rfl) (.nil)))))) rfl ?_
  refine rs_not rfl rfl ?_
  refine rs_pick rfl rfl rfl ?_
  refine rs_nil fun _ => ?_
  refine th_n ?_
  refine aw_cond rfl (fun h => by cases h) (fun _ => ?_)
  refine aw_skip ?_
  refine th_n ?_
  refine aw_seq ?_
  refine aw_reg ?_
  refine rs_ld_pa rfl rfl rfl rfl (Nat.le_of_ble_eq_true rfl) rfl ?_
  refine rs_calln [] rfl rfl (fc17e (m := lineM) (s := 3) (v := ⟨0, 0, 0⟩) (b := false) (by decide +kernel) (by decide +kernel)) (.cons (hv_same rfl) (.cons (hv_same rfl) (.nil))) rfl ?_
  refine rs_mv rfl rfl ?_
  refine rs_ext rfl rfl rfl ?_
  refine rs_ext rfl rfl rfl ?_
  refine rs_alloc rfl rfl rfl ?_
  refine rs_st rfl rfl rfl rfl rfl rfl rfl (Nat.le_of_ble_eq_true rfl) rfl rfl ?_
  refine rs_mv rfl rfl ?_
  refine rs_nil fun _ => ?_
  refine th_n ?_
  refine aw_seq ?_
  refine aw_reg ?_
  refine rs_ld_pa rfl rfl rfl rfl (Nat.le_of_ble_eq_true rfl) rfl ?_
  refine rs_callo [] rfl rfl (fc19e (m := lineM) (i := 0) (j := 2) (l := [⟨0, 0, 0⟩, ⟨6, -4, 2⟩]) (b := true) (by decide +kernel) (by decide +kernel)) (.cons (hv_same rfl) (.cons (hv_same rfl) (.cons (hv_same rfl) (.nil)))) (.nil) rfl rfl rfl ?_
  refine rs_mv rfl rfl ?_
  refine rs_ext rfl rfl rfl ?_
  refine rs_ext rfl rfl rfl ?_
  refine rs_mv rfl rfl ?_
  refine rs_mv rfl rfl ?_
  refine rs_nil fun _ => ?_
  refine th_n ?_
  refine aw_seq ?_
  refine aw_reg ?_
  refine rs_ld_pa rfl rfl rfl rfl (Nat.le_of_ble_eq_true rfl) rfl ?_
  refine rs_callo [] rfl rfl (fc19e (m := lineM) (i := 1) (j := 1) (l := [⟨3, -2, 1⟩]) (b := true) (by decide +kernel) (by decide +kernel)) (.cons (hv_same rfl) (.cons (hv_same rfl) (.cons (hv_same rfl) (.nil)))) (.nil) rfl rfl rfl ?_
  refine rs_mv rfl rfl ?_
  refine rs_ext rfl rfl rfl ?_
  refine rs_ext rfl rfl rfl ?_
  refine rs_mv rfl rfl ?_
  refine rs_mv rfl rfl ?_
  refine rs_nil fun _ => ?_
  refine th_n ?_
  refine aw_seq ?_
  refine aw_reg ?_
  refine rs_ld_pa rfl rfl rfl rfl (Nat.le_of_ble_eq_true rfl) rfl ?_
  refine rs_callo [] rfl rfl (fc19e (m := arcM) (i := 1) (j := 2) (l := [⟨5, 0, 0⟩, ⟨5, 5, 0⟩, ⟨0, 5, 0⟩]) (b := true) (by decide +kernel) (by decide +kernel)) (.cons (hv_same rfl) (.cons (hv_same rfl) (.cons (hv_same rfl) (.nil)))) (.nil) rfl rfl rfl ?_
  refine rs_mv rfl rfl ?_
  refine rs_ext rfl rfl rfl ?_
  refine rs_ext rfl rfl rfl ?_
  refine rs_mv rfl rfl ?_
  refine rs_mv rfl rfl ?_
  refine rs_nil fun _ => ?_
  refine th_n ?_
  refine aw_seq ?_
  refine aw_reg ?_
  refine rs_ld_pa rfl rfl rfl rfl (Nat.le_of_ble_eq_true rfl) rfl ?_
  refine rs_callo [] rfl rfl (fc19e (m := lineM) (i := 2) (j := 1) (l := []) (b := false) (by decide +kernel) (by decide +kernel)) (.cons (hv_same rfl) (.cons (hv_same rfl) (.cons (hv_same rfl) (.nil)))) (.nil) rfl rfl rfl ?_
  refine rs_mv rfl rfl ?_
  refine rs_ext rfl rfl rfl ?_
  refine rs_ext rfl rfl rfl ?_
  refine rs_mv rfl rfl ?_
  refine rs_mv rfl rfl ?_
  refine rs_nil fun _ => ?_
  refine th_n ?_
  refine aw_seq ?_
  refine aw_reg ?_
  refine rs_ld_pa rfl rfl rfl rfl (Nat.le_of_ble_eq_true rfl) rfl ?_
  refine rs_callo [] rfl rfl (fc21e (m := arcM) (i := 1) (j := 2) (l := [(⟨4, 3, 0⟩, ⟨4, 3, 0⟩), (⟨3, 4, 0⟩, ⟨3, 4, 0⟩)]) (b := true) (by decide +kernel) (by decide +kernel)) (.cons (hv_same rfl) (.cons (hv_same rfl) (.cons (hv_same rfl) (.nil)))) (.nil) rfl rfl rfl ?_
  refine rs_mv rfl rfl ?_
  refine rs_ext rfl rfl rfl ?_
  refine rs_ext rfl rfl rfl ?_
  refine rs_mv rfl rfl ?_
  refine rs_mv rfl rfl ?_
  refine rs_nil fun _ => ?_
  refine th_n ?_
  refine aw_seq ?_
  refine aw_seq ?_
  refine aw_reg ?_
  refine rs_mv rfl rfl ?_
  refine rs_mv rfl rfl ?_
  refine rs_mv rfl rfl ?_
  refine rs_not rfl rfl ?_
  refine rs_pick rfl rfl rfl ?_
  refine rs_mv rfl rfl ?_
  refine rs_mv rfl rfl ?_
  refine rs_not rfl rfl ?_
  refine rs_pick rfl rfl rfl ?_
  refine rs_mv rfl rfl ?_
  refine rs_mv rfl rfl ?_
  refine rs_not rfl rfl ?_
  refine rs_pick rfl rfl rfl ?_
  refine rs_mv rfl rfl ?_
  refine rs_mv rfl rfl ?_
  refine rs_pick rfl rfl rfl ?_
  refine rs_mv rfl rfl ?_
  refine rs_mv rfl rfl ?_
  refine rs_not rfl rfl ?_
  refine rs_pick rfl rfl rfl ?_
  refine rs_mv rfl rfl ?_
  refine rs_mv rfl rfl ?_
  refine rs_fa_p rfl rfl ?_
  refine rs_ld_pa rfl rfl rfl rfl (Nat.le_of_ble_eq_true rfl) rfl ?_
  refine rs_fa_p rfl rfl ?_
  refine rs_ld_pa rfl rfl rfl rfl (Nat.le_of_ble_eq_true rfl) rfl ?_
  refine rs_bslice rfl rfl rfl rfl rfl rfl ?_
  refine rs_calln [131] rfl rfl (fc23 [⟨0, 0, 0⟩, ⟨6, -4, 2⟩] [⟨0, 0, 0⟩, ⟨6, -4, 2⟩] (by decide)) (.cons (hv_same rfl) (.cons (hv_slm (f := cV) (xs := [⟨0, 0, 0⟩, ⟨6, -4, 2⟩]) (by simp) rfl rfl) (.nil))) rfl ?_
  refine rs_not rfl rfl ?_
  refine rs_pick rfl rfl rfl ?_
  refine rs_mv rfl rfl ?_
  refine rs_mv rfl rfl ?_
  refine rs_build rfl rfl ?_
  refine rs_bslice rfl rfl rfl rfl rfl rfl ?_
  refine rs_calln [138] rfl rfl (fc23 [⟨3, -2, 1⟩] [⟨3, -2, 1⟩] (by decide)) (.cons (hv_same rfl) (.cons (hv_slm (f := cV) (xs := [⟨3, -2, 1⟩]) (by simp) rfl rfl) (.nil))) rfl ?_
  refine rs_not rfl rfl ?_
  refine rs_pick rfl rfl rfl ?_
  refine rs_mv rfl rfl ?_
  refine rs_mv rfl rfl ?_
  refine rs_fa_p rfl rfl ?_
  refine rs_ld_pa rfl rfl rfl rfl (Nat.le_of_ble_eq_true rfl) rfl ?_
  refine rs_fa_p rfl rfl ?_
  refine rs_ld_pa rfl rfl rfl rfl (Nat.le_of_ble_eq_true rfl) rfl ?_
  refine rs_fa_p rfl rfl ?_
  refine rs_ld_pa rfl rfl rfl rfl (Nat.le_of_ble_eq_true rfl) rfl ?_
  refine rs_bslice rfl rfl rfl rfl rfl rfl ?_
  refine rs_calln [150] rfl rfl (fc23 [⟨5, 0, 0⟩, ⟨5, 5, 0⟩, ⟨0, 5, 0⟩] [⟨5, 0, 0⟩, ⟨5, 5, 0⟩, ⟨0, 5, 0⟩] (by decide)) (.cons (hv_same rfl) (.cons (hv_slm (f := cV) (xs := [⟨5, 0, 0⟩, ⟨5, 5, 0⟩, ⟨0, 5, 0⟩]) (by simp) rfl rfl) (.nil))) rfl ?_
  refine rs_not rfl rfl ?_
  refine rs_pick rfl rfl rfl ?_
  refine rs_nil fun _ => ?_
  refine th_n ?_
  refine aw_cond rfl (fun h => by cases h) (fun _ => ?_)
  refine aw_skip ?_
  refine th_n ?_
  refine aw_seq ?_
  refine aw_reg ?_
  refine rs_build rfl rfl ?_
  refine rs_build rfl rfl ?_
  refine rs_alloc rfl rfl rfl ?_
  refine rs_alloc rfl rfl rfl ?_
  refine rs_st rfl rfl rfl rfl rfl rfl rfl (Nat.le_of_ble_eq_true rfl) rfl rfl ?_
  refine rs_st rfl rfl rfl rfl rfl rfl rfl (Nat.le_of_ble_eq_true rfl) rfl rfl ?_
  refine rs_nil fun _ => ?_
  refine th_n ?_
  refine aw_seq ?_
  refine aw_draw hmix ?_
  refine rs_ld_pa rfl rfl rfl rfl (Nat.le_of_ble_eq_true rfl) rfl ?_
  refine rs_ld_pa rfl rfl rfl rfl (Nat.le_of_ble_eq_true rfl) rfl ?_
  refine rs_ld_pa rfl rfl rfl rfl (Nat.le_of_ble_eq_true rfl) rfl ?_
  refine rs_ld_pa rfl rfl rfl rfl (Nat.le_of_ble_eq_true rfl) rfl ?_
  refine rs_alloc rfl rfl rfl ?_
  refine rs_alloc rfl rfl rfl ?_
  refine rs_alloc rfl rfl rfl ?_
  refine rs_alloc rfl rfl rfl ?_
  refine rs_st rfl rfl rfl rfl rfl rfl rfl (Nat.le_of_ble_eq_true rfl) rfl rfl ?_
  refine rs_st rfl rfl rfl rfl rfl rfl rfl (Nat.le_of_ble_eq_true rfl) rfl rfl ?_
  refine rs_st rfl rfl rfl rfl rfl rfl rfl (Nat.le_of_ble_eq_true rfl) rfl rfl ?_
  refine rs_st rfl rfl rfl rfl rfl rfl rfl (Nat.le_of_ble_eq_true rfl) rfl rfl ?_
  refine rs_nil ⟨by kernel_rfl, fun _ => ?_⟩
  refine th_n ?_
  refine aw_seq ?_
  refine aw_reg ?_
  refine rs_build rfl rfl ?_
  refine rs_build rfl rfl ?_
  refine rs_fa_p rfl rfl ?_
  refine rs_st rfl rfl rfl rfl rfl rfl rfl (Nat.le_of_ble_eq_true rfl) rfl rfl ?_
  refine rs_fa_p rfl rfl ?_
  refine rs_st rfl rfl rfl rfl rfl rfl rfl (Nat.le_of_ble_eq_true rfl) rfl rfl ?_
  refine rs_fa_p rfl rfl ?_
  refine rs_st rfl rfl rfl rfl rfl rfl rfl (Nat.le_of_ble_eq_true rfl) rfl rfl ?_
  refine rs_fa_p rfl rfl ?_
  refine rs_st rfl rfl rfl rfl rfl rfl rfl (Nat.le_of_ble_eq_true rfl) rfl rfl ?_
  refine rs_nil fun _ => ?_
  refine th_n ?_
  refine aw_seq ?_
  refine aw_reg ?_
  refine rs_mv rfl rfl ?_
  refine rs_ld_pa rfl rfl rfl rfl (Nat.le_of_ble_eq_true rfl) rfl ?_
  refine rs_ld_pa rfl rfl rfl rfl (Nat.le_of_ble_eq_true rfl) rfl ?_
  refine rs_build rfl rfl ?_
  refine rs_ld_pa rfl rfl rfl rfl (Nat.le_of_ble_eq_true rfl) rfl ?_
  refine rs_ld_pa rfl rfl rfl rfl (Nat.le_of_ble_eq_true rfl) rfl ?_
  refine rs_build rfl rfl ?_
  refine rs_bslice rfl rfl rfl rfl rfl rfl ?_
  refine rs_calln [173] rfl rfl (fc24 [(⟨4, 3, 0⟩, ⟨4, 3, 0⟩), (⟨3, 4, 0⟩, ⟨3, 4, 0⟩)] [(⟨4, 3, 0⟩, ⟨4, 3, 0⟩), (⟨3, 4, 0⟩, ⟨3, 4, 0⟩)] (by decide)) (.cons (hv_same rfl) (.cons (hv_slm (f := cP) (xs := [(⟨4, 3, 0⟩, ⟨4, 3, 0⟩), (⟨3, 4, 0⟩, ⟨3, 4, 0⟩)]) (by simp) rfl rfl) (.nil))) rfl ?_
  refine rs_mv rfl rfl ?_
  refine rs_ld_pa rfl rfl rfl rfl (Nat.le_of_ble_eq_true rfl) rfl ?_
  refine rs_calln [] rfl rfl (fc12e (m := ⟨1, ⟨0, 0, 0⟩, ⟨6, -4, 2⟩, ⟨0, 0, 0⟩, 10⟩) (n := 3) (by decide +kernel)) (.cons (hv_same rfl) (.nil)) rfl ?_
  refine rs_cmp_t rfl rfl rfl rfl (by decide) ?_
  refine rs_pick rfl rfl rfl ?_
  refine rs_mv rfl rfl ?_
  refine rs_ld_pa rfl rfl rfl rfl (Nat.le_of_ble_eq_true rfl) rfl ?_
  refine rs_calln [] rfl rfl (fc12e (m := ⟨2, ⟨0, 0, 0⟩, ⟨6, -4, 2⟩, ⟨0, 0, 0⟩, 0⟩) (n := 3) (by decide +kernel)) (.cons (hv_same rfl) (.nil)) rfl ?_
  refine rs_cmp_t rfl rfl rfl rfl (by decide) ?_
  refine rs_pick rfl rfl rfl ?_
  refine rs_mv rfl rfl ?_
  refine rs_ld_pa rfl rfl rfl rfl (Nat.le_of_ble_eq_true rfl) rfl ?_
  refine rs_calln [] rfl rfl (fc12e (m := ⟨2, ⟨0, 0, 0⟩, ⟨0, 0, 0⟩, ⟨0, 0, 0⟩, 10⟩) (n := 16) (by decide +kernel)) (.cons (hv_same rfl) (.nil)) rfl ?_
  refine rs_cmp_t rfl rfl rfl rfl (by decide) ?_
  refine rs_pick rfl rfl rfl ?_
  refine rs_mv rfl rfl ?_
  refine rs_ld_pa rfl rfl rfl rfl (Nat.le_of_ble_eq_true rfl) rfl ?_
  refine rs_calln [] rfl rfl (fc12e (m := ⟨3, ⟨5, 4, 0⟩, ⟨0, 5, 0⟩, ⟨5, 5, 0⟩, 10⟩) (n := 16) (by decide +kernel)) (.cons (hv_same rfl) (.nil)) rfl ?_
  refine rs_cmp_t rfl rfl rfl rfl (by decide) ?_
  refine rs_pick rfl rfl rfl ?_
  refine rs_mv rfl rfl ?_
  refine rs_nil fun _ => ?_
  refine th_n ?_
  refine aw_ret ?_
  exact ret_pure rfl rfl rfl (.inr rfl)

def mc25 : MC := (.seq (.reg [⟨(some 1), (.box 28 11 (.t 0)), none, []⟩, ⟨(some 2), (.mv (.c .nils)), none, []⟩, ⟨(some 3), (.mv (.c (.bool false))), none, [1]⟩] false) (.seq (.reg [⟨(some 9), (.ld true 11 (.t 1)), none, []⟩, ⟨(some 10), (.call 10 [(.t 9)]), none, [0]⟩, ⟨(some 4), (.mv (.t 10)), none, [1, 1, 0, 1]⟩] false) (.seq (.seq (.reg [⟨(some 11), (.mv (.t 4)), none, []⟩, ⟨(some 12), (.bin .lss (.t 11) (.c (.int .i64 1))), none, [0]⟩, ⟨(some 13), (.mv (.t 12)), none, [1]⟩, ⟨(some 14), (.mv (.t 4)), (some (13, false)), [2]⟩, ⟨(some 15), (.bin .gtr (.t 14) (.c (.int .i64 100))), (some (13, false)), [3, 2]⟩, ⟨(some 16), (.pick (.t 13) (.c (.bool true)) (.t 15)), none, [2, 4]⟩] false) (.cond (.t 16) (.seq (.reg [⟨(some 2), (.mv (.c .nils)), none, []⟩, ⟨(some 3), (.mv (.c (.bool false))), none, [0, 0]⟩] false) .ret) .skip)) (.seq (.reg [⟨(some 5), (.mv (.c .nils)), none, []⟩] false) (.seq (.seq (.reg [⟨(some 6), (.mv (.c (.int .i64 0))), none, []⟩] false) (.block 0 (.loop (.seq (.seq (.reg [⟨(some 17), (.mv (.t 6)), none, []⟩, ⟨(some 18), (.mv (.t 4)), none, []⟩, ⟨(some 19), (.bin .leq (.t 17) (.t 18)), none, [0, 1]⟩] false) (.cond (.t 19) .skip (.exit 0))) (.seq (.block 1 (.seq (.reg [⟨(some 23), (.ld true 11 (.t 1)), none, []⟩, ⟨(some 24), (.mv (.t 6)), none, []⟩, ⟨(some 25), (.call 12 [(.t 23), (.t 24)]), none, [0, 1]⟩, ⟨(some 22), (.mv (.t 25)), none, [2]⟩, ⟨(some 26), (.ext (.t 22) 0), none, [3]⟩, ⟨(some 27), (.ext (.t 22) 1), none, [3]⟩, ⟨(some 7), (.alloc 26 3 [(.int .i64 0), (.int .i64 0), (.int .i64 0)]), none, []⟩, ⟨none, (.st 3 (.t 7) (.t 26)), none, [6, 4, 2, 0, 1, 2, 3, 4, 6]⟩, ⟨(some 8), (.mv (.t 27)), none, [5, 7, 0, 1, 2, 3, 4, 5, 6, 7]⟩] false) (.seq (.seq (.reg [⟨(some 28), (.mv (.t 8)), none, []⟩, ⟨(some 29), (.un .not (.t 28)), none, [0]⟩] false) (.cond (.t 29) (.seq (.reg [⟨(some 2), (.mv (.c .nils)), none, []⟩, ⟨(some 3), (.mv (.c (.bool false))), none, [0, 0]⟩] false) .ret) .skip)) (.reg [⟨(some 30), (.mv (.t 5)), none, []⟩, ⟨(some 31), (.ld true 3 (.t 7)), none, []⟩, ⟨(some 32), (.bslice 26 3 [(.int .i64 0), (.int .i64 0), (.int .i64 0)] 1 [(0, (.t 31))]), none, [1]⟩, ⟨(some 33), (.app 26 3 24 [(.int .i64 0), (.int .i64 0), (.int .i64 0)] (.t 30) (.t 32)), none, [0, 2]⟩, ⟨(some 5), (.mv (.t 33)), none, [3, 3, 0, 1, 2, 3]⟩] false)))) (.reg [⟨(some 20), (.mv (.t 6)), none, []⟩, ⟨(some 21), (.bin .add (.t 20) (.c (.int .i64 1))), none, [0]⟩, ⟨(some 6), (.mv (.t 21)), none, [1, 0, 1]⟩] false)))))) (.seq (.reg [⟨(some 34), (.mv (.t 5)), none, []⟩, ⟨(some 2), (.mv (.t 34)), none, [0, 0]⟩, ⟨(some 3), (.mv (.c (.bool true))), none, [1, 0, 1]⟩] false) .ret))))))
theorem mcOk25 : (match Tryd.f8.body with | some c => compC Tryd.prog 35 c | none => none) = some mc25 := by kernel_rfl

theorem fc25 (m : Mv) (h : 2 ≤ (pathS m).length) : FC Tryd.prog 8 [aM m] [] (.tup [.rs 3 ((pathS m).map cV), .bool true]) [] false := by
  have hl := path_len m
  have hs : stepsS m = ((pathS m).length : Int) - 1 := by unfold stepsS; omega
  refine fc_run (nt := 35) Tryd.func8 rfl rfl mcOk25 (Nat.le_of_ble_eq_true rfl) ?_
  delta mc25
  refine aw_seq ?_
  refine aw_reg ?_
  refine rs_box rfl rfl rfl rfl rfl rfl ?_
  refine rs_mv rfl rfl ?_
  refine rs_mv rfl rfl ?_
  refine rs_nil fun _ => ?_
  refine th_n ?_
  refine aw_seq ?_
  refine aw_reg ?_
  refine rs_ld_pa rfl rfl rfl rfl (Nat.le_of_ble_eq_true rfl) rfl ?_
  refine rs_calln [] rfl rfl (fc14 m) (.cons (hv_same rfl) (.nil)) rfl ?_
  refine rs_mv rfl rfl ?_
  refine rs_nil fun _ => ?_
  refine th_n ?_
  refine aw_seq ?_
  refine aw_seq ?_
  refine aw_reg ?_
  refine rs_mv rfl rfl ?_
  refine rs_cmp_f rfl rfl rfl rfl (by omega) ?_
  refine rs_mv rfl rfl ?_
  refine rs_mv rfl rfl ?_
  refine rs_cmp_f rfl rfl rfl rfl (by omega) ?_
  refine rs_pick rfl rfl rfl ?_
  refine rs_nil fun _ => ?_
  refine th_n ?_
  refine aw_cond rfl (fun h => by cases h) (fun _ => ?_)
  refine aw_skip ?_
  refine th_n ?_
  refine aw_seq ?_
  refine aw_reg ?_
  refine rs_mv rfl rfl ?_
  refine rs_nil fun _ => ?_
  refine th_n ?_
  refine aw_seq ?_
  refine aw_seq ?_
  refine aw_reg ?_
  refine rs_mv rfl rfl ?_
  refine rs_nil fun _ => ?_
  refine th_n ?_
  refine aw_block ?_
  refine aw_fam (α := Nat) (fun k => (pathS m).length - k) (fun k => [(1, .ptr 1 0 0), (4, iv (stepsS m)), (6, iv (((k) : Nat) : Int)), (5, .sl 1005 0 (k))]) (fun k => [(1, .cells 28 11 [cM m] true), (1005, .cells 26 3 (((pathS m).take (k)).map cV) true)]) (fun k => k ≤ (pathS m).length) 0 (by omega)
    (weak_to (.cons rfl (rc_same rfl (.inl rfl)) (.cons rfl (rc_same rfl (.inl rfl)) (.cons rfl (rc_same rfl (.inl rfl)) (.cons rfl (rc_virt rfl rfl) (.nil))))) (.keep (rfl) rfl (.virt rfl (.nil))) (fun i h => by cases h)) ?_
  intro k hk
  refine aw_seq ?_
  refine aw_seq ?_
  refine aw_reg ?_
  refine rs_mv rfl rfl ?_
  refine rs_mv rfl rfl ?_
  refine rs_leq rfl rfl rfl ?_
  refine rs_nil fun _ => ?_
  refine th_n ?_
  refine aw_cond rfl (fun h19 => ?_) (fun h19 => ?_)
  · replace h19 := of_decide_eq_true h19
    refine aw_skip ?_
    refine th_n ?_
    refine aw_seq ?_
    refine aw_block ?_
    refine aw_seq ?_
    refine aw_reg ?_
    obtain ⟨x, hx, _⟩ := at_some (L := pathS m) (k := k) (by omega)
    obtain ⟨h1, h2⟩ := at_yes hx
    refine rs_ld_pa rfl rfl rfl rfl (Nat.le_of_ble_eq_true rfl) rfl ?_
    refine rs_mv rfl rfl ?_
    refine rs_calln [] rfl rfl (fc17e (s := (k : Int)) h1 h2) (.cons (hv_same rfl) (.cons (hv_same rfl) (.nil))) rfl ?_
    refine rs_mv rfl rfl ?_
    refine rs_ext rfl rfl rfl ?_
    refine rs_ext rfl rfl rfl ?_
    refine rs_alloc rfl rfl rfl ?_
    refine rs_st rfl rfl rfl rfl rfl rfl rfl (Nat.le_of_ble_eq_true rfl) rfl rfl ?_
    refine rs_mv rfl rfl ?_
    refine rs_nil fun _ => ?_
    refine th_n ?_
    refine aw_seq ?_
    refine aw_seq ?_
    refine aw_reg ?_
    refine rs_mv rfl rfl ?_
    refine rs_not rfl rfl ?_
    refine rs_nil fun _ => ?_
    refine th_n ?_
    refine aw_cond rfl (fun h => by cases h) (fun _ => ?_)
    refine aw_skip ?_
    refine th_n ?_
    refine aw_reg ?_
    refine rs_mv rfl rfl ?_
    refine rs_ld_pa rfl rfl rfl rfl (Nat.le_of_ble_eq_true rfl) rfl ?_
    refine rs_bslice rfl rfl rfl rfl rfl rfl ?_
    refine rs_app_m (f := cV) (xs := (pathS m).take k) (y := x) rfl rfl rfl rfl (by simp; omega) rfl rfl rfl (by decide) rfl (by omega) (by omega) rfl ?_
    refine rs_mv rfl rfl ?_
    refine rs_nil fun _ => ?_
    refine in_n ?_
    refine th_n ?_
    refine aw_reg ?_
    refine rs_mv rfl rfl ?_
    refine rs_add rfl rfl rfl (by omega) ?_
    refine rs_mv rfl rfl ?_
    refine rs_nil fun _ => ?_
    refine th_n ?_
    exact ⟨k + 1, by omega, by omega, weak_to_ren (i := 33) (i' := 1005) (F1 := [(1, .ptr 1 0 0), (4, iv (stepsS m)), (6, iv (((k + 1) : Nat) : Int)), (5, .sl 33 0 (k + 1))]) (H1 := [(1, .cells 28 11 [cM m] true), (33, .cells 26 3 (((pathS m).take (k + 1)).map cV) true)]) (.cons rfl (rc_same rfl (.inl rfl)) (.cons rfl (rc_same rfl (.inl rfl)) (.cons rfl (rc_same rfl (.inl rfl)) (.cons rfl (rc_same rfl (.inl rfl)) (.nil))))) (.keep (rfl) rfl (.keep ((by (rw [take_succ_at hx]) <;> rfl)) rfl (.nil))) (fun i h => by cases h) rfl rfl (.cons rfl (.same _) (.cons rfl (.same _) (.cons rfl (.same _) (.cons rfl (.sl _ _) (.nil))))) (.cons rfl (rc_same rfl (.inl rfl)) (.cons rfl (rc_same rfl (.inl rfl)) (.cons rfl (rc_same rfl (.inl rfl)) (.cons rfl (rc_same rfl (.inl rfl)) (.nil))))) (.keep (rfl) rfl (.keep (rfl) rfl (.nil))) (fun i h => by cases h)⟩
  · replace h19 := of_decide_eq_false h19
    refine aw_exit ?_
    refine th_e ?_
    refine th_e ?_
    refine in_hit ?_
    refine th_n ?_
    refine aw_seq ?_
    refine aw_reg ?_
    refine rs_mv rfl rfl ?_
    refine rs_mv rfl rfl ?_
    refine rs_mv rfl rfl ?_
    refine rs_nil fun _ => ?_
    refine th_n ?_
    refine aw_ret ?_
    have hk2 : k = (pathS m).length := by omega
    subst hk2
    rw [show (pathS m).map cV = ((pathS m).take (pathS m).length).map cV by rw [List.take_length]]
    exact ret_new rfl (rc_tup (.cons (rc_frz rfl rfl (by simp) (fun _ => rfl)) (.cons (rc_same rfl (.inr rfl)) .nil))) .nil

end Go.Proofs.YteommcdafifckaaDoor

/-! Plain law: made moves are valid; the move back. -/
namespace Go.Proofs.YteommcdafifckaaDoor
open Go.RowKit

theorem ax_cases {v : V3} (h : v ∈ axL) : v = ⟨1, 0, 0⟩ ∨ v = ⟨0, 1, 0⟩ ∨ v = ⟨0, 0, 1⟩ ∨ v = ⟨-1, 0, 0⟩ ∨ v = ⟨0, -1, 0⟩ ∨ v = ⟨0, 0, -1⟩ := by
  simpa [axL] using h
theorem perp_dec : ∀ a : Nat, a < 6 → ∀ x : Nat, x < 2 → ∀ y : Nat, y < 2 → dot (axS (a : Int)) (axS ((a : Int) + 1 + (x : Int) + 3 * (y : Int))) = 0 := by decide +kernel
theorem in_of {v : V3} (h : Bd 24 v) : inS v = true := by
  have := h.x; have := h.y; have := h.z
  simp only [inS, withinS, List.all_cons, List.all_nil, Bool.and_eq_true, decide_eq_true_eq, and_true]
  omega
theorem range_of {m : Mv} {lo hi : Int} (h : InM m) (h1 : lo ≤ m.feed) (h2 : m.feed ≤ hi) : ¬ rangeB lo hi m = true := by
  unfold rangeB
  rw [in_of h.fr, in_of h.to, in_of h.co, decide_eq_false (by omega), decide_eq_false (by omega)]
  decide
theorem arc_ok {F A B : V3} {r G : Int} (hF : Bd 8 F) (hA : A ∈ axL) (hB : B ∈ axL) (hAB : dot A B = 0) (hr : 1 ≤ r ∧ r ≤ 10) (hG : 1 ≤ G ∧ G ≤ 100) : checkS ⟨3, F, plus (plus F A r) B r, plus F A r, G⟩ = 0 := by
  have hx := hF.x; have hy := hF.y; have hz := hF.z
  have hin : InM ⟨3, F, plus (plus F A r) B r, plus F A r, G⟩ := by
    rcases ax_cases hA with rfl | rfl | rfl | rfl | rfl | rfl <;> rcases ax_cases hB with rfl | rfl | rfl | rfl | rfl | rfl <;> first
      | (exfalso; revert hAB; decide)
      | exact ⟨hF.mono (by decide), ⟨by simp only [plus]; omega, by simp only [plus]; omega, by simp only [plus]; omega⟩, ⟨by simp only [plus]; omega, by simp only [plus]; omega, by simp only [plus]; omega⟩⟩
  have hq : quarterS ⟨3, F, plus (plus F A r) B r, plus F A r, G⟩ = true := by
    have e1 : sub F (plus F A r) = ⟨-(r * A.x), -(r * A.y), -(r * A.z)⟩ := by simp only [sub, plus]; congr 1 <;> omega
    have e2 : sub (plus (plus F A r) B r) (plus F A r) = ⟨r * B.x, r * B.y, r * B.z⟩ := by simp only [sub, plus]; congr 1 <;> omega
    unfold quarterS
    dsimp only
    rw [e1, e2]
    have l1 : lenS ⟨-(r * A.x), -(r * A.y), -(r * A.z)⟩ = r := by
      rcases ax_cases hA with rfl | rfl | rfl | rfl | rfl | rfl <;> simp only [lenS] <;> rw [if_pos (by omega)] <;> omega
    have l2 : lenS ⟨r * B.x, r * B.y, r * B.z⟩ = r := by
      rcases ax_cases hB with rfl | rfl | rfl | rfl | rfl | rfl <;> simp only [lenS] <;> rw [if_pos (by omega)] <;> omega
    have l3 : dot ⟨-(r * A.x), -(r * A.y), -(r * A.z)⟩ ⟨r * B.x, r * B.y, r * B.z⟩ = 0 := by
      rcases ax_cases hA with rfl | rfl | rfl | rfl | rfl | rfl <;> rcases ax_cases hB with rfl | rfl | rfl | rfl | rfl | rfl <;> first
        | (exfalso; revert hAB; decide)
        | simp [dot]
    rw [l1, l2, l3, decide_eq_true hr.1]
    simp
  unfold checkS
  rw [if_neg (show ¬ ((3 : Int) = 1) by decide), if_neg (show ¬ ((3 : Int) = 2) by decide), if_pos rfl, if_neg (range_of hin hG.1 hG.2), if_pos (by rw [fits_quarter]; exact hq)]
theorem line_ok {F u : V3} {n k G : Int} (hF : Bd 8 F) (hu : Bd 3 u) (hne : u ≠ ⟨0, 0, 0⟩) (hn : 1 ≤ n ∧ n ≤ 3) (hk : (k = 1 ∧ G = 0) ∨ (k = 2 ∧ 1 ≤ G ∧ G ≤ 100)) : checkS ⟨k, F, plus F u n, ⟨0, 0, 0⟩, G⟩ = 0 := by
  have hx := hF.x; have hy := hF.y; have hz := hF.z
  have ux := hu.x; have uy := hu.y; have uz := hu.z
  have hin : InM ⟨k, F, plus F u n, ⟨0, 0, 0⟩, G⟩ := by
    obtain rfl | rfl | rfl : n = 1 ∨ n = 2 ∨ n = 3 := by omega
    all_goals exact ⟨hF.mono (by decide), ⟨by simp only [plus]; omega, by simp only [plus]; omega, by simp only [plus]; omega⟩, ⟨by simp, by simp, by simp⟩⟩
  have hf : fitsL ⟨k, F, plus F u n, ⟨0, 0, 0⟩, G⟩ = true := by
    have : F ≠ plus F u n := fun e => by
      apply hne
      have e1 := congrArg V3.x e
      have e2 := congrArg V3.y e
      have e3 := congrArg V3.z e
      simp only [plus] at e1 e2 e3
      obtain ⟨a, b, c⟩ := u
      dsimp only at e1 e2 e3
      obtain rfl | rfl | rfl : n = 1 ∨ n = 2 ∨ n = 3 := by omega
      all_goals (congr 1 <;> omega)
    simp [fitsL, this]
  unfold checkS
  rcases hk with ⟨rfl, rfl⟩ | ⟨rfl, h1, h2⟩
  · rw [if_pos rfl, if_neg (range_of hin (by simp) (by simp)), if_pos hf]
  · rw [if_neg (show ¬ ((2 : Int) = 1) by decide), if_pos rfl, if_neg (range_of hin h1 h2), if_pos hf]
theorem by_ok (l : List Int) : Bd 3 (mBy l) ∧ mBy l ≠ ⟨0, 0, 0⟩ := by
  unfold mBy
  split
  · refine ⟨(ax_bd _).mono (by decide), fun e => ?_⟩
    have := ax_mem (nextV l (q4v l) 6)
    rw [e] at this
    revert this; decide
  · rename_i h; exact ⟨vecV_bd l (q3 l) 3 (by omega), h⟩
theorem made_ok (l : List Int) : checkS (madeS l) = 0 := by
  have n2 := nextV_range l (q2 l) 100 (by omega)
  have n3 := nextV_range l (q3 l) 6 (by omega)
  have n4 := nextV_range l (q4 l) 2 (by omega)
  have n5 := nextV_range l (q5 l) 2 (by omega)
  have n6 := nextV_range l (q6 l) 5 (by omega)
  have n7 := nextV_range l (q5v l) 3 (by omega)
  have hbf := vecV_bd l (q1 l) 8 (by omega)
  have hG : 1 ≤ mG l ∧ mG l ≤ 100 := by
    show 1 ≤ 1 + nextV l (q2 l) 100 ∧ 1 + nextV l (q2 l) 100 ≤ 100
    omega
  unfold madeS
  split
  · have hr : mR l = 1 ∨ mR l = 2 ∨ mR l = 5 ∨ mR l = 10 := r_range (nextV l (q6 l) 5) n6.1 n6.2
    have hp := perp_dec (nextV l (q3 l) 6).toNat (by omega) (nextV l (q4 l) 2).toNat (by omega) (nextV l (q5 l) 2).toNat (by omega)
    rw [Int.toNat_of_nonneg n3.1, Int.toNat_of_nonneg n4.1, Int.toNat_of_nonneg n5.1] at hp
    exact arc_ok (r := mR l) (G := mG l) hbf (ax_mem _) (ax_mem _) hp (by omega) hG
  · obtain ⟨h1, h2⟩ := by_ok l
    split
    · exact line_ok hbf h1 h2 (by unfold mN; omega) (.inl ⟨rfl, rfl⟩)
    · exact line_ok hbf h1 h2 (by unfold mN; omega) (.inr ⟨rfl, hG⟩)
/-- What a valid move is. -/
theorem ck_kind {m : Mv} (h : checkS m = 0) : m.kind = 1 ∨ m.kind = 2 ∨ m.kind = 3 := Decidable.byContradiction fun hk => by
  have := ck_n (m := m) (by omega)
  omega
theorem ck_line {m : Mv} (h : checkS m = 0) (hk : ¬ m.kind = 3) : m.fr ≠ m.to ∧ m.co = ⟨0, 0, 0⟩ := by
  have hf : fitsL m = true := by
    cases e : fitsL m with
    | true => rfl
    | false =>
      unfold checkS at h
      rw [e, if_neg hk] at h
      by_cases h1 : m.kind = 1
      · rw [if_pos h1] at h
        split at h <;> simp at h
      · rw [if_neg h1] at h
        by_cases h2 : m.kind = 2
        · rw [if_pos h2] at h
          split at h <;> simp at h
        · rw [if_neg h2] at h; simp at h
  simpa [fitsL] using hf
theorem gS_zero {v : V3} (h : gS v = 0) : v = ⟨0, 0, 0⟩ := by
  obtain ⟨h1, h2, h3⟩ := prim_mul v
  rw [h] at h1 h2 h3
  obtain ⟨x, y, z⟩ := v
  dsimp only at h1 h2 h3
  congr 1 <;> omega
theorem d_pos {m : Mv} (h : checkS m = 0) (hk : ¬ m.kind = 3) : 1 ≤ gS (dS m) := by
  have hne := (ck_line h hk).1
  have : gS (dS m) ≠ 0 := fun e => hne (by
    have hz := gS_zero e
    unfold dS sub at hz
    have e1 := congrArg V3.x hz
    have e2 := congrArg V3.y hz
    have e3 := congrArg V3.z hz
    dsimp only at e1 e2 e3
    obtain ⟨k, ⟨a, b, c⟩, ⟨a', b', c'⟩, co, f⟩ := m
    dsimp only at e1 e2 e3 ⊢
    congr 1 <;> omega)
  omega
theorem arc_two : ∀ r, r < 49 → 1 ≤ r → 2 ≤ (arcQ r (r + 1)).length := by decide +kernel
structure ArcF (m : Mv) : Prop where
  a : dot (primV (sA m)) (primV (sA m)) = 1
  b : dot (primV (sB m)) (primV (sB m)) = 1
  g : gS (sA m) = gS (sB m)
  ab : dot (primV (sA m)) (primV (sB m)) = 0
  r1 : 1 ≤ gS (sA m)
  r2 : gS (sA m) ≤ 48
theorem arc_facts {m : Mv} (h : checkS m = 0) (hk : m.kind = 3) : ArcF m := by
  have hf := ck_fit h hk
  have hi := ck_in h
  simp only [fitsA, Bool.and_eq_true, decide_eq_true_eq] at hf
  obtain ⟨h1, h2, h3, h4⟩ := hf
  have h5 := gS_le (n := 48) hi.a48
  have h6 : gS (sA m) ≠ 0 := fun e => by
    unfold primV at h1
    rw [if_pos e] at h1
    simp [dot] at h1
  exact ⟨h1, h2, by omega, h4, by omega, h5⟩
theorem path_two {m : Mv} (h : checkS m = 0) : 2 ≤ (pathS m).length := by
  by_cases hk : m.kind = 3
  · have f := arc_facts h hk
    have := f.r2
    rw [path_a h hk, arcV, List.length_map]
    exact arc_two _ (by omega) f.r1
  · rw [path_n h hk, linQ_len]
    have := d_pos h hk
    omega
/-- The move back. -/
abbrev revM (m : Mv) : Mv := ⟨m.kind, m.to, m.fr, m.co, m.feed⟩
theorem check_rev (m : Mv) : checkS (revM m) = checkS m := by
  have e1 : ∀ lo hi, rangeB lo hi (revM m) = rangeB lo hi m := fun lo hi => by
    unfold rangeB
    dsimp only
    cases inS m.fr <;> cases inS m.to <;> rfl
  have e2 : fitsL (revM m) = fitsL m := by
    unfold fitsL
    dsimp only
    rw [decide_eq_decide.2 (show m.to = m.fr ↔ m.fr = m.to from ⟨Eq.symm, Eq.symm⟩)]
  have e3 : fitsA (revM m) = fitsA m := by
    have a1 : sA (revM m) = sB m := rfl
    have a2 : sB (revM m) = sA m := rfl
    unfold fitsA
    rw [a1, a2, dot_comm (primV (sB m)) (primV (sA m))]
    rw [decide_eq_decide.2 (show ((gS (sB m) : Int) = gS (sA m)) ↔ ((gS (sA m) : Int) = gS (sB m)) from ⟨Eq.symm, Eq.symm⟩)]
    cases decide (dot (primV (sA m)) (primV (sA m)) = 1) <;> cases decide (dot (primV (sB m)) (primV (sB m)) = 1) <;> rfl
  unfold checkS
  rw [e1, e1, e2, e3]
def negV (v : V3) : V3 := ⟨-v.x, -v.y, -v.z⟩
theorem gS_neg (v : V3) : gS (negV v) = gS v := by rw [gS_eq, gS_eq]; simp [negV]
theorem prim_neg (v : V3) : primV (negV v) = negV (primV v) := by
  unfold primV
  rw [gS_neg]
  split
  · rfl
  · simp [negV, Int.neg_tdiv]
theorem d_rev (m : Mv) : dS (revM m) = negV (dS m) := by
  unfold dS sub negV
  simp only [Int.neg_sub]
theorem to_eq (m : Mv) : m.to = plus m.fr (primV (dS m)) (gS (dS m)) := by
  obtain ⟨h1, h2, h3⟩ := prim_mul (dS m)
  unfold plus
  rw [← h1, ← h2, ← h3]
  obtain ⟨k, ⟨a, b, c⟩, ⟨a', b', c'⟩, co, f⟩ := m
  simp only [dS, sub]
  congr 1 <;> omega
theorem plus_back (a u : V3) {g k : Nat} (h : k ≤ g) : plus (plus a u g) (negV u) k = plus a u ((g - k : Nat) : Int) := by
  have e : ((g - k : Nat) : Int) = g - k := by omega
  rw [e]
  unfold plus negV
  simp only [Int.mul_neg, Int.sub_mul]
  congr 1 <;> omega
theorem arc_rev : ∀ r, r < 49 → (arcQ r (r + 1)).reverse = (arcQ r (r + 1)).map Prod.swap := by decide +kernel
theorem plus_swap (c a b : V3) (i j : Int) : plus (plus c a i) b j = plus (plus c b j) a i := by
  unfold plus
  simp only
  congr 1 <;> omega
theorem path_rev {m : Mv} (h : checkS m = 0) : pathS (revM m) = (pathS m).reverse := by
  have hr := (check_rev m).trans h
  by_cases hk : m.kind = 3
  · have f := arc_facts h hk
    have h2 := f.r2
    rw [path_a hr hk, path_a h hk]
    have a1 : sA (revM m) = sB m := rfl
    have a2 : sB (revM m) = sA m := rfl
    have ac : cenS (revM m) = cenS m := by
      rw [cenS_eq, cenS_eq]
      simp only [sub, add]
      congr 1 <;> omega
    rw [a1, a2, ac, ← f.g]
    unfold arcV
    rw [← List.map_reverse, arc_rev _ (by omega), List.map_map]
    congr 1
    funext p
    exact plus_swap _ _ _ _ _
  · rw [path_n hr hk, path_n h hk, d_rev, gS_neg, prim_neg]
    apply List.ext_getElem?
    intro k
    by_cases hl : k < gS (dS m) + 1
    · rw [List.getElem?_reverse (by rw [linQ_len]; exact hl), linQ_len, linQ_at hl, linQ_at (by omega)]
      show some (plus m.to (negV (primV (dS m))) (k : Int)) = _
      rw [to_eq m, plus_back _ _ (show k ≤ gS (dS m) by omega)]
      rfl
    · rw [List.getElem?_eq_none (by rw [linQ_len]; omega), List.getElem?_eq_none (by rw [List.length_reverse, linQ_len]; omega)]
end Go.Proofs.YteommcdafifckaaDoor

/-! Plain law: a rotation of the cube and a shift move the steps of a move. -/
namespace Go.Proofs.YteommcdafifckaaDoor
open Go.RowKit
set_option linter.unusedVariables false
set_option maxRecDepth 100000

def unitL : List V3 := [⟨-1, 0, 0⟩, ⟨0, -1, 0⟩, ⟨0, 0, -1⟩, ⟨0, 0, 1⟩, ⟨0, 1, 0⟩, ⟨1, 0, 0⟩]
/-- The rotations of the cube, by their first two rows. -/
def turnL : List (V3 × V3) := unitL.flatMap fun a => (unitL.filter fun b => decide (dot a b = 0)).map fun b => (a, b)
def rotS (p : V3 × V3) (v : V3) : V3 := ⟨dot p.1 v, dot p.2 v, dot (cross p.1 p.2) v⟩
def turnV (p : V3 × V3) (s v : V3) : V3 := add (rotS p v) s

theorem turnL_eq : turnL = [(⟨-1, 0, 0⟩, ⟨0, -1, 0⟩), (⟨-1, 0, 0⟩, ⟨0, 0, -1⟩), (⟨-1, 0, 0⟩, ⟨0, 0, 1⟩), (⟨-1, 0, 0⟩, ⟨0, 1, 0⟩),
    (⟨0, -1, 0⟩, ⟨-1, 0, 0⟩), (⟨0, -1, 0⟩, ⟨0, 0, -1⟩), (⟨0, -1, 0⟩, ⟨0, 0, 1⟩), (⟨0, -1, 0⟩, ⟨1, 0, 0⟩),
    (⟨0, 0, -1⟩, ⟨-1, 0, 0⟩), (⟨0, 0, -1⟩, ⟨0, -1, 0⟩), (⟨0, 0, -1⟩, ⟨0, 1, 0⟩), (⟨0, 0, -1⟩, ⟨1, 0, 0⟩),
    (⟨0, 0, 1⟩, ⟨-1, 0, 0⟩), (⟨0, 0, 1⟩, ⟨0, -1, 0⟩), (⟨0, 0, 1⟩, ⟨0, 1, 0⟩), (⟨0, 0, 1⟩, ⟨1, 0, 0⟩),
    (⟨0, 1, 0⟩, ⟨-1, 0, 0⟩), (⟨0, 1, 0⟩, ⟨0, 0, -1⟩), (⟨0, 1, 0⟩, ⟨0, 0, 1⟩), (⟨0, 1, 0⟩, ⟨1, 0, 0⟩),
    (⟨1, 0, 0⟩, ⟨0, -1, 0⟩), (⟨1, 0, 0⟩, ⟨0, 0, -1⟩), (⟨1, 0, 0⟩, ⟨0, 0, 1⟩), (⟨1, 0, 0⟩, ⟨0, 1, 0⟩)] := by decide +kernel
theorem turn_all {Q : V3 × V3 → Prop} (h : ∀ a b, a ∈ axL → b ∈ axL → dot a b = 0 → Q (a, b)) : ∀ p ∈ turnL, Q p := by
  intro p hp
  rw [turnL_eq] at hp
  simp only [List.mem_cons, List.not_mem_nil, or_false] at hp
  rcases hp with rfl | rfl | rfl | rfl | rfl | rfl | rfl | rfl | rfl | rfl | rfl | rfl | rfl | rfl | rfl | rfl | rfl | rfl | rfl | rfl | rfl | rfl | rfl | rfl
  all_goals exact h _ _ (by simp [axL]) (by simp [axL]) (by decide)
theorem rot_sub (p : V3 × V3) (a b : V3) : rotS p (sub a b) = sub (rotS p a) (rotS p b) := by
  unfold rotS sub dot
  dsimp only
  congr 1 <;> grind
theorem rot_plus (p : V3 × V3) (a b : V3) (n : Int) : rotS p (plus a b n) = plus (rotS p a) (rotS p b) n := by
  unfold rotS plus dot
  dsimp only
  congr 1 <;> grind
theorem rot_dot {p : V3 × V3} (hp : p ∈ turnL) (a b : V3) : dot (rotS p a) (rotS p b) = dot a b := by
  revert p
  rw [turnL_eq]
  simp only [List.mem_cons, List.not_mem_nil, or_false]
  intro p hp
  rcases hp with rfl | rfl | rfl | rfl | rfl | rfl | rfl | rfl | rfl | rfl | rfl | rfl | rfl | rfl | rfl | rfl | rfl | rfl | rfl | rfl | rfl | rfl | rfl | rfl
  all_goals (simp only [rotS, dot, cross]; grind)
theorem gS_rot {p : V3 × V3} (hp : p ∈ turnL) (v : V3) : gS (rotS p v) = gS v := by
  revert p
  rw [turnL_eq]
  simp only [List.mem_cons, List.not_mem_nil, or_false]
  intro p hp
  rcases hp with rfl | rfl | rfl | rfl | rfl | rfl | rfl | rfl | rfl | rfl | rfl | rfl | rfl | rfl | rfl | rfl | rfl | rfl | rfl | rfl | rfl | rfl | rfl | rfl
  all_goals (rw [gS_eq, gS_eq]; simp [rotS, dot, cross]; try ac_rfl)
theorem prim_rot {p : V3 × V3} (hp : p ∈ turnL) (v : V3) : primV (rotS p v) = rotS p (primV v) := by
  have hg := gS_rot hp v
  unfold primV
  rw [hg]
  split
  · simp [rotS, dot]
  · revert p
    rw [turnL_eq]
    simp only [List.mem_cons, List.not_mem_nil, or_false]
    intro p hp _
    rcases hp with rfl | rfl | rfl | rfl | rfl | rfl | rfl | rfl | rfl | rfl | rfl | rfl | rfl | rfl | rfl | rfl | rfl | rfl | rfl | rfl | rfl | rfl | rfl | rfl
    all_goals simp [rotS, dot, cross, Int.neg_tdiv]
theorem turn_sub (p : V3 × V3) (s a b : V3) : sub (turnV p s a) (turnV p s b) = rotS p (sub a b) := by
  rw [rot_sub]
  unfold turnV sub add
  dsimp only
  congr 1 <;> omega
theorem turn_plus (p : V3 × V3) (s a b : V3) (n : Int) : plus (turnV p s a) (rotS p b) n = turnV p s (plus a b n) := by
  unfold turnV
  rw [rot_plus]
  unfold plus add
  dsimp only
  congr 1 <;> omega
theorem rot_bd {p : V3 × V3} (hp : p ∈ turnL) {n : Int} {v : V3} (h : Bd n v) : Bd n (rotS p v) := by
  have hx := h.x; have hy := h.y; have hz := h.z
  revert p
  rw [turnL_eq]
  simp only [List.mem_cons, List.not_mem_nil, or_false]
  intro p hp
  rcases hp with rfl | rfl | rfl | rfl | rfl | rfl | rfl | rfl | rfl | rfl | rfl | rfl | rfl | rfl | rfl | rfl | rfl | rfl | rfl | rfl | rfl | rfl | rfl | rfl
  all_goals exact ⟨by simp only [rotS, dot, cross]; omega, by simp only [rotS, dot, cross]; omega, by simp only [rotS, dot, cross]; omega⟩
theorem turn_bd {p : V3 × V3} (hp : p ∈ turnL) {n : Int} {s v : V3} (h : Bd n v) (hs : Bd 3 s) : Bd (n + 3) (turnV p s v) := by
  have h1 := rot_bd hp h
  have hx := h1.x; have hy := h1.y; have hz := h1.z
  have sx := hs.x; have sy := hs.y; have sz := hs.z
  unfold turnV add
  exact ⟨by dsimp only; omega, by dsimp only; omega, by dsimp only; omega⟩
/-- The move, turned and shifted. -/
def turnM (p : V3 × V3) (s : V3) (m : Mv) : Mv := ⟨m.kind, turnV p s m.fr, turnV p s m.to, if m.kind = 3 then turnV p s m.co else m.co, m.feed⟩
theorem turn_inj {p : V3 × V3} (hp : p ∈ turnL) {s a b : V3} : turnV p s a = turnV p s b ↔ a = b := by
  refine ⟨fun h => ?_, fun h => by rw [h]⟩
  have h1 : sub (turnV p s a) (turnV p s b) = ⟨0, 0, 0⟩ := by rw [h]; simp [sub]
  rw [turn_sub] at h1
  have h2 := rot_dot hp (sub a b) (sub a b)
  rw [h1] at h2
  have h3 : ∀ x : Int, 0 ≤ x * x := fun x => by rcases Int.le_total 0 x with h | h; exact Int.mul_nonneg h h; exact Int.mul_nonneg_of_nonpos_of_nonpos h h
  simp only [dot, sub, Int.mul_zero, Int.add_zero] at h2
  have hx := h3 (a.x - b.x); have hy := h3 (a.y - b.y); have hz := h3 (a.z - b.z)
  have e1 : (a.x - b.x) * (a.x - b.x) = 0 := by omega
  have e2 : (a.y - b.y) * (a.y - b.y) = 0 := by omega
  have e3 : (a.z - b.z) * (a.z - b.z) = 0 := by omega
  have f1 := Int.mul_eq_zero.1 e1
  have f2 := Int.mul_eq_zero.1 e2
  have f3 := Int.mul_eq_zero.1 e3
  obtain ⟨x, y, z⟩ := a
  obtain ⟨x', y', z'⟩ := b
  dsimp only at f1 f2 f3
  congr 1 <;> omega
theorem check_turn {p : V3 × V3} (hp : p ∈ turnL) {s : V3} {m : Mv} (hm : checkS m = 0) (hn : InM (turnM p s m)) : checkS (turnM p s m) = 0 := by
  rw [← hm]
  have hi := ck_in hm
  have e1 : ∀ lo hi, rangeB lo hi (turnM p s m) = rangeB lo hi m := fun lo hi' => by
    unfold rangeB
    rw [in_of hn.fr, in_of hn.to, in_of hn.co, in_of hi.fr, in_of hi.to, in_of hi.co]
    rfl
  have e2 : ¬ m.kind = 3 → fitsL (turnM p s m) = fitsL m := fun hk => by
    unfold fitsL turnM
    dsimp only
    rw [if_neg hk, decide_eq_decide.2 (turn_inj hp)]
  have e3 : m.kind = 3 → fitsA (turnM p s m) = fitsA m := fun hk => by
    have a1 : sA (turnM p s m) = rotS p (sA m) := by unfold sA turnM; dsimp only; rw [if_pos hk]; exact turn_sub _ _ _ _
    have a2 : sB (turnM p s m) = rotS p (sB m) := by unfold sB turnM; dsimp only; rw [if_pos hk]; exact turn_sub _ _ _ _
    unfold fitsA
    rw [a1, a2, prim_rot hp, prim_rot hp, rot_dot hp, rot_dot hp, rot_dot hp, gS_rot hp, gS_rot hp]
  have hk : (turnM p s m).kind = m.kind := rfl
  unfold checkS
  rw [e1, e1, hk]
  by_cases h3 : m.kind = 3
  · rw [e3 h3]
    simp only [if_neg (show ¬ m.kind = 1 by omega), if_neg (show ¬ m.kind = 2 by omega), if_pos h3]
  · rw [e2 h3, if_neg h3, if_neg h3]
theorem path_turn {p : V3 × V3} (hp : p ∈ turnL) {s : V3} {m : Mv} (hm : checkS m = 0) (hn : InM (turnM p s m)) : pathS (turnM p s m) = (pathS m).map (turnV p s) := by
  have hc := check_turn hp hm hn
  have hk' : (turnM p s m).kind = m.kind := rfl
  by_cases hk : m.kind = 3
  · rw [path_a hc (by rw [hk']; exact hk), path_a hm hk]
    have a1 : sA (turnM p s m) = rotS p (sA m) := by unfold sA turnM; dsimp only; rw [if_pos hk]; exact turn_sub _ _ _ _
    have a2 : sB (turnM p s m) = rotS p (sB m) := by unfold sB turnM; dsimp only; rw [if_pos hk]; exact turn_sub _ _ _ _
    have ac : cenS (turnM p s m) = turnV p s (cenS m) := by
      rw [cenS_eq, cenS_eq]
      unfold turnM turnV
      dsimp only
      rw [if_pos hk]
      unfold rotS sub add dot
      dsimp only
      congr 1 <;> grind
    rw [a1, a2, ac, prim_rot hp, prim_rot hp, gS_rot hp]
    unfold arcV
    rw [List.map_map]
    congr 1
    funext q
    show plus (plus (turnV p s (cenS m)) (rotS p (primV (sA m))) q.1) (rotS p (primV (sB m))) q.2 = turnV p s _
    rw [turn_plus, turn_plus]
  · rw [path_n hc (by rw [hk']; exact hk), path_n hm hk]
    have ad : dS (turnM p s m) = rotS p (dS m) := by unfold dS turnM; dsimp only; exact turn_sub _ _ _ _
    rw [ad, prim_rot hp, gS_rot hp]
    apply List.ext_getElem?
    intro k
    rw [List.getElem?_map]
    by_cases hl : k < gS (dS m) + 1
    · rw [linQ_at hl, linQ_at hl]
      exact congrArg some (turn_plus _ _ _ _ _)
    · rw [List.getElem?_eq_none (by rw [linQ_len]; omega), List.getElem?_eq_none (by rw [linQ_len]; omega)]; rfl
end Go.Proofs.YteommcdafifckaaDoor
