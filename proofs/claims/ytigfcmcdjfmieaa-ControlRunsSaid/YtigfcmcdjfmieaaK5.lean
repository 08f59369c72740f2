/-
  Parts of the proof: P1 C5 C6 Q0 C7 C3r C4r C6r C7r.
-/
import Derived.Test.YtigfcmcdjfmieaaK4
set_option linter.unusedVariables false
set_option linter.unusedSimpArgs false

/-! Plain law: made moves are valid; the move back. -/
namespace Go.Proofs.Ytigfcmcdjfmieaa
open Go.RowKit

theorem ax_cases {v : V3} (h : v ∈ axL) : v = ⟨1, 0, 0⟩ ∨ v = ⟨0, 1, 0⟩ ∨ v = ⟨0, 0, 1⟩ ∨ v = ⟨-1, 0, 0⟩ ∨ v = ⟨0, -1, 0⟩ ∨ v = ⟨0, 0, -1⟩ := by
  simpa [axL] using h
theorem perp_dec : ∀ a : Nat, a < 6 → ∀ x : Nat, x < 2 → ∀ y : Nat, y < 2 → dot (axS (a : Int)) (axS ((a : Int) + 1 + (x : Int) + 3 * (y : Int))) = 0 := by decide +kernel
theorem in_of {v : V3} (h : Bd 24 v) : inS v = true := by
  have := h.x; have := h.y; have := h.z
  simp only [inS, withinS, List.all_cons, List.all_nil, Bool.and_eq_true, decide_eq_true_eq, and_true]
  omega
theorem range_of {m : Mv} {lo hi : Int} (h : InM m) (h1 : lo ≤ m.feed) (h2 : m.feed ≤ hi) : ¬ rangeB lo hi m = true := by
  unfold rangeB
  rw [in_of h.fr, in_of h.to, in_of h.co, decide_eq_false (by omega), decide_eq_false (by omega)]
  decide
theorem arc_ok {F A B : V3} {r G : Int} (hF : Bd 8 F) (hA : A ∈ axL) (hB : B ∈ axL) (hAB : dot A B = 0) (hr : 1 ≤ r ∧ r ≤ 10) (hG : 1 ≤ G ∧ G ≤ 100) : checkS ⟨3, F, plus (plus F A r) B r, plus F A r, G⟩ = 0 := by
  have hx := hF.x; have hy := hF.y; have hz := hF.z
  have hin : InM ⟨3, F, plus (plus F A r) B r, plus F A r, G⟩ := by
    rcases ax_cases hA with rfl | rfl | rfl | rfl | rfl | rfl <;> rcases ax_cases hB with rfl | rfl | rfl | rfl | rfl | rfl <;> first
      | (exfalso; revert hAB; decide)
      | exact ⟨hF.mono (by decide), ⟨by simp only [plus]; omega, by simp only [plus]; omega, by simp only [plus]; omega⟩, ⟨by simp only [plus]; omega, by simp only [plus]; omega, by simp only [plus]; omega⟩⟩
  have hq : quarterS ⟨3, F, plus (plus F A r) B r, plus F A r, G⟩ = true := by
    have e1 : sub F (plus F A r) = ⟨-(r * A.x), -(r * A.y), -(r * A.z)⟩ := by simp only [sub, plus]; congr 1 <;> omega
    have e2 : sub (plus (plus F A r) B r) (plus F A r) = ⟨r * B.x, r * B.y, r * B.z⟩ := by simp only [sub, plus]; congr 1 <;> omega
    unfold quarterS
    dsimp only
    rw [e1, e2]
    have l1 : lenS ⟨-(r * A.x), -(r * A.y), -(r * A.z)⟩ = r := by
      rcases ax_cases hA with rfl | rfl | rfl | rfl | rfl | rfl <;> simp only [lenS] <;> rw [if_pos (by omega)] <;> omega
    have l2 : lenS ⟨r * B.x, r * B.y, r * B.z⟩ = r := by
      rcases ax_cases hB with rfl | rfl | rfl | rfl | rfl | rfl <;> simp only [lenS] <;> rw [if_pos (by omega)] <;> omega
    have l3 : dot ⟨-(r * A.x), -(r * A.y), -(r * A.z)⟩ ⟨r * B.x, r * B.y, r * B.z⟩ = 0 := by
      rcases ax_cases hA with rfl | rfl | rfl | rfl | rfl | rfl <;> rcases ax_cases hB with rfl | rfl | rfl | rfl | rfl | rfl <;> first
        | (exfalso; revert hAB; decide)
        | simp [dot]
    rw [l1, l2, l3, decide_eq_true hr.1]
    simp
  unfold checkS
  rw [if_neg (show ¬ ((3 : Int) = 1) by decide), if_neg (show ¬ ((3 : Int) = 2) by decide), if_pos rfl, if_neg (range_of hin hG.1 hG.2), if_pos (by rw [fits_quarter]; exact hq)]
theorem line_ok {F u : V3} {n k G : Int} (hF : Bd 8 F) (hu : Bd 3 u) (hne : u ≠ ⟨0, 0, 0⟩) (hn : 1 ≤ n ∧ n ≤ 3) (hk : (k = 1 ∧ G = 0) ∨ (k = 2 ∧ 1 ≤ G ∧ G ≤ 100)) : checkS ⟨k, F, plus F u n, ⟨0, 0, 0⟩, G⟩ = 0 := by
  have hx := hF.x; have hy := hF.y; have hz := hF.z
  have ux := hu.x; have uy := hu.y; have uz := hu.z
  have hin : InM ⟨k, F, plus F u n, ⟨0, 0, 0⟩, G⟩ := by
    obtain rfl | rfl | rfl : n = 1 ∨ n = 2 ∨ n = 3 := by omega
    all_goals exact ⟨hF.mono (by decide), ⟨by simp only [plus]; omega, by simp only [plus]; omega, by simp only [plus]; omega⟩, ⟨by simp, by simp, by simp⟩⟩
  have hf : fitsL ⟨k, F, plus F u n, ⟨0, 0, 0⟩, G⟩ = true := by
    have : F ≠ plus F u n := fun e => by
      apply hne
      have e1 := congrArg V3.x e
      have e2 := congrArg V3.y e
      have e3 := congrArg V3.z e
      simp only [plus] at e1 e2 e3
      obtain ⟨a, b, c⟩ := u
      dsimp only at e1 e2 e3
      obtain rfl | rfl | rfl : n = 1 ∨ n = 2 ∨ n = 3 := by omega
      all_goals (congr 1 <;> omega)
    simp [fitsL, this]
  unfold checkS
  rcases hk with ⟨rfl, rfl⟩ | ⟨rfl, h1, h2⟩
  · rw [if_pos rfl, if_neg (range_of hin (by simp) (by simp)), if_pos hf]
  · rw [if_neg (show ¬ ((2 : Int) = 1) by decide), if_pos rfl, if_neg (range_of hin h1 h2), if_pos hf]
theorem by_ok (l : List Int) : Bd 3 (mBy l) ∧ mBy l ≠ ⟨0, 0, 0⟩ := by
  unfold mBy
  split
  · refine ⟨(ax_bd _).mono (by decide), fun e => ?_⟩
    have := ax_mem (nextV l (q4v l) 6)
    rw [e] at this
    revert this; decide
  · rename_i h; exact ⟨vecV_bd l (q3 l) 3 (by omega), h⟩
theorem made_ok (l : List Int) : checkS (madeS l) = 0 := by
  have n2 := nextV_range l (q2 l) 100 (by omega)
  have n3 := nextV_range l (q3 l) 6 (by omega)
  have n4 := nextV_range l (q4 l) 2 (by omega)
  have n5 := nextV_range l (q5 l) 2 (by omega)
  have n6 := nextV_range l (q6 l) 5 (by omega)
  have n7 := nextV_range l (q5v l) 3 (by omega)
  have hbf := vecV_bd l (q1 l) 8 (by omega)
  have hG : 1 ≤ mG l ∧ mG l ≤ 100 := by
    show 1 ≤ 1 + nextV l (q2 l) 100 ∧ 1 + nextV l (q2 l) 100 ≤ 100
    omega
  unfold madeS
  split
  · have hr : mR l = 1 ∨ mR l = 2 ∨ mR l = 5 ∨ mR l = 10 := r_range (nextV l (q6 l) 5) n6.1 n6.2
    have hp := perp_dec (nextV l (q3 l) 6).toNat (by omega) (nextV l (q4 l) 2).toNat (by omega) (nextV l (q5 l) 2).toNat (by omega)
    rw [Int.toNat_of_nonneg n3.1, Int.toNat_of_nonneg n4.1, Int.toNat_of_nonneg n5.1] at hp
    exact arc_ok (r := mR l) (G := mG l) hbf (ax_mem _) (ax_mem _) hp (by omega) hG
  · obtain ⟨h1, h2⟩ := by_ok l
    split
    · exact line_ok hbf h1 h2 (by unfold mN; omega) (.inl ⟨rfl, rfl⟩)
    · exact line_ok hbf h1 h2 (by unfold mN; omega) (.inr ⟨rfl, hG⟩)
/-- What a valid move is. -/
theorem ck_kind {m : Mv} (h : checkS m = 0) : m.kind = 1 ∨ m.kind = 2 ∨ m.kind = 3 := Decidable.byContradiction fun hk => by
  have := ck_n (m := m) (by omega)
  omega
theorem ck_line {m : Mv} (h : checkS m = 0) (hk : ¬ m.kind = 3) : m.fr ≠ m.to ∧ m.co = ⟨0, 0, 0⟩ := by
  have hf : fitsL m = true := by
    cases e : fitsL m with
    | true => rfl
    | false =>
      unfold checkS at h
      rw [e, if_neg hk] at h
      by_cases h1 : m.kind = 1
      · rw [if_pos h1] at h
        split at h <;> simp at h
      · rw [if_neg h1] at h
        by_cases h2 : m.kind = 2
        · rw [if_pos h2] at h
          split at h <;> simp at h
        · rw [if_neg h2] at h; simp at h
  simpa [fitsL] using hf
theorem gS_zero {v : V3} (h : gS v = 0) : v = ⟨0, 0, 0⟩ := by
  obtain ⟨h1, h2, h3⟩ := prim_mul v
  rw [h] at h1 h2 h3
  obtain ⟨x, y, z⟩ := v
  dsimp only at h1 h2 h3
  congr 1 <;> omega
theorem d_pos {m : Mv} (h : checkS m = 0) (hk : ¬ m.kind = 3) : 1 ≤ gS (dS m) := by
  have hne := (ck_line h hk).1
  have : gS (dS m) ≠ 0 := fun e => hne (by
    have hz := gS_zero e
    unfold dS sub at hz
    have e1 := congrArg V3.x hz
    have e2 := congrArg V3.y hz
    have e3 := congrArg V3.z hz
    dsimp only at e1 e2 e3
    obtain ⟨k, ⟨a, b, c⟩, ⟨a', b', c'⟩, co, f⟩ := m
    dsimp only at e1 e2 e3 ⊢
    congr 1 <;> omega)
  omega
theorem arc_two : ∀ r, r < 49 → 1 ≤ r → 2 ≤ (arcQ r (r + 1)).length := by decide +kernel
structure ArcF (m : Mv) : Prop where
  a : dot (primV (sA m)) (primV (sA m)) = 1
  b : dot (primV (sB m)) (primV (sB m)) = 1
  g : gS (sA m) = gS (sB m)
  ab : dot (primV (sA m)) (primV (sB m)) = 0
  r1 : 1 ≤ gS (sA m)
  r2 : gS (sA m) ≤ 48
theorem arc_facts {m : Mv} (h : checkS m = 0) (hk : m.kind = 3) : ArcF m := by
  have hf := ck_fit h hk
  have hi := ck_in h
  simp only [fitsA, Bool.and_eq_true, decide_eq_true_eq] at hf
  obtain ⟨h1, h2, h3, h4⟩ := hf
  have h5 := gS_le (n := 48) hi.a48
  have h6 : gS (sA m) ≠ 0 := fun e => by
    unfold primV at h1
    rw [if_pos e] at h1
    simp [dot] at h1
  exact ⟨h1, h2, by omega, h4, by omega, h5⟩
theorem path_two {m : Mv} (h : checkS m = 0) : 2 ≤ (pathS m).length := by
  by_cases hk : m.kind = 3
  · have f := arc_facts h hk
    have := f.r2
    rw [path_a h hk, arcV, List.length_map]
    exact arc_two _ (by omega) f.r1
  · rw [path_n h hk, linQ_len]
    have := d_pos h hk
    omega
/-- The move back. -/
abbrev revM (m : Mv) : Mv := ⟨m.kind, m.to, m.fr, m.co, m.feed⟩
theorem check_rev (m : Mv) : checkS (revM m) = checkS m := by
  have e1 : ∀ lo hi, rangeB lo hi (revM m) = rangeB lo hi m := fun lo hi => by
    unfold rangeB
    dsimp only
    cases inS m.fr <;> cases inS m.to <;> rfl
  have e2 : fitsL (revM m) = fitsL m := by
    unfold fitsL
    dsimp only
    rw [decide_eq_decide.2 (show m.to = m.fr ↔ m.fr = m.to from ⟨Eq.symm, Eq.symm⟩)]
  have e3 : fitsA (revM m) = fitsA m := by
    have a1 : sA (revM m) = sB m := rfl
    have a2 : sB (revM m) = sA m := rfl
    unfold fitsA
    rw [a1, a2, dot_comm (primV (sB m)) (primV (sA m))]
    rw [decide_eq_decide.2 (show ((gS (sB m) : Int) = gS (sA m)) ↔ ((gS (sA m) : Int) = gS (sB m)) from ⟨Eq.symm, Eq.symm⟩)]
    cases decide (dot (primV (sA m)) (primV (sA m)) = 1) <;> cases decide (dot (primV (sB m)) (primV (sB m)) = 1) <;> rfl
  unfold checkS
  rw [e1, e1, e2, e3]
def negV (v : V3) : V3 := ⟨-v.x, -v.y, -v.z⟩
theorem gS_neg (v : V3) : gS (negV v) = gS v := by rw [gS_eq, gS_eq]; simp [negV]
theorem prim_neg (v : V3) : primV (negV v) = negV (primV v) := by
  unfold primV
  rw [gS_neg]
  split
  · rfl
  · simp [negV, Int.neg_tdiv]
theorem d_rev (m : Mv) : dS (revM m) = negV (dS m) := by
  unfold dS sub negV
  simp only [Int.neg_sub]
theorem to_eq (m : Mv) : m.to = plus m.fr (primV (dS m)) (gS (dS m)) := by
  obtain ⟨h1, h2, h3⟩ := prim_mul (dS m)
  unfold plus
  rw [← h1, ← h2, ← h3]
  obtain ⟨k, ⟨a, b, c⟩, ⟨a', b', c'⟩, co, f⟩ := m
  simp only [dS, sub]
  congr 1 <;> omega
theorem plus_back (a u : V3) {g k : Nat} (h : k ≤ g) : plus (plus a u g) (negV u) k = plus a u ((g - k : Nat) : Int) := by
  have e : ((g - k : Nat) : Int) = g - k := by omega
  rw [e]
  unfold plus negV
  simp only [Int.mul_neg, Int.sub_mul]
  congr 1 <;> omega
theorem arc_rev : ∀ r, r < 49 → (arcQ r (r + 1)).reverse = (arcQ r (r + 1)).map Prod.swap := by decide +kernel
theorem plus_swap (c a b : V3) (i j : Int) : plus (plus c a i) b j = plus (plus c b j) a i := by
  unfold plus
  simp only
  congr 1 <;> omega
theorem path_rev {m : Mv} (h : checkS m = 0) : pathS (revM m) = (pathS m).reverse := by
  have hr := (check_rev m).trans h
  by_cases hk : m.kind = 3
  · have f := arc_facts h hk
    have h2 := f.r2
    rw [path_a hr hk, path_a h hk]
    have a1 : sA (revM m) = sB m := rfl
    have a2 : sB (revM m) = sA m := rfl
    have ac : cenS (revM m) = cenS m := by
      rw [cenS_eq, cenS_eq]
      simp only [sub, add]
      congr 1 <;> omega
    rw [a1, a2, ac, ← f.g]
    unfold arcV
    rw [← List.map_reverse, arc_rev _ (by omega), List.map_map]
    congr 1
    funext p
    exact plus_swap _ _ _ _ _
  · rw [path_n hr hk, path_n h hk, d_rev, gS_neg, prim_neg]
    apply List.ext_getElem?
    intro k
    by_cases hl : k < gS (dS m) + 1
    · rw [List.getElem?_reverse (by rw [linQ_len]; exact hl), linQ_len, linQ_at hl, linQ_at (by omega)]
      show some (plus m.to (negV (primV (dS m))) (k : Int)) = _
      rw [to_eq m, plus_back _ _ (show k ≤ gS (dS m) by omega)]
      rfl
    · rw [List.getElem?_eq_none (by rw [linQ_len]; omega), List.getElem?_eq_none (by rw [List.length_reverse, linQ_len]; omega)]
end Go.Proofs.Ytigfcmcdjfmieaa

/-! Walks: C5. -/
namespace Go.Proofs.Ytigfcmcdjfmieaa
open Go.RowKit
set_option maxRecDepth 100000
set_option linter.unusedVariables false

/-- The error of a list of moves. -/
def pcL : Option V3 → List Mv → Int
  | _, [] => 0
  | p, m :: l => if checkS m = 0 then (match p with
    | some t => if m.fr = t then pcL (some m.to) l else 7
    | none => pcL (some m.to) l) else checkS m
def pchk (ms : List Mv) : Int := if ms.length > 40 then 2 else pcL none ms
def pv (ms : List Mv) (k : Nat) : Option V3 := if k = 0 then none else (ms[k - 1]?).map Mv.to
theorem pcL_cons (p : Option V3) (m : Mv) (l : List Mv) : pcL p (m :: l) = if checkS m = 0 then (match p with
    | some t => if m.fr = t then pcL (some m.to) l else 7
    | none => pcL (some m.to) l) else checkS m := by cases p <;> rfl
theorem pc_bad {ms : List Mv} {k : Nat} {m : Mv} (h : ms[k]? = some m) (hc : ¬ checkS m = 0) : pcL (pv ms k) (ms.drop k) = checkS m := by
  rw [List.drop_eq_getElem_cons (List.getElem?_eq_some_iff.1 h).1, (List.getElem?_eq_some_iff.1 h).2, pcL_cons, if_neg hc]
theorem pc_first {ms : List Mv} {k : Nat} {m : Mv} (h : ms[k]? = some m) (hc : checkS m = 0) (hk : k = 0) : pcL (pv ms k) (ms.drop k) = pcL (pv ms (k + 1)) (ms.drop (k + 1)) := by
  rw [List.drop_eq_getElem_cons (List.getElem?_eq_some_iff.1 h).1, (List.getElem?_eq_some_iff.1 h).2, pcL_cons, if_pos hc]
  subst hk
  simp [pv, h]
theorem pc_next {ms : List Mv} {k : Nat} {m q : Mv} (h : ms[k]? = some m) (hc : checkS m = 0) (hk : k ≠ 0) (hq : ms[k - 1]? = some q) : pcL (pv ms k) (ms.drop k) = if m.fr = q.to then pcL (pv ms (k + 1)) (ms.drop (k + 1)) else 7 := by
  rw [List.drop_eq_getElem_cons (List.getElem?_eq_some_iff.1 h).1, (List.getElem?_eq_some_iff.1 h).2, pcL_cons, if_pos hc]
  have e1 : pv ms k = some q.to := by simp [pv, hk, hq]
  have e2 : pv ms (k + 1) = some m.to := by simp [pv, h]
  rw [e1, e2]
abbrev mvs (ms : List Mv) : AV := .rs 11 (ms.map cM)
/-- The number of steps. -/
def sumS (ms : List Mv) : Int := (ms.map stepsS).sum
def pstep (ms : List Mv) : Int := if pchk ms = 0 then sumS ms else 0
theorem steps_range (m : Mv) : 0 ≤ stepsS m ∧ stepsS m ≤ 48 := by
  unfold stepsS
  have := path_len m
  omega
theorem sumS_range (ms : List Mv) : 0 ≤ sumS ms ∧ sumS ms ≤ 48 * ms.length := by
  unfold sumS
  induction ms with
  | nil => simp
  | cons m l ih =>
    have := steps_range m
    simp only [List.map_cons, List.sum_cons, List.length_cons]
    omega
theorem sumS_succ {ms : List Mv} {k : Nat} {m : Mv} (h : ms[k]? = some m) : sumS (ms.take (k + 1)) = sumS (ms.take k) + stepsS m := by
  unfold sumS
  rw [take_succ_at h]
  simp
theorem pchk_len {ms : List Mv} (h : pchk ms = 0) : ms.length ≤ 40 := by
  unfold pchk at h
  split at h <;> omega

def mcc36 : MC := (.seq (.reg [⟨(some 2), (.mv (.c (.int .i64 0))), none, []⟩] false) (.seq (.seq (.reg [⟨(some 6), (.mv (.t 0)), none, []⟩, ⟨(some 7), (.len (.t 6)), none, [0]⟩, ⟨(some 8), (.bin .gtr (.t 7) (.c (.int .i64 40))), none, [1]⟩] false) (.cond (.t 8) (.seq (.reg [⟨(some 2), (.mv (.c (.int .i64 2))), none, []⟩] false) .ret) .skip)) (.seq (.seq (.reg [⟨(some 9), (.mv (.t 0)), none, []⟩, ⟨(some 10), (.len (.t 9)), none, [0]⟩, ⟨(some 11), (.mv (.c (.int .i64 0))), none, []⟩] false) (.block 0 (.loop (.seq (.reg [⟨(some 12), (.bin .lss (.t 11) (.t 10)), none, []⟩] false) (.seq (.cond (.t 12) .skip (.exit 0)) (.seq (.block 1 (.seq (.reg [⟨(some 13), (.mv (.t 11)), none, []⟩, ⟨(some 14), (.ixsl 11 (.t 9) (.t 11)), none, []⟩, ⟨(some 15), (.ld true 11 (.t 14)), none, [1]⟩, ⟨(some 4), (.alloc 82 11 [(.int .i64 0), (.int .i64 0), (.int .i64 0), (.int .i64 0), (.int .i64 0), (.int .i64 0), (.int .i64 0), (.int .i64 0), (.int .i64 0), (.int .i64 0), (.int .i64 0)]), none, []⟩, ⟨(some 3), (.mv (.t 13)), none, [0, 0, 1, 2, 3]⟩, ⟨none, (.st 11 (.t 4) (.t 15)), none, [3, 2, 4, 0, 1, 2, 3, 4]⟩] false) (.seq (.seq (.reg [⟨(some 16), (.ld true 11 (.t 4)), none, []⟩, ⟨(some 17), (.call 54 [(.t 16)]), none, [0]⟩, ⟨(some 5), (.mv (.t 17)), none, [1, 1, 0, 1]⟩] false) (.seq (.reg [⟨(some 18), (.mv (.t 5)), none, []⟩, ⟨(some 19), (.bin .neq (.t 18) (.c (.int .i64 0))), none, [0]⟩] false) (.cond (.t 19) (.seq (.reg [⟨(some 20), (.mv (.t 5)), none, []⟩, ⟨(some 2), (.mv (.t 20)), none, [0, 0]⟩] false) .ret) .skip))) (.seq (.reg [⟨(some 21), (.mv (.t 3)), none, []⟩, ⟨(some 22), (.bin .gtr (.t 21) (.c (.int .i64 0))), none, [0]⟩, ⟨(some 23), (.mv (.t 22)), none, [1]⟩, ⟨(some 24), (.fa 1 (.t 4)), (some (23, true)), [2]⟩, ⟨(some 25), (.ld true 3 (.t 24)), (some (23, true)), [3, 2]⟩, ⟨(some 26), (.mv (.t 0)), (some (23, true)), [2]⟩, ⟨(some 27), (.mv (.t 3)), (some (23, true)), [2]⟩, ⟨(some 28), (.bin .sub (.t 27) (.c (.int .i64 1))), (some (23, true)), [6, 2]⟩, ⟨(some 29), (.ixsl 11 (.t 26) (.t 28)), (some (23, true)), [5, 7, 2]⟩, ⟨(some 30), (.fa 4 (.t 29)), (some (23, true)), [8, 2]⟩, ⟨(some 31), (.ld true 3 (.t 30)), (some (23, true)), [9, 2]⟩, ⟨(some 32), (.aeq true 3 (.t 25) (.t 31)), (some (23, true)), [4, 10, 2]⟩, ⟨(some 33), (.pick (.t 23) (.t 32) (.c (.bool false))), none, [2, 11]⟩] true) (.cond (.t 33) (.seq (.reg [⟨(some 2), (.mv (.c (.int .i64 7))), none, []⟩] false) .ret) .skip))))) (.reg [⟨(some 34), (.bin .add (.t 11) (.c (.int .i64 1))), none, []⟩, ⟨(some 11), (.mv (.t 34)), none, [0]⟩] false))))))) (.seq (.reg [⟨(some 2), (.mv (.c (.int .i64 0))), none, []⟩] false) .ret))))
theorem mcOkc36 : (match Try.f36.body with | some c => compC Try.prog 35 c | none => none) = some mcc36 := by kernel_rfl

theorem gc36 (ms : List Mv) (hl : ms.length ≤ 4611686018427387904) : FC Try.prog 36 [mvs ms] [] (iv (pchk ms)) [] false := by
  refine fc_run (nt := 35) Try.func36 rfl rfl mcOkc36 (Nat.le_of_ble_eq_true rfl) ?_
  delta mcc36
  refine aw_seq ?_
  refine aw_reg ?_
  refine rs_mv rfl rfl ?_
  refine rs_nil fun _ => ?_
  refine th_n ?_
  refine aw_seq ?_
  refine aw_seq ?_
  refine aw_reg ?_
  refine rs_mv rfl rfl ?_
  refine rs_len_m rfl rfl ?_
  refine rs_gtr rfl rfl rfl ?_
  refine rs_nil fun _ => ?_
  refine th_n ?_
  refine aw_cond rfl (fun h8 => ?_) (fun h8 => ?_)
  · replace h8 := of_decide_eq_true h8
    refine aw_seq ?_
    refine aw_reg ?_
    refine rs_mv rfl rfl ?_
    refine rs_nil fun _ => ?_
    refine th_n ?_
    refine aw_ret ?_
    refine th_r ?_
    (have hx : pchk ms = 2 := by unfold pchk; rw [if_pos (by omega)]
     exact ret_pure rfl (congrArg iv hx.symm) rfl (.inr rfl))
  · replace h8 := of_decide_eq_false h8
    refine aw_skip ?_
    refine th_n ?_
    refine aw_seq ?_
    refine aw_seq ?_
    refine aw_reg ?_
    refine rs_mv rfl rfl ?_
    refine rs_len_m rfl rfl ?_
    refine rs_mv rfl rfl ?_
    refine rs_nil fun _ => ?_
    refine th_n ?_
    refine aw_block ?_
    refine aw_fam (α := Nat) (fun k => ms.length - k) (fun k => [(0, mvs ms), (9, mvs ms), (10, iv (ms.length : Int)), (11, iv (((k) : Nat) : Int))]) (fun k => []) (fun k => (k) ≤ ms.length ∧ pcL (pv ms (k)) (ms.drop (k)) = pcL none ms) 0 (⟨by omega, rfl⟩)
      (weak_to (.cons rfl (rc_same rfl (.inl rfl)) (.cons rfl (rc_same rfl (.inl rfl)) (.cons rfl (rc_same rfl (.inl rfl)) (.cons rfl (rc_same rfl (.inl rfl)) (.nil))))) (.nil) (fun i h => by cases h)) ?_
    rintro k ⟨hk, hp⟩
    refine aw_seq ?_
    refine aw_reg ?_
    refine rs_lss rfl rfl rfl ?_
    refine rs_nil fun _ => ?_
    refine th_n ?_
    refine aw_seq ?_
    refine aw_cond rfl (fun h12 => ?_) (fun h12 => ?_)
    · replace h12 := of_decide_eq_true h12
      refine aw_skip ?_
      refine th_n ?_
      refine aw_seq ?_
      refine aw_block ?_
      refine aw_seq ?_
      refine aw_reg ?_
      refine rs_mv rfl rfl ?_
      obtain ⟨m, hm, _⟩ := at_some (L := ms) (k := k) (by omega)
      refine rs_ix_g rfl rfl rfl (by omega) hm ?_
      refine rs_ld_ra rfl rfl (Nat.le_of_ble_eq_true rfl) rfl ?_
      refine rs_alloc rfl rfl rfl ?_
      refine rs_mv rfl rfl ?_
      refine rs_st rfl rfl rfl rfl rfl rfl rfl (Nat.le_of_ble_eq_true rfl) rfl rfl ?_
      refine rs_nil fun _ => ?_
      refine th_n ?_
      refine aw_seq ?_
      refine aw_seq ?_
      refine aw_reg ?_
      refine rs_ld_pa rfl rfl rfl rfl (Nat.le_of_ble_eq_true rfl) rfl ?_
      refine rs_calln [] rfl rfl (fc12 m) (.cons (hv_same rfl) (.nil)) rfl ?_
      refine rs_mv rfl rfl ?_
      refine rs_nil fun _ => ?_
      refine th_n ?_
      refine aw_seq ?_
      refine aw_reg ?_
      refine rs_mv rfl rfl ?_
      refine rs_neq rfl rfl rfl ?_
      refine rs_nil fun _ => ?_
      refine th_n ?_
      refine aw_cond rfl (fun h19 => ?_) (fun h19 => ?_)
      · replace h19 := of_decide_eq_true h19
        replace h19 : ¬ checkS m = 0 := h19
        refine aw_seq ?_
        refine aw_reg ?_
        refine rs_mv rfl rfl ?_
        refine rs_mv rfl rfl ?_
        refine rs_nil fun _ => ?_
        refine th_n ?_
        refine aw_ret ?_
        refine th_r ?_
        refine in_r ?_
        refine th_r ?_
        refine th_r ?_
        refine in_r ?_
        refine th_r ?_
        (have hx : pchk ms = checkS m := by unfold pchk; rw [if_neg (by omega), ← hp, pc_bad hm h19]
         exact ret_pure rfl (congrArg iv hx.symm) rfl (.inr rfl))
      · replace h19 := of_decide_eq_false h19
        replace h19 : checkS m = 0 := by simpa using h19
        refine aw_skip ?_
        refine th_n ?_
        refine aw_seq ?_
        refine aw_draw hmix ?_
        refine rs_mv rfl rfl ?_
        refine rs_cmp rfl rfl rfl rfl (fun h22 => ?_) (fun h22 => ?_)
        · skip
          obtain ⟨q, hq, _⟩ := at_some (L := ms) (k := k - 1) (by omega)
          refine rs_mv rfl rfl ?_
          refine rs_fa_p rfl rfl ?_
          refine rs_ld_pa rfl rfl rfl rfl (Nat.le_of_ble_eq_true rfl) rfl ?_
          refine rs_mv rfl rfl ?_
          refine rs_mv rfl rfl ?_
          refine rs_sub rfl rfl rfl (by omega) ?_
          refine rs_ix_g (f := cM) (y := q) rfl rfl rfl (by omega) (by rw [show ((k : Int) - 1).toNat = k - 1 by omega]; exact hq) ?_
          refine rs_fa_r rfl rfl rfl ?_
          refine rs_ld_ra rfl rfl (Nat.le_of_ble_eq_true rfl) rfl ?_
          refine rs_aeqv (u := m.fr) (v := q.to) rfl rfl rfl ?_
          cases h32 : (true != decide (m.fr = q.to))
          · skip
            refine rs_pick rfl rfl rfl ?_
            refine rs_nil ⟨by kernel_rfl, fun _ => ?_⟩
            refine th_n ?_
            refine aw_cond rfl (fun h => by cases h) (fun _ => ?_)
            refine aw_skip ?_
            refine in_n ?_
            refine th_n ?_
            refine aw_reg ?_
            refine rs_add rfl rfl rfl (by omega) ?_
            refine rs_mv rfl rfl ?_
            refine rs_nil fun _ => ?_
            refine th_n ?_
            exact ⟨k + 1, ⟨by omega, by rw [← hp, pc_next hm h19 (by omega) hq, if_pos (by simpa using h32)]⟩, by omega, weak_to (.cons rfl (rc_same rfl (.inl rfl)) (.cons rfl (rc_same rfl (.inl rfl)) (.cons rfl (rc_same rfl (.inl rfl)) (.cons rfl (rc_same rfl (.inl rfl)) (.nil))))) (.nil) (fun i h => by cases h)⟩
          · skip
            refine rs_pick rfl rfl rfl ?_
            refine rs_nil ⟨by kernel_rfl, fun _ => ?_⟩
            refine th_n ?_
            refine aw_cond rfl (fun _ => ?_) (fun h => by cases h)
            refine aw_seq ?_
            refine aw_reg ?_
            refine rs_mv rfl rfl ?_
            refine rs_nil fun _ => ?_
            refine th_n ?_
            refine aw_ret ?_
            refine in_r ?_
            refine th_r ?_
            refine th_r ?_
            refine in_r ?_
            refine th_r ?_
            (have hx : pchk ms = 7 := by unfold pchk; rw [if_neg (by omega), ← hp, pc_next hm h19 (by omega) hq, if_neg (by simpa using h32)]
             exact ret_pure rfl (congrArg iv hx.symm) rfl (.inr rfl))
        · skip
          refine rs_mv rfl rfl ?_
          refine rs_skip rfl ?_
          refine rs_skip rfl ?_
          refine rs_skip rfl ?_
          refine rs_skip rfl ?_
          refine rs_skip rfl ?_
          refine rs_skip rfl ?_
          refine rs_skip rfl ?_
          refine rs_skip rfl ?_
          refine rs_skip rfl ?_
          refine rs_pick rfl rfl rfl ?_
          refine rs_nil ⟨by kernel_rfl, fun _ => ?_⟩
          refine th_n ?_
          refine aw_cond rfl (fun h => by cases h) (fun _ => ?_)
          refine aw_skip ?_
          refine in_n ?_
          refine th_n ?_
          refine aw_reg ?_
          refine rs_add rfl rfl rfl (by omega) ?_
          refine rs_mv rfl rfl ?_
          refine rs_nil fun _ => ?_
          refine th_n ?_
          exact ⟨k + 1, ⟨by omega, by rw [← hp, pc_first hm h19 (by omega)]⟩, by omega, weak_to (.cons rfl (rc_same rfl (.inl rfl)) (.cons rfl (rc_same rfl (.inl rfl)) (.cons rfl (rc_same rfl (.inl rfl)) (.cons rfl (rc_same rfl (.inl rfl)) (.nil))))) (.nil) (fun i h => by cases h)⟩
    · replace h12 := of_decide_eq_false h12
      refine aw_exit ?_
      refine th_e ?_
      refine th_e ?_
      refine in_hit ?_
      refine th_n ?_
      refine aw_seq ?_
      refine aw_reg ?_
      refine rs_mv rfl rfl ?_
      refine rs_nil fun _ => ?_
      refine th_n ?_
      refine aw_ret ?_
      (have hx : pchk ms = 0 := by
         have hl : ms.length ≤ k := by omega
         unfold pchk; rw [if_neg (by omega), ← hp, List.drop_eq_nil_of_le hl]; rfl
       exact ret_pure rfl (congrArg iv hx.symm) rfl (.inr rfl))

def mcc37 : MC := (.seq (.reg [⟨(some 2), (.mv (.c (.int .i64 0))), none, []⟩] false) (.seq (.seq (.reg [⟨(some 5), (.mv (.t 0)), none, []⟩, ⟨(some 6), (.len (.t 5)), none, [0]⟩, ⟨(some 7), (.bin .gtr (.t 6) (.c (.int .i64 40))), none, [1]⟩] false) (.cond (.t 7) (.seq (.reg [⟨(some 2), (.mv (.c (.int .i64 2))), none, []⟩] false) .ret) .skip)) (.seq (.seq (.reg [⟨(some 3), (.mv (.c (.int .i64 0))), none, []⟩] false) (.block 0 (.loop (.seq (.seq (.reg [⟨(some 8), (.mv (.t 3)), none, []⟩, ⟨(some 9), (.mv (.t 0)), none, []⟩, ⟨(some 10), (.len (.t 9)), none, [1]⟩, ⟨(some 11), (.bin .lss (.t 8) (.t 10)), none, [0, 2]⟩] false) (.cond (.t 11) .skip (.exit 0))) (.seq (.block 1 (.seq (.reg [⟨(some 14), (.mv (.t 0)), none, []⟩, ⟨(some 15), (.mv (.t 3)), none, []⟩, ⟨(some 16), (.ixsl 11 (.t 14) (.t 15)), none, [0, 1]⟩, ⟨(some 17), (.ld true 11 (.t 16)), none, [2]⟩, ⟨(some 18), (.call 55 [(.t 17)]), none, [3]⟩, ⟨(some 4), (.mv (.t 18)), none, [4, 4, 0, 1, 2, 3, 4]⟩] false) (.seq (.seq (.reg [⟨(some 19), (.mv (.t 4)), none, []⟩, ⟨(some 20), (.bin .neq (.t 19) (.c (.int .i64 0))), none, [0]⟩] false) (.cond (.t 20) (.seq (.reg [⟨(some 21), (.mv (.t 4)), none, []⟩, ⟨(some 2), (.mv (.t 21)), none, [0, 0]⟩] false) .ret) .skip)) (.seq (.reg [⟨(some 22), (.mv (.t 3)), none, []⟩, ⟨(some 23), (.bin .gtr (.t 22) (.c (.int .i64 0))), none, [0]⟩, ⟨(some 24), (.mv (.t 23)), none, [1]⟩, ⟨(some 25), (.mv (.t 0)), (some (24, true)), [2]⟩, ⟨(some 26), (.mv (.t 3)), (some (24, true)), [2]⟩, ⟨(some 27), (.ixsl 11 (.t 25) (.t 26)), (some (24, true)), [3, 4, 2]⟩, ⟨(some 28), (.fa 1 (.t 27)), (some (24, true)), [5, 2]⟩, ⟨(some 29), (.ld true 3 (.t 28)), (some (24, true)), [6, 2]⟩, ⟨(some 30), (.mv (.t 0)), (some (24, true)), [2]⟩, ⟨(some 31), (.mv (.t 3)), (some (24, true)), [2]⟩, ⟨(some 32), (.bin .sub (.t 31) (.c (.int .i64 1))), (some (24, true)), [9, 2]⟩, ⟨(some 33), (.ixsl 11 (.t 30) (.t 32)), (some (24, true)), [8, 10, 2]⟩, ⟨(some 34), (.fa 4 (.t 33)), (some (24, true)), [11, 2]⟩, ⟨(some 35), (.ld true 3 (.t 34)), (some (24, true)), [12, 2]⟩, ⟨(some 36), (.aeq true 3 (.t 29) (.t 35)), (some (24, true)), [7, 13, 2]⟩, ⟨(some 37), (.pick (.t 24) (.t 36) (.c (.bool false))), none, [2, 14]⟩] true) (.cond (.t 37) (.seq (.reg [⟨(some 2), (.mv (.c (.int .i64 7))), none, []⟩] false) .ret) .skip))))) (.reg [⟨(some 12), (.mv (.t 3)), none, []⟩, ⟨(some 13), (.bin .add (.t 12) (.c (.int .i64 1))), none, [0]⟩, ⟨(some 3), (.mv (.t 13)), none, [1, 0, 1]⟩] false)))))) (.seq (.reg [⟨(some 2), (.mv (.c (.int .i64 0))), none, []⟩] false) .ret))))
theorem mcOkc37 : (match Try.f37.body with | some c => compC Try.prog 38 c | none => none) = some mcc37 := by kernel_rfl

theorem gc37 (ms : List Mv) (hl : ms.length ≤ 4611686018427387904) : FC Try.prog 37 [mvs ms] [] (iv (pchk ms)) [] false := by
  refine fc_run (nt := 38) Try.func37 rfl rfl mcOkc37 (Nat.le_of_ble_eq_true rfl) ?_
  delta mcc37
  refine aw_seq ?_
  refine aw_reg ?_
  refine rs_mv rfl rfl ?_
  refine rs_nil fun _ => ?_
  refine th_n ?_
  refine aw_seq ?_
  refine aw_seq ?_
  refine aw_reg ?_
  refine rs_mv rfl rfl ?_
  refine rs_len_m rfl rfl ?_
  refine rs_gtr rfl rfl rfl ?_
  refine rs_nil fun _ => ?_
  refine th_n ?_
  refine aw_cond rfl (fun h7 => ?_) (fun h7 => ?_)
  · replace h7 := of_decide_eq_true h7
    refine aw_seq ?_
    refine aw_reg ?_
    refine rs_mv rfl rfl ?_
    refine rs_nil fun _ => ?_
    refine th_n ?_
    refine aw_ret ?_
    refine th_r ?_
    (have hx : pchk ms = 2 := by unfold pchk; rw [if_pos (by omega)]
     exact ret_pure rfl (congrArg iv hx.symm) rfl (.inr rfl))
  · replace h7 := of_decide_eq_false h7
    refine aw_skip ?_
    refine th_n ?_
    refine aw_seq ?_
    refine aw_seq ?_
    refine aw_reg ?_
    refine rs_mv rfl rfl ?_
    refine rs_nil fun _ => ?_
    refine th_n ?_
    refine aw_block ?_
    refine aw_fam (α := Nat) (fun k => ms.length - k) (fun k => [(0, mvs ms), (3, iv (((k) : Nat) : Int))]) (fun k => []) (fun k => (k) ≤ ms.length ∧ pcL (pv ms (k)) (ms.drop (k)) = pcL none ms) 0 (⟨by omega, rfl⟩)
      (weak_to (.cons rfl (rc_same rfl (.inl rfl)) (.cons rfl (rc_same rfl (.inl rfl)) (.nil))) (.nil) (fun i h => by cases h)) ?_
    rintro k ⟨hk, hp⟩
    refine aw_seq ?_
    refine aw_seq ?_
    refine aw_reg ?_
    refine rs_mv rfl rfl ?_
    refine rs_mv rfl rfl ?_
    refine rs_len_m rfl rfl ?_
    refine rs_lss rfl rfl rfl ?_
    refine rs_nil fun _ => ?_
    refine th_n ?_
    refine aw_cond rfl (fun h11 => ?_) (fun h11 => ?_)
    · replace h11 := of_decide_eq_true h11
      refine aw_skip ?_
      refine th_n ?_
      refine aw_seq ?_
      refine aw_block ?_
      refine aw_seq ?_
      refine aw_reg ?_
      refine rs_mv rfl rfl ?_
      refine rs_mv rfl rfl ?_
      obtain ⟨m, hm, _⟩ := at_some (L := ms) (k := k) (by omega)
      refine rs_ix_g rfl rfl rfl (by omega) hm ?_
      refine rs_ld_ra rfl rfl (Nat.le_of_ble_eq_true rfl) rfl ?_
      refine rs_calln [] rfl rfl (fc13c m) (.cons (hv_same rfl) (.nil)) rfl ?_
      refine rs_mv rfl rfl ?_
      refine rs_nil fun _ => ?_
      refine th_n ?_
      refine aw_seq ?_
      refine aw_seq ?_
      refine aw_reg ?_
      refine rs_mv rfl rfl ?_
      refine rs_neq rfl rfl rfl ?_
      refine rs_nil fun _ => ?_
      refine th_n ?_
      refine aw_cond rfl (fun h20 => ?_) (fun h20 => ?_)
      · replace h20 := of_decide_eq_true h20
        replace h20 : ¬ checkS m = 0 := h20
        refine aw_seq ?_
        refine aw_reg ?_
        refine rs_mv rfl rfl ?_
        refine rs_mv rfl rfl ?_
        refine rs_nil fun _ => ?_
        refine th_n ?_
        refine aw_ret ?_
        refine th_r ?_
        refine in_r ?_
        refine th_r ?_
        refine th_r ?_
        refine in_r ?_
        refine th_r ?_
        (have hx : pchk ms = checkS m := by unfold pchk; rw [if_neg (by omega), ← hp, pc_bad hm h20]
         exact ret_pure rfl (congrArg iv hx.symm) rfl (.inr rfl))
      · replace h20 := of_decide_eq_false h20
        replace h20 : checkS m = 0 := by simpa using h20
        refine aw_skip ?_
        refine th_n ?_
        refine aw_seq ?_
        refine aw_draw hmix ?_
        refine rs_mv rfl rfl ?_
        refine rs_cmp rfl rfl rfl rfl (fun h23 => ?_) (fun h23 => ?_)
        · skip
          obtain ⟨q, hq, _⟩ := at_some (L := ms) (k := k - 1) (by omega)
          refine rs_mv rfl rfl ?_
          refine rs_mv rfl rfl ?_
          refine rs_mv rfl rfl ?_
          refine rs_ix_g rfl rfl rfl (by omega) hm ?_
          refine rs_fa_r rfl rfl rfl ?_
          refine rs_ld_ra rfl rfl (Nat.le_of_ble_eq_true rfl) rfl ?_
          refine rs_mv rfl rfl ?_
          refine rs_mv rfl rfl ?_
          refine rs_sub rfl rfl rfl (by omega) ?_
          refine rs_ix_g (f := cM) (y := q) rfl rfl rfl (by omega) (by rw [show ((k : Int) - 1).toNat = k - 1 by omega]; exact hq) ?_
          refine rs_fa_r rfl rfl rfl ?_
          refine rs_ld_ra rfl rfl (Nat.le_of_ble_eq_true rfl) rfl ?_
          refine rs_aeqv (u := m.fr) (v := q.to) rfl rfl rfl ?_
          cases h36 : (true != decide (m.fr = q.to))
          · skip
            refine rs_pick rfl rfl rfl ?_
            refine rs_nil ⟨by kernel_rfl, fun _ => ?_⟩
            refine th_n ?_
            refine aw_cond rfl (fun h => by cases h) (fun _ => ?_)
            refine aw_skip ?_
            refine in_n ?_
            refine th_n ?_
            refine aw_reg ?_
            refine rs_mv rfl rfl ?_
            refine rs_add rfl rfl rfl (by omega) ?_
            refine rs_mv rfl rfl ?_
            refine rs_nil fun _ => ?_
            refine th_n ?_
            exact ⟨k + 1, ⟨by omega, by rw [← hp, pc_next hm h20 (by omega) hq, if_pos (by simpa using h36)]⟩, by omega, weak_to (.cons rfl (rc_same rfl (.inl rfl)) (.cons rfl (rc_same rfl (.inl rfl)) (.nil))) (.nil) (fun i h => by cases h)⟩
          · skip
            refine rs_pick rfl rfl rfl ?_
            refine rs_nil ⟨by kernel_rfl, fun _ => ?_⟩
            refine th_n ?_
            refine aw_cond rfl (fun _ => ?_) (fun h => by cases h)
            refine aw_seq ?_
            refine aw_reg ?_
            refine rs_mv rfl rfl ?_
            refine rs_nil fun _ => ?_
            refine th_n ?_
            refine aw_ret ?_
            refine in_r ?_
            refine th_r ?_
            refine th_r ?_
            refine in_r ?_
            refine th_r ?_
            (have hx : pchk ms = 7 := by unfold pchk; rw [if_neg (by omega), ← hp, pc_next hm h20 (by omega) hq, if_neg (by simpa using h36)]
             exact ret_pure rfl (congrArg iv hx.symm) rfl (.inr rfl))
        · skip
          refine rs_mv rfl rfl ?_
          refine rs_skip rfl ?_
          refine rs_skip rfl ?_
          refine rs_skip rfl ?_
          refine rs_skip rfl ?_
          refine rs_skip rfl ?_
          refine rs_skip rfl ?_
          refine rs_skip rfl ?_
          refine rs_skip rfl ?_
          refine rs_skip rfl ?_
          refine rs_skip rfl ?_
          refine rs_skip rfl ?_
          refine rs_skip rfl ?_
          refine rs_pick rfl rfl rfl ?_
          refine rs_nil ⟨by kernel_rfl, fun _ => ?_⟩
          refine th_n ?_
          refine aw_cond rfl (fun h => by cases h) (fun _ => ?_)
          refine aw_skip ?_
          refine in_n ?_
          refine th_n ?_
          refine aw_reg ?_
          refine rs_mv rfl rfl ?_
          refine rs_add rfl rfl rfl (by omega) ?_
          refine rs_mv rfl rfl ?_
          refine rs_nil fun _ => ?_
          refine th_n ?_
          exact ⟨k + 1, ⟨by omega, by rw [← hp, pc_first hm h20 (by omega)]⟩, by omega, weak_to (.cons rfl (rc_same rfl (.inl rfl)) (.cons rfl (rc_same rfl (.inl rfl)) (.nil))) (.nil) (fun i h => by cases h)⟩
    · replace h11 := of_decide_eq_false h11
      refine aw_exit ?_
      refine th_e ?_
      refine th_e ?_
      refine in_hit ?_
      refine th_n ?_
      refine aw_seq ?_
      refine aw_reg ?_
      refine rs_mv rfl rfl ?_
      refine rs_nil fun _ => ?_
      refine th_n ?_
      refine aw_ret ?_
      (have hx : pchk ms = 0 := by
         have hl : ms.length ≤ k := by omega
         unfold pchk; rw [if_neg (by omega), ← hp, List.drop_eq_nil_of_le hl]; rfl
       exact ret_pure rfl (congrArg iv hx.symm) rfl (.inr rfl))

def mcc28 : MC := (.seq (.reg [⟨(some 2), (.mv (.c (.int .i64 0))), none, []⟩] false) (.seq (.seq (.reg [⟨(some 6), (.mv (.t 0)), none, []⟩, ⟨(some 7), (.call 36 [(.t 6)]), none, [0]⟩, ⟨(some 8), (.bin .neq (.t 7) (.c (.int .i64 0))), none, [1]⟩] false) (.cond (.t 8) (.seq (.reg [⟨(some 2), (.mv (.c (.int .i64 0))), none, []⟩] false) .ret) .skip)) (.seq (.reg [⟨(some 3), (.mv (.c (.int .i64 0))), none, []⟩] false) (.seq (.seq (.reg [⟨(some 9), (.mv (.t 0)), none, []⟩, ⟨(some 10), (.len (.t 9)), none, [0]⟩, ⟨(some 11), (.mv (.c (.int .i64 0))), none, []⟩] false) (.block 0 (.loop (.seq (.reg [⟨(some 12), (.bin .lss (.t 11) (.t 10)), none, []⟩] false) (.seq (.cond (.t 12) .skip (.exit 0)) (.seq (.block 1 (.seq (.reg [⟨(some 13), (.ixsl 11 (.t 9) (.t 11)), none, []⟩, ⟨(some 14), (.ld true 11 (.t 13)), none, [0]⟩, ⟨(some 5), (.alloc 82 11 [(.int .i64 0), (.int .i64 0), (.int .i64 0), (.int .i64 0), (.int .i64 0), (.int .i64 0), (.int .i64 0), (.int .i64 0), (.int .i64 0), (.int .i64 0), (.int .i64 0)]), none, []⟩, ⟨none, (.st 11 (.t 5) (.t 14)), none, [2, 1, 0, 1, 2]⟩] false) (.reg [⟨(some 15), (.mv (.t 3)), none, []⟩, ⟨(some 16), (.ld true 11 (.t 5)), none, []⟩, ⟨(some 17), (.call 52 [(.t 16)]), none, [1]⟩, ⟨(some 18), (.bin .add (.t 15) (.t 17)), none, [0, 2]⟩, ⟨(some 3), (.mv (.t 18)), none, [3, 2, 0, 1, 2, 3]⟩] false))) (.reg [⟨(some 19), (.bin .add (.t 11) (.c (.int .i64 1))), none, []⟩, ⟨(some 11), (.mv (.t 19)), none, [0]⟩] false))))))) (.seq (.reg [⟨(some 20), (.mv (.t 3)), none, []⟩, ⟨(some 2), (.mv (.t 20)), none, [0, 0]⟩] false) .ret)))))
theorem mcOkc28 : (match Try.f28.body with | some c => compC Try.prog 21 c | none => none) = some mcc28 := by kernel_rfl

theorem gc28 (ms : List Mv) (hl : ms.length ≤ 4611686018427387904) : FC Try.prog 28 [mvs ms] [] (iv (pstep ms)) [] false := by
  refine fc_run (nt := 21) Try.func28 rfl rfl mcOkc28 (Nat.le_of_ble_eq_true rfl) ?_
  delta mcc28
  refine aw_seq ?_
  refine aw_reg ?_
  refine rs_mv rfl rfl ?_
  refine rs_nil fun _ => ?_
  refine th_n ?_
  refine aw_seq ?_
  refine aw_seq ?_
  refine aw_reg ?_
  refine rs_mv rfl rfl ?_
  refine rs_calln [] rfl rfl (gc36 ms hl) (.cons (hv_same rfl) (.nil)) rfl ?_
  refine rs_neq rfl rfl rfl ?_
  refine rs_nil fun _ => ?_
  refine th_n ?_
  refine aw_cond rfl (fun h8 => ?_) (fun h8 => ?_)
  · replace h8 := of_decide_eq_true h8
    replace h8 : ¬ pchk ms = 0 := h8
    refine aw_seq ?_
    refine aw_reg ?_
    refine rs_mv rfl rfl ?_
    refine rs_nil fun _ => ?_
    refine th_n ?_
    refine aw_ret ?_
    refine th_r ?_
    (have hx : pstep ms = 0 := by unfold pstep; rw [if_neg h8]
     exact ret_pure rfl (congrArg iv hx.symm) rfl (.inr rfl))
  · replace h8 := of_decide_eq_false h8
    replace h8 : pchk ms = 0 := by simpa using h8
    refine aw_skip ?_
    refine th_n ?_
    refine aw_seq ?_
    refine aw_reg ?_
    refine rs_mv rfl rfl ?_
    refine rs_nil fun _ => ?_
    refine th_n ?_
    refine aw_seq ?_
    refine aw_seq ?_
    refine aw_reg ?_
    refine rs_mv rfl rfl ?_
    refine rs_len_m rfl rfl ?_
    refine rs_mv rfl rfl ?_
    refine rs_nil fun _ => ?_
    refine th_n ?_
    refine aw_block ?_
    refine aw_fam (α := Nat) (fun k => ms.length - k) (fun k => [(3, iv (sumS (ms.take (k)))), (9, mvs ms), (10, iv (ms.length : Int)), (11, iv (((k) : Nat) : Int))]) (fun k => []) (fun k => k ≤ ms.length) 0 (by omega)
      (weak_to (.cons rfl (rc_same rfl (.inl rfl)) (.cons rfl (rc_same rfl (.inl rfl)) (.cons rfl (rc_same rfl (.inl rfl)) (.cons rfl (rc_same rfl (.inl rfl)) (.nil))))) (.nil) (fun i h => by cases h)) ?_
    intro k hk
    refine aw_seq ?_
    refine aw_reg ?_
    refine rs_lss rfl rfl rfl ?_
    refine rs_nil fun _ => ?_
    refine th_n ?_
    refine aw_seq ?_
    refine aw_cond rfl (fun h12 => ?_) (fun h12 => ?_)
    · replace h12 := of_decide_eq_true h12
      refine aw_skip ?_
      refine th_n ?_
      refine aw_seq ?_
      refine aw_block ?_
      refine aw_seq ?_
      refine aw_reg ?_
      obtain ⟨m, hm, _⟩ := at_some (L := ms) (k := k) (by omega)
      have hb1 := sumS_range (ms.take k)
      have hb2 := steps_range m
      have hb3 := pchk_len h8
      have hb4 : (ms.take k).length ≤ 40 := by simp; omega
      refine rs_ix_g rfl rfl rfl (by omega) hm ?_
      refine rs_ld_ra rfl rfl (Nat.le_of_ble_eq_true rfl) rfl ?_
      refine rs_alloc rfl rfl rfl ?_
      refine rs_st rfl rfl rfl rfl rfl rfl rfl (Nat.le_of_ble_eq_true rfl) rfl rfl ?_
      refine rs_nil fun _ => ?_
      refine th_n ?_
      refine aw_reg ?_
      refine rs_mv rfl rfl ?_
      refine rs_ld_pa rfl rfl rfl rfl (Nat.le_of_ble_eq_true rfl) rfl ?_
      refine rs_calln [] rfl rfl (fc14 m) (.cons (hv_same rfl) (.nil)) rfl ?_
      refine rs_add rfl rfl rfl (by omega) ?_
      refine rs_mv rfl rfl ?_
      refine rs_nil fun _ => ?_
      refine in_n ?_
      refine th_n ?_
      refine aw_reg ?_
      refine rs_add rfl rfl rfl (by omega) ?_
      refine rs_mv rfl rfl ?_
      refine rs_nil fun _ => ?_
      refine th_n ?_
      exact ⟨k + 1, by omega, by omega, weak_to (.cons rfl (rc_int (sumS_succ hm).symm) (.cons rfl (rc_same rfl (.inl rfl)) (.cons rfl (rc_same rfl (.inl rfl)) (.cons rfl (rc_same rfl (.inl rfl)) (.nil))))) (.nil) (fun i h => by cases h)⟩
    · replace h12 := of_decide_eq_false h12
      refine aw_exit ?_
      refine th_e ?_
      refine th_e ?_
      refine in_hit ?_
      refine th_n ?_
      refine aw_seq ?_
      refine aw_reg ?_
      refine rs_mv rfl rfl ?_
      refine rs_mv rfl rfl ?_
      refine rs_nil fun _ => ?_
      refine th_n ?_
      refine aw_ret ?_
      (have hx : pstep ms = sumS (ms.take k) := by
         have hl : ms.length ≤ k := by omega
         unfold pstep; rw [if_pos h8, List.take_of_length_le hl]
       exact ret_pure rfl (congrArg iv hx.symm) rfl (.inr rfl))

def mcc38 : MC := (.seq (.reg [⟨(some 2), (.mv (.c (.int .i64 0))), none, []⟩] false) (.seq (.seq (.reg [⟨(some 5), (.mv (.t 0)), none, []⟩, ⟨(some 6), (.call 37 [(.t 5)]), none, [0]⟩, ⟨(some 7), (.bin .neq (.t 6) (.c (.int .i64 0))), none, [1]⟩] false) (.cond (.t 7) (.seq (.reg [⟨(some 2), (.mv (.c (.int .i64 0))), none, []⟩] false) .ret) .skip)) (.seq (.reg [⟨(some 3), (.mv (.c (.int .i64 0))), none, []⟩] false) (.seq (.seq (.reg [⟨(some 4), (.mv (.c (.int .i64 0))), none, []⟩] false) (.block 0 (.loop (.seq (.seq (.reg [⟨(some 8), (.mv (.t 4)), none, []⟩, ⟨(some 9), (.mv (.t 0)), none, []⟩, ⟨(some 10), (.len (.t 9)), none, [1]⟩, ⟨(some 11), (.bin .lss (.t 8) (.t 10)), none, [0, 2]⟩] false) (.cond (.t 11) .skip (.exit 0))) (.seq (.block 1 (.reg [⟨(some 14), (.mv (.t 3)), none, []⟩, ⟨(some 15), (.mv (.t 0)), none, []⟩, ⟨(some 16), (.mv (.t 4)), none, []⟩, ⟨(some 17), (.ixsl 11 (.t 15) (.t 16)), none, [1, 2]⟩, ⟨(some 18), (.ld true 11 (.t 17)), none, [3]⟩, ⟨(some 19), (.call 56 [(.t 18)]), none, [4]⟩, ⟨(some 20), (.bin .add (.t 14) (.t 19)), none, [0, 5]⟩, ⟨(some 3), (.mv (.t 20)), none, [6, 5, 0, 1, 2, 3, 4, 5, 6]⟩] false)) (.reg [⟨(some 12), (.mv (.t 4)), none, []⟩, ⟨(some 13), (.bin .add (.t 12) (.c (.int .i64 1))), none, [0]⟩, ⟨(some 4), (.mv (.t 13)), none, [1, 0, 1]⟩] false)))))) (.seq (.reg [⟨(some 21), (.mv (.t 3)), none, []⟩, ⟨(some 2), (.mv (.t 21)), none, [0, 0]⟩] false) .ret)))))
theorem mcOkc38 : (match Try.f38.body with | some c => compC Try.prog 22 c | none => none) = some mcc38 := by kernel_rfl

theorem gc38 (ms : List Mv) (hl : ms.length ≤ 4611686018427387904) : FC Try.prog 38 [mvs ms] [] (iv (pstep ms)) [] false := by
  refine fc_run (nt := 22) Try.func38 rfl rfl mcOkc38 (Nat.le_of_ble_eq_true rfl) ?_
  delta mcc38
  refine aw_seq ?_
  refine aw_reg ?_
  refine rs_mv rfl rfl ?_
  refine rs_nil fun _ => ?_
  refine th_n ?_
  refine aw_seq ?_
  refine aw_seq ?_
  refine aw_reg ?_
  refine rs_mv rfl rfl ?_
  refine rs_calln [] rfl rfl (gc37 ms hl) (.cons (hv_same rfl) (.nil)) rfl ?_
  refine rs_neq rfl rfl rfl ?_
  refine rs_nil fun _ => ?_
  refine th_n ?_
  refine aw_cond rfl (fun h7 => ?_) (fun h7 => ?_)
  · replace h7 := of_decide_eq_true h7
    replace h7 : ¬ pchk ms = 0 := h7
    refine aw_seq ?_
    refine aw_reg ?_
    refine rs_mv rfl rfl ?_
    refine rs_nil fun _ => ?_
    refine th_n ?_
    refine aw_ret ?_
    refine th_r ?_
    (have hx : pstep ms = 0 := by unfold pstep; rw [if_neg h7]
     exact ret_pure rfl (congrArg iv hx.symm) rfl (.inr rfl))
  · replace h7 := of_decide_eq_false h7
    replace h7 : pchk ms = 0 := by simpa using h7
    refine aw_skip ?_
    refine th_n ?_
    refine aw_seq ?_
    refine aw_reg ?_
    refine rs_mv rfl rfl ?_
    refine rs_nil fun _ => ?_
    refine th_n ?_
    refine aw_seq ?_
    refine aw_seq ?_
    refine aw_reg ?_
    refine rs_mv rfl rfl ?_
    refine rs_nil fun _ => ?_
    refine th_n ?_
    refine aw_block ?_
    refine aw_fam (α := Nat) (fun k => ms.length - k) (fun k => [(0, mvs ms), (3, iv (sumS (ms.take (k)))), (4, iv (((k) : Nat) : Int))]) (fun k => []) (fun k => k ≤ ms.length) 0 (by omega)
      (weak_to (.cons rfl (rc_same rfl (.inl rfl)) (.cons rfl (rc_same rfl (.inl rfl)) (.cons rfl (rc_same rfl (.inl rfl)) (.nil)))) (.nil) (fun i h => by cases h)) ?_
    intro k hk
    refine aw_seq ?_
    refine aw_seq ?_
    refine aw_reg ?_
    refine rs_mv rfl rfl ?_
    refine rs_mv rfl rfl ?_
    refine rs_len_m rfl rfl ?_
    refine rs_lss rfl rfl rfl ?_
    refine rs_nil fun _ => ?_
    refine th_n ?_
    refine aw_cond rfl (fun h11 => ?_) (fun h11 => ?_)
    · replace h11 := of_decide_eq_true h11
      refine aw_skip ?_
      refine th_n ?_
      refine aw_seq ?_
      refine aw_block ?_
      refine aw_reg ?_
      refine rs_mv rfl rfl ?_
      refine rs_mv rfl rfl ?_
      refine rs_mv rfl rfl ?_
      obtain ⟨m, hm, _⟩ := at_some (L := ms) (k := k) (by omega)
      have hb1 := sumS_range (ms.take k)
      have hb2 := steps_range m
      have hb3 := pchk_len h7
      have hb4 : (ms.take k).length ≤ 40 := by simp; omega
      refine rs_ix_g rfl rfl rfl (by omega) hm ?_
      refine rs_ld_ra rfl rfl (Nat.le_of_ble_eq_true rfl) rfl ?_
      refine rs_calln [] rfl rfl (fc15 m) (.cons (hv_same rfl) (.nil)) rfl ?_
      refine rs_add rfl rfl rfl (by omega) ?_
      refine rs_mv rfl rfl ?_
      refine rs_nil fun _ => ?_
      refine in_n ?_
      refine th_n ?_
      refine aw_reg ?_
      refine rs_mv rfl rfl ?_
      refine rs_add rfl rfl rfl (by omega) ?_
      refine rs_mv rfl rfl ?_
      refine rs_nil fun _ => ?_
      refine th_n ?_
      exact ⟨k + 1, by omega, by omega, weak_to (.cons rfl (rc_same rfl (.inl rfl)) (.cons rfl (rc_int (sumS_succ hm).symm) (.cons rfl (rc_same rfl (.inl rfl)) (.nil)))) (.nil) (fun i h => by cases h)⟩
    · replace h11 := of_decide_eq_false h11
      refine aw_exit ?_
      refine th_e ?_
      refine th_e ?_
      refine in_hit ?_
      refine th_n ?_
      refine aw_seq ?_
      refine aw_reg ?_
      refine rs_mv rfl rfl ?_
      refine rs_mv rfl rfl ?_
      refine rs_nil fun _ => ?_
      refine th_n ?_
      refine aw_ret ?_
      (have hx : pstep ms = sumS (ms.take k) := by
         have hl : ms.length ≤ k := by omega
         unfold pstep; rw [if_pos h7, List.take_of_length_le hl]
       exact ret_pure rfl (congrArg iv hx.symm) rfl (.inr rfl))

end Go.Proofs.Ytigfcmcdjfmieaa

/-! Walks: C6. -/
namespace Go.Proofs.Ytigfcmcdjfmieaa
open Go.RowKit
set_option maxRecDepth 100000
set_option linter.unusedVariables false

abbrev st0 (a n : Int) : St := ⟨[], 0, false, a, n, 1, 0, 0, 0, false, 0, false, false, false, false⟩
structure newB (ms : List Mv) (n : Int) : Prop where
  l : ¬ (ms.length : Int) = 0
  c : pchk ms = 0
  n1 : 1 ≤ n
  n2 : n ≤ 100
abbrev lineT : Mv := ⟨2, ⟨0, 0, 0⟩, ⟨10, 0, 0⟩, ⟨0, 0, 0⟩, 1⟩
/-- Ticks, one after another: the error of the last one, and what comes of all. -/
def tkS (s : St) : Nat → Int × St
  | 0 => (0, s)
  | k + 1 => doS (tkS s k).2 1 0

def mcc12 : MC := (.seq (.reg [⟨(some 4), (.mv (.c .nilp)), none, []⟩] false) (.seq (.seq (.reg [⟨(some 5), (.mv (.t 0)), none, []⟩, ⟨(some 6), (.len (.t 5)), none, [0]⟩, ⟨(some 7), (.bin .eql (.t 6) (.c (.int .i64 0))), none, [1]⟩, ⟨(some 8), (.mv (.t 7)), none, [2]⟩, ⟨(some 9), (.mv (.t 0)), (some (8, false)), [3]⟩, ⟨(some 10), (.call 36 [(.t 9)]), (some (8, false)), [4, 3, 3]⟩, ⟨(some 11), (.bin .neq (.t 10) (.c (.int .i64 0))), (some (8, false)), [5, 3]⟩, ⟨(some 12), (.pick (.t 8) (.c (.bool true)) (.t 11)), none, [3, 6]⟩, ⟨(some 13), (.mv (.t 12)), none, [7, 5]⟩, ⟨(some 14), (.mv (.t 1)), (some (13, false)), [8]⟩, ⟨(some 15), (.bin .lss (.t 14) (.c (.int .i64 1))), (some (13, false)), [9, 8]⟩, ⟨(some 16), (.pick (.t 13) (.c (.bool true)) (.t 15)), none, [8, 10]⟩, ⟨(some 17), (.mv (.t 16)), none, [11, 8]⟩, ⟨(some 18), (.mv (.t 1)), (some (17, false)), [12]⟩, ⟨(some 19), (.bin .gtr (.t 18) (.c (.int .i64 100))), (some (17, false)), [13, 12]⟩, ⟨(some 20), (.pick (.t 17) (.c (.bool true)) (.t 19)), none, [12, 14]⟩] false) (.cond (.t 20) (.seq (.reg [⟨(some 4), (.mv (.c .nilp)), none, []⟩] false) .ret) .skip)) (.seq (.reg [⟨(some 21), (.mv (.t 0)), none, []⟩, ⟨(some 22), (.call 28 [(.t 21)]), none, [0]⟩, ⟨(some 23), (.mv (.t 1)), none, []⟩, ⟨(some 24), (.build [.nils, (.int .i64 0), (.bool false), (.int .i64 0), (.int .i64 0), (.int .i64 0), (.int .i64 0), (.int .i64 0), (.int .i64 0), (.bool false), (.int .i64 0), (.bool false), (.bool false), (.bool false), (.bool false)] [(3, (1, (.t 22))), (4, (1, (.t 23))), (5, (1, (.c (.int .i64 1))))]), none, [1, 2]⟩, ⟨(some 25), (.box 64 15 (.t 24)), none, [3]⟩, ⟨(some 4), (.mv (.t 25)), none, [4, 1, 0, 1, 2, 3, 4]⟩] false) .ret)))
theorem mcOkc12 : (match Try.f12.body with | some c => compC Try.prog 26 c | none => none) = some mcc12 := by kernel_rfl

theorem gc12 (ms : List Mv) (n : Int) (hl : ms.length ≤ 4611686018427387904) (h : newB ms n) : FC Try.prog 12 [mvs ms, iv n] [] (.ptr 900 0 0) (hC 900 901 (st0 (pstep ms) n)) false := by
  refine fc_run (nt := 26) Try.func12 rfl rfl mcOkc12 (Nat.le_of_ble_eq_true rfl) ?_
  delta mcc12
  refine aw_seq ?_
  refine aw_reg ?_
  refine rs_mv rfl rfl ?_
  refine rs_nil fun _ => ?_
  refine th_n ?_
  refine aw_seq ?_
  refine aw_seq ?_
  refine aw_reg ?_
  refine rs_mv rfl rfl ?_
  refine rs_len_m rfl rfl ?_
  refine rs_cmp rfl rfl rfl rfl (fun h7 => ?_) (fun h7 => ?_)
  · skip
    refine rs_mv rfl rfl ?_
    refine rs_skip rfl ?_
    refine rs_skip rfl ?_
    refine rs_skip rfl ?_
    refine rs_pick rfl rfl rfl ?_
    refine rs_mv rfl rfl ?_
    refine rs_skip rfl ?_
    refine rs_skip rfl ?_
    refine rs_pick rfl rfl rfl ?_
    refine rs_mv rfl rfl ?_
    refine rs_skip rfl ?_
    refine rs_skip rfl ?_
    refine rs_pick rfl rfl rfl ?_
    refine rs_nil fun _ => ?_
    refine th_n ?_
    refine aw_cond rfl (fun _ => ?_) (fun h => by cases h)
    refine aw_seq ?_
    refine aw_reg ?_
    refine rs_mv rfl rfl ?_
    refine rs_nil fun _ => ?_
    refine th_n ?_
    refine aw_ret ?_
    refine th_r ?_
    (exfalso; have hb := h.l; have hc := h.c; have h1 := h.n1; have h2 := h.n2; omega)
  · skip
    refine rs_mv rfl rfl ?_
    refine rs_mv rfl rfl ?_
    refine rs_calln [] rfl rfl (gc36 ms hl) (.cons (hv_same rfl) (.nil)) rfl ?_
    refine rs_cmp rfl rfl rfl rfl (fun h11 => ?_) (fun h11 => ?_)
    · skip
      refine rs_pick rfl rfl rfl ?_
      refine rs_mv rfl rfl ?_
      refine rs_skip rfl ?_
      refine rs_skip rfl ?_
      refine rs_pick rfl rfl rfl ?_
      refine rs_mv rfl rfl ?_
      refine rs_skip rfl ?_
      refine rs_skip rfl ?_
      refine rs_pick rfl rfl rfl ?_
      refine rs_nil fun _ => ?_
      refine th_n ?_
      refine aw_cond rfl (fun _ => ?_) (fun h => by cases h)
      refine aw_seq ?_
      refine aw_reg ?_
      refine rs_mv rfl rfl ?_
      refine rs_nil fun _ => ?_
      refine th_n ?_
      refine aw_ret ?_
      refine th_r ?_
      (exfalso; have hb := h.l; have hc := h.c; have h1 := h.n1; have h2 := h.n2; omega)
    · skip
      refine rs_pick rfl rfl rfl ?_
      refine rs_mv rfl rfl ?_
      refine rs_mv rfl rfl ?_
      refine rs_cmp rfl rfl rfl rfl (fun h15 => ?_) (fun h15 => ?_)
      · skip
        refine rs_pick rfl rfl rfl ?_
        refine rs_mv rfl rfl ?_
        refine rs_skip rfl ?_
        refine rs_skip rfl ?_
        refine rs_pick rfl rfl rfl ?_
        refine rs_nil fun _ => ?_
        refine th_n ?_
        refine aw_cond rfl (fun _ => ?_) (fun h => by cases h)
        refine aw_seq ?_
        refine aw_reg ?_
        refine rs_mv rfl rfl ?_
        refine rs_nil fun _ => ?_
        refine th_n ?_
        refine aw_ret ?_
        refine th_r ?_
        (exfalso; have hb := h.l; have hc := h.c; have h1 := h.n1; have h2 := h.n2; omega)
      · skip
        refine rs_pick rfl rfl rfl ?_
        refine rs_mv rfl rfl ?_
        refine rs_mv rfl rfl ?_
        refine rs_cmp rfl rfl rfl rfl (fun h19 => ?_) (fun h19 => ?_)
        · skip
          refine rs_pick rfl rfl rfl ?_
          refine rs_nil fun _ => ?_
          refine th_n ?_
          refine aw_cond rfl (fun _ => ?_) (fun h => by cases h)
          refine aw_seq ?_
          refine aw_reg ?_
          refine rs_mv rfl rfl ?_
          refine rs_nil fun _ => ?_
          refine th_n ?_
          refine aw_ret ?_
          refine th_r ?_
          (exfalso; have hb := h.l; have hc := h.c; have h1 := h.n1; have h2 := h.n2; omega)
        · skip
          refine rs_pick rfl rfl rfl ?_
          refine rs_nil fun _ => ?_
          refine th_n ?_
          refine aw_cond rfl (fun h => by cases h) (fun _ => ?_)
          refine aw_skip ?_
          refine th_n ?_
          refine aw_seq ?_
          refine aw_reg ?_
          refine rs_mv rfl rfl ?_
          refine rs_calln [] rfl rfl (gc28 ms hl) (.cons (hv_same rfl) (.nil)) rfl ?_
          refine rs_mv rfl rfl ?_
          refine rs_build rfl rfl ?_
          refine rs_box rfl rfl rfl rfl rfl rfl ?_
          refine rs_mv rfl rfl ?_
          refine rs_nil fun _ => ?_
          refine th_n ?_
          refine aw_weak (Weak.trans (F1 := [(4, .ptr 900 0 0)]) (weak_ren (i := 25) (i' := 900) rfl rfl (.cons rfl (.ptr _ _) .nil)) (weak_seed_any (i := 901) (k := 900) (e2 := 3) (z2 := 1) (fl2 := true) rfl rfl (.here))) ?_
          refine aw_ret ?_
          exact ret_new rfl (rc_same rfl (.inr rfl)) (.keep rfl rfl rfl (.keep rfl rfl rfl .nil))

theorem gc12n (ms : List Mv) (n : Int) (hl : ms.length ≤ 4611686018427387904) (h : ¬ newB ms n) : FC Try.prog 12 [mvs ms, iv n] [] .nilp [] false := by
  refine fc_run (nt := 26) Try.func12 rfl rfl mcOkc12 (Nat.le_of_ble_eq_true rfl) ?_
  delta mcc12
  refine aw_seq ?_
  refine aw_reg ?_
  refine rs_mv rfl rfl ?_
  refine rs_nil fun _ => ?_
  refine th_n ?_
  refine aw_seq ?_
  refine aw_seq ?_
  refine aw_reg ?_
  refine rs_mv rfl rfl ?_
  refine rs_len_m rfl rfl ?_
  refine rs_cmp rfl rfl rfl rfl (fun h7 => ?_) (fun h7 => ?_)
  · skip
    refine rs_mv rfl rfl ?_
    refine rs_skip rfl ?_
    refine rs_skip rfl ?_
    refine rs_skip rfl ?_
    refine rs_pick rfl rfl rfl ?_
    refine rs_mv rfl rfl ?_
    refine rs_skip rfl ?_
    refine rs_skip rfl ?_
    refine rs_pick rfl rfl rfl ?_
    refine rs_mv rfl rfl ?_
    refine rs_skip rfl ?_
    refine rs_skip rfl ?_
    refine rs_pick rfl rfl rfl ?_
    refine rs_nil fun _ => ?_
    refine th_n ?_
    refine aw_cond rfl (fun _ => ?_) (fun h => by cases h)
    refine aw_seq ?_
    refine aw_reg ?_
    refine rs_mv rfl rfl ?_
    refine rs_nil fun _ => ?_
    refine th_n ?_
    refine aw_ret ?_
    refine th_r ?_
    exact ret_pure rfl rfl rfl (.inr rfl)
  · skip
    refine rs_mv rfl rfl ?_
    refine rs_mv rfl rfl ?_
    refine rs_calln [] rfl rfl (gc36 ms hl) (.cons (hv_same rfl) (.nil)) rfl ?_
    refine rs_cmp rfl rfl rfl rfl (fun h11 => ?_) (fun h11 => ?_)
    · skip
      refine rs_pick rfl rfl rfl ?_
      refine rs_mv rfl rfl ?_
      refine rs_skip rfl ?_
      refine rs_skip rfl ?_
      refine rs_pick rfl rfl rfl ?_
      refine rs_mv rfl rfl ?_
      refine rs_skip rfl ?_
      refine rs_skip rfl ?_
      refine rs_pick rfl rfl rfl ?_
      refine rs_nil fun _ => ?_
      refine th_n ?_
      refine aw_cond rfl (fun _ => ?_) (fun h => by cases h)
      refine aw_seq ?_
      refine aw_reg ?_
      refine rs_mv rfl rfl ?_
      refine rs_nil fun _ => ?_
      refine th_n ?_
      refine aw_ret ?_
      refine th_r ?_
      exact ret_pure rfl rfl rfl (.inr rfl)
    · skip
      refine rs_pick rfl rfl rfl ?_
      refine rs_mv rfl rfl ?_
      refine rs_mv rfl rfl ?_
      refine rs_cmp rfl rfl rfl rfl (fun h15 => ?_) (fun h15 => ?_)
      · skip
        refine rs_pick rfl rfl rfl ?_
        refine rs_mv rfl rfl ?_
        refine rs_skip rfl ?_
        refine rs_skip rfl ?_
        refine rs_pick rfl rfl rfl ?_
        refine rs_nil fun _ => ?_
        refine th_n ?_
        refine aw_cond rfl (fun _ => ?_) (fun h => by cases h)
        refine aw_seq ?_
        refine aw_reg ?_
        refine rs_mv rfl rfl ?_
        refine rs_nil fun _ => ?_
        refine th_n ?_
        refine aw_ret ?_
        refine th_r ?_
        exact ret_pure rfl rfl rfl (.inr rfl)
      · skip
        refine rs_pick rfl rfl rfl ?_
        refine rs_mv rfl rfl ?_
        refine rs_mv rfl rfl ?_
        refine rs_cmp rfl rfl rfl rfl (fun h19 => ?_) (fun h19 => ?_)
        · skip
          refine rs_pick rfl rfl rfl ?_
          refine rs_nil fun _ => ?_
          refine th_n ?_
          refine aw_cond rfl (fun _ => ?_) (fun h => by cases h)
          refine aw_seq ?_
          refine aw_reg ?_
          refine rs_mv rfl rfl ?_
          refine rs_nil fun _ => ?_
          refine th_n ?_
          refine aw_ret ?_
          refine th_r ?_
          exact ret_pure rfl rfl rfl (.inr rfl)
        · skip
          refine rs_pick rfl rfl rfl ?_
          refine rs_nil fun _ => ?_
          refine th_n ?_
          refine aw_cond rfl (fun h => by cases h) (fun _ => ?_)
          refine aw_skip ?_
          refine th_n ?_
          refine aw_seq ?_
          refine aw_reg ?_
          refine rs_mv rfl rfl ?_
          refine rs_calln [] rfl rfl (gc28 ms hl) (.cons (hv_same rfl) (.nil)) rfl ?_
          refine rs_mv rfl rfl ?_
          refine rs_build rfl rfl ?_
          refine rs_box rfl rfl rfl rfl rfl rfl ?_
          refine rs_mv rfl rfl ?_
          refine rs_nil fun _ => ?_
          refine th_n ?_
          refine aw_ret ?_
          (exfalso; exact h ⟨by omega, by omega, by omega, by omega⟩)

def mcc34 : MC := (.seq (.reg [⟨(some 0), (.mv (.c .nils)), none, []⟩] false) (.seq (.reg [⟨(some 1), (.build [(.int .i64 0), (.int .i64 0), (.int .i64 0)] [(0, (1, (.c (.int .i64 10))))]), none, []⟩, ⟨(some 2), (.build [(.int .i64 0), (.int .i64 0), (.int .i64 0), (.int .i64 0), (.int .i64 0), (.int .i64 0), (.int .i64 0), (.int .i64 0), (.int .i64 0), (.int .i64 0), (.int .i64 0)] [(0, (1, (.c (.int .i64 2)))), (4, (3, (.t 1))), (10, (1, (.c (.int .i64 1))))]), none, [0]⟩, ⟨(some 3), (.bslice 82 11 [(.int .i64 0), (.int .i64 0), (.int .i64 0), (.int .i64 0), (.int .i64 0), (.int .i64 0), (.int .i64 0), (.int .i64 0), (.int .i64 0), (.int .i64 0), (.int .i64 0)] 1 [(0, (.t 2))]), none, [1]⟩, ⟨(some 0), (.mv (.t 3)), none, [2, 0, 1, 2]⟩] false) .ret))
theorem mcOkc34 : (match Try.f34.body with | some c => compC Try.prog 4 c | none => none) = some mcc34 := by kernel_rfl

theorem gc34  : FC Try.prog 34 [] [] (mvs [lineT]) [] false := by
  refine fc_run (nt := 4) Try.func34 rfl rfl mcOkc34 (Nat.le_of_ble_eq_true rfl) ?_
  delta mcc34
  refine aw_seq ?_
  refine aw_reg ?_
  refine rs_mv rfl rfl ?_
  refine rs_nil fun _ => ?_
  refine th_n ?_
  refine aw_seq ?_
  refine aw_reg ?_
  refine rs_build rfl rfl ?_
  refine rs_build rfl rfl ?_
  refine rs_bslice (l := ([lineT]).flatMap cM) (els := ([lineT]).map cM) (fl := true) rfl (by kernel_rfl) rfl rfl (by kernel_rfl) (by kernel_rfl) ?_
  refine rs_mv rfl rfl ?_
  refine rs_nil fun _ => ?_
  refine th_n ?_
  refine aw_ret ?_
  exact ret_new rfl (rc_frz rfl rfl rfl (fun _ => rfl)) .nil

def mcc29 : MC := (.seq (.reg [⟨(some 6), (.mv (.c (.int .i64 0))), none, []⟩] false) (.seq (.reg [⟨(some 7), (.mv (.t 0)), none, []⟩, ⟨(some 8), (.mv (.t 1)), none, []⟩, ⟨(some 9), (.mv (.t 2)), none, []⟩, ⟨(some 10), (.build [(.int .i64 0), (.int .i64 0)] [(0, (1, (.t 8))), (1, (1, (.t 9)))]), none, [1, 2]⟩, ⟨(some 11), (.call 15 [(.t 7), (.t 10)]), none, [0, 3]⟩, ⟨(some 6), (.mv (.t 11)), none, [4, 4, 0, 1, 2, 3, 4]⟩] false) .ret))
theorem mcOkc29 : (match Try.f29.body with | some c => compC Try.prog 12 c | none => none) = some mcc29 := by kernel_rfl

theorem gc29 (s : St) (k n : Int) (hs : Sm s) : FC Try.prog 29 [.ptr 900 0 0, iv k, iv n] (hC 900 901 s) (iv (doS s k n).1) (hC2 900 901 902 (doS s k n).2) true := by
  refine fc_run (nt := 12) Try.func29 rfl rfl mcOkc29 (Nat.le_of_ble_eq_true rfl) ?_
  delta mcc29
  refine aw_seq ?_
  refine aw_reg ?_
  refine rs_mv rfl rfl ?_
  refine rs_nil fun _ => ?_
  refine th_n ?_
  refine aw_seq ?_
  refine aw_reg ?_
  refine rs_mv rfl rfl ?_
  refine rs_mv rfl rfl ?_
  refine rs_mv rfl rfl ?_
  refine rs_build rfl rfl ?_
  refine rs_callo (hC 900 901 s) rfl rfl (gc15 s k n hs) (.cons (hv_same rfl) (.cons (hv_same rfl) (.nil))) (.cons rfl (.cons rfl (.nil))) rfl rfl rfl ?_
  refine rs_mv rfl rfl ?_
  refine rs_nil fun _ => ?_
  refine th_n ?_
  refine aw_ret ?_
  exact ret_own rfl (rc_same rfl (.inl rfl)) (.keep (rfl) rfl (.keep (rfl) rfl (.keep (rfl) rfl (.nil)))) (.cons rfl rfl rfl (.dead rfl rfl .nil))

theorem gc15_903 (s : St) (k n : Int) (hs : Sm s) : FC Try.prog 15 [.ptr 900 0 0, .agg [iv k, iv n]] (hC 900 903 s) (iv (doS s k n).1) (hC2 900 903 902 (doS s k n).2) true :=
  fc_ctl (swp 901 903) (swp_swp _ _) rfl rfl rfl (fun v hv => by simp at hv; subst hv; rfl) rfl (gc15 s k n hs)

def mcc30 : MC := (.seq (.reg [⟨(some 4), (.mv (.c (.int .i64 0))), none, []⟩] false) (.seq (.reg [⟨(some 5), (.mv (.c (.int .i64 0))), none, []⟩] false) (.seq (.seq (.reg [⟨(some 6), (.mv (.c (.int .i64 0))), none, []⟩] false) (.block 0 (.loop (.seq (.seq (.reg [⟨(some 7), (.mv (.t 6)), none, []⟩, ⟨(some 8), (.mv (.t 1)), none, []⟩, ⟨(some 9), (.bin .lss (.t 7) (.t 8)), none, [0, 1]⟩] false) (.cond (.t 9) .skip (.exit 0))) (.seq (.block 1 (.reg [⟨(some 12), (.mv (.t 0)), none, []⟩, ⟨(some 13), (.build [(.int .i64 0), (.int .i64 0)] [(0, (1, (.c (.int .i64 1))))]), none, []⟩, ⟨(some 14), (.call 15 [(.t 12), (.t 13)]), none, [0, 1]⟩, ⟨(some 5), (.mv (.t 14)), none, [2, 2, 0, 1, 2]⟩] false)) (.reg [⟨(some 10), (.mv (.t 6)), none, []⟩, ⟨(some 11), (.bin .add (.t 10) (.c (.int .i64 1))), none, [0]⟩, ⟨(some 6), (.mv (.t 11)), none, [1, 0, 1]⟩] false)))))) (.seq (.reg [⟨(some 15), (.mv (.t 5)), none, []⟩, ⟨(some 4), (.mv (.t 15)), none, [0, 0]⟩] false) .ret))))
theorem mcOkc30 : (match Try.f30.body with | some c => compC Try.prog 16 c | none => none) = some mcc30 := by kernel_rfl

theorem gc30 (s : St) (n : Nat) (hn : n ≤ 1000) (hs : ∀ k : Nat, k < n → Sm (tkS s k).2) : FC Try.prog 30 [.ptr 900 0 0, iv (n : Int)] (hC 900 901 s) (iv (tkS s n).1) (hC2 900 901 902 (tkS s n).2) true := by
  refine fc_run (nt := 16) Try.func30 rfl rfl mcOkc30 (Nat.le_of_ble_eq_true rfl) ?_
  delta mcc30
  refine aw_seq ?_
  refine aw_reg ?_
  refine rs_mv rfl rfl ?_
  refine rs_nil fun _ => ?_
  refine th_n ?_
  refine aw_seq ?_
  refine aw_reg ?_
  refine rs_mv rfl rfl ?_
  refine rs_nil fun _ => ?_
  refine th_n ?_
  refine aw_seq ?_
  refine aw_seq ?_
  refine aw_reg ?_
  refine rs_mv rfl rfl ?_
  refine rs_nil fun _ => ?_
  refine th_n ?_
  refine aw_block ?_
  refine aw_fam (α := Nat) (fun k => n - k) (fun k => [(0, .ptr 900 0 0), (1, iv (n : Int)), (5, iv (tkS s (k)).1), (6, iv (((k) : Nat) : Int))]) (fun k => [(900, ctlO 903 (tkS s (k)).2), (903, rowO (tkS s (k)).2.rs), (901, .dead)]) (fun k => k ≤ n) 0 (by omega)
    (show Weak _ _ _ _ [(0, .ptr 900 0 0), (1, iv (n : Int)), (5, iv 0), (6, iv 0)] [(900, ctlO 903 (tkS s (0)).2), (903, rowO (tkS s (0)).2.rs), (901, .dead)] from Weak.trans (F1 := [(0, .ptr 900 0 0), (1, iv (n : Int)), (5, iv 0), (6, iv 0)]) (H1 := [(900, ctlO 901 s), (901, rowO s.rs)]) (weak_to (.cons rfl (rc_same rfl (.inl rfl)) (.cons rfl (rc_same rfl (.inl rfl)) (.cons rfl (rc_same rfl (.inl rfl)) (.cons rfl (rc_same rfl (.inl rfl)) (.nil))))) (.keep (rfl) rfl (.keep (rfl) rfl (.nil))) (fun i hi => by simp [keysOf] at hi ⊢; omega)) (Weak.trans (F1 := [(0, .ptr 900 0 0), (1, iv (n : Int)), (5, iv 0), (6, iv 0)]) (weak_ren_row (i := 901) (i' := 903) (k := 900) rfl rfl (.cons rfl (.same _) (.cons rfl (.same _) (.cons rfl (.same _) (.cons rfl (.same _) (.nil))))) (by decide) rfl (.cons (.sl _ _) (RenL.refl _ _ _))) (weak_to (.cons rfl (rc_same rfl (.inl rfl)) (.cons rfl (rc_same rfl (.inl rfl)) (.cons rfl (rc_same rfl (.inl rfl)) (.cons rfl (rc_same rfl (.inl rfl)) (.nil))))) (.keep (rfl) rfl (.keep (rfl) rfl (.keep (rfl) rfl (.nil)))) (fun i hi => by simp [keysOf] at hi ⊢; omega)))) ?_
  intro k hk
  refine aw_seq ?_
  refine aw_seq ?_
  refine aw_reg ?_
  refine rs_mv rfl rfl ?_
  refine rs_mv rfl rfl ?_
  refine rs_lss rfl rfl rfl ?_
  refine rs_nil fun _ => ?_
  refine th_n ?_
  refine aw_cond rfl (fun h9 => ?_) (fun h9 => ?_)
  · replace h9 := of_decide_eq_true h9
    refine aw_skip ?_
    refine th_n ?_
    refine aw_seq ?_
    refine aw_block ?_
    refine aw_reg ?_
    refine rs_mv rfl rfl ?_
    refine rs_build rfl rfl ?_
    refine rs_callo (hC 900 903 (tkS s k).2) rfl rfl (gc15_903 (tkS s k).2 1 0 (hs k (by omega))) (.cons (hv_same rfl) (.cons (hv_same rfl) (.nil))) (.cons rfl (.cons rfl (.nil))) rfl rfl rfl ?_
    refine rs_mv rfl rfl ?_
    refine rs_nil fun _ => ?_
    refine in_n ?_
    refine th_n ?_
    refine aw_reg ?_
    refine rs_mv rfl rfl ?_
    refine rs_add rfl rfl rfl (by omega) ?_
    refine rs_mv rfl rfl ?_
    refine rs_nil fun _ => ?_
    refine th_n ?_
    exact ⟨k + 1, by omega, by omega, (show Weak _ _ _ _ [(0, .ptr 900 0 0), (1, iv (n : Int)), (5, iv (tkS s (k + 1)).1), (6, iv (((k + 1) : Nat) : Int))] [(900, ctlO 903 (tkS s (k + 1)).2), (903, rowO (tkS s (k + 1)).2.rs), (901, .dead)] from Weak.trans (F1 := [(0, .ptr 900 0 0), (1, iv (n : Int)), (5, iv (tkS s (k + 1)).1), (6, iv (((k + 1) : Nat) : Int))]) (H1 := [(900, ctlO 902 (tkS s (k + 1)).2), (902, rowO (tkS s (k + 1)).2.rs), (901, .dead)]) (weak_to (.cons rfl (rc_same rfl (.inl rfl)) (.cons rfl (rc_same rfl (.inl rfl)) (.cons rfl (rc_same rfl (.inl rfl)) (.cons rfl (rc_same rfl (.inl rfl)) (.nil))))) (.keep (rfl) rfl (.keep (rfl) rfl (.keep (rfl) rfl (.nil)))) (fun i hi => by simp [keysOf] at hi ⊢; omega)) (Weak.trans (F1 := [(0, .ptr 900 0 0), (1, iv (n : Int)), (5, iv (tkS s (k + 1)).1), (6, iv (((k + 1) : Nat) : Int))]) (weak_ren_row (i := 902) (i' := 903) (k := 900) rfl rfl (.cons rfl (.same _) (.cons rfl (.same _) (.cons rfl (.same _) (.cons rfl (.same _) (.nil))))) (by decide) rfl (.cons (.sl _ _) (RenL.refl _ _ _))) (weak_to (.cons rfl (rc_same rfl (.inl rfl)) (.cons rfl (rc_same rfl (.inl rfl)) (.cons rfl (rc_same rfl (.inl rfl)) (.cons rfl (rc_same rfl (.inl rfl)) (.nil))))) (.keep (rfl) rfl (.keep (rfl) rfl (.keep (rfl) rfl (.nil)))) (fun i hi => by simp [keysOf] at hi ⊢; omega))))⟩
  · replace h9 := of_decide_eq_false h9
    refine aw_exit ?_
    refine th_e ?_
    refine th_e ?_
    refine in_hit ?_
    refine th_n ?_
    refine aw_seq ?_
    obtain rfl : k = n := by omega
    refine aw_weak (show Weak _ _ _ _ [(5, iv (tkS s k).1)] [(900, ctlO 902 (tkS s k).2), (902, rowO (tkS s k).2.rs), (901, .dead)] from Weak.trans (F1 := [(5, iv (tkS s k).1)]) (H1 := [(900, ctlO 903 (tkS s k).2), (903, rowO (tkS s k).2.rs), (901, .dead)]) (weak_to (.cons rfl (rc_same rfl (.inl rfl)) (.nil)) (.keep (rfl) rfl (.keep (rfl) rfl (.keep (rfl) rfl (.nil)))) (fun i hi => by simp [keysOf] at hi ⊢; omega)) (Weak.trans (F1 := [(5, iv (tkS s k).1)]) (weak_ren_row (i := 903) (i' := 902) (k := 900) rfl rfl (.cons rfl (.same _) (.nil)) (by decide) rfl (.cons (.sl _ _) (RenL.refl _ _ _))) (weak_to (.cons rfl (rc_same rfl (.inl rfl)) (.nil)) (.keep (rfl) rfl (.keep (rfl) rfl (.keep (rfl) rfl (.nil)))) (fun i hi => by simp [keysOf] at hi ⊢; omega)))) ?_
    refine aw_reg ?_
    refine rs_mv rfl rfl ?_
    refine rs_mv rfl rfl ?_
    refine rs_nil fun _ => ?_
    refine th_n ?_
    refine aw_ret ?_
    exact ret_own rfl (rc_same rfl (.inl rfl)) (.keep (rfl) rfl (.keep (rfl) rfl (.keep (rfl) rfl (.nil)))) (.cons rfl rfl rfl (.dead rfl rfl .nil))

def mcc31 : MC := (.seq (.reg [⟨(some 6), (.mv (.c (.bool false))), none, []⟩] false) (.seq (.reg [⟨(some 10), (.mv (.t 0)), none, []⟩, ⟨(some 11), (.call 17 [(.t 10)]), none, [0]⟩, ⟨(some 9), (.mv (.t 11)), none, [1]⟩, ⟨(some 12), (.ext (.t 9) 0), none, [2]⟩, ⟨(some 13), (.ext (.t 9) 1), none, [2]⟩, ⟨(some 7), (.mv (.t 12)), none, [3, 1, 0, 1, 2, 3]⟩, ⟨(some 8), (.mv (.t 13)), none, [4, 5, 0, 1, 2, 3, 4, 5]⟩] false) (.seq (.reg [⟨(some 14), (.mv (.t 7)), none, []⟩, ⟨(some 15), (.mv (.t 1)), none, []⟩, ⟨(some 16), (.bin .eql (.t 14) (.t 15)), none, [0, 1]⟩, ⟨(some 17), (.mv (.t 16)), none, [2]⟩, ⟨(some 18), (.mv (.t 8)), (some (17, true)), [3]⟩, ⟨(some 19), (.mv (.t 2)), (some (17, true)), [3]⟩, ⟨(some 20), (.bin .eql (.t 18) (.t 19)), (some (17, true)), [4, 5, 3]⟩, ⟨(some 21), (.pick (.t 17) (.t 20) (.c (.bool false))), none, [3, 6]⟩, ⟨(some 6), (.mv (.t 21)), none, [7, 3, 0, 1, 2, 3, 4, 5, 6, 7]⟩] false) .ret)))
theorem mcOkc31 : (match Try.f31.body with | some c => compC Try.prog 22 c | none => none) = some mcc31 := by kernel_rfl

theorem gc31 (s : St) (w b : Int) (r : Bool) (hs : Sm s) (hr : (decide (s.made = w) && decide (brkV s = b)) = r) : FC Try.prog 31 [cellsC s, iv w, iv b] [] (.bool r) [] false := by
  refine fc_run (nt := 22) Try.func31 rfl rfl mcOkc31 (Nat.le_of_ble_eq_true rfl) ?_
  delta mcc31
  refine aw_seq ?_
  refine aw_reg ?_
  refine rs_mv rfl rfl ?_
  refine rs_nil fun _ => ?_
  refine th_n ?_
  refine aw_seq ?_
  refine aw_reg ?_
  refine rs_mv rfl rfl ?_
  refine rs_calln [] rfl rfl (gc17 s hs) (.cons (hv_same rfl) (.nil)) rfl ?_
  refine rs_mv rfl rfl ?_
  refine rs_ext rfl rfl rfl ?_
  refine rs_ext rfl rfl rfl ?_
  refine rs_mv rfl rfl ?_
  refine rs_mv rfl rfl ?_
  refine rs_nil fun _ => ?_
  refine th_n ?_
  refine aw_seq ?_
  refine aw_reg ?_
  refine rs_mv rfl rfl ?_
  refine rs_mv rfl rfl ?_
  refine rs_cmp rfl rfl rfl rfl (fun h16 => ?_) (fun h16 => ?_)
  · skip
    refine rs_mv rfl rfl ?_
    refine rs_mv rfl rfl ?_
    refine rs_mv rfl rfl ?_
    refine rs_cmp rfl rfl rfl rfl (fun h20 => ?_) (fun h20 => ?_)
    · skip
      refine rs_pick rfl rfl rfl ?_
      refine rs_mv rfl rfl ?_
      refine rs_nil fun _ => ?_
      refine th_n ?_
      refine aw_ret ?_
      (have hx : r = true := by rw [← hr, decide_eq_true h16, decide_eq_true h20]; rfl
       subst hx; exact ret_pure rfl rfl rfl (.inr rfl))
    · skip
      refine rs_pick rfl rfl rfl ?_
      refine rs_mv rfl rfl ?_
      refine rs_nil fun _ => ?_
      refine th_n ?_
      refine aw_ret ?_
      (have hx : r = false := by rw [← hr, decide_eq_true h16, decide_eq_false h20]; rfl
       subst hx; exact ret_pure rfl rfl rfl (.inr rfl))
  · skip
    refine rs_mv rfl rfl ?_
    refine rs_skip rfl ?_
    refine rs_skip rfl ?_
    refine rs_skip rfl ?_
    refine rs_pick rfl rfl rfl ?_
    refine rs_mv rfl rfl ?_
    refine rs_nil fun _ => ?_
    refine th_n ?_
    refine aw_ret ?_
    (have hx : r = false := by rw [← hr, decide_eq_false h16]; rfl
     subst hx; exact ret_pure rfl rfl rfl (.inr rfl))

def mcc32 : MC := (.seq (.reg [⟨(some 6), (.mv (.c (.int .i64 0))), none, []⟩] false) (.seq (.seq (.reg [⟨(some 7), (.mv (.t 0)), none, []⟩, ⟨(some 8), (.mv (.t 2)), none, []⟩, ⟨(some 9), (.bin .eql (.t 7) (.t 8)), none, [0, 1]⟩] false) (.cond (.t 9) (.seq (.reg [⟨(some 10), (.mv (.t 2)), none, []⟩, ⟨(some 6), (.mv (.t 10)), none, [0, 0]⟩] false) .ret) .skip)) (.seq (.reg [⟨(some 11), (.mv (.t 0)), none, []⟩, ⟨(some 12), (.mv (.t 0)), none, []⟩, ⟨(some 13), (.mv (.t 1)), none, []⟩, ⟨(some 14), (.bin .rem (.t 12) (.t 13)), none, [1, 2]⟩, ⟨(some 15), (.bin .sub (.t 11) (.t 14)), none, [0, 3]⟩, ⟨(some 6), (.mv (.t 15)), none, [4, 0, 1, 2, 3, 4]⟩] false) .ret)))
theorem mcOkc32 : (match Try.f32.body with | some c => compC Try.prog 16 c | none => none) = some mcc32 := by kernel_rfl

theorem gc32 (x e a : Int) (he : 1 ≤ e ∧ e ≤ 100) (hx : 0 ≤ x ∧ x ≤ 1000000) : FC Try.prog 32 [iv x, iv e, iv a] [] (iv (if x = a then a else x - x.tmod e)) [] false := by
  have hm := Int.tmod_nonneg e hx.1
  have hm2 := tmod_range x e he.1
  refine fc_run (nt := 16) Try.func32 rfl rfl mcOkc32 (Nat.le_of_ble_eq_true rfl) ?_
  delta mcc32
  refine aw_seq ?_
  refine aw_reg ?_
  refine rs_mv rfl rfl ?_
  refine rs_nil fun _ => ?_
  refine th_n ?_
  refine aw_seq ?_
  refine aw_seq ?_
  refine aw_reg ?_
  refine rs_mv rfl rfl ?_
  refine rs_mv rfl rfl ?_
  refine rs_eql rfl rfl rfl ?_
  refine rs_nil fun _ => ?_
  refine th_n ?_
  refine aw_cond rfl (fun h9 => ?_) (fun h9 => ?_)
  · replace h9 := of_decide_eq_true h9
    refine aw_seq ?_
    refine aw_reg ?_
    refine rs_mv rfl rfl ?_
    refine rs_mv rfl rfl ?_
    refine rs_nil fun _ => ?_
    refine th_n ?_
    refine aw_ret ?_
    refine th_r ?_
    (have hq : (if x = a then a else x - x.tmod e) = a := if_pos h9
     rw [hq]; exact ret_pure rfl rfl rfl (.inr rfl))
  · replace h9 := of_decide_eq_false h9
    refine aw_skip ?_
    refine th_n ?_
    refine aw_seq ?_
    refine aw_reg ?_
    refine rs_mv rfl rfl ?_
    refine rs_mv rfl rfl ?_
    refine rs_mv rfl rfl ?_
    refine rs_rem rfl rfl rfl (by omega) rfl ?_
    refine rs_sub rfl rfl rfl (by omega) ?_
    refine rs_mv rfl rfl ?_
    refine rs_nil fun _ => ?_
    refine th_n ?_
    refine aw_ret ?_
    (have hq : (if x = a then a else x - x.tmod e) = x - x.tmod e := if_neg h9
     rw [hq]; exact ret_pure rfl rfl rfl (.inr rfl))

def mcc33 : MC := (.seq (.reg [⟨(some 4), (.box 67 2 (.t 1)), none, []⟩, ⟨(some 5), (.box 67 2 (.t 2)), none, []⟩, ⟨(some 6), (.mv (.c (.bool false))), none, []⟩] false) (.seq (.reg [⟨(some 7), (.mv (.t 0)), none, []⟩, ⟨(some 8), (.call 19 [(.t 7)]), none, [0]⟩, ⟨(some 9), (.ixarr 2 1 (.t 4) (.c (.int .i64 0))), none, []⟩, ⟨(some 10), (.ld false 1 (.t 9)), none, [2]⟩, ⟨(some 11), (.ixarr 2 1 (.t 4) (.c (.int .i64 1))), none, []⟩, ⟨(some 12), (.ld false 1 (.t 11)), none, [4]⟩, ⟨(some 13), (.build [(.int .i64 0), (.int .i64 0)] [(0, (1, (.t 10))), (1, (1, (.t 12)))]), none, [3, 5]⟩, ⟨(some 14), (.aeq false 2 (.t 8) (.t 13)), none, [1, 6]⟩, ⟨(some 15), (.mv (.t 14)), none, [7, 1]⟩, ⟨(some 16), (.mv (.t 0)), (some (15, true)), [8]⟩, ⟨(some 17), (.call 21 [(.t 16)]), (some (15, true)), [9, 8, 8]⟩, ⟨(some 18), (.ixarr 2 1 (.t 5) (.c (.int .i64 0))), (some (15, true)), [8]⟩, ⟨(some 19), (.ld false 1 (.t 18)), (some (15, true)), [11, 8]⟩, ⟨(some 20), (.ixarr 2 1 (.t 5) (.c (.int .i64 1))), (some (15, true)), [8]⟩, ⟨(some 21), (.ld false 1 (.t 20)), (some (15, true)), [13, 8]⟩, ⟨(some 22), (.build [(.int .i64 0), (.int .i64 0)] [(0, (1, (.t 19))), (1, (1, (.t 21)))]), (some (15, true)), [12, 14, 8]⟩, ⟨(some 23), (.aeq false 2 (.t 17) (.t 22)), (some (15, true)), [10, 15, 8]⟩, ⟨(some 24), (.pick (.t 15) (.t 23) (.c (.bool false))), none, [8, 16]⟩, ⟨(some 6), (.mv (.t 24)), none, [17, 10, 0, 1, 2, 3, 4, 5, 6, 7, 8, 9, 10, 11, 12, 13, 14, 15, 16, 17]⟩] true) .ret))
theorem mcOkc33 : (match Try.f33.body with | some c => compC Try.prog 25 c | none => none) = some mcc33 := by kernel_rfl

theorem gc33 (s : St) (a b a0 a1 b0 b1 : Int) (r : Bool) (hs : Sm s) (hl : Lst s) (h : spanS s = (a, b)) (hr : (decide ([a, b] = [a0, a1]) && decide ([s.sound, b] = [b0, b1])) = r) : FC Try.prog 33 [cellsC s, .agg [iv a0, iv a1], .agg [iv b0, iv b1]] [] (.bool r) [] false := by
  refine fc_run (nt := 25) Try.func33 rfl rfl mcOkc33 (Nat.le_of_ble_eq_true rfl) ?_
  delta mcc33
  refine aw_seq ?_
  refine aw_reg ?_
  refine rs_box rfl rfl rfl rfl rfl rfl ?_
  refine rs_box rfl rfl rfl rfl rfl rfl ?_
  refine rs_mv rfl rfl ?_
  refine rs_nil fun _ => ?_
  refine th_n ?_
  refine aw_seq ?_
  refine aw_draw hmix ?_
  refine rs_mv rfl rfl ?_
  refine rs_calln [] rfl rfl (gc19 s a b hs hl h) (.cons (hv_same rfl) (.nil)) rfl ?_
  refine rs_ixarr_p rfl rfl rfl (by decide) (by decide) ?_
  refine rs_ld_p rfl rfl rfl rfl rfl ?_
  refine rs_ixarr_p rfl rfl rfl (by decide) (by decide) ?_
  refine rs_ld_p rfl rfl rfl rfl rfl ?_
  refine rs_build rfl rfl ?_
  refine rs_aeq [a, b] [a0, a1] rfl rfl rfl rfl rfl rfl rfl rfl ?_
  cases h14 : (false != decide ([a, b] = [a0, a1]))
  · skip
    refine rs_mv rfl rfl ?_
    refine rs_skip rfl ?_
    refine rs_skip rfl ?_
    refine rs_skip rfl ?_
    refine rs_skip rfl ?_
    refine rs_skip rfl ?_
    refine rs_skip rfl ?_
    refine rs_skip rfl ?_
    refine rs_skip rfl ?_
    refine rs_pick rfl rfl rfl ?_
    refine rs_mv rfl rfl ?_
    refine rs_nil ⟨by kernel_rfl, fun _ => ?_⟩
    refine th_n ?_
    refine aw_ret ?_
    (have hx : false = r := by rw [← hr]; rw [Bool.false_bne] at h14; rw [h14]; rfl
     exact ret_pure rfl (congrArg AV.bool hx) rfl (.inr rfl))
  · skip
    refine rs_mv rfl rfl ?_
    refine rs_mv rfl rfl ?_
    refine rs_calln [] rfl rfl (gc21 s a b hs hl h) (.cons (hv_same rfl) (.nil)) rfl ?_
    refine rs_ixarr_p rfl rfl rfl (by decide) (by decide) ?_
    refine rs_ld_p rfl rfl rfl rfl rfl ?_
    refine rs_ixarr_p rfl rfl rfl (by decide) (by decide) ?_
    refine rs_ld_p rfl rfl rfl rfl rfl ?_
    refine rs_build rfl rfl ?_
    refine rs_aeq [s.sound, b] [b0, b1] rfl rfl rfl rfl rfl rfl rfl rfl ?_
    refine rs_pick rfl rfl rfl ?_
    refine rs_mv rfl rfl ?_
    refine rs_nil ⟨by kernel_rfl, fun _ => ?_⟩
    refine th_n ?_
    refine aw_ret ?_
    (have hx : (false != decide ([s.sound, b] = [b0, b1])) = r := by rw [← hr]; rw [Bool.false_bne] at h14 ⊢; rw [h14]; rfl
     exact ret_pure rfl (congrArg AV.bool hx) rfl (.inr rfl))

end Go.Proofs.Ytigfcmcdjfmieaa

/-! Plain law of a controller: what holds after any events. -/
namespace Go.Proofs.Ytigfcmcdjfmieaa
open Go.RowKit
set_option linter.unusedVariables false

/-- The last record at or before some steps. -/
def lastO (x e a : Int) : Int := if x = a then a else x - x.tmod e
theorem tm_eq {x e : Int} (h : 0 ≤ x) : x.tmod e = x % e := Int.tmod_eq_emod_of_nonneg h
theorem em_succ {m e : Int} (hm : 0 ≤ m) (he : 1 ≤ e) (h : ¬ (m + 1) % e = 0) : (m + 1) % e = m % e + 1 := by
  have h1 := Int.emod_nonneg m (show e ≠ 0 by omega)
  have h2 := Int.emod_lt_of_pos m (show 0 < e by omega)
  have h3 : (m + 1) % e = (m % e + 1) % e := by rw [Int.emod_add_emod]
  by_cases hq : m % e + 1 = e
  · rw [hq, Int.emod_self] at h3; exact absurd h3 h
  · rw [h3, Int.emod_eq_of_lt (by omega) (by omega)]
theorem em_le {m e : Int} (hm : 0 ≤ m) (he : 1 ≤ e) : 0 ≤ m % e ∧ m % e ≤ m ∧ m % e < e := by
  refine ⟨Int.emod_nonneg m (by omega), ?_, Int.emod_lt_of_pos m (by omega)⟩
  by_cases h : m < e
  · rw [Int.emod_eq_of_lt hm h]; exact Int.le_refl _
  · have := Int.emod_lt_of_pos m (show 0 < e by omega); omega
theorem em_sub {m e : Int} : (m - m % e) % e = 0 := by
  rw [Int.sub_emod, Int.emod_emod]; simp

/-- What holds of a controller after at most B events. -/
structure Iv (B : Nat) (s : St) : Prop where
  len : s.rs.length ≤ B
  all : 1 ≤ s.all ∧ s.all ≤ 1000000
  every : 1 ≤ s.every ∧ s.every ≤ 100
  feed : 1 ≤ s.feed ∧ s.feed ≤ 100
  ran : 0 ≤ s.ran ∧ s.ran ≤ B
  since : 0 ≤ s.since ∧ s.since ≤ B
  made : 0 ≤ s.made ∧ s.made ≤ s.all
  breach : 0 ≤ s.breach ∧ s.breach ≤ s.made
  fnd : s.found = true → s.broken = true ∧ s.breach ≤ lastS s.rs
  over : s.over = false → s.made < s.all
  last : lastS s.rs = lastO s.made s.every s.all
  recs : ∀ r ∈ s.rs, 0 < r ∧ r ≤ s.made ∧ (r % s.every = 0 ∨ r = s.all)
  inc : s.rs.Pairwise (· < ·)
  sw : s.broken = false → s.sound = lastS s.rs
  sb : s.broken = true → s.sound = lastO s.breach s.every s.all
  nt : s.noticed = true → s.broken = true

theorem Iv.mono {B B' : Nat} {s : St} (h : Iv B s) (hb : B ≤ B') : Iv B' s :=
  ⟨by have := h.len; omega, h.all, h.every, h.feed, by have := h.ran; omega, by have := h.since; omega, h.made, h.breach, h.fnd, h.over, h.last, h.recs, h.inc, h.sw, h.sb, h.nt⟩
theorem Iv.sm {B : Nat} {s : St} (h : Iv B s) (hb : B ≤ 1000000) : Sm s :=
  ⟨by have := h.len; omega, by have := h.all; omega, h.every, h.feed, by have := h.ran; omega, by have := h.since; omega, by have := h.made; have := h.all; omega, by have := h.breach; have := h.made; have := h.all; omega⟩
theorem Iv.fd {B : Nat} {s : St} (h : Iv B s) : Fnd s := ⟨fun hb => by
  cases hf : s.found with
  | false => rfl
  | true => have := (h.fnd hf).1; rw [hb] at this; cases this⟩
theorem lastO_range {x e a : Int} (hx : 0 ≤ x) (hxa : x ≤ a) (he : 1 ≤ e) : 0 ≤ lastO x e a ∧ lastO x e a ≤ x := by
  unfold lastO
  have := em_le hx he
  rw [tm_eq hx]
  split <;> omega
theorem lastO_mod {x e a : Int} (hx : 0 ≤ x) (he : 1 ≤ e) : lastO x e a = a ∨ (lastO x e a) % e = 0 := by
  unfold lastO
  rw [tm_eq hx]
  split
  · exact .inl rfl
  · exact .inr em_sub
theorem Iv.ls {B : Nat} {s : St} (h : Iv B s) : Lst s := by
  have h1 := lastO_range h.made.1 h.made.2 h.every.1
  have h2 := h.all
  have h3 := h.made
  refine ⟨by rw [h.last]; omega, ?_⟩
  rw [h.last]
  rcases lastO_mod (a := s.all) h.made.1 h.every.1 with h | h
  · exact .inl h
  · exact .inr (by rw [tm_eq h1.1]; exact h)
theorem iv_0 {a n : Int} (ha : 1 ≤ a ∧ a ≤ 1000000) (hn : 1 ≤ n ∧ n ≤ 100) : Iv 0 (st0 a n) := by
  refine ⟨Nat.le_refl _, ha, hn, by dsimp only; omega, by dsimp only; omega, by dsimp only; omega, by dsimp only; omega, by dsimp only; omega, fun h => (by cases h), fun _ => by dsimp only; omega, ?_, fun r hr => (by cases hr), .nil, fun _ => rfl, fun h => (by cases h), fun h => (by cases h)⟩
  show (0 : Int) = lastO 0 n a
  unfold lastO
  rw [if_neg (by omega)]; simp
theorem last_app (l : List Int) (x : Int) : lastS (l ++ [x]) = x := by simp [lastS]

theorem iv_step {B : Nat} {s : St} (h : Iv B s) (ho : s.over = false) (hn : s.noticed = false) (hr : s.ran ≤ B) : Iv (B + 1) (stepS s) := by
  have h1 := h.made; have h2 := h.all; have h3 := h.every; have h4 := h.over ho; have h5 := h.breach; have h6 := h.ran; have h7 := h.since
  have hl := h.last
  have hlr := lastO_range h.made.1 h.made.2 h.every.1
  have hlen := h.len
  have nn : lastO s.made s.every s.all = s.made - s.made % s.every := by unfold lastO; rw [if_neg (by omega), tm_eq h1.1]
  by_cases hq : decide (s.made + 1 = s.all) = true ∨ (s.made + 1).tmod s.every = 0
  · have hq' : s.made + 1 = s.all ∨ (s.made + 1) % s.every = 0 := by rw [← tm_eq (show 0 ≤ s.made + 1 by omega)]; simpa using hq
    have hlo : lastO (s.made + 1) s.every s.all = s.made + 1 := by
      unfold lastO
      split
      · omega
      · rename_i hne; rw [tm_eq (by omega), hq'.resolve_left hne]; omega
    have hs : stepS s = { s with made := s.made + 1, since := 0, over := decide (s.made + 1 = s.all), rs := s.rs ++ [s.made + 1], noticed := s.broken, found := s.broken, sound := bif s.broken then s.sound else s.made + 1 } := by
      unfold stepS
      dsimp only
      rw [if_pos hq]
      rfl
    rw [hs]
    refine ⟨by simp; omega, h2, h3, h.feed, by dsimp only; omega, by dsimp only; omega, by dsimp only; omega, by dsimp only; omega, fun hf => ⟨hf, ?_⟩, fun ho => ?_, ?_, fun r hr => ?_, ?_, fun hb => ?_, fun hb => ?_, fun h => h⟩
    · dsimp only; rw [last_app]; omega
    · have := of_decide_eq_false ho; dsimp only; omega
    · dsimp only; rw [last_app, hlo]
    · dsimp only at hr ⊢
      rcases List.mem_append.1 hr with hr | hr
      · have := h.recs r hr
        exact ⟨this.1, by omega, this.2.2⟩
      · obtain rfl : r = s.made + 1 := by simpa using hr
        exact ⟨by omega, by omega, hq'.symm⟩
    · dsimp only
      refine List.pairwise_append.2 ⟨h.inc, List.pairwise_singleton _ _, fun x hx y hy => ?_⟩
      obtain rfl : y = s.made + 1 := by simpa using hy
      have := (h.recs x hx).2.1
      omega
    · dsimp only at hb ⊢; rw [hb, last_app]; rfl
    · dsimp only at hb ⊢; rw [hb]; exact h.sb hb
  · have hs : stepS s = { s with made := s.made + 1, since := 0, over := decide (s.made + 1 = s.all) } := by
      unfold stepS
      dsimp only
      rw [if_neg hq]
    have hne : ¬ s.made + 1 = s.all := fun e => hq (.inl (decide_eq_true e))
    have hne2 : ¬ (s.made + 1) % s.every = 0 := fun e => hq (.inr (by rw [tm_eq (by omega)]; exact e))
    have hsu := em_succ h1.1 h3.1 hne2
    rw [hs]
    refine ⟨by dsimp only; omega, h2, h3, h.feed, by dsimp only; omega, by dsimp only; omega, by dsimp only; omega, by dsimp only; omega, h.fnd, fun _ => by dsimp only; omega, ?_, fun r hr => ?_, h.inc, h.sw, h.sb, h.nt⟩
    · dsimp only
      rw [hl, nn]
      unfold lastO
      rw [if_neg hne, tm_eq (by omega), hsu]; omega
    · have := h.recs r hr
      exact ⟨this.1, by dsimp only; omega, this.2.2⟩
theorem iv_tick {B : Nat} {s : St} (h : Iv B s) : Iv (B + 1) (tickS s).2 := by
  unfold tickS
  split
  · exact h.mono (by omega)
  · rename_i hn
    split
    · exact h.mono (by omega)
    · rename_i ho
      dsimp only
      have h1 := h.ran; have h2 := h.since; have h3 := h.len
      have key : Iv (B + 1) { s with ran := s.ran + 1, since := s.since + 1 } := ⟨by dsimp only; omega, h.all, h.every, h.feed, by dsimp only; omega, by dsimp only; omega, h.made, h.breach, h.fnd, h.over, h.last, h.recs, h.inc, h.sw, h.sb, h.nt⟩
      split
      · exact key
      · have hq : Iv B { s with since := 0 } := ⟨by dsimp only; omega, h.all, h.every, h.feed, by dsimp only; omega, by dsimp only; omega, h.made, h.breach, h.fnd, h.over, h.last, h.recs, h.inc, h.sw, h.sb, h.nt⟩
        have := iv_step hq (by simpa using ho) (by simpa using hn) (by dsimp only; omega)
        have e : stepS { s with ran := s.ran + 1, since := s.since + 1 } = { stepS { s with since := 0 } with ran := s.ran + 1 } := by
          unfold stepS
          dsimp only
          split <;> rfl
        rw [e]
        exact ⟨this.len, this.all, this.every, this.feed, by dsimp only; omega, this.since, this.made, this.breach, this.fnd, this.over, this.last, this.recs, this.inc, this.sw, this.sb, this.nt⟩
theorem iv_do {B : Nat} {s : St} (h : Iv B s) (k n : Int) : Iv (B + 1) (doS s k n).2 := by
  have hm := h.mono (show B ≤ B + 1 by omega)
  unfold doS
  split
  · rename_i hc
    unfold handS
    split
    · exact iv_tick h
    split
    · exact ⟨hm.len, hm.all, hm.every, hm.feed, hm.ran, hm.since, hm.made, hm.breach, hm.fnd, fun h => (by cases h), hm.last, hm.recs, hm.inc, hm.sw, hm.sb, hm.nt⟩
    split
    · exact ⟨hm.len, hm.all, hm.every, hm.feed, hm.ran, hm.since, hm.made, hm.breach, hm.fnd, hm.over, hm.last, hm.recs, hm.inc, hm.sw, hm.sb, hm.nt⟩
    split
    · split
      · exact hm
      · rename_i hb
        have hb' : s.broken = false := by simpa using hb
        have hm1 := h.made
        exact ⟨hm.len, hm.all, hm.every, hm.feed, hm.ran, hm.since, hm.made, ⟨h.made.1, Int.le_refl _⟩, fun hf => (by have := hm.fnd hf; rw [hb'] at this; cases this.1), hm.over, hm.last, hm.recs, hm.inc, fun h => (by cases h), fun _ => (h.sw hb').trans h.last, fun _ => rfl⟩
    split
    · rename_i h1 h2 h3 h4 h5
      have : 1 ≤ n ∧ n ≤ 100 := by
        subst h5
        by_cases hq : n < 1 ∨ n > 100
        · rw [chk_3 rfl hq] at hc; cases hc
        · omega
      exact ⟨hm.len, hm.all, hm.every, this, hm.ran, hm.since, hm.made, hm.breach, hm.fnd, hm.over, hm.last, hm.recs, hm.inc, hm.sw, hm.sb, hm.nt⟩
    split
    · exact ⟨hm.len, hm.all, hm.every, hm.feed, hm.ran, hm.since, hm.made, hm.breach, hm.fnd, fun h => (by cases h), hm.last, hm.recs, hm.inc, hm.sw, hm.sb, hm.nt⟩
    · exact ⟨hm.len, hm.all, hm.every, hm.feed, hm.ran, hm.since, hm.made, hm.breach, hm.fnd, hm.over, hm.last, hm.recs, hm.inc, hm.sw, hm.sb, fun h => (by
        cases hb : s.broken with
        | true => rfl
        | false =>
          have : (s.noticed || s.broken) = true := h
          rw [hb, Bool.or_false] at this
          exact absurd (hm.nt this) (by rw [hb]; decide))⟩
  · exact hm
theorem iv_tk {B : Nat} {s : St} (h : Iv B s) : ∀ k, Iv (B + k) (tkS s k).2
  | 0 => h
  | k + 1 => iv_do (iv_tk h k) 1 0
end Go.Proofs.Ytigfcmcdjfmieaa

/-! Walks: C7. -/
namespace Go.Proofs.Ytigfcmcdjfmieaa
open Go.RowKit
set_option maxRecDepth 100000
set_option linter.unusedVariables false

/-! ### contracts at any names -/
theorem fc_ctg {P : Program} {f : Nat} {args : List AV} {r : AV} {s s' : St} (σ : Nat → Nat) (hσ : ∀ k, σ (σ k) = k) {x y z a b c : Nat} (ha : σ x = a) (hb : σ y = b) (hc : σ z = c) (hargs : ∀ v, v ∈ args → scopedV [] v = true) (hr : scopedV [] r = true)
    (h : FC P f (.ptr x 0 0 :: args) (hC x y s) r (hC2 x y z s') true) : FC P f (.ptr a 0 0 :: args) (hC a b s) r (hC2 a b c s') true :=
  fc_ren σ hσ h (.cons (.ptr ha) (renVs_closed hargs)) (.cons ha (renO_ctl hb s) (.cons hb .flat .nil)) (.closed hr) (.cons ha (renO_ctl hc s') (.cons hc .flat (.cons hb .dead .nil)))
def sw3 (a b c k : Nat) : Nat := if k = 7000 then a else if k = 7001 then b else if k = 7002 then c else if k = a then 7000 else if k = b then 7001 else if k = c then 7002 else k
def nmOK (a b c : Nat) : Bool := decide (a < 7000) && (decide (b < 7000) && (decide (c < 7000) && (decide (a ≠ b) && (decide (a ≠ c) && decide (b ≠ c)))))
theorem sw3_sw3 {a b c : Nat} (h : nmOK a b c = true) (k : Nat) : sw3 a b c (sw3 a b c k) = k := by
  simp only [nmOK, Bool.and_eq_true, decide_eq_true_eq] at h
  obtain ⟨h1, h2, h3, h4, h5, h6⟩ := h
  grind (splits := 30) [sw3]
theorem sw3_at {a b c : Nat} (h : nmOK a b c = true) : sw3 a b c 7000 = a ∧ sw3 a b c 7001 = b ∧ sw3 a b c 7002 = c := ⟨rfl, rfl, rfl⟩
theorem at_ctl {P : Program} {f : Nat} {args : List AV} {r : AV} {s s' : St} (a b c : Nat) (hn : nmOK a b c = true) (hargs : ∀ v, v ∈ args → scopedV [] v = true) (hr : scopedV [] r = true)
    (h : FC P f (.ptr 900 0 0 :: args) (hC 900 901 s) r (hC2 900 901 902 s') true) : FC P f (.ptr a 0 0 :: args) (hC a b s) r (hC2 a b c s') true :=
  fc_ctg (sw3 a b c) (sw3_sw3 hn) (sw3_at hn).1 (sw3_at hn).2.1 (sw3_at hn).2.2 hargs hr (fc_ctg (x := 900) (y := 901) (z := 902) (shf 6100) (shf_shf 6100 (.inr (by decide))) rfl rfl rfl hargs hr h)
theorem iv2_closed (k n : Int) : ∀ v, v ∈ [iv k, iv n] → scopedV [] v = true := fun v hv => by
  simp only [List.mem_cons, List.not_mem_nil, or_false] at hv
  rcases hv with rfl | rfl <;> rfl
theorem iv1_closed (k : Int) : ∀ v, v ∈ [iv k] → scopedV [] v = true := fun v hv => by
  simp only [List.mem_cons, List.not_mem_nil, or_false] at hv
  subst hv; rfl
theorem ag_closed (k n : Int) : ∀ v, v ∈ [AV.agg [iv k, iv n]] → scopedV [] v = true := fun v hv => by
  simp only [List.mem_cons, List.not_mem_nil, or_false] at hv
  subst hv; rfl
theorem at12 (a b c : Nat) (hn : nmOK a b c = true) (ms : List Mv) (n : Int) (hl : ms.length ≤ 4611686018427387904) (h : newB ms n) : FC Try.prog 12 [mvs ms, iv n] [] (.ptr a 0 0) (hC a b (st0 (pstep ms) n)) false :=
  fc_ren (sw3 a b c) (sw3_sw3 hn) (fc_ren (shf 6100) (shf_shf 6100 (.inr (by decide))) (gc12 ms n hl h) (.cons (.closed rfl) (.cons (.closed rfl) .nil)) .nil (r1 := .ptr 7000 0 0) (.ptr rfl) (H1' := hC 7000 7001 _) (.cons rfl (renO_ctl rfl _) (.cons rfl .flat .nil)))
    (.cons (.closed rfl) (.cons (.closed rfl) .nil)) .nil (.ptr (sw3_at hn).1) (.cons (sw3_at hn).1 (renO_ctl (sw3_at hn).2.1 _) (.cons (sw3_at hn).2.1 .flat .nil))
theorem at30 (a b c : Nat) (hn : nmOK a b c = true) (s s' : St) (n : Nat) (e : Int) (B : Nat) (hI : Iv B s) (hB : B + n ≤ 1000) (h : tkS s n = (e, s')) : FC Try.prog 30 [.ptr a 0 0, iv (n : Int)] (hC a b s) (iv e) (hC2 a b c s') true := by
  have := gc30 s n (by omega) fun k hk => (iv_tk hI k).sm (by omega)
  rw [h] at this
  exact at_ctl a b c hn (iv1_closed _) rfl this
theorem at29 (a b c : Nat) (hn : nmOK a b c = true) (s s' : St) (k n e : Int) (hs : Sm s) (h : doS s k n = (e, s')) : FC Try.prog 29 [.ptr a 0 0, iv k, iv n] (hC a b s) (iv e) (hC2 a b c s') true := by
  have := gc29 s k n hs
  rw [h] at this
  exact at_ctl a b c hn (iv2_closed _ _) rfl this
theorem at15 (a b c : Nat) (hn : nmOK a b c = true) (s s' : St) (k n e : Int) (hs : Sm s) (h : doS s k n = (e, s')) : FC Try.prog 15 [.ptr a 0 0, .agg [iv k, iv n]] (hC a b s) (iv e) (hC2 a b c s') true := by
  have := gc15 s k n hs
  rw [h] at this
  exact at_ctl a b c hn (ag_closed _ _) rfl this
theorem gc25t (xs : List Int) (h : xs.length ≤ 4611686018427387904) : FC Try.prog 25 [ints xs, ints xs] [] (.bool true) [] false := by
  have := gc25 xs xs h
  rwa [decide_eq_true rfl] at this
theorem newT : newB [lineT] 4 := ⟨by decide, by kernel_rfl, by decide, by decide⟩
theorem pstepT : pstep [lineT] = 10 := by kernel_rfl

abbrev sA0 : St := ⟨[], 0, false, 10, 4, 1, 0, 0, 0, false, 0, false, false, false, false⟩
theorem ivA0 : Iv 0 sA0 := iv_0 ⟨by decide, by decide⟩ ⟨by decide, by decide⟩

abbrev sB0 : St := ⟨[], 0, false, 10, 4, 1, 0, 0, 0, false, 0, false, false, false, false⟩
theorem ivB0 : Iv 0 sB0 := iv_0 ⟨by decide, by decide⟩ ⟨by decide, by decide⟩

abbrev sD0 : St := ⟨[], 0, false, 10, 4, 1, 0, 0, 0, false, 0, false, false, false, false⟩
theorem ivD0 : Iv 0 sD0 := iv_0 ⟨by decide, by decide⟩ ⟨by decide, by decide⟩

abbrev sF0 : St := ⟨[], 0, false, 10, 4, 1, 0, 0, 0, false, 0, false, false, false, false⟩
theorem ivF0 : Iv 0 sF0 := iv_0 ⟨by decide, by decide⟩ ⟨by decide, by decide⟩

theorem nw_A : FC Try.prog 12 [mvs [lineT], iv 4] [] (.ptr 900 0 0) (hC 900 901 sA0) false := by
  have := at12 900 901 902 rfl [lineT] 4 (by decide) newT
  rw [pstepT] at this
  exact this

theorem nw_B : FC Try.prog 12 [mvs [lineT], iv 4] [] (.ptr 910 0 0) (hC 910 911 sB0) false := by
  have := at12 910 911 912 rfl [lineT] 4 (by decide) newT
  rw [pstepT] at this
  exact this

theorem nw_D : FC Try.prog 12 [mvs [lineT], iv 4] [] (.ptr 920 0 0) (hC 920 921 sD0) false := by
  have := at12 920 921 922 rfl [lineT] 4 (by decide) newT
  rw [pstepT] at this
  exact this

theorem nw_F : FC Try.prog 12 [mvs [lineT], iv 4] [] (.ptr 930 0 0) (hC 930 931 sF0) false := by
  have := at12 930 931 932 rfl [lineT] 4 (by decide) newT
  rw [pstepT] at this
  exact this

abbrev sA1 : St := ⟨[4], 4, false, 10, 4, 1, 6, 0, 6, false, 0, false, false, false, false⟩
theorem eqA1 : tkS sA0 6 = (0, sA1) := by kernel_rfl
theorem ivA1 : Iv 6 sA1 := by
  have := iv_tk ivA0 6
  rw [eqA1] at this
  exact this

abbrev sA2 : St := ⟨[4], 4, false, 10, 4, 1, 6, 0, 6, false, 0, false, true, true, true⟩
theorem eqA2 : doS sA1 2 0 = (0, sA2) := by kernel_rfl
theorem ivA2 : Iv 7 sA2 := by
  have := iv_do ivA1 2 0
  rw [eqA2] at this
  exact this

abbrev sA3 : St := ⟨[4], 4, false, 10, 4, 1, 6, 0, 6, false, 0, false, true, true, true⟩
theorem eqA3 : tkS sA2 1 = (40, sA3) := by kernel_rfl
theorem ivA3 : Iv 8 sA3 := by
  have := iv_tk ivA2 1
  rw [eqA3] at this
  exact this

abbrev sA4 : St := ⟨[4], 4, false, 10, 4, 1, 6, 0, 6, false, 0, false, true, false, true⟩
theorem eqA4 : doS sA3 3 0 = (0, sA4) := by kernel_rfl
theorem ivA4 : Iv 9 sA4 := by
  have := iv_do ivA3 3 0
  rw [eqA4] at this
  exact this

abbrev sA5 : St := ⟨[4], 4, false, 10, 4, 1, 6, 0, 6, false, 0, false, true, false, true⟩
theorem eqA5 : tkS sA4 1 = (43, sA5) := by kernel_rfl
theorem ivA5 : Iv 10 sA5 := by
  have := iv_tk ivA4 1
  rw [eqA5] at this
  exact this

abbrev sB1 : St := ⟨[4], 4, false, 10, 4, 1, 5, 0, 5, false, 0, false, false, false, false⟩
theorem eqB1 : tkS sB0 5 = (0, sB1) := by kernel_rfl
theorem ivB1 : Iv 5 sB1 := by
  have := iv_tk ivB0 5
  rw [eqB1] at this
  exact this

abbrev sB2 : St := ⟨[4], 4, false, 10, 4, 1, 5, 0, 5, true, 5, false, false, false, false⟩
theorem eqB2 : doS sB1 4 0 = (0, sB2) := by kernel_rfl
theorem ivB2 : Iv 6 sB2 := by
  have := iv_do ivB1 4 0
  rw [eqB2] at this
  exact this

abbrev sB3 : St := ⟨[4, 8], 4, true, 10, 4, 1, 8, 0, 8, true, 5, true, false, false, false⟩
theorem eqB3 : tkS sB2 3 = (0, sB3) := by kernel_rfl
theorem ivB3 : Iv 9 sB3 := by
  have := iv_tk ivB2 3
  rw [eqB3] at this
  exact this

abbrev sB4 : St := ⟨[4, 8], 4, true, 10, 4, 1, 8, 0, 8, true, 5, true, false, false, false⟩
theorem eqB4 : tkS sB3 6 = (41, sB4) := by kernel_rfl
theorem ivB4 : Iv 15 sB4 := by
  have := iv_tk ivB3 6
  rw [eqB4] at this
  exact this

abbrev sB5 : St := ⟨[4, 8], 4, true, 10, 4, 1, 8, 0, 8, true, 5, true, true, true, true⟩
theorem eqB5 : doS sB4 2 0 = (0, sB5) := by kernel_rfl
theorem ivB5 : Iv 16 sB5 := by
  have := iv_do ivB4 2 0
  rw [eqB5] at this
  exact this

abbrev sD1 : St := ⟨[], 0, false, 10, 4, 3, 0, 0, 0, false, 0, false, false, false, false⟩
theorem eqD1 : doS sD0 5 3 = (0, sD1) := by kernel_rfl
theorem ivD1 : Iv 1 sD1 := by
  have := iv_do ivD0 5 3
  rw [eqD1] at this
  exact this

abbrev sD2 : St := ⟨[], 0, false, 10, 4, 3, 8, 2, 2, false, 0, false, false, false, false⟩
theorem eqD2 : tkS sD1 8 = (0, sD2) := by kernel_rfl
theorem ivD2 : Iv 9 sD2 := by
  have := iv_tk ivD1 8
  rw [eqD2] at this
  exact this

abbrev sD3 : St := ⟨[], 0, false, 10, 4, 2, 8, 2, 2, false, 0, false, false, false, false⟩
theorem eqD3 : doS sD2 5 2 = (0, sD3) := by kernel_rfl
theorem ivD3 : Iv 10 sD3 := by
  have := iv_do ivD2 5 2
  rw [eqD3] at this
  exact this

abbrev sD4 : St := ⟨[], 0, false, 10, 4, 2, 9, 0, 3, false, 0, false, false, false, false⟩
theorem eqD4 : tkS sD3 1 = (0, sD4) := by kernel_rfl
theorem ivD4 : Iv 11 sD4 := by
  have := iv_tk ivD3 1
  rw [eqD4] at this
  exact this

abbrev sF1 : St := ⟨[4, 8, 10], 10, false, 10, 4, 1, 10, 0, 10, false, 0, false, true, false, false⟩
theorem eqF1 : tkS sF0 10 = (0, sF1) := by kernel_rfl
theorem ivF1 : Iv 10 sF1 := by
  have := iv_tk ivF0 10
  rw [eqF1] at this
  exact this

abbrev sF2 : St := ⟨[4, 8, 10], 10, false, 10, 4, 1, 10, 0, 10, false, 0, false, true, true, true⟩
theorem eqF2 : doS sF1 2 0 = (0, sF2) := by kernel_rfl
theorem ivF2 : Iv 11 sF2 := by
  have := iv_do ivF1 2 0
  rw [eqF2] at this
  exact this

def mcc9 : MC := (.seq (.reg [⟨(some 0), (.mv (.c (.bool false))), none, []⟩] false) (.seq (.reg [⟨(some 8), (.call 34 []), none, []⟩, ⟨(some 9), (.call 12 [(.t 8), (.c (.int .i64 4))]), none, [0, 0]⟩, ⟨(some 10), (.call 34 []), none, [1]⟩, ⟨(some 11), (.call 12 [(.t 10), (.c (.int .i64 4))]), none, [2, 2]⟩, ⟨(some 12), (.call 34 []), none, [3]⟩, ⟨(some 13), (.call 12 [(.t 12), (.c (.int .i64 4))]), none, [4, 4]⟩, ⟨(some 14), (.call 34 []), none, [5]⟩, ⟨(some 15), (.call 12 [(.t 14), (.c (.int .i64 4))]), none, [6, 6]⟩, ⟨(some 1), (.mv (.t 9)), none, [1, 7, 0, 1]⟩, ⟨(some 2), (.mv (.t 11)), none, [3, 8, 0, 1, 2, 3, 8]⟩, ⟨(some 3), (.mv (.t 13)), none, [5, 9, 0, 1, 2, 3, 4, 5, 8, 9]⟩, ⟨(some 4), (.mv (.t 15)), none, [7, 10, 0, 1, 2, 3, 4, 5, 6, 7, 8, 9, 10]⟩] false) (.seq (.seq (.reg [⟨(some 16), (.mv (.t 1)), none, []⟩, ⟨(some 17), (.isnil false false (.t 16)), none, [0]⟩, ⟨(some 18), (.mv (.t 17)), none, [1]⟩, ⟨(some 19), (.mv (.t 2)), (some (18, false)), [2]⟩, ⟨(some 20), (.isnil false false (.t 19)), (some (18, false)), [3, 2]⟩, ⟨(some 21), (.pick (.t 18) (.c (.bool true)) (.t 20)), none, [2, 4]⟩, ⟨(some 22), (.mv (.t 21)), none, [5, 2]⟩, ⟨(some 23), (.mv (.t 3)), (some (22, false)), [6]⟩, ⟨(some 24), (.isnil false false (.t 23)), (some (22, false)), [7, 6]⟩, ⟨(some 25), (.pick (.t 22) (.c (.bool true)) (.t 24)), none, [6, 8]⟩, ⟨(some 26), (.mv (.t 25)), none, [9, 6]⟩, ⟨(some 27), (.mv (.t 4)), (some (26, false)), [10]⟩, ⟨(some 28), (.isnil false false (.t 27)), (some (26, false)), [11, 10]⟩, ⟨(some 29), (.pick (.t 26) (.c (.bool true)) (.t 28)), none, [10, 12]⟩] false) (.cond (.t 29) (.seq (.reg [⟨(some 0), (.mv (.c (.bool false))), none, []⟩] false) .ret) .skip)) (.seq (.reg [⟨(some 30), (.mv (.t 1)), none, []⟩, ⟨(some 31), (.call 31 [(.t 30), (.c (.int .i64 0)), (.c (.int .i64 (-1)))]), none, [0]⟩, ⟨(some 32), (.mv (.t 31)), none, [1, 1]⟩, ⟨(some 33), (.mv (.t 1)), (some (32, true)), [2]⟩, ⟨(some 34), (.build [(.int .i64 0), (.int .i64 0)] [(0, (1, (.c (.int .i64 0)))), (1, (1, (.c (.int .i64 0))))]), (some (32, true)), [2]⟩, ⟨(some 35), (.build [(.int .i64 0), (.int .i64 0)] [(0, (1, (.c (.int .i64 0)))), (1, (1, (.c (.int .i64 0))))]), (some (32, true)), [2]⟩, ⟨(some 36), (.call 33 [(.t 33), (.t 34), (.t 35)]), (some (32, true)), [3, 4, 5, 2, 2]⟩, ⟨(some 37), (.pick (.t 32) (.t 36) (.c (.bool false))), none, [2, 6]⟩, ⟨(some 38), (.mv (.t 37)), none, [7, 6]⟩, ⟨(some 39), (.mv (.t 1)), (some (38, true)), [8]⟩, ⟨(some 40), (.call 30 [(.t 39), (.c (.int .i64 6))]), (some (38, true)), [9, 8, 8]⟩, ⟨(some 41), (.bin .eql (.t 40) (.c (.int .i64 0))), (some (38, true)), [10, 8]⟩, ⟨(some 42), (.pick (.t 38) (.t 41) (.c (.bool false))), none, [8, 11]⟩, ⟨(some 43), (.mv (.t 42)), none, [12, 10]⟩, ⟨(some 44), (.mv (.t 1)), (some (43, true)), [13]⟩, ⟨(some 45), (.call 31 [(.t 44), (.c (.int .i64 6)), (.c (.int .i64 (-1)))]), (some (43, true)), [14, 13, 13]⟩, ⟨(some 46), (.pick (.t 43) (.t 45) (.c (.bool false))), none, [13, 15]⟩, ⟨(some 47), (.mv (.t 46)), none, [16, 15]⟩, ⟨(some 48), (.mv (.t 1)), (some (47, true)), [17]⟩, ⟨(some 49), (.call 26 [(.t 48)]), (some (47, true)), [18, 17, 17]⟩, ⟨(some 50), (.bslice 3 1 [(.int .i64 0)] 1 [(0, (.c (.int .i64 4)))]), (some (47, true)), [17]⟩, ⟨(some 51), (.call 25 [(.t 49), (.t 50)]), (some (47, true)), [19, 20, 19, 17]⟩, ⟨(some 52), (.pick (.t 47) (.t 51) (.c (.bool false))), none, [17, 21]⟩, ⟨(some 53), (.mv (.t 52)), none, [22, 21]⟩, ⟨(some 54), (.mv (.t 1)), (some (53, true)), [23]⟩, ⟨(some 55), (.build [(.int .i64 0), (.int .i64 0)] [(0, (1, (.c (.int .i64 6)))), (1, (1, (.c (.int .i64 6))))]), (some (53, true)), [23]⟩, ⟨(some 56), (.build [(.int .i64 0), (.int .i64 0)] [(0, (1, (.c (.int .i64 4)))), (1, (1, (.c (.int .i64 6))))]), (some (53, true)), [23]⟩, ⟨(some 57), (.call 33 [(.t 54), (.t 55), (.t 56)]), (some (53, true)), [24, 25, 26, 23, 23]⟩, ⟨(some 58), (.pick (.t 53) (.t 57) (.c (.bool false))), none, [23, 27]⟩, ⟨(some 5), (.mv (.t 58)), none, [28, 27, 0, 1, 2, 3, 4, 5, 6, 7, 8, 9, 10, 11, 12, 13, 14, 15, 16, 17, 18, 19, 20, 21, 22, 23, 24, 25, 26, 27, 28]⟩] false) (.seq (.reg [⟨(some 59), (.mv (.t 5)), none, []⟩, ⟨(some 60), (.mv (.t 59)), none, [0]⟩, ⟨(some 61), (.mv (.t 1)), (some (60, true)), [1]⟩, ⟨(some 62), (.call 29 [(.t 61), (.c (.int .i64 2)), (.c (.int .i64 0))]), (some (60, true)), [2, 1, 1]⟩, ⟨(some 63), (.bin .eql (.t 62) (.c (.int .i64 0))), (some (60, true)), [3, 1]⟩, ⟨(some 64), (.pick (.t 60) (.t 63) (.c (.bool false))), none, [1, 4]⟩, ⟨(some 65), (.mv (.t 64)), none, [5, 3]⟩, ⟨(some 66), (.mv (.t 1)), (some (65, true)), [6]⟩, ⟨(some 67), (.build [(.int .i64 0), (.int .i64 0)] [(0, (1, (.c (.int .i64 4)))), (1, (1, (.c (.int .i64 7))))]), (some (65, true)), [6]⟩, ⟨(some 68), (.build [(.int .i64 0), (.int .i64 0)] [(0, (1, (.c (.int .i64 4)))), (1, (1, (.c (.int .i64 7))))]), (some (65, true)), [6]⟩, ⟨(some 69), (.call 33 [(.t 66), (.t 67), (.t 68)]), (some (65, true)), [7, 8, 9, 6, 6]⟩, ⟨(some 70), (.pick (.t 65) (.t 69) (.c (.bool false))), none, [6, 10]⟩, ⟨(some 71), (.mv (.t 70)), none, [11, 10]⟩, ⟨(some 72), (.mv (.t 1)), (some (71, true)), [12]⟩, ⟨(some 73), (.call 30 [(.t 72), (.c (.int .i64 1))]), (some (71, true)), [13, 12, 12]⟩, ⟨(some 74), (.bin .eql (.t 73) (.c (.int .i64 40))), (some (71, true)), [14, 12]⟩, ⟨(some 75), (.pick (.t 71) (.t 74) (.c (.bool false))), none, [12, 15]⟩, ⟨(some 76), (.mv (.t 75)), none, [16, 14]⟩, ⟨(some 77), (.mv (.t 1)), (some (76, true)), [17]⟩, ⟨(some 78), (.call 29 [(.t 77), (.c (.int .i64 3)), (.c (.int .i64 0))]), (some (76, true)), [18, 17, 17]⟩, ⟨(some 79), (.bin .eql (.t 78) (.c (.int .i64 0))), (some (76, true)), [19, 17]⟩, ⟨(some 80), (.pick (.t 76) (.t 79) (.c (.bool false))), none, [17, 20]⟩, ⟨(some 81), (.mv (.t 80)), none, [21, 19]⟩, ⟨(some 82), (.mv (.t 1)), (some (81, true)), [22]⟩, ⟨(some 83), (.call 30 [(.t 82), (.c (.int .i64 1))]), (some (81, true)), [23, 22, 22]⟩, ⟨(some 84), (.bin .eql (.t 83) (.c (.int .i64 43))), (some (81, true)), [24, 22]⟩, ⟨(some 85), (.pick (.t 81) (.t 84) (.c (.bool false))), none, [22, 25]⟩, ⟨(some 5), (.mv (.t 85)), none, [26, 24, 0, 1, 2, 3, 4, 5, 6, 7, 8, 9, 10, 11, 12, 13, 14, 15, 16, 17, 18, 19, 20, 21, 22, 23, 24, 25, 26]⟩] false) (.seq (.reg [⟨(some 86), (.mv (.t 2)), none, []⟩, ⟨(some 87), (.call 30 [(.t 86), (.c (.int .i64 5))]), none, [0]⟩, ⟨(some 88), (.bin .eql (.t 87) (.c (.int .i64 0))), none, [1]⟩, ⟨(some 89), (.mv (.t 88)), none, [2, 1]⟩, ⟨(some 90), (.mv (.t 2)), (some (89, true)), [3]⟩, ⟨(some 91), (.call 29 [(.t 90), (.c (.int .i64 4)), (.c (.int .i64 0))]), (some (89, true)), [4, 3, 3]⟩, ⟨(some 92), (.bin .eql (.t 91) (.c (.int .i64 0))), (some (89, true)), [5, 3]⟩, ⟨(some 93), (.pick (.t 89) (.t 92) (.c (.bool false))), none, [3, 6]⟩, ⟨(some 94), (.mv (.t 93)), none, [7, 5]⟩, ⟨(some 95), (.mv (.t 2)), (some (94, true)), [8]⟩, ⟨(some 96), (.call 30 [(.t 95), (.c (.int .i64 3))]), (some (94, true)), [9, 8, 8]⟩, ⟨(some 97), (.bin .eql (.t 96) (.c (.int .i64 0))), (some (94, true)), [10, 8]⟩, ⟨(some 98), (.pick (.t 94) (.t 97) (.c (.bool false))), none, [8, 11]⟩, ⟨(some 99), (.mv (.t 98)), none, [12, 10]⟩, ⟨(some 100), (.mv (.t 2)), (some (99, true)), [13]⟩, ⟨(some 101), (.call 30 [(.t 100), (.c (.int .i64 6))]), (some (99, true)), [14, 13, 13]⟩, ⟨(some 102), (.bin .eql (.t 101) (.c (.int .i64 41))), (some (99, true)), [15, 13]⟩, ⟨(some 103), (.pick (.t 99) (.t 102) (.c (.bool false))), none, [13, 16]⟩, ⟨(some 104), (.mv (.t 103)), none, [17, 15]⟩, ⟨(some 105), (.mv (.t 2)), (some (104, true)), [18]⟩, ⟨(some 106), (.call 31 [(.t 105), (.c (.int .i64 8)), (.c (.int .i64 5))]), (some (104, true)), [19, 18, 18]⟩, ⟨(some 107), (.pick (.t 104) (.t 106) (.c (.bool false))), none, [18, 20]⟩, ⟨(some 108), (.mv (.t 107)), none, [21, 20]⟩, ⟨(some 109), (.mv (.t 2)), (some (108, true)), [22]⟩, ⟨(some 110), (.call 26 [(.t 109)]), (some (108, true)), [23, 22, 22]⟩, ⟨(some 111), (.bslice 3 1 [(.int .i64 0)] 2 [(0, (.c (.int .i64 4))), (1, (.c (.int .i64 8)))]), (some (108, true)), [22]⟩, ⟨(some 112), (.call 25 [(.t 110), (.t 111)]), (some (108, true)), [24, 25, 24, 22]⟩, ⟨(some 113), (.pick (.t 108) (.t 112) (.c (.bool false))), none, [22, 26]⟩, ⟨(some 114), (.mv (.t 113)), none, [27, 26]⟩, ⟨(some 115), (.mv (.t 2)), (some (114, true)), [28]⟩, ⟨(some 116), (.build [(.int .i64 0), (.int .i64 0)] [(0, (1, (.c (.int .i64 8)))), (1, (1, (.c (.int .i64 8))))]), (some (114, true)), [28]⟩, ⟨(some 117), (.build [(.int .i64 0), (.int .i64 0)] [(0, (1, (.c (.int .i64 4)))), (1, (1, (.c (.int .i64 8))))]), (some (114, true)), [28]⟩, ⟨(some 118), (.call 33 [(.t 115), (.t 116), (.t 117)]), (some (114, true)), [29, 30, 31, 28, 28]⟩, ⟨(some 119), (.pick (.t 114) (.t 118) (.c (.bool false))), none, [28, 32]⟩, ⟨(some 6), (.mv (.t 119)), none, [33, 32, 0, 1, 2, 3, 4, 5, 6, 7, 8, 9, 10, 11, 12, 13, 14, 15, 16, 17, 18, 19, 20, 21, 22, 23, 24, 25, 26, 27, 28, 29, 30, 31, 32, 33]⟩] false) (.seq (.reg [⟨(some 120), (.mv (.t 6)), none, []⟩, ⟨(some 121), (.mv (.t 120)), none, [0]⟩, ⟨(some 122), (.mv (.t 2)), (some (121, true)), [1]⟩, ⟨(some 123), (.call 29 [(.t 122), (.c (.int .i64 2)), (.c (.int .i64 0))]), (some (121, true)), [2, 1, 1]⟩, ⟨(some 124), (.bin .eql (.t 123) (.c (.int .i64 0))), (some (121, true)), [3, 1]⟩, ⟨(some 125), (.pick (.t 121) (.t 124) (.c (.bool false))), none, [1, 4]⟩, ⟨(some 126), (.mv (.t 125)), none, [5, 3]⟩, ⟨(some 127), (.mv (.t 2)), (some (126, true)), [6]⟩, ⟨(some 128), (.build [(.int .i64 0), (.int .i64 0)] [(0, (1, (.c (.int .i64 8)))), (1, (1, (.c (.int .i64 8))))]), (some (126, true)), [6]⟩, ⟨(some 129), (.build [(.int .i64 0), (.int .i64 0)] [(0, (1, (.c (.int .i64 4)))), (1, (1, (.c (.int .i64 8))))]), (some (126, true)), [6]⟩, ⟨(some 130), (.call 33 [(.t 127), (.t 128), (.t 129)]), (some (126, true)), [7, 8, 9, 6, 6]⟩, ⟨(some 131), (.pick (.t 126) (.t 130) (.c (.bool false))), none, [6, 10]⟩, ⟨(some 6), (.mv (.t 131)), none, [11, 10, 0, 1, 2, 3, 4, 5, 6, 7, 8, 9, 10, 11]⟩] false) (.seq (.reg [⟨(some 132), (.mv (.t 3)), none, []⟩, ⟨(some 133), (.call 29 [(.t 132), (.c (.int .i64 5)), (.c (.int .i64 3))]), none, [0]⟩, ⟨(some 134), (.bin .eql (.t 133) (.c (.int .i64 0))), none, [1]⟩, ⟨(some 135), (.mv (.t 134)), none, [2, 1]⟩, ⟨(some 136), (.mv (.t 3)), (some (135, true)), [3]⟩, ⟨(some 137), (.call 30 [(.t 136), (.c (.int .i64 8))]), (some (135, true)), [4, 3, 3]⟩, ⟨(some 138), (.bin .eql (.t 137) (.c (.int .i64 0))), (some (135, true)), [5, 3]⟩, ⟨(some 139), (.pick (.t 135) (.t 138) (.c (.bool false))), none, [3, 6]⟩, ⟨(some 140), (.mv (.t 139)), none, [7, 5]⟩, ⟨(some 141), (.mv (.t 3)), (some (140, true)), [8]⟩, ⟨(some 142), (.call 29 [(.t 141), (.c (.int .i64 5)), (.c (.int .i64 2))]), (some (140, true)), [9, 8, 8]⟩, ⟨(some 143), (.bin .eql (.t 142) (.c (.int .i64 0))), (some (140, true)), [10, 8]⟩, ⟨(some 144), (.pick (.t 140) (.t 143) (.c (.bool false))), none, [8, 11]⟩, ⟨(some 145), (.mv (.t 144)), none, [12, 10]⟩, ⟨(some 146), (.mv (.t 3)), (some (145, true)), [13]⟩, ⟨(some 147), (.call 30 [(.t 146), (.c (.int .i64 1))]), (some (145, true)), [14, 13, 13]⟩, ⟨(some 148), (.bin .eql (.t 147) (.c (.int .i64 0))), (some (145, true)), [15, 13]⟩, ⟨(some 149), (.pick (.t 145) (.t 148) (.c (.bool false))), none, [13, 16]⟩, ⟨(some 150), (.mv (.t 149)), none, [17, 15]⟩, ⟨(some 151), (.mv (.t 3)), (some (150, true)), [18]⟩, ⟨(some 152), (.call 31 [(.t 151), (.c (.int .i64 3)), (.c (.int .i64 (-1)))]), (some (150, true)), [19, 18, 18]⟩, ⟨(some 153), (.pick (.t 150) (.t 152) (.c (.bool false))), none, [18, 20]⟩, ⟨(some 154), (.mv (.t 153)), none, [21, 20]⟩, ⟨(some 155), (.mv (.t 3)), (some (154, true)), [22]⟩, ⟨(some 156), (.call 23 [(.t 155)]), (some (154, true)), [23, 22, 22]⟩, ⟨(some 157), (.bin .eql (.t 156) (.c (.int .i64 9))), (some (154, true)), [24, 22]⟩, ⟨(some 158), (.pick (.t 154) (.t 157) (.c (.bool false))), none, [22, 25]⟩, ⟨(some 7), (.mv (.t 158)), none, [26, 24, 0, 1, 2, 3, 4, 5, 6, 7, 8, 9, 10, 11, 12, 13, 14, 15, 16, 17, 18, 19, 20, 21, 22, 23, 24, 25, 26]⟩] false) (.seq (.reg [⟨(some 159), (.mv (.t 5)), none, []⟩, ⟨(some 160), (.mv (.t 159)), none, [0]⟩, ⟨(some 161), (.mv (.t 6)), (some (160, true)), [1]⟩, ⟨(some 162), (.pick (.t 160) (.t 161) (.c (.bool false))), none, [1, 2]⟩, ⟨(some 163), (.mv (.t 162)), none, [3, 1]⟩, ⟨(some 164), (.mv (.t 7)), (some (163, true)), [4]⟩, ⟨(some 165), (.pick (.t 163) (.t 164) (.c (.bool false))), none, [4, 5]⟩, ⟨(some 166), (.mv (.t 165)), none, [6, 4]⟩, ⟨(some 167), (.mv (.t 4)), (some (166, true)), [7]⟩, ⟨(some 168), (.call 30 [(.t 167), (.c (.int .i64 10))]), (some (166, true)), [8, 7, 7]⟩, ⟨(some 169), (.bin .eql (.t 168) (.c (.int .i64 0))), (some (166, true)), [9, 7]⟩, ⟨(some 170), (.pick (.t 166) (.t 169) (.c (.bool false))), none, [7, 10]⟩, ⟨(some 171), (.mv (.t 170)), none, [11, 9]⟩, ⟨(some 172), (.mv (.t 4)), (some (171, true)), [12]⟩, ⟨(some 173), (.call 29 [(.t 172), (.c (.int .i64 2)), (.c (.int .i64 0))]), (some (171, true)), [13, 12, 12]⟩, ⟨(some 174), (.bin .eql (.t 173) (.c (.int .i64 0))), (some (171, true)), [14, 12]⟩, ⟨(some 175), (.pick (.t 171) (.t 174) (.c (.bool false))), none, [12, 15]⟩, ⟨(some 176), (.mv (.t 175)), none, [16, 14]⟩, ⟨(some 177), (.mv (.t 4)), (some (176, true)), [17]⟩, ⟨(some 178), (.call 26 [(.t 177)]), (some (176, true)), [18, 17, 17]⟩, ⟨(some 179), (.bslice 3 1 [(.int .i64 0)] 3 [(0, (.c (.int .i64 4))), (1, (.c (.int .i64 8))), (2, (.c (.int .i64 10)))]), (some (176, true)), [17]⟩, ⟨(some 180), (.call 25 [(.t 178), (.t 179)]), (some (176, true)), [19, 20, 19, 17]⟩, ⟨(some 181), (.pick (.t 176) (.t 180) (.c (.bool false))), none, [17, 21]⟩, ⟨(some 182), (.mv (.t 181)), none, [22, 21]⟩, ⟨(some 183), (.mv (.t 4)), (some (182, true)), [23]⟩, ⟨(some 184), (.build [(.int .i64 0), (.int .i64 0)] [(0, (1, (.c (.int .i64 10)))), (1, (1, (.c (.int .i64 10))))]), (some (182, true)), [23]⟩, ⟨(some 185), (.build [(.int .i64 0), (.int .i64 0)] [(0, (1, (.c (.int .i64 10)))), (1, (1, (.c (.int .i64 10))))]), (some (182, true)), [23]⟩, ⟨(some 186), (.call 33 [(.t 183), (.t 184), (.t 185)]), (some (182, true)), [24, 25, 26, 23, 23]⟩, ⟨(some 187), (.pick (.t 182) (.t 186) (.c (.bool false))), none, [23, 27]⟩, ⟨(some 0), (.mv (.t 187)), none, [28, 27, 0, 1, 2, 3, 4, 5, 6, 7, 8, 9, 10, 11, 12, 13, 14, 15, 16, 17, 18, 19, 20, 21, 22, 23, 24, 25, 26, 27, 28]⟩] false) .ret)))))))))
theorem mcOkc9 : (match Try.f9.body with | some c => compC Try.prog 188 c | none => none) = some mcc9 := by kernel_rfl

theorem gc9  : FC Try.prog 9 [] [] (.bool true) [] false := by
  refine fc_run (nt := 188) Try.func9 rfl rfl mcOkc9 (Nat.le_of_ble_eq_true rfl) ?_
  delta mcc9
  refine aw_seq ?_
  refine aw_reg ?_
  refine rs_mv rfl rfl ?_
  refine rs_nil fun _ => ?_
  refine th_n ?_
  refine aw_seq ?_
  refine aw_reg ?_
  refine rs_calln [] rfl rfl gc34 .nil rfl ?_
  refine rs_calln [] rfl rfl (nw_A) (.cons (hv_same rfl) (.cons (hv_same rfl) (.nil))) rfl ?_
  refine rs_calln [] rfl rfl gc34 .nil rfl ?_
  refine rs_calln [] rfl rfl (nw_B) (.cons (hv_same rfl) (.cons (hv_same rfl) (.nil))) rfl ?_
  refine rs_calln [] rfl rfl gc34 .nil rfl ?_
  refine rs_calln [] rfl rfl (nw_D) (.cons (hv_same rfl) (.cons (hv_same rfl) (.nil))) rfl ?_
  refine rs_calln [] rfl rfl gc34 .nil rfl ?_
  refine rs_calln [] rfl rfl (nw_F) (.cons (hv_same rfl) (.cons (hv_same rfl) (.nil))) rfl ?_
  refine rs_mv rfl rfl ?_
  refine rs_mv rfl rfl ?_
  refine rs_mv rfl rfl ?_
  refine rs_mv rfl rfl ?_
  refine rs_nil fun _ => ?_
  refine th_n ?_
  refine aw_seq ?_
  refine aw_seq ?_
  refine aw_reg ?_
  refine rs_mv rfl rfl ?_
  refine rs_nil_p rfl rfl (.inr ⟨_, _, _, rfl⟩) ?_
  refine rs_mv rfl rfl ?_
  refine rs_mv rfl rfl ?_
  refine rs_nil_p rfl rfl (.inr ⟨_, _, _, rfl⟩) ?_
  refine rs_pick rfl rfl rfl ?_
  refine rs_mv rfl rfl ?_
  refine rs_mv rfl rfl ?_
  refine rs_nil_p rfl rfl (.inr ⟨_, _, _, rfl⟩) ?_
  refine rs_pick rfl rfl rfl ?_
  refine rs_mv rfl rfl ?_
  refine rs_mv rfl rfl ?_
  refine rs_nil_p rfl rfl (.inr ⟨_, _, _, rfl⟩) ?_
  refine rs_pick rfl rfl rfl ?_
  refine rs_nil fun _ => ?_
  refine th_n ?_
  refine aw_cond rfl (fun h => by cases h) (fun _ => ?_)
  refine aw_skip ?_
  refine th_n ?_
  refine aw_seq ?_
  refine aw_weak (F0 := [(1, .ptr 900 0 0), (2, .ptr 910 0 0), (3, .ptr 920 0 0), (4, .ptr 930 0 0)]) (H0 := [(900, ctlO 901 sA0), (901, rowO sA0.rs), (910, ctlO 911 sB0), (911, rowO sB0.rs), (920, ctlO 921 sD0), (921, rowO sD0.rs), (930, ctlO 931 sF0), (931, rowO sF0.rs)]) (weak_to (.cons rfl (rc_same rfl (.inl rfl)) (.cons rfl (rc_same rfl (.inl rfl)) (.cons rfl (rc_same rfl (.inl rfl)) (.cons rfl (rc_same rfl (.inl rfl)) (.nil))))) (.keep (rfl) rfl (.keep (rfl) rfl (.keep (rfl) rfl (.keep (rfl) rfl (.keep (rfl) rfl (.keep (rfl) rfl (.keep (rfl) rfl (.keep (rfl) rfl (.nil))))))))) (fun i h => by cases h)) ?_
  refine aw_reg ?_
  refine rs_mv rfl rfl ?_
  refine rs_calln [900, 901] rfl rfl (gc31 sA0 0 (-1) true (ivA0.sm (by decide)) rfl) (.cons (hv_obj (by simp) rfl (.sl (by simp) rfl (by simp) (.int (.bool (.int (.int (.int (.int (.int (.int (.bool (.int (.bool (.bool (.bool (.bool .nil)))))))))))))))) (.cons (hv_same rfl) (.cons (hv_same rfl) (.nil)))) rfl ?_
  refine rs_mv rfl rfl ?_
  refine rs_mv rfl rfl ?_
  refine rs_build rfl rfl ?_
  refine rs_build rfl rfl ?_
  refine rs_calln [900, 901] rfl rfl (gc33 sA0 0 0 0 0 0 0 true (ivA0.sm (by decide)) ivA0.ls (by kernel_rfl) rfl) (.cons (hv_obj (by simp) rfl (.sl (by simp) rfl (by simp) (.int (.bool (.int (.int (.int (.int (.int (.int (.bool (.int (.bool (.bool (.bool (.bool .nil)))))))))))))))) (.cons (hv_same rfl) (.cons (hv_same rfl) (.nil)))) rfl ?_
  refine rs_pick rfl rfl rfl ?_
  refine rs_mv rfl rfl ?_
  refine rs_mv rfl rfl ?_
  refine rs_callo (hC 900 901 sA0) rfl rfl (at30 900 901 902 rfl sA0 sA1 6 0 0 ivA0 (by decide) eqA1) (.cons (hv_same rfl) (.cons (hv_same rfl) (.nil))) (.cons rfl (.cons rfl (.nil))) rfl rfl rfl ?_
  refine rs_cmp_t rfl rfl rfl rfl rfl ?_
  refine rs_pick rfl rfl rfl ?_
  refine rs_mv rfl rfl ?_
  refine rs_mv rfl rfl ?_
  refine rs_calln [900, 902] rfl rfl (gc31 sA1 6 (-1) true (ivA1.sm (by decide)) rfl) (.cons (hv_obj (by simp) rfl (.sl (by simp) rfl (by simp) (.int (.bool (.int (.int (.int (.int (.int (.int (.bool (.int (.bool (.bool (.bool (.bool .nil)))))))))))))))) (.cons (hv_same rfl) (.cons (hv_same rfl) (.nil)))) rfl ?_
  refine rs_pick rfl rfl rfl ?_
  refine rs_mv rfl rfl ?_
  refine rs_mv rfl rfl ?_
  refine rs_calln [900, 902] rfl rfl (gc26 sA1 (ivA1.sm (by decide))) (.cons (hv_obj (by simp) rfl (.sl (by simp) rfl (by simp) (.int (.bool (.int (.int (.int (.int (.int (.int (.bool (.int (.bool (.bool (.bool (.bool .nil)))))))))))))))) (.nil)) rfl ?_
  refine rs_bslice (l := (([4] : List Int)).flatMap ci) (els := (([4] : List Int)).map ci) (fl := true) rfl (by kernel_rfl) rfl rfl (by kernel_rfl) (by kernel_rfl) ?_
  refine rs_calln [50] rfl rfl (gc25t [4] (by decide)) (.cons (hv_same rfl) (.cons (hv_slm (by simp) rfl rfl) (.nil))) rfl ?_
  refine rs_pick rfl rfl rfl ?_
  refine rs_mv rfl rfl ?_
  refine rs_mv rfl rfl ?_
  refine rs_build rfl rfl ?_
  refine rs_build rfl rfl ?_
  refine rs_calln [900, 902] rfl rfl (gc33 sA1 6 6 6 6 4 6 true (ivA1.sm (by decide)) ivA1.ls (by kernel_rfl) rfl) (.cons (hv_obj (by simp) rfl (.sl (by simp) rfl (by simp) (.int (.bool (.int (.int (.int (.int (.int (.int (.bool (.int (.bool (.bool (.bool (.bool .nil)))))))))))))))) (.cons (hv_same rfl) (.cons (hv_same rfl) (.nil)))) rfl ?_
  refine rs_pick rfl rfl rfl ?_
  refine rs_mv rfl rfl ?_
  refine rs_nil fun _ => ?_
  refine th_n ?_
  refine aw_seq ?_
  refine aw_weak (F0 := [(1, .ptr 900 0 0), (2, .ptr 910 0 0), (3, .ptr 920 0 0), (4, .ptr 930 0 0), (5, .bool true)]) (H0 := [(900, ctlO 902 sA1), (902, rowO sA1.rs), (910, ctlO 911 sB0), (911, rowO sB0.rs), (920, ctlO 921 sD0), (921, rowO sD0.rs), (930, ctlO 931 sF0), (931, rowO sF0.rs)]) (weak_to (.cons rfl (rc_same rfl (.inl rfl)) (.cons rfl (rc_same rfl (.inl rfl)) (.cons rfl (rc_same rfl (.inl rfl)) (.cons rfl (rc_same rfl (.inl rfl)) (.cons rfl (rc_same rfl (.inl rfl)) (.nil)))))) (.keep (rfl) rfl (.keep (rfl) rfl (.keep (rfl) rfl (.keep (rfl) rfl (.keep (rfl) rfl (.keep (rfl) rfl (.keep (rfl) rfl (.keep (rfl) rfl (.nil))))))))) (fun i h => by cases h)) ?_
  refine aw_reg ?_
  refine rs_mv rfl rfl ?_
  refine rs_mv rfl rfl ?_
  refine rs_mv rfl rfl ?_
  refine rs_callo (hC 900 902 sA1) rfl rfl (at29 900 902 903 rfl sA1 sA2 2 0 0 (ivA1.sm (by decide)) eqA2) (.cons (hv_same rfl) (.cons (hv_same rfl) (.cons (hv_same rfl) (.nil)))) (.cons rfl (.cons rfl (.nil))) rfl rfl rfl ?_
  refine rs_cmp_t rfl rfl rfl rfl rfl ?_
  refine rs_pick rfl rfl rfl ?_
  refine rs_mv rfl rfl ?_
  refine rs_mv rfl rfl ?_
  refine rs_build rfl rfl ?_
  refine rs_build rfl rfl ?_
  refine rs_calln [900, 903] rfl rfl (gc33 sA2 4 7 4 7 4 7 true (ivA2.sm (by decide)) ivA2.ls (by kernel_rfl) rfl) (.cons (hv_obj (by simp) rfl (.sl (by simp) rfl (by simp) (.int (.bool (.int (.int (.int (.int (.int (.int (.bool (.int (.bool (.bool (.bool (.bool .nil)))))))))))))))) (.cons (hv_same rfl) (.cons (hv_same rfl) (.nil)))) rfl ?_
  refine rs_pick rfl rfl rfl ?_
  refine rs_mv rfl rfl ?_
  refine rs_mv rfl rfl ?_
  refine rs_callo (hC 900 903 sA2) rfl rfl (at30 900 903 904 rfl sA2 sA3 1 40 7 ivA2 (by decide) eqA3) (.cons (hv_same rfl) (.cons (hv_same rfl) (.nil))) (.cons rfl (.cons rfl (.nil))) rfl rfl rfl ?_
  refine rs_cmp_t rfl rfl rfl rfl rfl ?_
  refine rs_pick rfl rfl rfl ?_
  refine rs_mv rfl rfl ?_
  refine rs_mv rfl rfl ?_
  refine rs_callo (hC 900 904 sA3) rfl rfl (at29 900 904 905 rfl sA3 sA4 3 0 0 (ivA3.sm (by decide)) eqA4) (.cons (hv_same rfl) (.cons (hv_same rfl) (.cons (hv_same rfl) (.nil)))) (.cons rfl (.cons rfl (.nil))) rfl rfl rfl ?_
  refine rs_cmp_t rfl rfl rfl rfl rfl ?_
  refine rs_pick rfl rfl rfl ?_
  refine rs_mv rfl rfl ?_
  refine rs_mv rfl rfl ?_
  refine rs_callo (hC 900 905 sA4) rfl rfl (at30 900 905 906 rfl sA4 sA5 1 43 9 ivA4 (by decide) eqA5) (.cons (hv_same rfl) (.cons (hv_same rfl) (.nil))) (.cons rfl (.cons rfl (.nil))) rfl rfl rfl ?_
  refine rs_cmp_t rfl rfl rfl rfl rfl ?_
  refine rs_pick rfl rfl rfl ?_
  refine rs_mv rfl rfl ?_
  refine rs_nil fun _ => ?_
  refine th_n ?_
  refine aw_seq ?_
  refine aw_weak (F0 := [(1, .ptr 900 0 0), (2, .ptr 910 0 0), (3, .ptr 920 0 0), (4, .ptr 930 0 0), (5, .bool true)]) (H0 := [(900, ctlO 906 sA5), (906, rowO sA5.rs), (910, ctlO 911 sB0), (911, rowO sB0.rs), (920, ctlO 921 sD0), (921, rowO sD0.rs), (930, ctlO 931 sF0), (931, rowO sF0.rs)]) (weak_to (.cons rfl (rc_same rfl (.inl rfl)) (.cons rfl (rc_same rfl (.inl rfl)) (.cons rfl (rc_same rfl (.inl rfl)) (.cons rfl (rc_same rfl (.inl rfl)) (.cons rfl (rc_same rfl (.inl rfl)) (.nil)))))) (.keep (rfl) rfl (.keep (rfl) rfl (.keep (rfl) rfl (.keep (rfl) rfl (.keep (rfl) rfl (.keep (rfl) rfl (.keep (rfl) rfl (.keep (rfl) rfl (.nil))))))))) (fun i h => by cases h)) ?_
  refine aw_reg ?_
  refine rs_mv rfl rfl ?_
  refine rs_callo (hC 910 911 sB0) rfl rfl (at30 910 911 912 rfl sB0 sB1 5 0 0 ivB0 (by decide) eqB1) (.cons (hv_same rfl) (.cons (hv_same rfl) (.nil))) (.cons rfl (.cons rfl (.nil))) rfl rfl rfl ?_
  refine rs_cmp_t rfl rfl rfl rfl rfl ?_
  refine rs_mv rfl rfl ?_
  refine rs_mv rfl rfl ?_
  refine rs_callo (hC 910 912 sB1) rfl rfl (at29 910 912 913 rfl sB1 sB2 4 0 0 (ivB1.sm (by decide)) eqB2) (.cons (hv_same rfl) (.cons (hv_same rfl) (.cons (hv_same rfl) (.nil)))) (.cons rfl (.cons rfl (.nil))) rfl rfl rfl ?_
  refine rs_cmp_t rfl rfl rfl rfl rfl ?_
  refine rs_pick rfl rfl rfl ?_
  refine rs_mv rfl rfl ?_
  refine rs_mv rfl rfl ?_
  refine rs_callo (hC 910 913 sB2) rfl rfl (at30 910 913 914 rfl sB2 sB3 3 0 6 ivB2 (by decide) eqB3) (.cons (hv_same rfl) (.cons (hv_same rfl) (.nil))) (.cons rfl (.cons rfl (.nil))) rfl rfl rfl ?_
  refine rs_cmp_t rfl rfl rfl rfl rfl ?_
  refine rs_pick rfl rfl rfl ?_
  refine rs_mv rfl rfl ?_
  refine rs_mv rfl rfl ?_
  refine rs_callo (hC 910 914 sB3) rfl rfl (at30 910 914 915 rfl sB3 sB4 6 41 9 ivB3 (by decide) eqB4) (.cons (hv_same rfl) (.cons (hv_same rfl) (.nil))) (.cons rfl (.cons rfl (.nil))) rfl rfl rfl ?_
  refine rs_cmp_t rfl rfl rfl rfl rfl ?_
  refine rs_pick rfl rfl rfl ?_
  refine rs_mv rfl rfl ?_
  refine rs_mv rfl rfl ?_
  refine rs_calln [910, 915] rfl rfl (gc31 sB4 8 (5) true (ivB4.sm (by decide)) rfl) (.cons (hv_obj (by simp) rfl (.sl (by simp) rfl (by simp) (.int (.bool (.int (.int (.int (.int (.int (.int (.bool (.int (.bool (.bool (.bool (.bool .nil)))))))))))))))) (.cons (hv_same rfl) (.cons (hv_same rfl) (.nil)))) rfl ?_
  refine rs_pick rfl rfl rfl ?_
  refine rs_mv rfl rfl ?_
  refine rs_mv rfl rfl ?_
  refine rs_calln [910, 915] rfl rfl (gc26 sB4 (ivB4.sm (by decide))) (.cons (hv_obj (by simp) rfl (.sl (by simp) rfl (by simp) (.int (.bool (.int (.int (.int (.int (.int (.int (.bool (.int (.bool (.bool (.bool (.bool .nil)))))))))))))))) (.nil)) rfl ?_
  refine rs_bslice (l := (([4, 8] : List Int)).flatMap ci) (els := (([4, 8] : List Int)).map ci) (fl := true) rfl (by kernel_rfl) rfl rfl (by kernel_rfl) (by kernel_rfl) ?_
  refine rs_calln [111] rfl rfl (gc25t [4, 8] (by decide)) (.cons (hv_same rfl) (.cons (hv_slm (by simp) rfl rfl) (.nil))) rfl ?_
  refine rs_pick rfl rfl rfl ?_
  refine rs_mv rfl rfl ?_
  refine rs_mv rfl rfl ?_
  refine rs_build rfl rfl ?_
  refine rs_build rfl rfl ?_
  refine rs_calln [910, 915] rfl rfl (gc33 sB4 8 8 8 8 4 8 true (ivB4.sm (by decide)) ivB4.ls (by kernel_rfl) rfl) (.cons (hv_obj (by simp) rfl (.sl (by simp) rfl (by simp) (.int (.bool (.int (.int (.int (.int (.int (.int (.bool (.int (.bool (.bool (.bool (.bool .nil)))))))))))))))) (.cons (hv_same rfl) (.cons (hv_same rfl) (.nil)))) rfl ?_
  refine rs_pick rfl rfl rfl ?_
  refine rs_mv rfl rfl ?_
  refine rs_nil fun _ => ?_
  refine th_n ?_
  refine aw_seq ?_
  refine aw_weak (F0 := [(1, .ptr 900 0 0), (2, .ptr 910 0 0), (3, .ptr 920 0 0), (4, .ptr 930 0 0), (5, .bool true), (6, .bool true)]) (H0 := [(900, ctlO 906 sA5), (906, rowO sA5.rs), (910, ctlO 915 sB4), (915, rowO sB4.rs), (920, ctlO 921 sD0), (921, rowO sD0.rs), (930, ctlO 931 sF0), (931, rowO sF0.rs)]) (weak_to (.cons rfl (rc_same rfl (.inl rfl)) (.cons rfl (rc_same rfl (.inl rfl)) (.cons rfl (rc_same rfl (.inl rfl)) (.cons rfl (rc_same rfl (.inl rfl)) (.cons rfl (rc_same rfl (.inl rfl)) (.cons rfl (rc_same rfl (.inl rfl)) (.nil))))))) (.keep (rfl) rfl (.keep (rfl) rfl (.keep (rfl) rfl (.keep (rfl) rfl (.keep (rfl) rfl (.keep (rfl) rfl (.keep (rfl) rfl (.keep (rfl) rfl (.nil))))))))) (fun i h => by cases h)) ?_
  refine aw_reg ?_
  refine rs_mv rfl rfl ?_
  refine rs_mv rfl rfl ?_
  refine rs_mv rfl rfl ?_
  refine rs_callo (hC 910 915 sB4) rfl rfl (at29 910 915 916 rfl sB4 sB5 2 0 0 (ivB4.sm (by decide)) eqB5) (.cons (hv_same rfl) (.cons (hv_same rfl) (.cons (hv_same rfl) (.nil)))) (.cons rfl (.cons rfl (.nil))) rfl rfl rfl ?_
  refine rs_cmp_t rfl rfl rfl rfl rfl ?_
  refine rs_pick rfl rfl rfl ?_
  refine rs_mv rfl rfl ?_
  refine rs_mv rfl rfl ?_
  refine rs_build rfl rfl ?_
  refine rs_build rfl rfl ?_
  refine rs_calln [910, 916] rfl rfl (gc33 sB5 8 8 8 8 4 8 true (ivB5.sm (by decide)) ivB5.ls (by kernel_rfl) rfl) (.cons (hv_obj (by simp) rfl (.sl (by simp) rfl (by simp) (.int (.bool (.int (.int (.int (.int (.int (.int (.bool (.int (.bool (.bool (.bool (.bool .nil)))))))))))))))) (.cons (hv_same rfl) (.cons (hv_same rfl) (.nil)))) rfl ?_
  refine rs_pick rfl rfl rfl ?_
  refine rs_mv rfl rfl ?_
  refine rs_nil fun _ => ?_
  refine th_n ?_
  refine aw_seq ?_
  refine aw_weak (F0 := [(1, .ptr 900 0 0), (2, .ptr 910 0 0), (3, .ptr 920 0 0), (4, .ptr 930 0 0), (5, .bool true), (6, .bool true)]) (H0 := [(900, ctlO 906 sA5), (906, rowO sA5.rs), (910, ctlO 916 sB5), (916, rowO sB5.rs), (920, ctlO 921 sD0), (921, rowO sD0.rs), (930, ctlO 931 sF0), (931, rowO sF0.rs)]) (weak_to (.cons rfl (rc_same rfl (.inl rfl)) (.cons rfl (rc_same rfl (.inl rfl)) (.cons rfl (rc_same rfl (.inl rfl)) (.cons rfl (rc_same rfl (.inl rfl)) (.cons rfl (rc_same rfl (.inl rfl)) (.cons rfl (rc_same rfl (.inl rfl)) (.nil))))))) (.keep (rfl) rfl (.keep (rfl) rfl (.keep (rfl) rfl (.keep (rfl) rfl (.keep (rfl) rfl (.keep (rfl) rfl (.keep (rfl) rfl (.keep (rfl) rfl (.nil))))))))) (fun i h => by cases h)) ?_
  refine aw_reg ?_
  refine rs_mv rfl rfl ?_
  refine rs_callo (hC 920 921 sD0) rfl rfl (at29 920 921 922 rfl sD0 sD1 5 3 0 (ivD0.sm (by decide)) eqD1) (.cons (hv_same rfl) (.cons (hv_same rfl) (.cons (hv_same rfl) (.nil)))) (.cons rfl (.cons rfl (.nil))) rfl rfl rfl ?_
  refine rs_cmp_t rfl rfl rfl rfl rfl ?_
  refine rs_mv rfl rfl ?_
  refine rs_mv rfl rfl ?_
  refine rs_callo (hC 920 922 sD1) rfl rfl (at30 920 922 923 rfl sD1 sD2 8 0 1 ivD1 (by decide) eqD2) (.cons (hv_same rfl) (.cons (hv_same rfl) (.nil))) (.cons rfl (.cons rfl (.nil))) rfl rfl rfl ?_
  refine rs_cmp_t rfl rfl rfl rfl rfl ?_
  refine rs_pick rfl rfl rfl ?_
  refine rs_mv rfl rfl ?_
  refine rs_mv rfl rfl ?_
  refine rs_callo (hC 920 923 sD2) rfl rfl (at29 920 923 924 rfl sD2 sD3 5 2 0 (ivD2.sm (by decide)) eqD3) (.cons (hv_same rfl) (.cons (hv_same rfl) (.cons (hv_same rfl) (.nil)))) (.cons rfl (.cons rfl (.nil))) rfl rfl rfl ?_
  refine rs_cmp_t rfl rfl rfl rfl rfl ?_
  refine rs_pick rfl rfl rfl ?_
  refine rs_mv rfl rfl ?_
  refine rs_mv rfl rfl ?_
  refine rs_callo (hC 920 924 sD3) rfl rfl (at30 920 924 925 rfl sD3 sD4 1 0 10 ivD3 (by decide) eqD4) (.cons (hv_same rfl) (.cons (hv_same rfl) (.nil))) (.cons rfl (.cons rfl (.nil))) rfl rfl rfl ?_
  refine rs_cmp_t rfl rfl rfl rfl rfl ?_
  refine rs_pick rfl rfl rfl ?_
  refine rs_mv rfl rfl ?_
  refine rs_mv rfl rfl ?_
  refine rs_calln [920, 925] rfl rfl (gc31 sD4 3 (-1) true (ivD4.sm (by decide)) rfl) (.cons (hv_obj (by simp) rfl (.sl (by simp) rfl (by simp) (.int (.bool (.int (.int (.int (.int (.int (.int (.bool (.int (.bool (.bool (.bool (.bool .nil)))))))))))))))) (.cons (hv_same rfl) (.cons (hv_same rfl) (.nil)))) rfl ?_
  refine rs_pick rfl rfl rfl ?_
  refine rs_mv rfl rfl ?_
  refine rs_mv rfl rfl ?_
  refine rs_calln [920, 925] rfl rfl (gc23 sD4 (ivD4.sm (by decide))) (.cons (hv_obj (by simp) rfl (.sl (by simp) rfl (by simp) (.int (.bool (.int (.int (.int (.int (.int (.int (.bool (.int (.bool (.bool (.bool (.bool .nil)))))))))))))))) (.nil)) rfl ?_
  refine rs_cmp_t rfl rfl rfl rfl rfl ?_
  refine rs_pick rfl rfl rfl ?_
  refine rs_mv rfl rfl ?_
  refine rs_nil fun _ => ?_
  refine th_n ?_
  refine aw_seq ?_
  refine aw_weak (F0 := [(1, .ptr 900 0 0), (2, .ptr 910 0 0), (3, .ptr 920 0 0), (4, .ptr 930 0 0), (5, .bool true), (6, .bool true), (7, .bool true)]) (H0 := [(900, ctlO 906 sA5), (906, rowO sA5.rs), (910, ctlO 916 sB5), (916, rowO sB5.rs), (920, ctlO 925 sD4), (925, rowO sD4.rs), (930, ctlO 931 sF0), (931, rowO sF0.rs)]) (weak_to (.cons rfl (rc_same rfl (.inl rfl)) (.cons rfl (rc_same rfl (.inl rfl)) (.cons rfl (rc_same rfl (.inl rfl)) (.cons rfl (rc_same rfl (.inl rfl)) (.cons rfl (rc_same rfl (.inl rfl)) (.cons rfl (rc_same rfl (.inl rfl)) (.cons rfl (rc_same rfl (.inl rfl)) (.nil)))))))) (.keep (rfl) rfl (.keep (rfl) rfl (.keep (rfl) rfl (.keep (rfl) rfl (.keep (rfl) rfl (.keep (rfl) rfl (.keep (rfl) rfl (.keep (rfl) rfl (.nil))))))))) (fun i h => by cases h)) ?_
  refine aw_reg ?_
  refine rs_mv rfl rfl ?_
  refine rs_mv rfl rfl ?_
  refine rs_mv rfl rfl ?_
  refine rs_pick rfl rfl rfl ?_
  refine rs_mv rfl rfl ?_
  refine rs_mv rfl rfl ?_
  refine rs_pick rfl rfl rfl ?_
  refine rs_mv rfl rfl ?_
  refine rs_mv rfl rfl ?_
  refine rs_callo (hC 930 931 sF0) rfl rfl (at30 930 931 932 rfl sF0 sF1 10 0 0 ivF0 (by decide) eqF1) (.cons (hv_same rfl) (.cons (hv_same rfl) (.nil))) (.cons rfl (.cons rfl (.nil))) rfl rfl rfl ?_
  refine rs_cmp_t rfl rfl rfl rfl rfl ?_
  refine rs_pick rfl rfl rfl ?_
  refine rs_mv rfl rfl ?_
  refine rs_mv rfl rfl ?_
  refine rs_callo (hC 930 932 sF1) rfl rfl (at29 930 932 933 rfl sF1 sF2 2 0 0 (ivF1.sm (by decide)) eqF2) (.cons (hv_same rfl) (.cons (hv_same rfl) (.cons (hv_same rfl) (.nil)))) (.cons rfl (.cons rfl (.nil))) rfl rfl rfl ?_
  refine rs_cmp_t rfl rfl rfl rfl rfl ?_
  refine rs_pick rfl rfl rfl ?_
  refine rs_mv rfl rfl ?_
  refine rs_mv rfl rfl ?_
  refine rs_calln [930, 933] rfl rfl (gc26 sF2 (ivF2.sm (by decide))) (.cons (hv_obj (by simp) rfl (.sl (by simp) rfl (by simp) (.int (.bool (.int (.int (.int (.int (.int (.int (.bool (.int (.bool (.bool (.bool (.bool .nil)))))))))))))))) (.nil)) rfl ?_
  refine rs_bslice (l := (([4, 8, 10] : List Int)).flatMap ci) (els := (([4, 8, 10] : List Int)).map ci) (fl := true) rfl (by kernel_rfl) rfl rfl (by kernel_rfl) (by kernel_rfl) ?_
  refine rs_calln [179] rfl rfl (gc25t [4, 8, 10] (by decide)) (.cons (hv_same rfl) (.cons (hv_slm (by simp) rfl rfl) (.nil))) rfl ?_
  refine rs_pick rfl rfl rfl ?_
  refine rs_mv rfl rfl ?_
  refine rs_mv rfl rfl ?_
  refine rs_build rfl rfl ?_
  refine rs_build rfl rfl ?_
  refine rs_calln [930, 933] rfl rfl (gc33 sF2 10 10 10 10 10 10 true (ivF2.sm (by decide)) ivF2.ls (by kernel_rfl) rfl) (.cons (hv_obj (by simp) rfl (.sl (by simp) rfl (by simp) (.int (.bool (.int (.int (.int (.int (.int (.int (.bool (.int (.bool (.bool (.bool (.bool .nil)))))))))))))))) (.cons (hv_same rfl) (.cons (hv_same rfl) (.nil)))) rfl ?_
  refine rs_pick rfl rfl rfl ?_
  refine rs_mv rfl rfl ?_
  refine rs_nil fun _ => ?_
  refine th_n ?_
  refine aw_ret ?_
  exact ret_pure rfl rfl rfl (.inr rfl)

end Go.Proofs.Ytigfcmcdjfmieaa

/-! Walks: C3r. -/
namespace Go.Proofs.Ytigfcmcdjfmieaa
open Go.RowKit
set_option maxRecDepth 100000
set_option linter.unusedVariables false

/-! ### the reference's -/
theorem stepS_no {s : St} {o : Bool} (ho : decide (s.made + 1 = s.all) = o) (h1 : ¬ o = true) (h2 : ¬ (s.made + 1).tmod s.every = 0) : stepS s = { s with made := s.made + 1, since := 0, over := o } := by
  subst ho
  unfold stepS
  dsimp only
  rw [if_neg (fun h => h.elim h1 h2)]
theorem stepS_t {s : St} {o : Bool} (ho : decide (s.made + 1 = s.all) = o) (h : o = true ∨ (s.made + 1).tmod s.every = 0) (hb : s.broken = true) :
    stepS s = { s with made := s.made + 1, since := 0, over := o, rs := s.rs ++ [s.made + 1], noticed := true, found := true } := by
  subst ho
  unfold stepS
  dsimp only
  rw [if_pos h]
  simp [recS, hb]
theorem stepS_f {s : St} {o : Bool} (ho : decide (s.made + 1 = s.all) = o) (h : o = true ∨ (s.made + 1).tmod s.every = 0) (hb : s.broken = false) (hn : s.noticed = false) (hf : s.found = false) :
    stepS s = { s with made := s.made + 1, since := 0, over := o, rs := s.rs ++ [s.made + 1], sound := s.made + 1 } := by
  subst ho
  unfold stepS
  dsimp only
  rw [if_pos h]
  simp [recS, hb, hn, hf]
theorem brk_pos {s : St} (h : brk s > 0) : s.broken = true := by
  cases hb : s.broken with
  | true => rfl
  | false => rw [brk_f hb] at h; exact absurd h (by decide)
theorem brk_npos {s : St} (h : ¬ brk s > 0) (h0 : 0 ≤ s.breach) : s.broken = false := by
  cases hb : s.broken with
  | false => rfl
  | true => exact absurd (brk_t hb h0) h

def mcc58 : MC := (.seq (.reg [⟨(some 2), (.mv (.t 0)), none, []⟩, ⟨(some 3), (.nilc (.t 2)), none, [0]⟩, ⟨(some 4), (.fa 5 (.t 3)), none, [1]⟩, ⟨(some 5), (.ld false 1 (.t 4)), none, [2]⟩, ⟨(some 6), (.bin .add (.t 5) (.c (.int .i64 1))), none, [3]⟩, ⟨(some 7), (.nilc (.t 2)), none, [0, 0, 1, 2, 3, 4]⟩, ⟨(some 8), (.fa 5 (.t 7)), none, [5, 0, 1, 2, 3, 4]⟩, ⟨none, (.st 1 (.t 8) (.t 6)), none, [6, 4, 0, 1, 2, 3, 4]⟩] false) (.seq (.reg [⟨(some 9), (.mv (.t 0)), none, []⟩, ⟨(some 10), (.nilc (.t 9)), none, [0, 0]⟩, ⟨(some 11), (.fa 4 (.t 10)), none, [1, 0]⟩, ⟨none, (.st 1 (.t 11) (.c (.int .i64 0))), none, [2, 0]⟩] false) (.seq (.reg [⟨(some 12), (.mv (.t 0)), none, []⟩, ⟨(some 13), (.mv (.t 0)), none, []⟩, ⟨(some 14), (.nilc (.t 13)), none, [1]⟩, ⟨(some 15), (.fa 5 (.t 14)), none, [2]⟩, ⟨(some 16), (.ld false 1 (.t 15)), none, [3]⟩, ⟨(some 17), (.mv (.t 0)), none, []⟩, ⟨(some 18), (.nilc (.t 17)), none, [5]⟩, ⟨(some 19), (.fa 0 (.t 18)), none, [6]⟩, ⟨(some 20), (.ld false 1 (.t 19)), none, [7]⟩, ⟨(some 21), (.bin .eql (.t 16) (.t 20)), none, [4, 8]⟩, ⟨(some 22), (.nilc (.t 12)), none, [0, 0, 1, 2, 3, 4, 5, 6, 7, 8, 9]⟩, ⟨(some 23), (.fa 8 (.t 22)), none, [10, 0, 1, 2, 3, 4, 5, 6, 7, 8, 9]⟩, ⟨none, (.st 1 (.t 23) (.t 21)), none, [11, 9, 0, 1, 2, 3, 4, 5, 6, 7, 8, 9]⟩] true) (.seq (.seq (.reg [⟨(some 24), (.mv (.t 0)), none, []⟩, ⟨(some 25), (.nilc (.t 24)), none, [0]⟩, ⟨(some 26), (.fa 5 (.t 25)), none, [1]⟩, ⟨(some 27), (.ld false 1 (.t 26)), none, [2]⟩, ⟨(some 28), (.mv (.t 0)), none, []⟩, ⟨(some 29), (.nilc (.t 28)), none, [4]⟩, ⟨(some 30), (.fa 1 (.t 29)), none, [5]⟩, ⟨(some 31), (.ld false 1 (.t 30)), none, [6]⟩, ⟨(some 32), (.bin .rem (.t 27) (.t 31)), none, [3, 7]⟩, ⟨(some 33), (.bin .neq (.t 32) (.c (.int .i64 0))), none, [8]⟩, ⟨(some 34), (.mv (.t 33)), none, [9]⟩, ⟨(some 35), (.mv (.t 0)), (some (34, true)), [10]⟩, ⟨(some 36), (.nilc (.t 35)), (some (34, true)), [11, 10]⟩, ⟨(some 37), (.fa 8 (.t 36)), (some (34, true)), [12, 10]⟩, ⟨(some 38), (.ld false 1 (.t 37)), (some (34, true)), [13, 10]⟩, ⟨(some 39), (.un .not (.t 38)), (some (34, true)), [14, 10]⟩, ⟨(some 40), (.pick (.t 34) (.t 39) (.c (.bool false))), none, [10, 15]⟩] true) (.cond (.t 40) .ret .skip)) (.seq (.reg [⟨(some 41), (.mv (.t 0)), none, []⟩, ⟨(some 42), (.mv (.t 0)), none, []⟩, ⟨(some 43), (.nilc (.t 42)), none, [1]⟩, ⟨(some 44), (.fa 11 (.t 43)), none, [2]⟩, ⟨(some 45), (.ld false 1 (.t 44)), none, [3]⟩, ⟨(some 46), (.mv (.t 0)), none, []⟩, ⟨(some 47), (.nilc (.t 46)), none, [5]⟩, ⟨(some 48), (.fa 5 (.t 47)), none, [6]⟩, ⟨(some 49), (.ld false 1 (.t 48)), none, [7]⟩, ⟨(some 50), (.bslice 3 1 [(.int .i64 0)] 1 [(0, (.t 49))]), none, [8]⟩, ⟨(some 51), (.app 3 1 8 [(.int .i64 0)] (.t 45) (.t 50)), none, [4, 9]⟩, ⟨(some 52), (.nilc (.t 41)), none, [0, 0, 1, 2, 3, 4, 5, 6, 7, 8, 9, 10]⟩, ⟨(some 53), (.fa 11 (.t 52)), none, [11, 0, 1, 2, 3, 4, 5, 6, 7, 8, 9, 10]⟩, ⟨none, (.st 1 (.t 53) (.t 51)), none, [12, 10, 10, 0, 1, 2, 3, 4, 5, 6, 7, 8, 9, 10]⟩] true) (.seq (.reg [⟨(some 54), (.mv (.t 0)), none, []⟩, ⟨(some 55), (.nilc (.t 54)), none, [0]⟩, ⟨(some 56), (.fa 6 (.t 55)), none, [1]⟩, ⟨(some 57), (.ld false 1 (.t 56)), none, [2]⟩, ⟨(some 58), (.bin .gtr (.t 57) (.c (.int .i64 0))), none, [3]⟩] false) (.cond (.t 58) (.seq (.reg [⟨(some 59), (.mv (.t 0)), none, []⟩, ⟨(some 60), (.nilc (.t 59)), none, [0, 0]⟩, ⟨(some 61), (.fa 7 (.t 60)), none, [1, 0]⟩, ⟨none, (.st 1 (.t 61) (.c (.bool true))), none, [2, 0]⟩] false) (.reg [⟨(some 62), (.mv (.t 0)), none, []⟩, ⟨(some 63), (.nilc (.t 62)), none, [0, 0]⟩, ⟨(some 64), (.fa 13 (.t 63)), none, [1, 0]⟩, ⟨none, (.st 1 (.t 64) (.c (.bool true))), none, [2, 0]⟩] false)) (.reg [⟨(some 65), (.mv (.t 0)), none, []⟩, ⟨(some 66), (.mv (.t 0)), none, []⟩, ⟨(some 67), (.nilc (.t 66)), none, [1]⟩, ⟨(some 68), (.fa 5 (.t 67)), none, [2]⟩, ⟨(some 69), (.ld false 1 (.t 68)), none, [3]⟩, ⟨(some 70), (.nilc (.t 65)), none, [0, 0, 1, 2, 3, 4]⟩, ⟨(some 71), (.fa 12 (.t 70)), none, [5, 0, 1, 2, 3, 4]⟩, ⟨none, (.st 1 (.t 71) (.t 69)), none, [6, 4, 0, 1, 2, 3, 4]⟩] false))))))))
theorem mcOkc58 : (match Try.f58.body with | some c => compC Try.prog 72 c | none => none) = some mcc58 := by kernel_rfl

theorem gc58 (s : St) (hl : s.rs.length ≤ 1000000) (hev : 1 ≤ s.every ∧ s.every ≤ 100) (hma : 0 ≤ s.made ∧ s.made ≤ 1000000) (hbr : 0 ≤ s.breach ∧ s.breach ≤ 1000000) (hn : s.noticed = false) (hf : Fnd s) : FC Try.prog 58 [.ptr 900 0 0] (hR 900 901 s) (.tup []) (hR2 900 901 902 (stepS s)) true := by
  have e1 : (s.rs ++ [s.made + 1]).length = s.rs.length + 1 := by simp
  refine fc_run (nt := 72) Try.func58 rfl rfl mcOkc58 (Nat.le_of_ble_eq_true rfl) ?_
  delta mcc58
  refine aw_seq ?_
  refine aw_reg ?_
  refine rs_mv rfl rfl ?_
  refine rs_nilc_p rfl rfl ?_
  refine rs_fa_p rfl rfl ?_
  refine rs_ld_p rfl rfl rfl rfl rfl ?_
  refine rs_add rfl rfl rfl (by omega) ?_
  refine rs_nilc_p rfl rfl ?_
  refine rs_fa_p rfl rfl ?_
  refine rs_st rfl rfl rfl rfl rfl rfl rfl (Nat.le_of_ble_eq_true rfl) rfl rfl ?_
  refine rs_nil fun _ => ?_
  refine th_n ?_
  refine aw_seq ?_
  refine aw_reg ?_
  refine rs_mv rfl rfl ?_
  refine rs_nilc_p rfl rfl ?_
  refine rs_fa_p rfl rfl ?_
  refine rs_st rfl rfl rfl rfl rfl rfl rfl (Nat.le_of_ble_eq_true rfl) rfl rfl ?_
  refine rs_nil fun _ => ?_
  refine th_n ?_
  refine aw_seq ?_
  refine aw_draw hmix ?_
  refine rs_mv rfl rfl ?_
  refine rs_mv rfl rfl ?_
  refine rs_nilc_p rfl rfl ?_
  refine rs_fa_p rfl rfl ?_
  refine rs_ld_p rfl rfl rfl rfl rfl ?_
  refine rs_mv rfl rfl ?_
  refine rs_nilc_p rfl rfl ?_
  refine rs_fa_p rfl rfl ?_
  refine rs_ld_p rfl rfl rfl rfl rfl ?_
  refine rs_eql rfl rfl rfl ?_
  refine rs_nilc_p rfl rfl ?_
  refine rs_fa_p rfl rfl ?_
  refine rs_st rfl rfl rfl rfl rfl rfl rfl (Nat.le_of_ble_eq_true rfl) rfl rfl ?_
  refine rs_nil ⟨by kernel_rfl, fun _ => ?_⟩
  refine th_n ?_
  refine aw_seq ?_
  refine aw_seq ?_
  refine aw_draw hmix ?_
  refine rs_mv rfl rfl ?_
  refine rs_nilc_p rfl rfl ?_
  refine rs_fa_p rfl rfl ?_
  refine rs_ld_p rfl rfl rfl rfl rfl ?_
  refine rs_mv rfl rfl ?_
  refine rs_nilc_p rfl rfl ?_
  refine rs_fa_p rfl rfl ?_
  refine rs_ld_p rfl rfl rfl rfl rfl ?_
  refine rs_rem rfl rfl rfl (by omega) rfl ?_
  refine rs_cmp rfl rfl rfl rfl (fun h33 => ?_) (fun h33 => ?_)
  · skip
    refine rs_mv rfl rfl ?_
    refine rs_mv rfl rfl ?_
    refine rs_nilc_p rfl rfl ?_
    refine rs_fa_p rfl rfl ?_
    refine rs_ld_p rfl rfl rfl rfl rfl ?_
    cases h38 : decide (s.made + 1 = s.all)
    · skip
      refine rs_not rfl rfl ?_
      refine rs_pick rfl rfl rfl ?_
      refine rs_nil ⟨by kernel_rfl, fun _ => ?_⟩
      refine th_n ?_
      refine aw_cond rfl (fun _ => ?_) (fun h => by cases h)
      refine aw_weak (weak_ren_row (i := 901) (i' := 902) (k := 900) (F0 := []) rfl rfl (.nil) (by decide) rfl (.cons (.same _) (.cons (.same _) (.cons (.same _) (.cons (.same _) (.cons (.same _) (.cons (.same _) (.cons (.same _) (.cons (.same _) (.cons (.same _) (.cons (.same _) (.cons (.same _) (.cons (.sl _ _) (RenL.refl _ _ _)))))))))))))) ?_
      refine aw_ret ?_
      refine th_r ?_
      (rw [stepS_no h38 (by decide) h33]
       exact ret_own_e (.inr rfl) rfl (rc_same rfl (.inl rfl)) (.keep rfl rfl (.keep rfl rfl (.keep rfl rfl .nil))) (.cons rfl rfl rfl (.dead rfl rfl .nil)))
    · skip
      refine rs_not rfl rfl ?_
      refine rs_pick rfl rfl rfl ?_
      refine rs_nil ⟨by kernel_rfl, fun _ => ?_⟩
      refine th_n ?_
      refine aw_cond rfl (fun h => by cases h) (fun _ => ?_)
      refine aw_skip ?_
      refine th_n ?_
      refine aw_seq ?_
      refine aw_draw hmix ?_
      refine rs_mv rfl rfl ?_
      refine rs_mv rfl rfl ?_
      refine rs_nilc_p rfl rfl ?_
      refine rs_fa_p rfl rfl ?_
      refine rs_ld_p rfl rfl rfl rfl rfl ?_
      refine rs_mv rfl rfl ?_
      refine rs_nilc_p rfl rfl ?_
      refine rs_fa_p rfl rfl ?_
      refine rs_ld_p rfl rfl rfl rfl rfl ?_
      refine rs_bslice (l := ([s.made + 1]).flatMap ci) (els := ([s.made + 1]).map ci) (fl := true) rfl (by kernel_rfl) rfl rfl (by kernel_rfl) (by kernel_rfl) ?_
      refine rs_app_m (xs := s.rs) (f := ci) (y := s.made + 1) (fl' := true) rfl rfl rfl rfl rfl rfl rfl rfl (by decide) rfl (by omega) (by omega) rfl ?_
      refine rs_nilc_p rfl rfl ?_
      refine rs_fa_p rfl rfl ?_
      refine rs_st rfl rfl rfl rfl rfl rfl rfl (Nat.le_of_ble_eq_true rfl) rfl rfl ?_
      refine rs_nil ⟨by kernel_rfl, fun _ => ?_⟩
      refine th_n ?_
      refine aw_seq ?_
      refine aw_weak (weak_ren_row (i := 51) (i' := 902) (k := 900) (F0 := [(0, _)]) rfl rfl (.cons rfl (.same _) (.nil)) (by decide) rfl (.cons (.same _) (.cons (.same _) (.cons (.same _) (.cons (.same _) (.cons (.same _) (.cons (.same _) (.cons (.same _) (.cons (.same _) (.cons (.same _) (.cons (.same _) (.cons (.same _) (.cons (.sl _ _) (RenL.refl _ _ _)))))))))))))) ?_
      refine aw_reg ?_
      refine rs_mv rfl rfl ?_
      refine rs_nilc_p rfl rfl ?_
      refine rs_fa_p rfl rfl ?_
      refine rs_ld_p rfl rfl rfl rfl rfl ?_
      refine rs_gtr rfl rfl rfl ?_
      refine rs_nil fun _ => ?_
      refine th_n ?_
      refine aw_cond rfl (fun h58 => ?_) (fun h58 => ?_)
      · replace h58 := of_decide_eq_true h58
        have q58 := brk_pos h58
        refine aw_seq ?_
        refine aw_reg ?_
        refine rs_mv rfl rfl ?_
        refine rs_nilc_p rfl rfl ?_
        refine rs_fa_p rfl rfl ?_
        refine rs_st rfl rfl rfl rfl rfl rfl rfl (Nat.le_of_ble_eq_true rfl) rfl rfl ?_
        refine rs_nil fun _ => ?_
        refine th_n ?_
        refine aw_reg ?_
        refine rs_mv rfl rfl ?_
        refine rs_nilc_p rfl rfl ?_
        refine rs_fa_p rfl rfl ?_
        refine rs_st rfl rfl rfl rfl rfl rfl rfl (Nat.le_of_ble_eq_true rfl) rfl rfl ?_
        refine rs_nil fun _ => ?_
        (have hx := stepS_t h38 (.inl rfl) q58
         rw [hx]
         exact ret_own_e (.inl rfl) rfl (rc_same rfl (.inl rfl)) (.keep (by simp only [refO, e1]; rfl) rfl (.keep rfl rfl (.keep rfl rfl .nil))) (.cons rfl rfl rfl (.dead rfl rfl .nil)))
      · replace h58 := of_decide_eq_false h58
        have q58 := brk_npos h58 hbr.1
        refine aw_reg ?_
        refine rs_mv rfl rfl ?_
        refine rs_mv rfl rfl ?_
        refine rs_nilc_p rfl rfl ?_
        refine rs_fa_p rfl rfl ?_
        refine rs_ld_p rfl rfl rfl rfl rfl ?_
        refine rs_nilc_p rfl rfl ?_
        refine rs_fa_p rfl rfl ?_
        refine rs_st rfl rfl rfl rfl rfl rfl rfl (Nat.le_of_ble_eq_true rfl) rfl rfl ?_
        refine rs_nil fun _ => ?_
        (have hx := stepS_f h38 (.inl rfl) q58 hn (hf.f q58)
         rw [hx]
         exact ret_own_e (.inl rfl) rfl (rc_same rfl (.inl rfl)) (.keep (by simp only [refO, e1]; rfl) rfl (.keep rfl rfl (.keep rfl rfl .nil))) (.cons rfl rfl rfl (.dead rfl rfl .nil)))
  · skip
    refine rs_mv rfl rfl ?_
    refine rs_skip rfl ?_
    refine rs_skip rfl ?_
    refine rs_skip rfl ?_
    refine rs_skip rfl ?_
    refine rs_skip rfl ?_
    refine rs_pick rfl rfl rfl ?_
    refine rs_nil ⟨by kernel_rfl, fun _ => ?_⟩
    refine th_n ?_
    refine aw_cond rfl (fun h => by cases h) (fun _ => ?_)
    refine aw_skip ?_
    refine th_n ?_
    refine aw_seq ?_
    refine aw_draw hmix ?_
    refine rs_mv rfl rfl ?_
    refine rs_mv rfl rfl ?_
    refine rs_nilc_p rfl rfl ?_
    refine rs_fa_p rfl rfl ?_
    refine rs_ld_p rfl rfl rfl rfl rfl ?_
    refine rs_mv rfl rfl ?_
    refine rs_nilc_p rfl rfl ?_
    refine rs_fa_p rfl rfl ?_
    refine rs_ld_p rfl rfl rfl rfl rfl ?_
    refine rs_bslice (l := ([s.made + 1]).flatMap ci) (els := ([s.made + 1]).map ci) (fl := true) rfl (by kernel_rfl) rfl rfl (by kernel_rfl) (by kernel_rfl) ?_
    refine rs_app_m (xs := s.rs) (f := ci) (y := s.made + 1) (fl' := true) rfl rfl rfl rfl rfl rfl rfl rfl (by decide) rfl (by omega) (by omega) rfl ?_
    refine rs_nilc_p rfl rfl ?_
    refine rs_fa_p rfl rfl ?_
    refine rs_st rfl rfl rfl rfl rfl rfl rfl (Nat.le_of_ble_eq_true rfl) rfl rfl ?_
    refine rs_nil ⟨by kernel_rfl, fun _ => ?_⟩
    refine th_n ?_
    refine aw_seq ?_
    refine aw_weak (weak_ren_row (i := 51) (i' := 902) (k := 900) (F0 := [(0, _)]) rfl rfl (.cons rfl (.same _) (.nil)) (by decide) rfl (.cons (.same _) (.cons (.same _) (.cons (.same _) (.cons (.same _) (.cons (.same _) (.cons (.same _) (.cons (.same _) (.cons (.same _) (.cons (.same _) (.cons (.same _) (.cons (.same _) (.cons (.sl _ _) (RenL.refl _ _ _)))))))))))))) ?_
    refine aw_reg ?_
    refine rs_mv rfl rfl ?_
    refine rs_nilc_p rfl rfl ?_
    refine rs_fa_p rfl rfl ?_
    refine rs_ld_p rfl rfl rfl rfl rfl ?_
    refine rs_gtr rfl rfl rfl ?_
    refine rs_nil fun _ => ?_
    refine th_n ?_
    refine aw_cond rfl (fun h58 => ?_) (fun h58 => ?_)
    · replace h58 := of_decide_eq_true h58
      have q58 := brk_pos h58
      refine aw_seq ?_
      refine aw_reg ?_
      refine rs_mv rfl rfl ?_
      refine rs_nilc_p rfl rfl ?_
      refine rs_fa_p rfl rfl ?_
      refine rs_st rfl rfl rfl rfl rfl rfl rfl (Nat.le_of_ble_eq_true rfl) rfl rfl ?_
      refine rs_nil fun _ => ?_
      refine th_n ?_
      refine aw_reg ?_
      refine rs_mv rfl rfl ?_
      refine rs_nilc_p rfl rfl ?_
      refine rs_fa_p rfl rfl ?_
      refine rs_st rfl rfl rfl rfl rfl rfl rfl (Nat.le_of_ble_eq_true rfl) rfl rfl ?_
      refine rs_nil fun _ => ?_
      (have hx := stepS_t rfl (.inr (Decidable.not_not.1 h33)) q58
       rw [hx]
       exact ret_own_e (.inl rfl) rfl (rc_same rfl (.inl rfl)) (.keep (by simp only [refO, e1]; rfl) rfl (.keep rfl rfl (.keep rfl rfl .nil))) (.cons rfl rfl rfl (.dead rfl rfl .nil)))
    · replace h58 := of_decide_eq_false h58
      have q58 := brk_npos h58 hbr.1
      refine aw_reg ?_
      refine rs_mv rfl rfl ?_
      refine rs_mv rfl rfl ?_
      refine rs_nilc_p rfl rfl ?_
      refine rs_fa_p rfl rfl ?_
      refine rs_ld_p rfl rfl rfl rfl rfl ?_
      refine rs_nilc_p rfl rfl ?_
      refine rs_fa_p rfl rfl ?_
      refine rs_st rfl rfl rfl rfl rfl rfl rfl (Nat.le_of_ble_eq_true rfl) rfl rfl ?_
      refine rs_nil fun _ => ?_
      (have hx := stepS_f rfl (.inr (Decidable.not_not.1 h33)) q58 hn (hf.f q58)
       rw [hx]
       exact ret_own_e (.inl rfl) rfl (rc_same rfl (.inl rfl)) (.keep (by simp only [refO, e1]; rfl) rfl (.keep rfl rfl (.keep rfl rfl .nil))) (.cons rfl rfl rfl (.dead rfl rfl .nil)))

def mcc49 : MC := (.seq (.reg [⟨(some 2), (.mv (.c (.int .i64 0))), none, []⟩] false) (.seq (.seq (.reg [⟨(some 3), (.mv (.t 0)), none, []⟩, ⟨(some 4), (.nilc (.t 3)), none, [0]⟩, ⟨(some 5), (.fa 7 (.t 4)), none, [1]⟩, ⟨(some 6), (.ld false 1 (.t 5)), none, [2]⟩] false) (.cond (.t 6) (.seq (.reg [⟨(some 2), (.mv (.c (.int .i64 41))), none, []⟩] false) .ret) .skip)) (.seq (.seq (.reg [⟨(some 7), (.mv (.t 0)), none, []⟩, ⟨(some 8), (.nilc (.t 7)), none, [0]⟩, ⟨(some 9), (.fa 8 (.t 8)), none, [1]⟩, ⟨(some 10), (.ld false 1 (.t 9)), none, [2]⟩] false) (.cond (.t 10) (.seq (.reg [⟨(some 2), (.mv (.c (.int .i64 43))), none, []⟩] false) .ret) .skip)) (.seq (.reg [⟨(some 11), (.mv (.t 0)), none, []⟩, ⟨(some 12), (.nilc (.t 11)), none, [0]⟩, ⟨(some 13), (.fa 3 (.t 12)), none, [1]⟩, ⟨(some 14), (.ld false 1 (.t 13)), none, [2]⟩, ⟨(some 15), (.bin .add (.t 14) (.c (.int .i64 1))), none, [3]⟩, ⟨(some 16), (.nilc (.t 11)), none, [0, 0, 1, 2, 3, 4]⟩, ⟨(some 17), (.fa 3 (.t 16)), none, [5, 0, 1, 2, 3, 4]⟩, ⟨none, (.st 1 (.t 17) (.t 15)), none, [6, 4, 0, 1, 2, 3, 4]⟩] false) (.seq (.reg [⟨(some 18), (.mv (.t 0)), none, []⟩, ⟨(some 19), (.nilc (.t 18)), none, [0]⟩, ⟨(some 20), (.fa 4 (.t 19)), none, [1]⟩, ⟨(some 21), (.ld false 1 (.t 20)), none, [2]⟩, ⟨(some 22), (.bin .add (.t 21) (.c (.int .i64 1))), none, [3]⟩, ⟨(some 23), (.nilc (.t 18)), none, [0, 0, 1, 2, 3, 4]⟩, ⟨(some 24), (.fa 4 (.t 23)), none, [5, 0, 1, 2, 3, 4]⟩, ⟨none, (.st 1 (.t 24) (.t 22)), none, [6, 4, 0, 1, 2, 3, 4]⟩] false) (.seq (.seq (.reg [⟨(some 25), (.mv (.t 0)), none, []⟩, ⟨(some 26), (.nilc (.t 25)), none, [0]⟩, ⟨(some 27), (.fa 4 (.t 26)), none, [1]⟩, ⟨(some 28), (.ld false 1 (.t 27)), none, [2]⟩, ⟨(some 29), (.mv (.t 0)), none, []⟩, ⟨(some 30), (.nilc (.t 29)), none, [4]⟩, ⟨(some 31), (.fa 2 (.t 30)), none, [5]⟩, ⟨(some 32), (.ld false 1 (.t 31)), none, [6]⟩, ⟨(some 33), (.bin .geq (.t 28) (.t 32)), none, [3, 7]⟩] true) (.cond (.t 33) (.reg [⟨(some 34), (.mv (.t 0)), none, []⟩, ⟨(some 35), (.call 58 [(.t 34)]), none, [0]⟩] false) .skip)) (.seq (.reg [⟨(some 2), (.mv (.c (.int .i64 0))), none, []⟩] false) .ret)))))))
theorem mcOkc49 : (match Try.f49.body with | some c => compC Try.prog 36 c | none => none) = some mcc49 := by kernel_rfl

theorem gc49 (s s' : St) (e : Int) (hs : Sm s) (hf : Fnd s) (ht : tickS s = (e, s')) : FC Try.prog 49 [.ptr 900 0 0] (hR 900 901 s) (iv e) (hR2 900 901 902 s') true := by
  have hs0 := hs
  obtain ⟨hl, ha, hev, hfe, hra, hsi, hma, hbr⟩ := hs
  refine fc_run (nt := 36) Try.func49 rfl rfl mcOkc49 (Nat.le_of_ble_eq_true rfl) ?_
  delta mcc49
  refine aw_seq ?_
  refine aw_reg ?_
  refine rs_mv rfl rfl ?_
  refine rs_nil fun _ => ?_
  refine th_n ?_
  refine aw_seq ?_
  refine aw_seq ?_
  refine aw_reg ?_
  refine rs_mv rfl rfl ?_
  refine rs_nilc_p rfl rfl ?_
  refine rs_fa_p rfl rfl ?_
  refine rs_ld_p rfl rfl rfl rfl rfl ?_
  refine rs_nil fun _ => ?_
  refine th_n ?_
  refine aw_cond rfl (fun h6 => ?_) (fun h6 => ?_)
  · skip
    have q6 := bt h6
    refine aw_seq ?_
    refine aw_reg ?_
    refine rs_mv rfl rfl ?_
    refine rs_nil fun _ => ?_
    refine th_n ?_
    refine aw_weak (weak_ren_row (i := 901) (i' := 902) (k := 900) (F0 := [(2, _)]) rfl rfl (.cons rfl (.same _) (.nil)) (by decide) rfl (.cons (.same _) (.cons (.same _) (.cons (.same _) (.cons (.same _) (.cons (.same _) (.cons (.same _) (.cons (.same _) (.cons (.same _) (.cons (.same _) (.cons (.same _) (.cons (.same _) (.cons (.sl _ _) (RenL.refl _ _ _)))))))))))))) ?_
    refine aw_ret ?_
    refine th_r ?_
    (simp only [tickS, q6, if_true, if_false, ↓reduceIte, reduceCtorEq, or_true, true_or, or_false, false_or, and_true, true_and, and_false, false_and, Prod.mk.injEq] at ht
     obtain ⟨rfl, rfl⟩ := ht
     exact ret_own rfl (rc_same rfl (.inl rfl)) (.keep (rfl) rfl (.keep (rfl) rfl (.keep (rfl) rfl (.nil)))) (.cons rfl rfl rfl (.dead rfl rfl .nil)))
  · skip
    have q6 := bf h6
    refine aw_skip ?_
    refine th_n ?_
    refine aw_seq ?_
    refine aw_seq ?_
    refine aw_reg ?_
    refine rs_mv rfl rfl ?_
    refine rs_nilc_p rfl rfl ?_
    refine rs_fa_p rfl rfl ?_
    refine rs_ld_p rfl rfl rfl rfl rfl ?_
    refine rs_nil fun _ => ?_
    refine th_n ?_
    refine aw_cond rfl (fun h10 => ?_) (fun h10 => ?_)
    · skip
      have q10 := bt h10
      refine aw_seq ?_
      refine aw_reg ?_
      refine rs_mv rfl rfl ?_
      refine rs_nil fun _ => ?_
      refine th_n ?_
      refine aw_weak (weak_ren_row (i := 901) (i' := 902) (k := 900) (F0 := [(2, _)]) rfl rfl (.cons rfl (.same _) (.nil)) (by decide) rfl (.cons (.same _) (.cons (.same _) (.cons (.same _) (.cons (.same _) (.cons (.same _) (.cons (.same _) (.cons (.same _) (.cons (.same _) (.cons (.same _) (.cons (.same _) (.cons (.same _) (.cons (.sl _ _) (RenL.refl _ _ _)))))))))))))) ?_
      refine aw_ret ?_
      refine th_r ?_
      (simp only [tickS, q6, q10, if_true, if_false, ↓reduceIte, reduceCtorEq, or_true, true_or, or_false, false_or, and_true, true_and, and_false, false_and, Prod.mk.injEq] at ht
       obtain ⟨rfl, rfl⟩ := ht
       exact ret_own rfl (rc_same rfl (.inl rfl)) (.keep (rfl) rfl (.keep (rfl) rfl (.keep (rfl) rfl (.nil)))) (.cons rfl rfl rfl (.dead rfl rfl .nil)))
    · skip
      have q10 := bf h10
      refine aw_skip ?_
      refine th_n ?_
      refine aw_seq ?_
      refine aw_reg ?_
      refine rs_mv rfl rfl ?_
      refine rs_nilc_p rfl rfl ?_
      refine rs_fa_p rfl rfl ?_
      refine rs_ld_p rfl rfl rfl rfl rfl ?_
      refine rs_add rfl rfl rfl (by omega) ?_
      refine rs_nilc_p rfl rfl ?_
      refine rs_fa_p rfl rfl ?_
      refine rs_st rfl rfl rfl rfl rfl rfl rfl (Nat.le_of_ble_eq_true rfl) rfl rfl ?_
      refine rs_nil fun _ => ?_
      refine th_n ?_
      refine aw_seq ?_
      refine aw_reg ?_
      refine rs_mv rfl rfl ?_
      refine rs_nilc_p rfl rfl ?_
      refine rs_fa_p rfl rfl ?_
      refine rs_ld_p rfl rfl rfl rfl rfl ?_
      refine rs_add rfl rfl rfl (by omega) ?_
      refine rs_nilc_p rfl rfl ?_
      refine rs_fa_p rfl rfl ?_
      refine rs_st rfl rfl rfl rfl rfl rfl rfl (Nat.le_of_ble_eq_true rfl) rfl rfl ?_
      refine rs_nil fun _ => ?_
      refine th_n ?_
      refine aw_seq ?_
      refine aw_seq ?_
      refine aw_draw hmix ?_
      refine rs_mv rfl rfl ?_
      refine rs_nilc_p rfl rfl ?_
      refine rs_fa_p rfl rfl ?_
      refine rs_ld_p rfl rfl rfl rfl rfl ?_
      refine rs_mv rfl rfl ?_
      refine rs_nilc_p rfl rfl ?_
      refine rs_fa_p rfl rfl ?_
      refine rs_ld_p rfl rfl rfl rfl rfl ?_
      refine rs_geq rfl rfl rfl ?_
      refine rs_nil ⟨by kernel_rfl, fun _ => ?_⟩
      refine th_n ?_
      refine aw_cond rfl (fun h33 => ?_) (fun h33 => ?_)
      · replace h33 := of_decide_eq_true h33
        have q33 : ¬ s.since + 1 < s.feed := by omega
        refine aw_reg ?_
        refine rs_mv rfl rfl ?_
        refine rs_callo (hR 900 901 { s with ran := s.ran + 1, since := s.since + 1 }) rfl rfl (gc58 { s with ran := s.ran + 1, since := s.since + 1 } hl hev hma hbr h6 ⟨hf.f⟩) (.cons (hv_same rfl) (.nil)) (.cons rfl (.cons rfl (.nil))) rfl rfl rfl ?_
        refine rs_nil fun _ => ?_
        refine th_n ?_
        refine aw_seq ?_
        refine aw_reg ?_
        refine rs_mv rfl rfl ?_
        refine rs_nil fun _ => ?_
        refine th_n ?_
        refine aw_ret ?_
        (simp only [tickS, q6, q10, q33, if_true, if_false, ↓reduceIte, reduceCtorEq, or_true, true_or, or_false, false_or, and_true, true_and, and_false, false_and, Prod.mk.injEq] at ht
         obtain ⟨rfl, rfl⟩ := ht
         exact ret_own rfl (rc_same rfl (.inl rfl)) (.keep (rfl) rfl (.keep (rfl) rfl (.keep (rfl) rfl (.nil)))) (.cons rfl rfl rfl (.dead rfl rfl .nil)))
      · replace h33 := of_decide_eq_false h33
        have q33 : s.since + 1 < s.feed := by omega
        refine aw_skip ?_
        refine th_n ?_
        refine aw_seq ?_
        refine aw_reg ?_
        refine rs_mv rfl rfl ?_
        refine rs_nil fun _ => ?_
        refine th_n ?_
        refine aw_weak (weak_ren_row (i := 901) (i' := 902) (k := 900) (F0 := [(2, _)]) rfl rfl (.cons rfl (.same _) (.nil)) (by decide) rfl (.cons (.same _) (.cons (.same _) (.cons (.same _) (.cons (.same _) (.cons (.same _) (.cons (.same _) (.cons (.same _) (.cons (.same _) (.cons (.same _) (.cons (.same _) (.cons (.same _) (.cons (.sl _ _) (RenL.refl _ _ _)))))))))))))) ?_
        refine aw_ret ?_
        (simp only [tickS, q6, q10, q33, if_true, if_false, ↓reduceIte, reduceCtorEq, or_true, true_or, or_false, false_or, and_true, true_and, and_false, false_and, Prod.mk.injEq] at ht
         obtain ⟨rfl, rfl⟩ := ht
         exact ret_own rfl (rc_same rfl (.inl rfl)) (.keep (rfl) rfl (.keep (rfl) rfl (.keep (rfl) rfl (.nil)))) (.cons rfl rfl rfl (.dead rfl rfl .nil)))

def mcc48 : MC := (.seq (.reg [⟨(some 3), (.box 39 2 (.t 1)), none, []⟩, ⟨(some 4), (.mv (.c (.int .i64 0))), none, []⟩] false) (.seq (.seq (.reg [⟨(some 5), (.fa 0 (.t 3)), none, []⟩, ⟨(some 6), (.ld false 1 (.t 5)), none, [0]⟩, ⟨(some 7), (.bin .lss (.t 6) (.c (.int .i64 1))), none, [1]⟩, ⟨(some 8), (.mv (.t 7)), none, [2]⟩, ⟨(some 9), (.fa 0 (.t 3)), (some (8, false)), [3]⟩, ⟨(some 10), (.ld false 1 (.t 9)), (some (8, false)), [4, 3]⟩, ⟨(some 11), (.bin .gtr (.t 10) (.c (.int .i64 7))), (some (8, false)), [5, 3]⟩, ⟨(some 12), (.pick (.t 8) (.c (.bool true)) (.t 11)), none, [3, 6]⟩] false) (.cond (.t 12) (.seq (.reg [⟨(some 4), (.mv (.c (.int .i64 4))), none, []⟩] false) .ret) .skip)) (.seq (.seq (.reg [⟨(some 13), (.fa 0 (.t 3)), none, []⟩, ⟨(some 14), (.ld false 1 (.t 13)), none, [0]⟩, ⟨(some 15), (.bin .eql (.t 14) (.c (.int .i64 5))), none, [1]⟩, ⟨(some 16), (.mv (.t 15)), none, [2]⟩, ⟨(some 17), (.fa 1 (.t 3)), (some (16, true)), [3]⟩, ⟨(some 18), (.ld false 1 (.t 17)), (some (16, true)), [4, 3]⟩, ⟨(some 19), (.bin .lss (.t 18) (.c (.int .i64 1))), (some (16, true)), [5, 3]⟩, ⟨(some 20), (.mv (.t 19)), (some (16, true)), [6, 3, 3]⟩, ⟨(some 21), (.fa 1 (.t 3)), (some (20, false)), [7]⟩, ⟨(some 22), (.ld false 1 (.t 21)), (some (20, false)), [8, 7]⟩, ⟨(some 23), (.bin .gtr (.t 22) (.c (.int .i64 100))), (some (20, false)), [9, 7]⟩, ⟨(some 24), (.pick (.t 20) (.c (.bool true)) (.t 23)), (some (16, true)), [7, 10, 3]⟩, ⟨(some 25), (.pick (.t 16) (.t 24) (.c (.bool false))), none, [3, 11]⟩] false) (.cond (.t 25) (.seq (.reg [⟨(some 4), (.mv (.c (.int .i64 3))), none, []⟩] false) .ret) .skip)) (.seq (.seq (.reg [⟨(some 26), (.fa 0 (.t 3)), none, []⟩, ⟨(some 27), (.ld false 1 (.t 26)), none, [0]⟩, ⟨(some 28), (.bin .neq (.t 27) (.c (.int .i64 5))), none, [1]⟩, ⟨(some 29), (.mv (.t 28)), none, [2]⟩, ⟨(some 30), (.fa 1 (.t 3)), (some (29, true)), [3]⟩, ⟨(some 31), (.ld false 1 (.t 30)), (some (29, true)), [4, 3]⟩, ⟨(some 32), (.bin .neq (.t 31) (.c (.int .i64 0))), (some (29, true)), [5, 3]⟩, ⟨(some 33), (.pick (.t 29) (.t 32) (.c (.bool false))), none, [3, 6]⟩] false) (.cond (.t 33) (.seq (.reg [⟨(some 4), (.mv (.c (.int .i64 1))), none, []⟩] false) .ret) .skip)) (.seq (.seq (.reg [⟨(some 34), (.mv (.t 0)), none, []⟩, ⟨(some 35), (.nilc (.t 34)), none, [0]⟩, ⟨(some 36), (.fa 9 (.t 35)), none, [1]⟩, ⟨(some 37), (.ld false 1 (.t 36)), none, [2]⟩, ⟨(some 38), (.mv (.t 37)), none, [3]⟩, ⟨(some 39), (.fa 0 (.t 3)), (some (38, true)), [4]⟩, ⟨(some 40), (.ld false 1 (.t 39)), (some (38, true)), [5, 4]⟩, ⟨(some 41), (.bin .neq (.t 40) (.c (.int .i64 3))), (some (38, true)), [6, 4]⟩, ⟨(some 42), (.pick (.t 38) (.t 41) (.c (.bool false))), none, [4, 7]⟩] false) (.cond (.t 42) (.seq (.reg [⟨(some 4), (.mv (.c (.int .i64 40))), none, []⟩] false) .ret) .skip)) (.seq (.seq (.reg [⟨(some 43), (.mv (.t 0)), none, []⟩, ⟨(some 44), (.nilc (.t 43)), none, [0]⟩, ⟨(some 45), (.fa 9 (.t 44)), none, [1]⟩, ⟨(some 46), (.ld false 1 (.t 45)), none, [2]⟩, ⟨(some 47), (.un .not (.t 46)), none, [3]⟩, ⟨(some 48), (.mv (.t 47)), none, [4]⟩, ⟨(some 49), (.fa 0 (.t 3)), (some (48, true)), [5]⟩, ⟨(some 50), (.ld false 1 (.t 49)), (some (48, true)), [6, 5]⟩, ⟨(some 51), (.bin .eql (.t 50) (.c (.int .i64 3))), (some (48, true)), [7, 5]⟩, ⟨(some 52), (.pick (.t 48) (.t 51) (.c (.bool false))), none, [5, 8]⟩] false) (.cond (.t 52) (.seq (.reg [⟨(some 4), (.mv (.c (.int .i64 7))), none, []⟩] false) .ret) .skip)) (.seq (.reg [⟨(some 4), (.mv (.c (.int .i64 0))), none, []⟩] false) .ret)))))))
theorem mcOkc48 : (match Try.f48.body with | some c => compC Try.prog 53 c | none => none) = some mcc48 := by kernel_rfl

theorem gc48 (s : St) (k n : Int) : FC Try.prog 48 [cellsR s, .agg [iv k, iv n]] [] (iv (chkS s k n)) [] false := by
  refine fc_run (nt := 53) Try.func48 rfl rfl mcOkc48 (Nat.le_of_ble_eq_true rfl) ?_
  delta mcc48
  refine aw_seq ?_
  refine aw_reg ?_
  refine rs_box rfl rfl rfl rfl rfl rfl ?_
  refine rs_mv rfl rfl ?_
  refine rs_nil fun _ => ?_
  refine th_n ?_
  refine aw_seq ?_
  refine aw_seq ?_
  refine aw_reg ?_
  refine rs_fa_p rfl rfl ?_
  refine rs_ld_p rfl rfl rfl rfl rfl ?_
  refine rs_cmp rfl rfl rfl rfl (fun h7 => ?_) (fun h7 => ?_)
  · skip
    refine rs_mv rfl rfl ?_
    refine rs_skip rfl ?_
    refine rs_skip rfl ?_
    refine rs_skip rfl ?_
    refine rs_pick rfl rfl rfl ?_
    refine rs_nil fun _ => ?_
    refine th_n ?_
    refine aw_cond rfl (fun _ => ?_) (fun h => by cases h)
    refine aw_seq ?_
    refine aw_reg ?_
    refine rs_mv rfl rfl ?_
    refine rs_nil fun _ => ?_
    refine th_n ?_
    refine aw_ret ?_
    refine th_r ?_
    exact ret_pure rfl (congrArg iv (Eq.symm (chk_4 (by omega)))) rfl (.inr rfl)
  · skip
    refine rs_mv rfl rfl ?_
    refine rs_fa_p rfl rfl ?_
    refine rs_ld_p rfl rfl rfl rfl rfl ?_
    refine rs_cmp rfl rfl rfl rfl (fun h11 => ?_) (fun h11 => ?_)
    · skip
      refine rs_pick rfl rfl rfl ?_
      refine rs_nil fun _ => ?_
      refine th_n ?_
      refine aw_cond rfl (fun _ => ?_) (fun h => by cases h)
      refine aw_seq ?_
      refine aw_reg ?_
      refine rs_mv rfl rfl ?_
      refine rs_nil fun _ => ?_
      refine th_n ?_
      refine aw_ret ?_
      refine th_r ?_
      exact ret_pure rfl (congrArg iv (Eq.symm (chk_4 (by omega)))) rfl (.inr rfl)
    · skip
      refine rs_pick rfl rfl rfl ?_
      refine rs_nil fun _ => ?_
      refine th_n ?_
      refine aw_cond rfl (fun h => by cases h) (fun _ => ?_)
      refine aw_skip ?_
      refine th_n ?_
      refine aw_seq ?_
      refine aw_seq ?_
      refine aw_reg ?_
      refine rs_fa_p rfl rfl ?_
      refine rs_ld_p rfl rfl rfl rfl rfl ?_
      refine rs_cmp rfl rfl rfl rfl (fun h15 => ?_) (fun h15 => ?_)
      · skip
        refine rs_mv rfl rfl ?_
        refine rs_fa_p rfl rfl ?_
        refine rs_ld_p rfl rfl rfl rfl rfl ?_
        refine rs_cmp rfl rfl rfl rfl (fun h19 => ?_) (fun h19 => ?_)
        · skip
          refine rs_mv rfl rfl ?_
          refine rs_skip rfl ?_
          refine rs_skip rfl ?_
          refine rs_skip rfl ?_
          refine rs_pick rfl rfl rfl ?_
          refine rs_pick rfl rfl rfl ?_
          refine rs_nil fun _ => ?_
          refine th_n ?_
          refine aw_cond rfl (fun _ => ?_) (fun h => by cases h)
          refine aw_seq ?_
          refine aw_reg ?_
          refine rs_mv rfl rfl ?_
          refine rs_nil fun _ => ?_
          refine th_n ?_
          refine aw_ret ?_
          refine th_r ?_
          exact ret_pure rfl (congrArg iv (Eq.symm (chk_3 (by omega) (by omega)))) rfl (.inr rfl)
        · skip
          refine rs_mv rfl rfl ?_
          refine rs_fa_p rfl rfl ?_
          refine rs_ld_p rfl rfl rfl rfl rfl ?_
          refine rs_cmp rfl rfl rfl rfl (fun h23 => ?_) (fun h23 => ?_)
          · skip
            refine rs_pick rfl rfl rfl ?_
            refine rs_pick rfl rfl rfl ?_
            refine rs_nil fun _ => ?_
            refine th_n ?_
            refine aw_cond rfl (fun _ => ?_) (fun h => by cases h)
            refine aw_seq ?_
            refine aw_reg ?_
            refine rs_mv rfl rfl ?_
            refine rs_nil fun _ => ?_
            refine th_n ?_
            refine aw_ret ?_
            refine th_r ?_
            exact ret_pure rfl (congrArg iv (Eq.symm (chk_3 (by omega) (by omega)))) rfl (.inr rfl)
          · skip
            refine rs_pick rfl rfl rfl ?_
            refine rs_pick rfl rfl rfl ?_
            refine rs_nil fun _ => ?_
            refine th_n ?_
            refine aw_cond rfl (fun h => by cases h) (fun _ => ?_)
            refine aw_skip ?_
            refine th_n ?_
            refine aw_seq ?_
            refine aw_seq ?_
            refine aw_reg ?_
            refine rs_fa_p rfl rfl ?_
            refine rs_ld_p rfl rfl rfl rfl rfl ?_
            refine rs_cmp rfl rfl rfl rfl (fun h28 => ?_) (fun h28 => ?_)
            · skip
              refine rs_mv rfl rfl ?_
              refine rs_fa_p rfl rfl ?_
              refine rs_ld_p rfl rfl rfl rfl rfl ?_
              refine rs_cmp rfl rfl rfl rfl (fun h32 => ?_) (fun h32 => ?_)
              · skip
                refine rs_pick rfl rfl rfl ?_
                refine rs_nil fun _ => ?_
                refine th_n ?_
                refine aw_cond rfl (fun _ => ?_) (fun h => by cases h)
                refine aw_seq ?_
                refine aw_reg ?_
                refine rs_mv rfl rfl ?_
                refine rs_nil fun _ => ?_
                refine th_n ?_
                refine aw_ret ?_
                refine th_r ?_
                exact ret_pure rfl (congrArg iv (Eq.symm (chk_1 ⟨by omega, by omega⟩ (by omega) (by omega)))) rfl (.inr rfl)
              · skip
                refine rs_pick rfl rfl rfl ?_
                refine rs_nil fun _ => ?_
                refine th_n ?_
                refine aw_cond rfl (fun h => by cases h) (fun _ => ?_)
                refine aw_skip ?_
                refine th_n ?_
                refine aw_seq ?_
                refine aw_seq ?_
                refine aw_reg ?_
                refine rs_mv rfl rfl ?_
                refine rs_nilc_r rfl rfl ?_
                refine rs_fa_r rfl rfl rfl ?_
                refine rs_ld_r rfl rfl rfl ?_
                cases h37 : s.dark
                · skip
                  refine rs_mv rfl rfl ?_
                  refine rs_skip rfl ?_
                  refine rs_skip rfl ?_
                  refine rs_skip rfl ?_
                  refine rs_pick rfl rfl rfl ?_
                  refine rs_nil fun _ => ?_
                  refine th_n ?_
                  refine aw_cond rfl (fun h => by cases h) (fun _ => ?_)
                  refine aw_skip ?_
                  refine th_n ?_
                  refine aw_seq ?_
                  refine aw_seq ?_
                  refine aw_reg ?_
                  refine rs_mv rfl rfl ?_
                  refine rs_nilc_r rfl rfl ?_
                  refine rs_fa_r rfl rfl rfl ?_
                  refine rs_ld_r (v := .bool false) rfl rfl (congrArg (fun b => some (AV.bool b)) h37) ?_
                  refine rs_not rfl rfl ?_
                  refine rs_mv rfl rfl ?_
                  refine rs_fa_p rfl rfl ?_
                  refine rs_ld_p rfl rfl rfl rfl rfl ?_
                  refine rs_cmp rfl rfl rfl rfl (fun h51 => ?_) (fun h51 => ?_)
                  · skip
                    refine rs_pick rfl rfl rfl ?_
                    refine rs_nil fun _ => ?_
                    refine th_n ?_
                    refine aw_cond rfl (fun _ => ?_) (fun h => by cases h)
                    refine aw_seq ?_
                    refine aw_reg ?_
                    refine rs_mv rfl rfl ?_
                    refine rs_nil fun _ => ?_
                    refine th_n ?_
                    refine aw_ret ?_
                    refine th_r ?_
                    exact ret_pure rfl (congrArg iv (Eq.symm (chk_7 ⟨by omega, by omega⟩ (fun _ => by omega) (fun _ => by omega) h37 (by omega)))) rfl (.inr rfl)
                  · skip
                    refine rs_pick rfl rfl rfl ?_
                    refine rs_nil fun _ => ?_
                    refine th_n ?_
                    refine aw_cond rfl (fun h => by cases h) (fun _ => ?_)
                    refine aw_skip ?_
                    refine th_n ?_
                    refine aw_seq ?_
                    refine aw_reg ?_
                    refine rs_mv rfl rfl ?_
                    refine rs_nil fun _ => ?_
                    refine th_n ?_
                    refine aw_ret ?_
                    exact ret_pure rfl (congrArg iv (Eq.symm (chk_0 ⟨by omega, by omega⟩ (fun _ => by omega) (fun _ => by omega) (fun h => by first | omega | (rw [h37] at h; cases h)) (fun h => by first | omega | (rw [h37] at h; cases h))))) rfl (.inr rfl)
                · skip
                  refine rs_mv rfl rfl ?_
                  refine rs_fa_p rfl rfl ?_
                  refine rs_ld_p rfl rfl rfl rfl rfl ?_
                  refine rs_cmp rfl rfl rfl rfl (fun h41 => ?_) (fun h41 => ?_)
                  · skip
                    refine rs_pick rfl rfl rfl ?_
                    refine rs_nil fun _ => ?_
                    refine th_n ?_
                    refine aw_cond rfl (fun _ => ?_) (fun h => by cases h)
                    refine aw_seq ?_
                    refine aw_reg ?_
                    refine rs_mv rfl rfl ?_
                    refine rs_nil fun _ => ?_
                    refine th_n ?_
                    refine aw_ret ?_
                    refine th_r ?_
                    exact ret_pure rfl (congrArg iv (Eq.symm (chk_40 ⟨by omega, by omega⟩ (fun _ => by omega) (fun _ => by omega) h37 (by omega)))) rfl (.inr rfl)
                  · skip
                    refine rs_pick rfl rfl rfl ?_
                    refine rs_nil fun _ => ?_
                    refine th_n ?_
                    refine aw_cond rfl (fun h => by cases h) (fun _ => ?_)
                    refine aw_skip ?_
                    refine th_n ?_
                    refine aw_seq ?_
                    refine aw_seq ?_
                    refine aw_reg ?_
                    refine rs_mv rfl rfl ?_
                    refine rs_nilc_r rfl rfl ?_
                    refine rs_fa_r rfl rfl rfl ?_
                    refine rs_ld_r (v := .bool true) rfl rfl (congrArg (fun b => some (AV.bool b)) h37) ?_
                    refine rs_not rfl rfl ?_
                    refine rs_mv rfl rfl ?_
                    refine rs_skip rfl ?_
                    refine rs_skip rfl ?_
                    refine rs_skip rfl ?_
                    refine rs_pick rfl rfl rfl ?_
                    refine rs_nil fun _ => ?_
                    refine th_n ?_
                    refine aw_cond rfl (fun h => by cases h) (fun _ => ?_)
                    refine aw_skip ?_
                    refine th_n ?_
                    refine aw_seq ?_
                    refine aw_reg ?_
                    refine rs_mv rfl rfl ?_
                    refine rs_nil fun _ => ?_
                    refine th_n ?_
                    refine aw_ret ?_
                    exact ret_pure rfl (congrArg iv (Eq.symm (chk_0 ⟨by omega, by omega⟩ (fun _ => by omega) (fun _ => by omega) (fun h => by first | omega | (rw [h37] at h; cases h)) (fun h => by first | omega | (rw [h37] at h; cases h))))) rfl (.inr rfl)
            · skip
              refine rs_mv rfl rfl ?_
              refine rs_skip rfl ?_
              refine rs_skip rfl ?_
              refine rs_skip rfl ?_
              refine rs_pick rfl rfl rfl ?_
              refine rs_nil fun _ => ?_
              refine th_n ?_
              refine aw_cond rfl (fun h => by cases h) (fun _ => ?_)
              refine aw_skip ?_
              refine th_n ?_
              refine aw_seq ?_
              refine aw_seq ?_
              refine aw_reg ?_
              refine rs_mv rfl rfl ?_
              refine rs_nilc_r rfl rfl ?_
              refine rs_fa_r rfl rfl rfl ?_
              refine rs_ld_r rfl rfl rfl ?_
              cases h37 : s.dark
              · skip
                refine rs_mv rfl rfl ?_
                refine rs_skip rfl ?_
                refine rs_skip rfl ?_
                refine rs_skip rfl ?_
                refine rs_pick rfl rfl rfl ?_
                refine rs_nil fun _ => ?_
                refine th_n ?_
                refine aw_cond rfl (fun h => by cases h) (fun _ => ?_)
                refine aw_skip ?_
                refine th_n ?_
                refine aw_seq ?_
                refine aw_seq ?_
                refine aw_reg ?_
                refine rs_mv rfl rfl ?_
                refine rs_nilc_r rfl rfl ?_
                refine rs_fa_r rfl rfl rfl ?_
                refine rs_ld_r (v := .bool false) rfl rfl (congrArg (fun b => some (AV.bool b)) h37) ?_
                refine rs_not rfl rfl ?_
                refine rs_mv rfl rfl ?_
                refine rs_fa_p rfl rfl ?_
                refine rs_ld_p rfl rfl rfl rfl rfl ?_
                refine rs_cmp rfl rfl rfl rfl (fun h51 => ?_) (fun h51 => ?_)
                · skip
                  refine rs_pick rfl rfl rfl ?_
                  refine rs_nil fun _ => ?_
                  refine th_n ?_
                  refine aw_cond rfl (fun _ => ?_) (fun h => by cases h)
                  refine aw_seq ?_
                  refine aw_reg ?_
                  refine rs_mv rfl rfl ?_
                  refine rs_nil fun _ => ?_
                  refine th_n ?_
                  refine aw_ret ?_
                  refine th_r ?_
                  exact ret_pure rfl (congrArg iv (Eq.symm (chk_7 ⟨by omega, by omega⟩ (fun _ => by omega) (fun _ => by omega) h37 (by omega)))) rfl (.inr rfl)
                · skip
                  refine rs_pick rfl rfl rfl ?_
                  refine rs_nil fun _ => ?_
                  refine th_n ?_
                  refine aw_cond rfl (fun h => by cases h) (fun _ => ?_)
                  refine aw_skip ?_
                  refine th_n ?_
                  refine aw_seq ?_
                  refine aw_reg ?_
                  refine rs_mv rfl rfl ?_
                  refine rs_nil fun _ => ?_
                  refine th_n ?_
                  refine aw_ret ?_
                  exact ret_pure rfl (congrArg iv (Eq.symm (chk_0 ⟨by omega, by omega⟩ (fun _ => by omega) (fun _ => by omega) (fun h => by first | omega | (rw [h37] at h; cases h)) (fun h => by first | omega | (rw [h37] at h; cases h))))) rfl (.inr rfl)
              · skip
                refine rs_mv rfl rfl ?_
                refine rs_fa_p rfl rfl ?_
                refine rs_ld_p rfl rfl rfl rfl rfl ?_
                refine rs_cmp rfl rfl rfl rfl (fun h41 => ?_) (fun h41 => ?_)
                · skip
                  refine rs_pick rfl rfl rfl ?_
                  refine rs_nil fun _ => ?_
                  refine th_n ?_
                  refine aw_cond rfl (fun _ => ?_) (fun h => by cases h)
                  refine aw_seq ?_
                  refine aw_reg ?_
                  refine rs_mv rfl rfl ?_
                  refine rs_nil fun _ => ?_
                  refine th_n ?_
                  refine aw_ret ?_
                  refine th_r ?_
                  exact ret_pure rfl (congrArg iv (Eq.symm (chk_40 ⟨by omega, by omega⟩ (fun _ => by omega) (fun _ => by omega) h37 (by omega)))) rfl (.inr rfl)
                · skip
                  refine rs_pick rfl rfl rfl ?_
                  refine rs_nil fun _ => ?_
                  refine th_n ?_
                  refine aw_cond rfl (fun h => by cases h) (fun _ => ?_)
                  refine aw_skip ?_
                  refine th_n ?_
                  refine aw_seq ?_
                  refine aw_seq ?_
                  refine aw_reg ?_
                  refine rs_mv rfl rfl ?_
                  refine rs_nilc_r rfl rfl ?_
                  refine rs_fa_r rfl rfl rfl ?_
                  refine rs_ld_r (v := .bool true) rfl rfl (congrArg (fun b => some (AV.bool b)) h37) ?_
                  refine rs_not rfl rfl ?_
                  refine rs_mv rfl rfl ?_
                  refine rs_skip rfl ?_
                  refine rs_skip rfl ?_
                  refine rs_skip rfl ?_
                  refine rs_pick rfl rfl rfl ?_
                  refine rs_nil fun _ => ?_
                  refine th_n ?_
                  refine aw_cond rfl (fun h => by cases h) (fun _ => ?_)
                  refine aw_skip ?_
                  refine th_n ?_
                  refine aw_seq ?_
                  refine aw_reg ?_
                  refine rs_mv rfl rfl ?_
                  refine rs_nil fun _ => ?_
                  refine th_n ?_
                  refine aw_ret ?_
                  exact ret_pure rfl (congrArg iv (Eq.symm (chk_0 ⟨by omega, by omega⟩ (fun _ => by omega) (fun _ => by omega) (fun h => by first | omega | (rw [h37] at h; cases h)) (fun h => by first | omega | (rw [h37] at h; cases h))))) rfl (.inr rfl)
      · skip
        refine rs_mv rfl rfl ?_
        refine rs_skip rfl ?_
        refine rs_skip rfl ?_
        refine rs_skip rfl ?_
        refine rs_skip rfl ?_
        refine rs_skip rfl ?_
        refine rs_skip rfl ?_
        refine rs_skip rfl ?_
        refine rs_skip rfl ?_
        refine rs_pick rfl rfl rfl ?_
        refine rs_nil fun _ => ?_
        refine th_n ?_
        refine aw_cond rfl (fun h => by cases h) (fun _ => ?_)
        refine aw_skip ?_
        refine th_n ?_
        refine aw_seq ?_
        refine aw_seq ?_
        refine aw_reg ?_
        refine rs_fa_p rfl rfl ?_
        refine rs_ld_p rfl rfl rfl rfl rfl ?_
        refine rs_cmp rfl rfl rfl rfl (fun h28 => ?_) (fun h28 => ?_)
        · skip
          refine rs_mv rfl rfl ?_
          refine rs_fa_p rfl rfl ?_
          refine rs_ld_p rfl rfl rfl rfl rfl ?_
          refine rs_cmp rfl rfl rfl rfl (fun h32 => ?_) (fun h32 => ?_)
          · skip
            refine rs_pick rfl rfl rfl ?_
            refine rs_nil fun _ => ?_
            refine th_n ?_
            refine aw_cond rfl (fun _ => ?_) (fun h => by cases h)
            refine aw_seq ?_
            refine aw_reg ?_
            refine rs_mv rfl rfl ?_
            refine rs_nil fun _ => ?_
            refine th_n ?_
            refine aw_ret ?_
            refine th_r ?_
            exact ret_pure rfl (congrArg iv (Eq.symm (chk_1 ⟨by omega, by omega⟩ (by omega) (by omega)))) rfl (.inr rfl)
          · skip
            refine rs_pick rfl rfl rfl ?_
            refine rs_nil fun _ => ?_
            refine th_n ?_
            refine aw_cond rfl (fun h => by cases h) (fun _ => ?_)
            refine aw_skip ?_
            refine th_n ?_
            refine aw_seq ?_
            refine aw_seq ?_
            refine aw_reg ?_
            refine rs_mv rfl rfl ?_
            refine rs_nilc_r rfl rfl ?_
            refine rs_fa_r rfl rfl rfl ?_
            refine rs_ld_r rfl rfl rfl ?_
            cases h37 : s.dark
            · skip
              refine rs_mv rfl rfl ?_
              refine rs_skip rfl ?_
              refine rs_skip rfl ?_
              refine rs_skip rfl ?_
              refine rs_pick rfl rfl rfl ?_
              refine rs_nil fun _ => ?_
              refine th_n ?_
              refine aw_cond rfl (fun h => by cases h) (fun _ => ?_)
              refine aw_skip ?_
              refine th_n ?_
              refine aw_seq ?_
              refine aw_seq ?_
              refine aw_reg ?_
              refine rs_mv rfl rfl ?_
              refine rs_nilc_r rfl rfl ?_
              refine rs_fa_r rfl rfl rfl ?_
              refine rs_ld_r (v := .bool false) rfl rfl (congrArg (fun b => some (AV.bool b)) h37) ?_
              refine rs_not rfl rfl ?_
              refine rs_mv rfl rfl ?_
              refine rs_fa_p rfl rfl ?_
              refine rs_ld_p rfl rfl rfl rfl rfl ?_
              refine rs_cmp rfl rfl rfl rfl (fun h51 => ?_) (fun h51 => ?_)
              · skip
                refine rs_pick rfl rfl rfl ?_
                refine rs_nil fun _ => ?_
                refine th_n ?_
                refine aw_cond rfl (fun _ => ?_) (fun h => by cases h)
                refine aw_seq ?_
                refine aw_reg ?_
                refine rs_mv rfl rfl ?_
                refine rs_nil fun _ => ?_
                refine th_n ?_
                refine aw_ret ?_
                refine th_r ?_
                exact ret_pure rfl (congrArg iv (Eq.symm (chk_7 ⟨by omega, by omega⟩ (fun _ => by omega) (fun _ => by omega) h37 (by omega)))) rfl (.inr rfl)
              · skip
                refine rs_pick rfl rfl rfl ?_
                refine rs_nil fun _ => ?_
                refine th_n ?_
                refine aw_cond rfl (fun h => by cases h) (fun _ => ?_)
                refine aw_skip ?_
                refine th_n ?_
                refine aw_seq ?_
                refine aw_reg ?_
                refine rs_mv rfl rfl ?_
                refine rs_nil fun _ => ?_
                refine th_n ?_
                refine aw_ret ?_
                exact ret_pure rfl (congrArg iv (Eq.symm (chk_0 ⟨by omega, by omega⟩ (fun _ => by omega) (fun _ => by omega) (fun h => by first | omega | (rw [h37] at h; cases h)) (fun h => by first | omega | (rw [h37] at h; cases h))))) rfl (.inr rfl)
            · skip
              refine rs_mv rfl rfl ?_
              refine rs_fa_p rfl rfl ?_
              refine rs_ld_p rfl rfl rfl rfl rfl ?_
              refine rs_cmp rfl rfl rfl rfl (fun h41 => ?_) (fun h41 => ?_)
              · skip
                refine rs_pick rfl rfl rfl ?_
                refine rs_nil fun _ => ?_
                refine th_n ?_
                refine aw_cond rfl (fun _ => ?_) (fun h => by cases h)
                refine aw_seq ?_
                refine aw_reg ?_
                refine rs_mv rfl rfl ?_
                refine rs_nil fun _ => ?_
                refine th_n ?_
                refine aw_ret ?_
                refine th_r ?_
                exact ret_pure rfl (congrArg iv (Eq.symm (chk_40 ⟨by omega, by omega⟩ (fun _ => by omega) (fun _ => by omega) h37 (by omega)))) rfl (.inr rfl)
              · skip
                refine rs_pick rfl rfl rfl ?_
                refine rs_nil fun _ => ?_
                refine th_n ?_
                refine aw_cond rfl (fun h => by cases h) (fun _ => ?_)
                refine aw_skip ?_
                refine th_n ?_
                refine aw_seq ?_
                refine aw_seq ?_
                refine aw_reg ?_
                refine rs_mv rfl rfl ?_
                refine rs_nilc_r rfl rfl ?_
                refine rs_fa_r rfl rfl rfl ?_
                refine rs_ld_r (v := .bool true) rfl rfl (congrArg (fun b => some (AV.bool b)) h37) ?_
                refine rs_not rfl rfl ?_
                refine rs_mv rfl rfl ?_
                refine rs_skip rfl ?_
                refine rs_skip rfl ?_
                refine rs_skip rfl ?_
                refine rs_pick rfl rfl rfl ?_
                refine rs_nil fun _ => ?_
                refine th_n ?_
                refine aw_cond rfl (fun h => by cases h) (fun _ => ?_)
                refine aw_skip ?_
                refine th_n ?_
                refine aw_seq ?_
                refine aw_reg ?_
                refine rs_mv rfl rfl ?_
                refine rs_nil fun _ => ?_
                refine th_n ?_
                refine aw_ret ?_
                exact ret_pure rfl (congrArg iv (Eq.symm (chk_0 ⟨by omega, by omega⟩ (fun _ => by omega) (fun _ => by omega) (fun h => by first | omega | (rw [h37] at h; cases h)) (fun h => by first | omega | (rw [h37] at h; cases h))))) rfl (.inr rfl)
        · skip
          refine rs_mv rfl rfl ?_
          refine rs_skip rfl ?_
          refine rs_skip rfl ?_
          refine rs_skip rfl ?_
          refine rs_pick rfl rfl rfl ?_
          refine rs_nil fun _ => ?_
          refine th_n ?_
          refine aw_cond rfl (fun h => by cases h) (fun _ => ?_)
          refine aw_skip ?_
          refine th_n ?_
          refine aw_seq ?_
          refine aw_seq ?_
          refine aw_reg ?_
          refine rs_mv rfl rfl ?_
          refine rs_nilc_r rfl rfl ?_
          refine rs_fa_r rfl rfl rfl ?_
          refine rs_ld_r rfl rfl rfl ?_
          cases h37 : s.dark
          · skip
            refine rs_mv rfl rfl ?_
            refine rs_skip rfl ?_
            refine rs_skip rfl ?_
            refine rs_skip rfl ?_
            refine rs_pick rfl rfl rfl ?_
            refine rs_nil fun _ => ?_
            refine th_n ?_
            refine aw_cond rfl (fun h => by cases h) (fun _ => ?_)
            refine aw_skip ?_
            refine th_n ?_
            refine aw_seq ?_
            refine aw_seq ?_
            refine aw_reg ?_
            refine rs_mv rfl rfl ?_
            refine rs_nilc_r rfl rfl ?_
            refine rs_fa_r rfl rfl rfl ?_
            refine rs_ld_r (v := .bool false) rfl rfl (congrArg (fun b => some (AV.bool b)) h37) ?_
            refine rs_not rfl rfl ?_
            refine rs_mv rfl rfl ?_
            refine rs_fa_p rfl rfl ?_
            refine rs_ld_p rfl rfl rfl rfl rfl ?_
            refine rs_cmp rfl rfl rfl rfl (fun h51 => ?_) (fun h51 => ?_)
            · skip
              refine rs_pick rfl rfl rfl ?_
              refine rs_nil fun _ => ?_
              refine th_n ?_
              refine aw_cond rfl (fun _ => ?_) (fun h => by cases h)
              refine aw_seq ?_
              refine aw_reg ?_
              refine rs_mv rfl rfl ?_
              refine rs_nil fun _ => ?_
              refine th_n ?_
              refine aw_ret ?_
              refine th_r ?_
              exact ret_pure rfl (congrArg iv (Eq.symm (chk_7 ⟨by omega, by omega⟩ (fun _ => by omega) (fun _ => by omega) h37 (by omega)))) rfl (.inr rfl)
            · skip
              refine rs_pick rfl rfl rfl ?_
              refine rs_nil fun _ => ?_
              refine th_n ?_
              refine aw_cond rfl (fun h => by cases h) (fun _ => ?_)
              refine aw_skip ?_
              refine th_n ?_
              refine aw_seq ?_
              refine aw_reg ?_
              refine rs_mv rfl rfl ?_
              refine rs_nil fun _ => ?_
              refine th_n ?_
              refine aw_ret ?_
              exact ret_pure rfl (congrArg iv (Eq.symm (chk_0 ⟨by omega, by omega⟩ (fun _ => by omega) (fun _ => by omega) (fun h => by first | omega | (rw [h37] at h; cases h)) (fun h => by first | omega | (rw [h37] at h; cases h))))) rfl (.inr rfl)
          · skip
            refine rs_mv rfl rfl ?_
            refine rs_fa_p rfl rfl ?_
            refine rs_ld_p rfl rfl rfl rfl rfl ?_
            refine rs_cmp rfl rfl rfl rfl (fun h41 => ?_) (fun h41 => ?_)
            · skip
              refine rs_pick rfl rfl rfl ?_
              refine rs_nil fun _ => ?_
              refine th_n ?_
              refine aw_cond rfl (fun _ => ?_) (fun h => by cases h)
              refine aw_seq ?_
              refine aw_reg ?_
              refine rs_mv rfl rfl ?_
              refine rs_nil fun _ => ?_
              refine th_n ?_
              refine aw_ret ?_
              refine th_r ?_
              exact ret_pure rfl (congrArg iv (Eq.symm (chk_40 ⟨by omega, by omega⟩ (fun _ => by omega) (fun _ => by omega) h37 (by omega)))) rfl (.inr rfl)
            · skip
              refine rs_pick rfl rfl rfl ?_
              refine rs_nil fun _ => ?_
              refine th_n ?_
              refine aw_cond rfl (fun h => by cases h) (fun _ => ?_)
              refine aw_skip ?_
              refine th_n ?_
              refine aw_seq ?_
              refine aw_seq ?_
              refine aw_reg ?_
              refine rs_mv rfl rfl ?_
              refine rs_nilc_r rfl rfl ?_
              refine rs_fa_r rfl rfl rfl ?_
              refine rs_ld_r (v := .bool true) rfl rfl (congrArg (fun b => some (AV.bool b)) h37) ?_
              refine rs_not rfl rfl ?_
              refine rs_mv rfl rfl ?_
              refine rs_skip rfl ?_
              refine rs_skip rfl ?_
              refine rs_skip rfl ?_
              refine rs_pick rfl rfl rfl ?_
              refine rs_nil fun _ => ?_
              refine th_n ?_
              refine aw_cond rfl (fun h => by cases h) (fun _ => ?_)
              refine aw_skip ?_
              refine th_n ?_
              refine aw_seq ?_
              refine aw_reg ?_
              refine rs_mv rfl rfl ?_
              refine rs_nil fun _ => ?_
              refine th_n ?_
              refine aw_ret ?_
              exact ret_pure rfl (congrArg iv (Eq.symm (chk_0 ⟨by omega, by omega⟩ (fun _ => by omega) (fun _ => by omega) (fun h => by first | omega | (rw [h37] at h; cases h)) (fun h => by first | omega | (rw [h37] at h; cases h))))) rfl (.inr rfl)

def mcc16 : MC := (.seq (.reg [⟨(some 3), (.box 39 2 (.t 1)), none, []⟩, ⟨(some 4), (.mv (.c (.int .i64 0))), none, []⟩] false) (.seq (.seq (.reg [⟨(some 6), (.mv (.t 0)), none, []⟩, ⟨(some 7), (.call 47 [(.t 6)]), none, [0]⟩] false) (.cond (.t 7) (.seq (.reg [⟨(some 4), (.mv (.c (.int .i64 1))), none, []⟩] false) .ret) .skip)) (.seq (.reg [⟨(some 8), (.mv (.t 0)), none, []⟩, ⟨(some 9), (.ld true 2 (.t 3)), none, []⟩, ⟨(some 10), (.call 48 [(.t 8), (.t 9)]), none, [0, 1]⟩, ⟨(some 5), (.mv (.t 10)), none, [2, 2, 0, 1, 2]⟩] false) (.seq (.seq (.reg [⟨(some 11), (.mv (.t 5)), none, []⟩, ⟨(some 12), (.bin .neq (.t 11) (.c (.int .i64 0))), none, [0]⟩] false) (.cond (.t 12) (.seq (.reg [⟨(some 13), (.mv (.t 5)), none, []⟩, ⟨(some 4), (.mv (.t 13)), none, [0, 0]⟩] false) .ret) .skip)) (.seq (.seq (.reg [⟨(some 14), (.fa 0 (.t 3)), none, []⟩, ⟨(some 15), (.ld false 1 (.t 14)), none, [0]⟩] false) (.block 0 (.seq (.reg [⟨(some 17), (.bin .eql (.t 15) (.c (.int .i64 1))), none, []⟩, ⟨(some 16), (.mv (.t 17)), none, [0]⟩] false) (.cond (.t 16) (.seq (.reg [⟨(some 18), (.mv (.t 0)), none, []⟩, ⟨(some 19), (.call 49 [(.t 18)]), none, [0]⟩, ⟨(some 4), (.mv (.t 19)), none, [1, 1, 0, 1]⟩] false) .ret) (.seq (.reg [⟨(some 21), (.bin .eql (.t 15) (.c (.int .i64 2))), none, []⟩, ⟨(some 20), (.mv (.t 21)), none, [0]⟩] false) (.cond (.t 20) (.seq (.reg [⟨(some 22), (.mv (.t 0)), none, []⟩, ⟨(some 23), (.nilc (.t 22)), none, [0, 0]⟩, ⟨(some 24), (.fa 9 (.t 23)), none, [1, 0]⟩, ⟨none, (.st 1 (.t 24) (.c (.bool true))), none, [2, 0]⟩] false) (.seq (.reg [⟨(some 25), (.mv (.t 0)), none, []⟩, ⟨(some 26), (.nilc (.t 25)), none, [0, 0]⟩, ⟨(some 27), (.fa 10 (.t 26)), none, [1, 0]⟩, ⟨none, (.st 1 (.t 27) (.c (.bool true))), none, [2, 0]⟩] false) (.reg [⟨(some 28), (.mv (.t 0)), none, []⟩, ⟨(some 29), (.nilc (.t 28)), none, [0, 0]⟩, ⟨(some 30), (.fa 8 (.t 29)), none, [1, 0]⟩, ⟨none, (.st 1 (.t 30) (.c (.bool true))), none, [2, 0]⟩] false))) (.seq (.reg [⟨(some 32), (.bin .eql (.t 15) (.c (.int .i64 3))), none, []⟩, ⟨(some 31), (.mv (.t 32)), none, [0]⟩] false) (.cond (.t 31) (.reg [⟨(some 33), (.mv (.t 0)), none, []⟩, ⟨(some 34), (.nilc (.t 33)), none, [0, 0]⟩, ⟨(some 35), (.fa 9 (.t 34)), none, [1, 0]⟩, ⟨none, (.st 1 (.t 35) (.c (.bool false))), none, [2, 0]⟩] false) (.seq (.reg [⟨(some 37), (.bin .eql (.t 15) (.c (.int .i64 4))), none, []⟩, ⟨(some 36), (.mv (.t 37)), none, [0]⟩] false) (.cond (.t 36) (.seq (.seq (.reg [⟨(some 38), (.mv (.t 0)), none, []⟩, ⟨(some 39), (.nilc (.t 38)), none, [0]⟩, ⟨(some 40), (.fa 6 (.t 39)), none, [1]⟩, ⟨(some 41), (.ld false 1 (.t 40)), none, [2]⟩, ⟨(some 42), (.bin .gtr (.t 41) (.c (.int .i64 0))), none, [3]⟩] false) (.cond (.t 42) (.seq (.reg [⟨(some 4), (.mv (.c (.int .i64 41))), none, []⟩] false) .ret) .skip)) (.reg [⟨(some 43), (.mv (.t 0)), none, []⟩, ⟨(some 44), (.mv (.t 0)), none, []⟩, ⟨(some 45), (.nilc (.t 44)), none, [1]⟩, ⟨(some 46), (.fa 5 (.t 45)), none, [2]⟩, ⟨(some 47), (.ld false 1 (.t 46)), none, [3]⟩, ⟨(some 48), (.bin .add (.t 47) (.c (.int .i64 1))), none, [4]⟩, ⟨(some 49), (.nilc (.t 43)), none, [0, 0, 1, 2, 3, 4, 5]⟩, ⟨(some 50), (.fa 6 (.t 49)), none, [6, 0, 1, 2, 3, 4, 5]⟩, ⟨none, (.st 1 (.t 50) (.t 48)), none, [7, 5, 0, 1, 2, 3, 4, 5]⟩] false)) (.seq (.reg [⟨(some 52), (.bin .eql (.t 15) (.c (.int .i64 5))), none, []⟩, ⟨(some 51), (.mv (.t 52)), none, [0]⟩] false) (.cond (.t 51) (.reg [⟨(some 53), (.mv (.t 0)), none, []⟩, ⟨(some 54), (.fa 1 (.t 3)), none, []⟩, ⟨(some 55), (.ld false 1 (.t 54)), none, [1]⟩, ⟨(some 56), (.nilc (.t 53)), none, [0, 0, 1, 2]⟩, ⟨(some 57), (.fa 2 (.t 56)), none, [3, 0, 1, 2]⟩, ⟨none, (.st 1 (.t 57) (.t 55)), none, [4, 2, 0, 1, 2]⟩] false) (.seq (.reg [⟨(some 59), (.bin .eql (.t 15) (.c (.int .i64 6))), none, []⟩, ⟨(some 58), (.mv (.t 59)), none, [0]⟩] false) (.cond (.t 58) (.reg [⟨(some 60), (.mv (.t 0)), none, []⟩, ⟨(some 61), (.nilc (.t 60)), none, [0, 0]⟩, ⟨(some 62), (.fa 8 (.t 61)), none, [1, 0]⟩, ⟨none, (.st 1 (.t 62) (.c (.bool true))), none, [2, 0]⟩] false) (.seq (.reg [⟨(some 64), (.bin .eql (.t 15) (.c (.int .i64 7))), none, []⟩, ⟨(some 63), (.mv (.t 64)), none, [0]⟩] false) (.cond (.t 63) (.reg [⟨(some 65), (.mv (.t 0)), none, []⟩, ⟨(some 66), (.mv (.t 0)), none, []⟩, ⟨(some 67), (.nilc (.t 66)), none, [1]⟩, ⟨(some 68), (.fa 7 (.t 67)), none, [2]⟩, ⟨(some 69), (.ld false 1 (.t 68)), none, [3]⟩, ⟨(some 70), (.mv (.t 69)), none, [4]⟩, ⟨(some 71), (.mv (.t 0)), (some (70, false)), [5]⟩, ⟨(some 72), (.nilc (.t 71)), (some (70, false)), [6, 5]⟩, ⟨(some 73), (.fa 6 (.t 72)), (some (70, false)), [7, 5]⟩, ⟨(some 74), (.ld false 1 (.t 73)), (some (70, false)), [8, 5]⟩, ⟨(some 75), (.bin .gtr (.t 74) (.c (.int .i64 0))), (some (70, false)), [9, 5]⟩, ⟨(some 76), (.pick (.t 70) (.c (.bool true)) (.t 75)), none, [5, 10]⟩, ⟨(some 77), (.nilc (.t 65)), none, [0, 0, 1, 2, 3, 4, 5, 6, 7, 8, 9, 10, 11]⟩, ⟨(some 78), (.fa 7 (.t 77)), none, [12, 0, 1, 2, 3, 4, 5, 6, 7, 8, 9, 10, 11]⟩, ⟨none, (.st 1 (.t 78) (.t 76)), none, [13, 11, 5, 0, 1, 2, 3, 4, 5, 6, 7, 8, 9, 10, 11]⟩] false) .skip)))))))))))))))) (.seq (.reg [⟨(some 4), (.mv (.c (.int .i64 0))), none, []⟩] false) .ret))))))
theorem mcOkc16 : (match Try.f16.body with | some c => compC Try.prog 79 c | none => none) = some mcc16 := by kernel_rfl

theorem gc16 (s s' : St) (k n e : Int) (hs : Sm s) (hf : Fnd s) (hd : doS s k n = (e, s')) : FC Try.prog 16 [.ptr 900 0 0, .agg [iv k, iv n]] (hR 900 901 s) (iv e) (hR2 900 901 902 s') true := by
  have hs0 := hs
  obtain ⟨hl, ha, hev, hfe, hra, hsi, hma, hbr⟩ := hs
  refine fc_run (nt := 79) Try.func16 rfl rfl mcOkc16 (Nat.le_of_ble_eq_true rfl) ?_
  delta mcc16
  refine aw_seq ?_
  refine aw_reg ?_
  refine rs_box rfl rfl rfl rfl rfl rfl ?_
  refine rs_mv rfl rfl ?_
  refine rs_nil fun _ => ?_
  refine th_n ?_
  refine aw_seq ?_
  refine aw_seq ?_
  refine aw_reg ?_
  refine rs_mv rfl rfl ?_
  refine rs_calln [900, 901] rfl rfl (gc47 s (by omega)) (.cons (hv_obj (by simp) rfl (.int (.int (.int (.int (.int (.int (.int (.bool (.bool (.bool (.bool (.sl (by simp) rfl (by simp) (.int (.bool .nil))))))))))))))) (.nil)) rfl ?_
  refine rs_nil fun _ => ?_
  refine th_n ?_
  refine aw_cond rfl (fun h => by cases h) (fun _ => ?_)
  refine aw_skip ?_
  refine th_n ?_
  refine aw_seq ?_
  refine aw_reg ?_
  refine rs_mv rfl rfl ?_
  refine rs_ld_pa rfl rfl rfl rfl (Nat.le_of_ble_eq_true rfl) rfl ?_
  refine rs_calln [900, 901] rfl rfl (gc48 s k n) (.cons (hv_obj (by simp) rfl (.int (.int (.int (.int (.int (.int (.int (.bool (.bool (.bool (.bool (.sl (by simp) rfl (by simp) (.int (.bool .nil))))))))))))))) (.cons (hv_same rfl) (.nil))) rfl ?_
  refine rs_mv rfl rfl ?_
  refine rs_nil fun _ => ?_
  refine th_n ?_
  refine aw_seq ?_
  refine aw_seq ?_
  refine aw_reg ?_
  refine rs_mv rfl rfl ?_
  refine rs_neq rfl rfl rfl ?_
  refine rs_nil fun _ => ?_
  refine th_n ?_
  refine aw_cond rfl (fun h12 => ?_) (fun h12 => ?_)
  · replace h12 := of_decide_eq_true h12
    refine aw_seq ?_
    refine aw_reg ?_
    refine rs_mv rfl rfl ?_
    refine rs_mv rfl rfl ?_
    refine rs_nil fun _ => ?_
    refine th_n ?_
    refine aw_weak (weak_ren_row (i := 901) (i' := 902) (k := 900) (F0 := [(4, _)]) rfl rfl (.cons rfl (.same _) (.nil)) (by decide) rfl (.cons (.same _) (.cons (.same _) (.cons (.same _) (.cons (.same _) (.cons (.same _) (.cons (.same _) (.cons (.same _) (.cons (.same _) (.cons (.same _) (.cons (.same _) (.cons (.same _) (.cons (.sl _ _) (RenL.refl _ _ _)))))))))))))) ?_
    refine aw_ret ?_
    refine th_r ?_
    (have hx := doS_err hd rfl h12
     obtain ⟨rfl, rfl⟩ := hx
     exact ret_own rfl (rc_same rfl (.inl rfl)) (.keep (rfl) rfl (.keep (rfl) rfl (.keep (rfl) rfl (.nil)))) (.cons rfl rfl rfl (.dead rfl rfl .nil)))
  · replace h12 := of_decide_eq_false h12
    refine aw_skip ?_
    refine th_n ?_
    refine aw_seq ?_
    refine aw_seq ?_
    refine aw_reg ?_
    refine rs_fa_p rfl rfl ?_
    refine rs_ld_p rfl rfl rfl rfl rfl ?_
    refine rs_nil fun _ => ?_
    refine th_n ?_
    refine aw_block ?_
    refine aw_seq ?_
    refine aw_reg ?_
    refine rs_eql rfl rfl rfl ?_
    refine rs_mv rfl rfl ?_
    refine rs_nil fun _ => ?_
    refine th_n ?_
    refine aw_cond rfl (fun h16 => ?_) (fun h16 => ?_)
    · replace h16 := of_decide_eq_true h16
      refine aw_seq ?_
      refine aw_reg ?_
      refine rs_mv rfl rfl ?_
      refine rs_callo (hR 900 901 s) rfl rfl (gc49 s s' e hs0 hf (by have hh := doS_ok hd (by simpa using h12); rwa [handS, if_pos h16] at hh)) (.cons (hv_same rfl) (.nil)) (.cons rfl (.cons rfl (.nil))) rfl rfl rfl ?_
      refine rs_mv rfl rfl ?_
      refine rs_nil fun _ => ?_
      refine th_n ?_
      refine aw_ret ?_
      refine in_r ?_
      refine th_r ?_
      (have hh := doS_ok hd (by simpa using h12)
       rw [handS, if_pos h16] at hh
       exact ret_own rfl (rc_same rfl (.inl rfl)) (.keep (rfl) rfl (.keep (rfl) rfl (.keep (rfl) rfl (.nil)))) (.cons rfl rfl rfl (.dead rfl rfl .nil)))
    · replace h16 := of_decide_eq_false h16
      refine aw_seq ?_
      refine aw_reg ?_
      refine rs_eql rfl rfl rfl ?_
      refine rs_mv rfl rfl ?_
      refine rs_nil fun _ => ?_
      refine th_n ?_
      refine aw_cond rfl (fun h20 => ?_) (fun h20 => ?_)
      · replace h20 := of_decide_eq_true h20
        refine aw_seq ?_
        refine aw_reg ?_
        refine rs_mv rfl rfl ?_
        refine rs_nilc_p rfl rfl ?_
        refine rs_fa_p rfl rfl ?_
        refine rs_st rfl rfl rfl rfl rfl rfl rfl (Nat.le_of_ble_eq_true rfl) rfl rfl ?_
        refine rs_nil fun _ => ?_
        refine th_n ?_
        refine aw_seq ?_
        refine aw_reg ?_
        refine rs_mv rfl rfl ?_
        refine rs_nilc_p rfl rfl ?_
        refine rs_fa_p rfl rfl ?_
        refine rs_st rfl rfl rfl rfl rfl rfl rfl (Nat.le_of_ble_eq_true rfl) rfl rfl ?_
        refine rs_nil fun _ => ?_
        refine th_n ?_
        refine aw_reg ?_
        refine rs_mv rfl rfl ?_
        refine rs_nilc_p rfl rfl ?_
        refine rs_fa_p rfl rfl ?_
        refine rs_st rfl rfl rfl rfl rfl rfl rfl (Nat.le_of_ble_eq_true rfl) rfl rfl ?_
        refine rs_nil fun _ => ?_
        refine in_n ?_
        refine th_n ?_
        refine aw_seq ?_
        refine aw_reg ?_
        refine rs_mv rfl rfl ?_
        refine rs_nil fun _ => ?_
        refine th_n ?_
        refine aw_weak (weak_ren_row (i := 901) (i' := 902) (k := 900) (F0 := [(4, _)]) rfl rfl (.cons rfl (.same _) (.nil)) (by decide) rfl (.cons (.same _) (.cons (.same _) (.cons (.same _) (.cons (.same _) (.cons (.same _) (.cons (.same _) (.cons (.same _) (.cons (.same _) (.cons (.same _) (.cons (.same _) (.cons (.same _) (.cons (.sl _ _) (RenL.refl _ _ _)))))))))))))) ?_
        refine aw_ret ?_
        (have hh := doS_ok hd (by simpa using h12)
         rw [handS, if_neg h16, if_pos h20] at hh
         obtain ⟨rfl, rfl⟩ := Prod.mk.inj hh
         exact ret_own rfl (rc_same rfl (.inl rfl)) (.keep (rfl) rfl (.keep (rfl) rfl (.keep (rfl) rfl (.nil)))) (.cons rfl rfl rfl (.dead rfl rfl .nil)))
      · replace h20 := of_decide_eq_false h20
        refine aw_seq ?_
        refine aw_reg ?_
        refine rs_eql rfl rfl rfl ?_
        refine rs_mv rfl rfl ?_
        refine rs_nil fun _ => ?_
        refine th_n ?_
        refine aw_cond rfl (fun h31 => ?_) (fun h31 => ?_)
        · replace h31 := of_decide_eq_true h31
          refine aw_reg ?_
          refine rs_mv rfl rfl ?_
          refine rs_nilc_p rfl rfl ?_
          refine rs_fa_p rfl rfl ?_
          refine rs_st rfl rfl rfl rfl rfl rfl rfl (Nat.le_of_ble_eq_true rfl) rfl rfl ?_
          refine rs_nil fun _ => ?_
          refine in_n ?_
          refine th_n ?_
          refine aw_seq ?_
          refine aw_reg ?_
          refine rs_mv rfl rfl ?_
          refine rs_nil fun _ => ?_
          refine th_n ?_
          refine aw_weak (weak_ren_row (i := 901) (i' := 902) (k := 900) (F0 := [(4, _)]) rfl rfl (.cons rfl (.same _) (.nil)) (by decide) rfl (.cons (.same _) (.cons (.same _) (.cons (.same _) (.cons (.same _) (.cons (.same _) (.cons (.same _) (.cons (.same _) (.cons (.same _) (.cons (.same _) (.cons (.same _) (.cons (.same _) (.cons (.sl _ _) (RenL.refl _ _ _)))))))))))))) ?_
          refine aw_ret ?_
          (have hh := doS_ok hd (by simpa using h12)
           rw [handS, if_neg h16, if_neg h20, if_pos h31] at hh
           obtain ⟨rfl, rfl⟩ := Prod.mk.inj hh
           exact ret_own rfl (rc_same rfl (.inl rfl)) (.keep (rfl) rfl (.keep (rfl) rfl (.keep (rfl) rfl (.nil)))) (.cons rfl rfl rfl (.dead rfl rfl .nil)))
        · replace h31 := of_decide_eq_false h31
          refine aw_seq ?_
          refine aw_reg ?_
          refine rs_eql rfl rfl rfl ?_
          refine rs_mv rfl rfl ?_
          refine rs_nil fun _ => ?_
          refine th_n ?_
          refine aw_cond rfl (fun h36 => ?_) (fun h36 => ?_)
          · replace h36 := of_decide_eq_true h36
            refine aw_seq ?_
            refine aw_seq ?_
            refine aw_reg ?_
            refine rs_mv rfl rfl ?_
            refine rs_nilc_p rfl rfl ?_
            refine rs_fa_p rfl rfl ?_
            refine rs_ld_p rfl rfl rfl rfl rfl ?_
            refine rs_gtr rfl rfl rfl ?_
            refine rs_nil fun _ => ?_
            refine th_n ?_
            refine aw_cond rfl (fun h42 => ?_) (fun h42 => ?_)
            · replace h42 := of_decide_eq_true h42
              have q42 := brk_pos h42
              refine aw_seq ?_
              refine aw_reg ?_
              refine rs_mv rfl rfl ?_
              refine rs_nil fun _ => ?_
              refine th_n ?_
              refine aw_weak (weak_ren_row (i := 901) (i' := 902) (k := 900) (F0 := [(4, _)]) rfl rfl (.cons rfl (.same _) (.nil)) (by decide) rfl (.cons (.same _) (.cons (.same _) (.cons (.same _) (.cons (.same _) (.cons (.same _) (.cons (.same _) (.cons (.same _) (.cons (.same _) (.cons (.same _) (.cons (.same _) (.cons (.same _) (.cons (.sl _ _) (RenL.refl _ _ _)))))))))))))) ?_
              refine aw_ret ?_
              refine th_r ?_
              refine in_r ?_
              refine th_r ?_
              (have hh := doS_ok hd (by simpa using h12)
               rw [handS, if_neg h16, if_neg h20, if_neg h31, if_pos h36, if_pos q42] at hh
               obtain ⟨rfl, rfl⟩ := Prod.mk.inj hh
               exact ret_own rfl (rc_same rfl (.inl rfl)) (.keep (rfl) rfl (.keep (rfl) rfl (.keep (rfl) rfl (.nil)))) (.cons rfl rfl rfl (.dead rfl rfl .nil)))
            · replace h42 := of_decide_eq_false h42
              have q42 := brk_npos h42 hbr.1
              refine aw_skip ?_
              refine th_n ?_
              refine aw_reg ?_
              refine rs_mv rfl rfl ?_
              refine rs_mv rfl rfl ?_
              refine rs_nilc_p rfl rfl ?_
              refine rs_fa_p rfl rfl ?_
              refine rs_ld_p rfl rfl rfl rfl rfl ?_
              refine rs_add rfl rfl rfl (by omega) ?_
              refine rs_nilc_p rfl rfl ?_
              refine rs_fa_p rfl rfl ?_
              refine rs_st rfl rfl rfl rfl rfl rfl rfl (Nat.le_of_ble_eq_true rfl) rfl rfl ?_
              refine rs_nil fun _ => ?_
              refine in_n ?_
              refine th_n ?_
              refine aw_seq ?_
              refine aw_reg ?_
              refine rs_mv rfl rfl ?_
              refine rs_nil fun _ => ?_
              refine th_n ?_
              refine aw_weak (weak_ren_row (i := 901) (i' := 902) (k := 900) (F0 := [(4, _)]) rfl rfl (.cons rfl (.same _) (.nil)) (by decide) rfl (.cons (.same _) (.cons (.same _) (.cons (.same _) (.cons (.same _) (.cons (.same _) (.cons (.same _) (.cons (.same _) (.cons (.same _) (.cons (.same _) (.cons (.same _) (.cons (.same _) (.cons (.sl _ _) (RenL.refl _ _ _)))))))))))))) ?_
              refine aw_ret ?_
              (have hh := doS_ok hd (by simpa using h12)
               rw [handS, if_neg h16, if_neg h20, if_neg h31, if_pos h36, if_neg (by rw [q42]; decide)] at hh
               obtain ⟨rfl, rfl⟩ := Prod.mk.inj hh
               exact ret_own rfl (rc_same rfl (.inl rfl)) (.keep (rfl) rfl (.keep (rfl) rfl (.keep (rfl) rfl (.nil)))) (.cons rfl rfl rfl (.dead rfl rfl .nil)))
          · replace h36 := of_decide_eq_false h36
            refine aw_seq ?_
            refine aw_reg ?_
            refine rs_eql rfl rfl rfl ?_
            refine rs_mv rfl rfl ?_
            refine rs_nil fun _ => ?_
            refine th_n ?_
            refine aw_cond rfl (fun h51 => ?_) (fun h51 => ?_)
            · replace h51 := of_decide_eq_true h51
              refine aw_reg ?_
              refine rs_mv rfl rfl ?_
              refine rs_fa_p rfl rfl ?_
              refine rs_ld_p rfl rfl rfl rfl rfl ?_
              refine rs_nilc_p rfl rfl ?_
              refine rs_fa_p rfl rfl ?_
              refine rs_st rfl rfl rfl rfl rfl rfl rfl (Nat.le_of_ble_eq_true rfl) rfl rfl ?_
              refine rs_nil fun _ => ?_
              refine in_n ?_
              refine th_n ?_
              refine aw_seq ?_
              refine aw_reg ?_
              refine rs_mv rfl rfl ?_
              refine rs_nil fun _ => ?_
              refine th_n ?_
              refine aw_weak (weak_ren_row (i := 901) (i' := 902) (k := 900) (F0 := [(4, _)]) rfl rfl (.cons rfl (.same _) (.nil)) (by decide) rfl (.cons (.same _) (.cons (.same _) (.cons (.same _) (.cons (.same _) (.cons (.same _) (.cons (.same _) (.cons (.same _) (.cons (.same _) (.cons (.same _) (.cons (.same _) (.cons (.same _) (.cons (.sl _ _) (RenL.refl _ _ _)))))))))))))) ?_
              refine aw_ret ?_
              (have hh := doS_ok hd (by simpa using h12)
               rw [handS, if_neg h16, if_neg h20, if_neg h31, if_neg h36, if_pos h51] at hh
               obtain ⟨rfl, rfl⟩ := Prod.mk.inj hh
               exact ret_own rfl (rc_same rfl (.inl rfl)) (.keep (rfl) rfl (.keep (rfl) rfl (.keep (rfl) rfl (.nil)))) (.cons rfl rfl rfl (.dead rfl rfl .nil)))
            · replace h51 := of_decide_eq_false h51
              refine aw_seq ?_
              refine aw_reg ?_
              refine rs_eql rfl rfl rfl ?_
              refine rs_mv rfl rfl ?_
              refine rs_nil fun _ => ?_
              refine th_n ?_
              refine aw_cond rfl (fun h58 => ?_) (fun h58 => ?_)
              · replace h58 := of_decide_eq_true h58
                refine aw_reg ?_
                refine rs_mv rfl rfl ?_
                refine rs_nilc_p rfl rfl ?_
                refine rs_fa_p rfl rfl ?_
                refine rs_st rfl rfl rfl rfl rfl rfl rfl (Nat.le_of_ble_eq_true rfl) rfl rfl ?_
                refine rs_nil fun _ => ?_
                refine in_n ?_
                refine th_n ?_
                refine aw_seq ?_
                refine aw_reg ?_
                refine rs_mv rfl rfl ?_
                refine rs_nil fun _ => ?_
                refine th_n ?_
                refine aw_weak (weak_ren_row (i := 901) (i' := 902) (k := 900) (F0 := [(4, _)]) rfl rfl (.cons rfl (.same _) (.nil)) (by decide) rfl (.cons (.same _) (.cons (.same _) (.cons (.same _) (.cons (.same _) (.cons (.same _) (.cons (.same _) (.cons (.same _) (.cons (.same _) (.cons (.same _) (.cons (.same _) (.cons (.same _) (.cons (.sl _ _) (RenL.refl _ _ _)))))))))))))) ?_
                refine aw_ret ?_
                (have hh := doS_ok hd (by simpa using h12)
                 rw [handS, if_neg h16, if_neg h20, if_neg h31, if_neg h36, if_neg h51, if_pos h58] at hh
                 obtain ⟨rfl, rfl⟩ := Prod.mk.inj hh
                 exact ret_own rfl (rc_same rfl (.inl rfl)) (.keep (rfl) rfl (.keep (rfl) rfl (.keep (rfl) rfl (.nil)))) (.cons rfl rfl rfl (.dead rfl rfl .nil)))
              · replace h58 := of_decide_eq_false h58
                refine aw_seq ?_
                refine aw_reg ?_
                refine rs_eql rfl rfl rfl ?_
                refine rs_mv rfl rfl ?_
                refine rs_nil fun _ => ?_
                refine th_n ?_
                refine aw_cond rfl (fun h63 => ?_) (fun h63 => ?_)
                · replace h63 := of_decide_eq_true h63
                  refine aw_reg ?_
                  refine rs_mv rfl rfl ?_
                  refine rs_mv rfl rfl ?_
                  refine rs_nilc_p rfl rfl ?_
                  refine rs_fa_p rfl rfl ?_
                  refine rs_ld_p rfl rfl rfl rfl rfl ?_
                  cases h69 : s.noticed
                  · skip
                    refine rs_mv rfl rfl ?_
                    refine rs_mv rfl rfl ?_
                    refine rs_nilc_p rfl rfl ?_
                    refine rs_fa_p rfl rfl ?_
                    refine rs_ld_p rfl rfl rfl rfl rfl ?_
                    refine rs_cmp rfl rfl rfl rfl (fun h75 => ?_) (fun h75 => ?_)
                    · skip
                      have q75 := brk_pos h75
                      refine rs_pick rfl rfl rfl ?_
                      refine rs_nilc_p rfl rfl ?_
                      refine rs_fa_p rfl rfl ?_
                      refine rs_st rfl rfl rfl rfl rfl rfl rfl (Nat.le_of_ble_eq_true rfl) rfl rfl ?_
                      refine rs_nil fun _ => ?_
                      refine in_n ?_
                      refine th_n ?_
                      refine aw_seq ?_
                      refine aw_reg ?_
                      refine rs_mv rfl rfl ?_
                      refine rs_nil fun _ => ?_
                      refine th_n ?_
                      refine aw_weak (weak_ren_row (i := 901) (i' := 902) (k := 900) (F0 := [(4, _)]) rfl rfl (.cons rfl (.same _) (.nil)) (by decide) rfl (.cons (.same _) (.cons (.same _) (.cons (.same _) (.cons (.same _) (.cons (.same _) (.cons (.same _) (.cons (.same _) (.cons (.same _) (.cons (.same _) (.cons (.same _) (.cons (.same _) (.cons (.sl _ _) (RenL.refl _ _ _)))))))))))))) ?_
                      refine aw_ret ?_
                      (have hh := doS_ok hd (by simpa using h12)
                       rw [handS, if_neg h16, if_neg h20, if_neg h31, if_neg h36, if_neg h51, if_neg h58, show (s.noticed || s.broken) = true by rw [h69, q75]; rfl] at hh
                       obtain ⟨rfl, rfl⟩ := Prod.mk.inj hh
                       exact ret_own rfl (rc_same rfl (.inl rfl)) (.keep (rfl) rfl (.keep (rfl) rfl (.keep (rfl) rfl (.nil)))) (.cons rfl rfl rfl (.dead rfl rfl .nil)))
                    · skip
                      have q75 := brk_npos h75 hbr.1
                      refine rs_pick rfl rfl rfl ?_
                      refine rs_nilc_p rfl rfl ?_
                      refine rs_fa_p rfl rfl ?_
                      refine rs_st rfl rfl rfl rfl rfl rfl rfl (Nat.le_of_ble_eq_true rfl) rfl rfl ?_
                      refine rs_nil fun _ => ?_
                      refine in_n ?_
                      refine th_n ?_
                      refine aw_seq ?_
                      refine aw_reg ?_
                      refine rs_mv rfl rfl ?_
                      refine rs_nil fun _ => ?_
                      refine th_n ?_
                      refine aw_weak (weak_ren_row (i := 901) (i' := 902) (k := 900) (F0 := [(4, _)]) rfl rfl (.cons rfl (.same _) (.nil)) (by decide) rfl (.cons (.same _) (.cons (.same _) (.cons (.same _) (.cons (.same _) (.cons (.same _) (.cons (.same _) (.cons (.same _) (.cons (.same _) (.cons (.same _) (.cons (.same _) (.cons (.same _) (.cons (.sl _ _) (RenL.refl _ _ _)))))))))))))) ?_
                      refine aw_ret ?_
                      (have hh := doS_ok hd (by simpa using h12)
                       rw [handS, if_neg h16, if_neg h20, if_neg h31, if_neg h36, if_neg h51, if_neg h58, show (s.noticed || s.broken) = false by rw [h69, q75]; rfl] at hh
                       obtain ⟨rfl, rfl⟩ := Prod.mk.inj hh
                       exact ret_own rfl (rc_same rfl (.inl rfl)) (.keep (rfl) rfl (.keep (rfl) rfl (.keep (rfl) rfl (.nil)))) (.cons rfl rfl rfl (.dead rfl rfl .nil)))
                  · skip
                    refine rs_mv rfl rfl ?_
                    refine rs_skip rfl ?_
                    refine rs_skip rfl ?_
                    refine rs_skip rfl ?_
                    refine rs_skip rfl ?_
                    refine rs_skip rfl ?_
                    refine rs_pick rfl rfl rfl ?_
                    refine rs_nilc_p rfl rfl ?_
                    refine rs_fa_p rfl rfl ?_
                    refine rs_st rfl rfl rfl rfl rfl rfl rfl (Nat.le_of_ble_eq_true rfl) rfl rfl ?_
                    refine rs_nil fun _ => ?_
                    refine in_n ?_
                    refine th_n ?_
                    refine aw_seq ?_
                    refine aw_reg ?_
                    refine rs_mv rfl rfl ?_
                    refine rs_nil fun _ => ?_
                    refine th_n ?_
                    refine aw_weak (weak_ren_row (i := 901) (i' := 902) (k := 900) (F0 := [(4, _)]) rfl rfl (.cons rfl (.same _) (.nil)) (by decide) rfl (.cons (.same _) (.cons (.same _) (.cons (.same _) (.cons (.same _) (.cons (.same _) (.cons (.same _) (.cons (.same _) (.cons (.same _) (.cons (.same _) (.cons (.same _) (.cons (.same _) (.cons (.sl _ _) (RenL.refl _ _ _)))))))))))))) ?_
                    refine aw_ret ?_
                    (have hh := doS_ok hd (by simpa using h12)
                     rw [handS, if_neg h16, if_neg h20, if_neg h31, if_neg h36, if_neg h51, if_neg h58, show (s.noticed || s.broken) = true by rw [h69]; rfl] at hh
                     obtain ⟨rfl, rfl⟩ := Prod.mk.inj hh
                     exact ret_own rfl (rc_same rfl (.inl rfl)) (.keep (rfl) rfl (.keep (rfl) rfl (.keep (rfl) rfl (.nil)))) (.cons rfl rfl rfl (.dead rfl rfl .nil)))
                · replace h63 := of_decide_eq_false h63
                  refine aw_skip ?_
                  refine in_n ?_
                  refine th_n ?_
                  refine aw_seq ?_
                  refine aw_reg ?_
                  refine rs_mv rfl rfl ?_
                  refine rs_nil fun _ => ?_
                  refine th_n ?_
                  refine aw_weak (weak_ren_row (i := 901) (i' := 902) (k := 900) (F0 := [(4, _)]) rfl rfl (.cons rfl (.same _) (.nil)) (by decide) rfl (.cons (.same _) (.cons (.same _) (.cons (.same _) (.cons (.same _) (.cons (.same _) (.cons (.same _) (.cons (.same _) (.cons (.same _) (.cons (.same _) (.cons (.same _) (.cons (.same _) (.cons (.sl _ _) (RenL.refl _ _ _)))))))))))))) ?_
                  refine aw_ret ?_
                  (exfalso
                   have := chk_4 (s := s) (n := n) (k := k) (by omega)
                   omega)

end Go.Proofs.Ytigfcmcdjfmieaa

/-! Walks: C4r. -/
namespace Go.Proofs.Ytigfcmcdjfmieaa
open Go.RowKit
set_option maxRecDepth 100000
set_option linter.unusedVariables false


def mcc18 : MC := (.seq (.reg [⟨(some 2), (.mv (.c (.int .i64 0))), none, []⟩, ⟨(some 3), (.mv (.c (.int .i64 0))), none, [0]⟩] false) (.seq (.seq (.reg [⟨(some 4), (.mv (.t 0)), none, []⟩, ⟨(some 5), (.call 47 [(.t 4)]), none, [0]⟩] false) (.cond (.t 5) (.seq (.reg [⟨(some 2), (.mv (.c (.int .i64 0))), none, []⟩, ⟨(some 3), (.mv (.c (.int .i64 (-1)))), none, [0, 0]⟩] false) .ret) .skip)) (.seq (.reg [⟨(some 6), (.mv (.t 0)), none, []⟩, ⟨(some 7), (.nilc (.t 6)), none, [0]⟩, ⟨(some 8), (.fa 5 (.t 7)), none, [1]⟩, ⟨(some 9), (.ld false 1 (.t 8)), none, [2]⟩, ⟨(some 10), (.mv (.t 0)), none, []⟩, ⟨(some 11), (.nilc (.t 10)), none, [4]⟩, ⟨(some 12), (.fa 6 (.t 11)), none, [5]⟩, ⟨(some 13), (.ld false 1 (.t 12)), none, [6]⟩, ⟨(some 14), (.bin .sub (.t 13) (.c (.int .i64 1))), none, [7]⟩, ⟨(some 2), (.mv (.t 9)), none, [3, 0, 1, 2, 3]⟩, ⟨(some 3), (.mv (.t 14)), none, [8, 9, 0, 1, 2, 3, 4, 5, 6, 7, 8, 9]⟩] true) .ret)))
theorem mcOkc18 : (match Try.f18.body with | some c => compC Try.prog 15 c | none => none) = some mcc18 := by kernel_rfl

theorem gc18 (s : St) (hs : Sm s) : FC Try.prog 18 [cellsR s] [] (.tup [iv s.made, iv (brkV s)]) [] false := by
  have hev := hs.every
  have hb := hs.breach
  have hk : -1 ≤ brkV s ∧ brkV s ≤ 1000000 := by unfold brkV; cases s.broken <;> simp <;> omega
  have hk2 := brk_brkV s
  refine fc_run (nt := 15) Try.func18 rfl rfl mcOkc18 (Nat.le_of_ble_eq_true rfl) ?_
  delta mcc18
  refine aw_seq ?_
  refine aw_reg ?_
  refine rs_mv rfl rfl ?_
  refine rs_mv rfl rfl ?_
  refine rs_nil fun _ => ?_
  refine th_n ?_
  refine aw_seq ?_
  refine aw_seq ?_
  refine aw_reg ?_
  refine rs_mv rfl rfl ?_
  refine rs_calln [] rfl rfl (gc47 s (by omega)) (.cons (hv_same rfl) (.nil)) rfl ?_
  refine rs_nil fun _ => ?_
  refine th_n ?_
  refine aw_cond rfl (fun h => by cases h) (fun _ => ?_)
  refine aw_skip ?_
  refine th_n ?_
  refine aw_seq ?_
  refine aw_draw hmix ?_
  refine rs_mv rfl rfl ?_
  refine rs_nilc_r rfl rfl ?_
  refine rs_fa_r rfl rfl rfl ?_
  refine rs_ld_r rfl rfl rfl ?_
  refine rs_mv rfl rfl ?_
  refine rs_nilc_r rfl rfl ?_
  refine rs_fa_r rfl rfl rfl ?_
  refine rs_ld_r rfl rfl rfl ?_
  refine rs_sub rfl rfl rfl (by omega) ?_
  refine rs_mv rfl rfl ?_
  refine rs_mv rfl rfl ?_
  refine rs_nil ⟨by kernel_rfl, fun _ => ?_⟩
  refine th_n ?_
  refine aw_ret ?_
  exact ret_pure rfl (congrArg (fun x => AV.tup [iv s.made, iv x]) (brk_brkV s)) rfl (.inr rfl)

def mcc24 : MC := (.seq (.reg [⟨(some 2), (.mv (.c (.int .i64 0))), none, []⟩] false) (.seq (.seq (.reg [⟨(some 3), (.mv (.t 0)), none, []⟩, ⟨(some 4), (.call 47 [(.t 3)]), none, [0]⟩] false) (.cond (.t 4) (.seq (.reg [⟨(some 2), (.mv (.c (.int .i64 0))), none, []⟩] false) .ret) .skip)) (.seq (.reg [⟨(some 5), (.mv (.t 0)), none, []⟩, ⟨(some 6), (.nilc (.t 5)), none, [0]⟩, ⟨(some 7), (.fa 3 (.t 6)), none, [1]⟩, ⟨(some 8), (.ld false 1 (.t 7)), none, [2]⟩, ⟨(some 2), (.mv (.t 8)), none, [3, 0, 1, 2, 3]⟩] false) .ret)))
theorem mcOkc24 : (match Try.f24.body with | some c => compC Try.prog 9 c | none => none) = some mcc24 := by kernel_rfl

theorem gc24 (s : St) (hs : Sm s) : FC Try.prog 24 [cellsR s] [] (iv s.ran) [] false := by
  have hev := hs.every
  refine fc_run (nt := 9) Try.func24 rfl rfl mcOkc24 (Nat.le_of_ble_eq_true rfl) ?_
  delta mcc24
  refine aw_seq ?_
  refine aw_reg ?_
  refine rs_mv rfl rfl ?_
  refine rs_nil fun _ => ?_
  refine th_n ?_
  refine aw_seq ?_
  refine aw_seq ?_
  refine aw_reg ?_
  refine rs_mv rfl rfl ?_
  refine rs_calln [] rfl rfl (gc47 s (by omega)) (.cons (hv_same rfl) (.nil)) rfl ?_
  refine rs_nil fun _ => ?_
  refine th_n ?_
  refine aw_cond rfl (fun h => by cases h) (fun _ => ?_)
  refine aw_skip ?_
  refine th_n ?_
  refine aw_seq ?_
  refine aw_reg ?_
  refine rs_mv rfl rfl ?_
  refine rs_nilc_r rfl rfl ?_
  refine rs_fa_r rfl rfl rfl ?_
  refine rs_ld_r rfl rfl rfl ?_
  refine rs_mv rfl rfl ?_
  refine rs_nil fun _ => ?_
  refine th_n ?_
  refine aw_ret ?_
  exact ret_pure rfl rfl rfl (.inr rfl)

def mcc20 : MC := (.seq (.reg [⟨(some 2), (.alloc 45 2 [(.int .i64 0), (.int .i64 0)]), none, []⟩] false) (.seq (.seq (.reg [⟨(some 4), (.mv (.t 0)), none, []⟩, ⟨(some 5), (.call 47 [(.t 4)]), none, [0]⟩] false) (.cond (.t 5) (.seq (.reg [⟨(some 6), (.build [(.int .i64 0), (.int .i64 0)] []), none, []⟩, ⟨none, (.st 2 (.t 2) (.t 6)), none, [0, 0]⟩] false) .ret) .skip)) (.seq (.seq (.reg [⟨(some 7), (.mv (.t 0)), none, []⟩, ⟨(some 8), (.nilc (.t 7)), none, [0]⟩, ⟨(some 9), (.fa 10 (.t 8)), none, [1]⟩, ⟨(some 10), (.ld false 1 (.t 9)), none, [2]⟩, ⟨(some 11), (.un .not (.t 10)), none, [3]⟩] false) (.cond (.t 11) (.seq (.reg [⟨(some 12), (.mv (.t 0)), none, []⟩, ⟨(some 13), (.nilc (.t 12)), none, [0]⟩, ⟨(some 14), (.fa 5 (.t 13)), none, [1]⟩, ⟨(some 15), (.ld false 1 (.t 14)), none, [2]⟩, ⟨(some 16), (.mv (.t 0)), none, []⟩, ⟨(some 17), (.nilc (.t 16)), none, [4]⟩, ⟨(some 18), (.fa 5 (.t 17)), none, [5]⟩, ⟨(some 19), (.ld false 1 (.t 18)), none, [6]⟩, ⟨(some 20), (.build [(.int .i64 0), (.int .i64 0)] [(0, (1, (.t 15))), (1, (1, (.t 19)))]), none, [3, 7]⟩, ⟨none, (.st 2 (.t 2) (.t 20)), none, [8, 0, 1, 2, 3, 4, 5, 6, 7, 8]⟩] true) .ret) .skip)) (.seq (.reg [⟨(some 3), (.mv (.c (.int .i64 0))), none, []⟩] false) (.seq (.seq (.reg [⟨(some 21), (.mv (.t 0)), none, []⟩, ⟨(some 22), (.nilc (.t 21)), none, [0]⟩, ⟨(some 23), (.fa 11 (.t 22)), none, [1]⟩, ⟨(some 24), (.ld false 1 (.t 23)), none, [2]⟩, ⟨(some 25), (.len (.t 24)), none, [3]⟩, ⟨(some 26), (.bin .gtr (.t 25) (.c (.int .i64 0))), none, [4]⟩] false) (.cond (.t 26) (.reg [⟨(some 27), (.mv (.t 0)), none, []⟩, ⟨(some 28), (.nilc (.t 27)), none, [0]⟩, ⟨(some 29), (.fa 11 (.t 28)), none, [1]⟩, ⟨(some 30), (.ld false 1 (.t 29)), none, [2]⟩, ⟨(some 31), (.mv (.t 0)), none, []⟩, ⟨(some 32), (.nilc (.t 31)), none, [4]⟩, ⟨(some 33), (.fa 11 (.t 32)), none, [5]⟩, ⟨(some 34), (.ld false 1 (.t 33)), none, [6]⟩, ⟨(some 35), (.len (.t 34)), none, [7]⟩, ⟨(some 36), (.bin .sub (.t 35) (.c (.int .i64 1))), none, [8]⟩, ⟨(some 37), (.ixsl 1 (.t 30) (.t 36)), none, [3, 9]⟩, ⟨(some 38), (.ld false 1 (.t 37)), none, [10]⟩, ⟨(some 3), (.mv (.t 38)), none, [11, 0, 1, 2, 3, 4, 5, 6, 7, 8, 9, 10, 11]⟩] true) .skip)) (.seq (.seq (.reg [⟨(some 39), (.mv (.t 3)), none, []⟩, ⟨(some 40), (.mv (.t 0)), none, []⟩, ⟨(some 41), (.nilc (.t 40)), none, [1]⟩, ⟨(some 42), (.fa 0 (.t 41)), none, [2]⟩, ⟨(some 43), (.ld false 1 (.t 42)), none, [3]⟩, ⟨(some 44), (.bin .eql (.t 39) (.t 43)), none, [0, 4]⟩, ⟨(some 45), (.mv (.t 44)), none, [5]⟩, ⟨(some 46), (.mv (.t 0)), (some (45, false)), [6]⟩, ⟨(some 47), (.nilc (.t 46)), (some (45, false)), [7, 6]⟩, ⟨(some 48), (.fa 13 (.t 47)), (some (45, false)), [8, 6]⟩, ⟨(some 49), (.ld false 1 (.t 48)), (some (45, false)), [9, 6]⟩, ⟨(some 50), (.pick (.t 45) (.c (.bool true)) (.t 49)), none, [6, 10]⟩] false) (.cond (.t 50) (.seq (.reg [⟨(some 51), (.mv (.t 3)), none, []⟩, ⟨(some 52), (.mv (.t 3)), none, []⟩, ⟨(some 53), (.build [(.int .i64 0), (.int .i64 0)] [(0, (1, (.t 51))), (1, (1, (.t 52)))]), none, [0, 1]⟩, ⟨none, (.st 2 (.t 2) (.t 53)), none, [2, 0, 1, 2]⟩] false) .ret) .skip)) (.seq (.reg [⟨(some 54), (.mv (.t 3)), none, []⟩, ⟨(some 55), (.mv (.t 3)), none, []⟩, ⟨(some 56), (.mv (.t 3)), none, []⟩, ⟨(some 57), (.mv (.t 0)), none, []⟩, ⟨(some 58), (.nilc (.t 57)), none, [3]⟩, ⟨(some 59), (.fa 1 (.t 58)), none, [4]⟩, ⟨(some 60), (.ld false 1 (.t 59)), none, [5]⟩, ⟨(some 61), (.bin .rem (.t 56) (.t 60)), none, [2, 6]⟩, ⟨(some 62), (.bin .sub (.t 55) (.t 61)), none, [1, 7]⟩, ⟨(some 63), (.mv (.t 0)), none, []⟩, ⟨(some 64), (.nilc (.t 63)), none, [9]⟩, ⟨(some 65), (.fa 1 (.t 64)), none, [10]⟩, ⟨(some 66), (.ld false 1 (.t 65)), none, [11]⟩, ⟨(some 67), (.bin .add (.t 62) (.t 66)), none, [8, 12]⟩, ⟨(some 68), (.mv (.t 0)), none, []⟩, ⟨(some 69), (.nilc (.t 68)), none, [14]⟩, ⟨(some 70), (.fa 0 (.t 69)), none, [15]⟩, ⟨(some 71), (.ld false 1 (.t 70)), none, [16]⟩, ⟨(some 72), (.mn (.t 67) (.t 71)), none, [13, 17]⟩, ⟨(some 73), (.bin .sub (.t 72) (.c (.int .i64 1))), none, [18]⟩, ⟨(some 74), (.build [(.int .i64 0), (.int .i64 0)] [(0, (1, (.t 54))), (1, (1, (.t 73)))]), none, [0, 19]⟩, ⟨none, (.st 2 (.t 2) (.t 74)), none, [20, 0, 1, 2, 3, 4, 5, 6, 7, 8, 9, 10, 11, 12, 13, 14, 15, 16, 17, 18, 19, 20]⟩] true) .ret)))))))
theorem mcOkc20 : (match Try.f20.body with | some c => compC Try.prog 75 c | none => none) = some mcc20 := by kernel_rfl

theorem gc20 (s : St) (a b : Int) (hs : Sm s) (hl : Lst s) (h : spanS s = (a, b)) : FC Try.prog 20 [cellsR s] [] (.agg [iv a, iv b]) [] false := by
  have hev := hs.every
  have hla := hl.b
  have hal := hs.all
  have hn := hs.len
  refine fc_run (nt := 75) Try.func20 rfl rfl mcOkc20 (Nat.le_of_ble_eq_true rfl) ?_
  delta mcc20
  refine aw_seq ?_
  refine aw_reg ?_
  refine rs_alloc rfl rfl rfl ?_
  refine rs_nil fun _ => ?_
  refine th_n ?_
  refine aw_seq ?_
  refine aw_seq ?_
  refine aw_reg ?_
  refine rs_mv rfl rfl ?_
  refine rs_calln [] rfl rfl (gc47 s (by omega)) (.cons (hv_same rfl) (.nil)) rfl ?_
  refine rs_nil fun _ => ?_
  refine th_n ?_
  refine aw_cond rfl (fun h => by cases h) (fun _ => ?_)
  refine aw_skip ?_
  refine th_n ?_
  refine aw_seq ?_
  refine aw_seq ?_
  refine aw_reg ?_
  refine rs_mv rfl rfl ?_
  refine rs_nilc_r rfl rfl ?_
  refine rs_fa_r rfl rfl rfl ?_
  refine rs_ld_r rfl rfl rfl ?_
  refine rs_not rfl rfl ?_
  refine rs_nil fun _ => ?_
  refine th_n ?_
  refine aw_cond rfl (fun h11 => ?_) (fun h11 => ?_)
  · skip
    have q11 : s.blind = false := by simpa using h11
    refine aw_seq ?_
    refine aw_draw hmix ?_
    refine rs_mv rfl rfl ?_
    refine rs_nilc_r rfl rfl ?_
    refine rs_fa_r rfl rfl rfl ?_
    refine rs_ld_r rfl rfl rfl ?_
    refine rs_mv rfl rfl ?_
    refine rs_nilc_r rfl rfl ?_
    refine rs_fa_r rfl rfl rfl ?_
    refine rs_ld_r rfl rfl rfl ?_
    refine rs_build rfl rfl ?_
    refine rs_st rfl rfl rfl rfl rfl rfl rfl (Nat.le_of_ble_eq_true rfl) rfl rfl ?_
    refine rs_nil ⟨by kernel_rfl, fun _ => ?_⟩
    refine th_n ?_
    refine aw_ret ?_
    refine th_r ?_
    (simp only [spanS, bf q11, if_true, if_false, ↓reduceIte, reduceCtorEq, or_true, true_or, or_false, false_or, and_true, true_and, and_false, false_and, Prod.mk.injEq] at h
     obtain ⟨rfl, rfl⟩ := h
     exact ret_pure rfl rfl rfl (.inr rfl))
  · skip
    have q11 : s.blind = true := by simpa using h11
    refine aw_skip ?_
    refine th_n ?_
    refine aw_seq ?_
    refine aw_reg ?_
    refine rs_mv rfl rfl ?_
    refine rs_nil fun _ => ?_
    refine th_n ?_
    refine aw_seq ?_
    refine aw_seq ?_
    refine aw_reg ?_
    refine rs_mv rfl rfl ?_
    refine rs_nilc_r rfl rfl ?_
    refine rs_fa_r rfl rfl rfl ?_
    refine rs_ld_r rfl rfl rfl ?_
    refine rs_len_m rfl rfl ?_
    refine rs_gtr rfl rfl rfl ?_
    refine rs_nil fun _ => ?_
    refine th_n ?_
    refine aw_cond rfl (fun h26 => ?_) (fun h26 => ?_)
    · replace h26 := of_decide_eq_true h26
      obtain ⟨y, hy, _⟩ := at_some (L := s.rs) (k := s.rs.length - 1) (by omega)
      refine aw_draw hmix ?_
      refine rs_mv rfl rfl ?_
      refine rs_nilc_r rfl rfl ?_
      refine rs_fa_r rfl rfl rfl ?_
      refine rs_ld_r rfl rfl rfl ?_
      refine rs_mv rfl rfl ?_
      refine rs_nilc_r rfl rfl ?_
      refine rs_fa_r rfl rfl rfl ?_
      refine rs_ld_r rfl rfl rfl ?_
      refine rs_len_m rfl rfl ?_
      refine rs_sub rfl rfl rfl (by omega) ?_
      refine rs_ix_g (f := ci) (y := y) rfl rfl rfl (by omega) (by rw [show ((s.rs.length : Int) - 1).toNat = s.rs.length - 1 by omega]; exact hy) ?_
      refine rs_ld_r rfl rfl rfl ?_
      refine rs_mv rfl rfl ?_
      refine rs_nil ⟨by kernel_rfl, fun _ => ?_⟩
      refine th_n ?_
      refine aw_seq ?_
      refine aw_seq ?_
      refine aw_weak (F0 := [(0, cellsR s), (2, .ptr 2 0 0), (3, iv (lastS s.rs))]) (H0 := [(2, .cells 45 2 [[iv 0, iv 0]] true)]) (weak_to (.cons rfl (rc_same rfl (.inl rfl)) (.cons rfl (rc_same rfl (.inl rfl)) (.cons rfl (rc_int (by first | exact last_nil (by omega) | exact last_at hy)) (.nil)))) (.keep (rfl) rfl (.nil)) (fun i h => by cases h)) ?_
      refine aw_reg ?_
      refine rs_mv rfl rfl ?_
      refine rs_mv rfl rfl ?_
      refine rs_nilc_r rfl rfl ?_
      refine rs_fa_r rfl rfl rfl ?_
      refine rs_ld_r rfl rfl rfl ?_
      refine rs_cmp rfl rfl rfl rfl (fun h44 => ?_) (fun h44 => ?_)
      · skip
        refine rs_mv rfl rfl ?_
        refine rs_skip rfl ?_
        refine rs_skip rfl ?_
        refine rs_skip rfl ?_
        refine rs_skip rfl ?_
        refine rs_pick rfl rfl rfl ?_
        refine rs_nil fun _ => ?_
        refine th_n ?_
        refine aw_cond rfl (fun _ => ?_) (fun h => by cases h)
        refine aw_seq ?_
        refine aw_reg ?_
        refine rs_mv rfl rfl ?_
        refine rs_mv rfl rfl ?_
        refine rs_build rfl rfl ?_
        refine rs_st rfl rfl rfl rfl rfl rfl rfl (Nat.le_of_ble_eq_true rfl) rfl rfl ?_
        refine rs_nil fun _ => ?_
        refine th_n ?_
        refine aw_ret ?_
        refine th_r ?_
        (simp only [spanS, bt q11, et h44, if_true, if_false, ↓reduceIte, reduceCtorEq, or_true, true_or, or_false, false_or, and_true, true_and, and_false, false_and, Prod.mk.injEq] at h
         obtain ⟨rfl, rfl⟩ := h
         exact ret_pure rfl rfl rfl (.inr rfl))
      · skip
        refine rs_mv rfl rfl ?_
        refine rs_mv rfl rfl ?_
        refine rs_nilc_r rfl rfl ?_
        refine rs_fa_r rfl rfl rfl ?_
        refine rs_ld_r rfl rfl rfl ?_
        refine rs_pick rfl rfl rfl ?_
        refine rs_nil fun _ => ?_
        refine th_n ?_
        refine aw_cond rfl (fun h50 => ?_) (fun h50 => ?_)
        · skip
          refine aw_seq ?_
          refine aw_reg ?_
          refine rs_mv rfl rfl ?_
          refine rs_mv rfl rfl ?_
          refine rs_build rfl rfl ?_
          refine rs_st rfl rfl rfl rfl rfl rfl rfl (Nat.le_of_ble_eq_true rfl) rfl rfl ?_
          refine rs_nil fun _ => ?_
          refine th_n ?_
          refine aw_ret ?_
          refine th_r ?_
          (simp only [spanS, bt q11, h44, bt h50, if_true, if_false, ↓reduceIte, reduceCtorEq, or_true, true_or, or_false, false_or, and_true, true_and, and_false, false_and, Prod.mk.injEq] at h
           obtain ⟨rfl, rfl⟩ := h
           exact ret_pure rfl rfl rfl (.inr rfl))
        · skip
          refine aw_skip ?_
          refine th_n ?_
          refine aw_seq ?_
          refine aw_draw hmix ?_
          refine rs_mv rfl rfl ?_
          refine rs_mv rfl rfl ?_
          refine rs_mv rfl rfl ?_
          refine rs_mv rfl rfl ?_
          refine rs_nilc_r rfl rfl ?_
          refine rs_fa_r rfl rfl rfl ?_
          refine rs_ld_r rfl rfl rfl ?_
          refine rs_rem rfl rfl rfl (by omega) (hl.m.resolve_left h44) ?_
          refine rs_sub rfl rfl rfl (by omega) ?_
          refine rs_mv rfl rfl ?_
          refine rs_nilc_r rfl rfl ?_
          refine rs_fa_r rfl rfl rfl ?_
          refine rs_ld_r rfl rfl rfl ?_
          refine rs_add rfl rfl rfl (by omega) ?_
          refine rs_mv rfl rfl ?_
          refine rs_nilc_r rfl rfl ?_
          refine rs_fa_r rfl rfl rfl ?_
          refine rs_ld_r rfl rfl rfl ?_
          refine rs_mn (c := min (lastS s.rs + s.every) s.all) rfl rfl rfl (by rw [Int.sub_zero]) ?_
          refine rs_sub rfl rfl rfl (by omega) ?_
          refine rs_build rfl rfl ?_
          refine rs_st rfl rfl rfl rfl rfl rfl rfl (Nat.le_of_ble_eq_true rfl) rfl rfl ?_
          refine rs_nil ⟨by kernel_rfl, fun _ => ?_⟩
          refine th_n ?_
          refine aw_ret ?_
          (simp only [spanS, bt q11, h44, bf h50, Bool.false_eq_true, if_true, if_false, ↓reduceIte, reduceCtorEq, or_true, true_or, or_false, false_or, and_true, true_and, and_false, false_and, Prod.mk.injEq] at h
           obtain ⟨rfl, rfl⟩ := h
           exact ret_pure rfl rfl rfl (.inr rfl))
    · replace h26 := of_decide_eq_false h26
      refine aw_skip ?_
      refine th_n ?_
      refine aw_seq ?_
      refine aw_seq ?_
      refine aw_weak (F0 := [(0, cellsR s), (2, .ptr 2 0 0), (3, iv (lastS s.rs))]) (H0 := [(2, .cells 45 2 [[iv 0, iv 0]] true)]) (weak_to (.cons rfl (rc_same rfl (.inl rfl)) (.cons rfl (rc_same rfl (.inl rfl)) (.cons rfl (rc_int (by first | exact last_nil (by omega) | exact last_at hy)) (.nil)))) (.keep (rfl) rfl (.nil)) (fun i h => by cases h)) ?_
      refine aw_reg ?_
      refine rs_mv rfl rfl ?_
      refine rs_mv rfl rfl ?_
      refine rs_nilc_r rfl rfl ?_
      refine rs_fa_r rfl rfl rfl ?_
      refine rs_ld_r rfl rfl rfl ?_
      refine rs_cmp rfl rfl rfl rfl (fun h44 => ?_) (fun h44 => ?_)
      · skip
        refine rs_mv rfl rfl ?_
        refine rs_skip rfl ?_
        refine rs_skip rfl ?_
        refine rs_skip rfl ?_
        refine rs_skip rfl ?_
        refine rs_pick rfl rfl rfl ?_
        refine rs_nil fun _ => ?_
        refine th_n ?_
        refine aw_cond rfl (fun _ => ?_) (fun h => by cases h)
        refine aw_seq ?_
        refine aw_reg ?_
        refine rs_mv rfl rfl ?_
        refine rs_mv rfl rfl ?_
        refine rs_build rfl rfl ?_
        refine rs_st rfl rfl rfl rfl rfl rfl rfl (Nat.le_of_ble_eq_true rfl) rfl rfl ?_
        refine rs_nil fun _ => ?_
        refine th_n ?_
        refine aw_ret ?_
        refine th_r ?_
        (simp only [spanS, bt q11, et h44, if_true, if_false, ↓reduceIte, reduceCtorEq, or_true, true_or, or_false, false_or, and_true, true_and, and_false, false_and, Prod.mk.injEq] at h
         obtain ⟨rfl, rfl⟩ := h
         exact ret_pure rfl rfl rfl (.inr rfl))
      · skip
        refine rs_mv rfl rfl ?_
        refine rs_mv rfl rfl ?_
        refine rs_nilc_r rfl rfl ?_
        refine rs_fa_r rfl rfl rfl ?_
        refine rs_ld_r rfl rfl rfl ?_
        refine rs_pick rfl rfl rfl ?_
        refine rs_nil fun _ => ?_
        refine th_n ?_
        refine aw_cond rfl (fun h50 => ?_) (fun h50 => ?_)
        · skip
          refine aw_seq ?_
          refine aw_reg ?_
          refine rs_mv rfl rfl ?_
          refine rs_mv rfl rfl ?_
          refine rs_build rfl rfl ?_
          refine rs_st rfl rfl rfl rfl rfl rfl rfl (Nat.le_of_ble_eq_true rfl) rfl rfl ?_
          refine rs_nil fun _ => ?_
          refine th_n ?_
          refine aw_ret ?_
          refine th_r ?_
          (simp only [spanS, bt q11, h44, bt h50, if_true, if_false, ↓reduceIte, reduceCtorEq, or_true, true_or, or_false, false_or, and_true, true_and, and_false, false_and, Prod.mk.injEq] at h
           obtain ⟨rfl, rfl⟩ := h
           exact ret_pure rfl rfl rfl (.inr rfl))
        · skip
          refine aw_skip ?_
          refine th_n ?_
          refine aw_seq ?_
          refine aw_draw hmix ?_
          refine rs_mv rfl rfl ?_
          refine rs_mv rfl rfl ?_
          refine rs_mv rfl rfl ?_
          refine rs_mv rfl rfl ?_
          refine rs_nilc_r rfl rfl ?_
          refine rs_fa_r rfl rfl rfl ?_
          refine rs_ld_r rfl rfl rfl ?_
          refine rs_rem rfl rfl rfl (by omega) (hl.m.resolve_left h44) ?_
          refine rs_sub rfl rfl rfl (by omega) ?_
          refine rs_mv rfl rfl ?_
          refine rs_nilc_r rfl rfl ?_
          refine rs_fa_r rfl rfl rfl ?_
          refine rs_ld_r rfl rfl rfl ?_
          refine rs_add rfl rfl rfl (by omega) ?_
          refine rs_mv rfl rfl ?_
          refine rs_nilc_r rfl rfl ?_
          refine rs_fa_r rfl rfl rfl ?_
          refine rs_ld_r rfl rfl rfl ?_
          refine rs_mn (c := min (lastS s.rs + s.every) s.all) rfl rfl rfl (by rw [Int.sub_zero]) ?_
          refine rs_sub rfl rfl rfl (by omega) ?_
          refine rs_build rfl rfl ?_
          refine rs_st rfl rfl rfl rfl rfl rfl rfl (Nat.le_of_ble_eq_true rfl) rfl rfl ?_
          refine rs_nil ⟨by kernel_rfl, fun _ => ?_⟩
          refine th_n ?_
          refine aw_ret ?_
          (simp only [spanS, bt q11, h44, bf h50, Bool.false_eq_true, if_true, if_false, ↓reduceIte, reduceCtorEq, or_true, true_or, or_false, false_or, and_true, true_and, and_false, false_and, Prod.mk.injEq] at h
           obtain ⟨rfl, rfl⟩ := h
           exact ret_pure rfl rfl rfl (.inr rfl))

def mcc22 : MC := (.seq (.reg [⟨(some 2), (.alloc 45 2 [(.int .i64 0), (.int .i64 0)]), none, []⟩] false) (.seq (.seq (.reg [⟨(some 3), (.mv (.t 0)), none, []⟩, ⟨(some 4), (.call 47 [(.t 3)]), none, [0]⟩] false) (.cond (.t 4) (.seq (.reg [⟨(some 5), (.build [(.int .i64 0), (.int .i64 0)] []), none, []⟩, ⟨none, (.st 2 (.t 2) (.t 5)), none, [0, 0]⟩] false) .ret) .skip)) (.seq (.reg [⟨(some 6), (.mv (.t 0)), none, []⟩, ⟨(some 7), (.nilc (.t 6)), none, [0]⟩, ⟨(some 8), (.fa 12 (.t 7)), none, [1]⟩, ⟨(some 9), (.ld false 1 (.t 8)), none, [2]⟩, ⟨(some 10), (.mv (.t 0)), none, []⟩, ⟨(some 11), (.call 20 [(.t 10)]), none, [4]⟩, ⟨(some 12), (.fld false 1 1 (.t 11)), none, [5]⟩, ⟨(some 13), (.build [(.int .i64 0), (.int .i64 0)] [(0, (1, (.t 9))), (1, (1, (.t 12)))]), none, [3, 6]⟩, ⟨none, (.st 2 (.t 2) (.t 13)), none, [7, 5, 0, 1, 2, 3, 4, 5, 6, 7]⟩] true) .ret)))
theorem mcOkc22 : (match Try.f22.body with | some c => compC Try.prog 14 c | none => none) = some mcc22 := by kernel_rfl

theorem gc22 (s : St) (a b : Int) (hs : Sm s) (hl : Lst s) (h : spanS s = (a, b)) : FC Try.prog 22 [cellsR s] [] (.agg [iv s.sound, iv b]) [] false := by
  have hev := hs.every
  refine fc_run (nt := 14) Try.func22 rfl rfl mcOkc22 (Nat.le_of_ble_eq_true rfl) ?_
  delta mcc22
  refine aw_seq ?_
  refine aw_reg ?_
  refine rs_alloc rfl rfl rfl ?_
  refine rs_nil fun _ => ?_
  refine th_n ?_
  refine aw_seq ?_
  refine aw_seq ?_
  refine aw_reg ?_
  refine rs_mv rfl rfl ?_
  refine rs_calln [] rfl rfl (gc47 s (by omega)) (.cons (hv_same rfl) (.nil)) rfl ?_
  refine rs_nil fun _ => ?_
  refine th_n ?_
  refine aw_cond rfl (fun h => by cases h) (fun _ => ?_)
  refine aw_skip ?_
  refine th_n ?_
  refine aw_seq ?_
  refine aw_draw hmix ?_
  refine rs_mv rfl rfl ?_
  refine rs_nilc_r rfl rfl ?_
  refine rs_fa_r rfl rfl rfl ?_
  refine rs_ld_r rfl rfl rfl ?_
  refine rs_mv rfl rfl ?_
  refine rs_calln [] rfl rfl (gc20 s a b hs hl h) (.cons (hv_same rfl) (.nil)) rfl ?_
  refine rs_fld rfl rfl rfl ?_
  refine rs_build rfl rfl ?_
  refine rs_st rfl rfl rfl rfl rfl rfl rfl (Nat.le_of_ble_eq_true rfl) rfl rfl ?_
  refine rs_nil ⟨by kernel_rfl, fun _ => ?_⟩
  refine th_n ?_
  refine aw_ret ?_
  exact ret_pure rfl rfl rfl (.inr rfl)

def mcc27 : MC := (.seq (.reg [⟨(some 2), (.mv (.c .nils)), none, []⟩] false) (.seq (.seq (.reg [⟨(some 3), (.mv (.t 0)), none, []⟩, ⟨(some 4), (.call 47 [(.t 3)]), none, [0]⟩] false) (.cond (.t 4) (.seq (.reg [⟨(some 2), (.mv (.c .nils)), none, []⟩] false) .ret) .skip)) (.seq (.reg [⟨(some 5), (.bslice 3 1 [(.int .i64 0)] 0 []), none, []⟩, ⟨(some 6), (.mv (.t 0)), none, []⟩, ⟨(some 7), (.nilc (.t 6)), none, [1]⟩, ⟨(some 8), (.fa 11 (.t 7)), none, [2]⟩, ⟨(some 9), (.ld false 1 (.t 8)), none, [3]⟩, ⟨(some 10), (.app 3 1 8 [(.int .i64 0)] (.t 5) (.t 9)), none, [0, 4]⟩, ⟨(some 2), (.mv (.t 10)), none, [5, 5, 0, 1, 2, 3, 4, 5]⟩] false) .ret)))
theorem mcOkc27 : (match Try.f27.body with | some c => compC Try.prog 11 c | none => none) = some mcc27 := by kernel_rfl

theorem gc27 (s : St) (hs : Sm s) : FC Try.prog 27 [cellsR s] [] (ints s.rs) [] false := by
  have hev := hs.every
  have hn := hs.len
  refine fc_run (nt := 11) Try.func27 rfl rfl mcOkc27 (Nat.le_of_ble_eq_true rfl) ?_
  delta mcc27
  refine aw_seq ?_
  refine aw_reg ?_
  refine rs_mv rfl rfl ?_
  refine rs_nil fun _ => ?_
  refine th_n ?_
  refine aw_seq ?_
  refine aw_seq ?_
  refine aw_reg ?_
  refine rs_mv rfl rfl ?_
  refine rs_calln [] rfl rfl (gc47 s (by omega)) (.cons (hv_same rfl) (.nil)) rfl ?_
  refine rs_nil fun _ => ?_
  refine th_n ?_
  refine aw_cond rfl (fun h => by cases h) (fun _ => ?_)
  refine aw_skip ?_
  refine th_n ?_
  refine aw_seq ?_
  refine aw_reg ?_
  refine rs_bslice (l := []) (els := []) (fl := true) rfl rfl rfl rfl rfl rfl ?_
  refine rs_mv rfl rfl ?_
  refine rs_nilc_r rfl rfl ?_
  refine rs_fa_r rfl rfl rfl ?_
  refine rs_ld_r rfl rfl rfl ?_
  refine rs_app_e (ys := s.rs) (f := ci) rfl rfl rfl rfl rfl rfl rfl (by decide) (fun _ => rfl) rfl (by first | omega | simp) (by first | omega | simp) (fun _ => rfl) ?_
  refine rs_mv rfl rfl ?_
  refine rs_nil fun _ => ?_
  refine th_n ?_
  refine aw_ret ?_
  exact ret_new rfl (rc_frz rfl rfl rfl (fun _ => rfl)) .nil

end Go.Proofs.Ytigfcmcdjfmieaa

/-! Walks: C6r. -/
namespace Go.Proofs.Ytigfcmcdjfmieaa
open Go.RowKit
set_option maxRecDepth 100000
set_option linter.unusedVariables false


def mcc13 : MC := (.seq (.reg [⟨(some 4), (.mv (.c .nilp)), none, []⟩] false) (.seq (.seq (.reg [⟨(some 5), (.mv (.t 0)), none, []⟩, ⟨(some 6), (.call 37 [(.t 5)]), none, [0]⟩, ⟨(some 7), (.bin .neq (.t 6) (.c (.int .i64 0))), none, [1]⟩, ⟨(some 8), (.mv (.t 7)), none, [2, 1]⟩, ⟨(some 9), (.mv (.t 0)), (some (8, false)), [3]⟩, ⟨(some 10), (.len (.t 9)), (some (8, false)), [4, 3]⟩, ⟨(some 11), (.bin .eql (.t 10) (.c (.int .i64 0))), (some (8, false)), [5, 3]⟩, ⟨(some 12), (.pick (.t 8) (.c (.bool true)) (.t 11)), none, [3, 6]⟩, ⟨(some 13), (.mv (.t 12)), none, [7, 3]⟩, ⟨(some 14), (.mv (.t 1)), (some (13, false)), [8]⟩, ⟨(some 15), (.bin .lss (.t 14) (.c (.int .i64 1))), (some (13, false)), [9, 8]⟩, ⟨(some 16), (.pick (.t 13) (.c (.bool true)) (.t 15)), none, [8, 10]⟩, ⟨(some 17), (.mv (.t 16)), none, [11, 8]⟩, ⟨(some 18), (.mv (.t 1)), (some (17, false)), [12]⟩, ⟨(some 19), (.bin .gtr (.t 18) (.c (.int .i64 100))), (some (17, false)), [13, 12]⟩, ⟨(some 20), (.pick (.t 17) (.c (.bool true)) (.t 19)), none, [12, 14]⟩] false) (.cond (.t 20) (.seq (.reg [⟨(some 4), (.mv (.c .nilp)), none, []⟩] false) .ret) .skip)) (.seq (.reg [⟨(some 21), (.mv (.t 0)), none, []⟩, ⟨(some 22), (.call 38 [(.t 21)]), none, [0]⟩, ⟨(some 23), (.mv (.t 1)), none, []⟩, ⟨(some 24), (.build [(.int .i64 0), (.int .i64 0), (.int .i64 0), (.int .i64 0), (.int .i64 0), (.int .i64 0), (.int .i64 0), (.bool false), (.bool false), (.bool false), (.bool false), .nils, (.int .i64 0), (.bool false)] [(0, (1, (.t 22))), (1, (1, (.t 23))), (2, (1, (.c (.int .i64 1))))]), none, [1, 2]⟩, ⟨(some 25), (.box 73 14 (.t 24)), none, [3]⟩, ⟨(some 4), (.mv (.t 25)), none, [4, 1, 0, 1, 2, 3, 4]⟩] false) .ret)))
theorem mcOkc13 : (match Try.f13.body with | some c => compC Try.prog 26 c | none => none) = some mcc13 := by kernel_rfl

theorem gc13 (ms : List Mv) (n : Int) (hl : ms.length ≤ 4611686018427387904) (h : newB ms n) : FC Try.prog 13 [mvs ms, iv n] [] (.ptr 900 0 0) (hR 900 901 (st0 (pstep ms) n)) false := by
  refine fc_run (nt := 26) Try.func13 rfl rfl mcOkc13 (Nat.le_of_ble_eq_true rfl) ?_
  delta mcc13
  refine aw_seq ?_
  refine aw_reg ?_
  refine rs_mv rfl rfl ?_
  refine rs_nil fun _ => ?_
  refine th_n ?_
  refine aw_seq ?_
  refine aw_seq ?_
  refine aw_reg ?_
  refine rs_mv rfl rfl ?_
  refine rs_calln [] rfl rfl (gc37 ms hl) (.cons (hv_same rfl) (.nil)) rfl ?_
  refine rs_cmp rfl rfl rfl rfl (fun h7 => ?_) (fun h7 => ?_)
  · skip
    refine rs_mv rfl rfl ?_
    refine rs_skip rfl ?_
    refine rs_skip rfl ?_
    refine rs_skip rfl ?_
    refine rs_pick rfl rfl rfl ?_
    refine rs_mv rfl rfl ?_
    refine rs_skip rfl ?_
    refine rs_skip rfl ?_
    refine rs_pick rfl rfl rfl ?_
    refine rs_mv rfl rfl ?_
    refine rs_skip rfl ?_
    refine rs_skip rfl ?_
    refine rs_pick rfl rfl rfl ?_
    refine rs_nil fun _ => ?_
    refine th_n ?_
    refine aw_cond rfl (fun _ => ?_) (fun h => by cases h)
    refine aw_seq ?_
    refine aw_reg ?_
    refine rs_mv rfl rfl ?_
    refine rs_nil fun _ => ?_
    refine th_n ?_
    refine aw_ret ?_
    refine th_r ?_
    (exfalso; have hb := h.l; have hc := h.c; have h1 := h.n1; have h2 := h.n2; omega)
  · skip
    refine rs_mv rfl rfl ?_
    refine rs_mv rfl rfl ?_
    refine rs_len_m rfl rfl ?_
    refine rs_cmp rfl rfl rfl rfl (fun h11 => ?_) (fun h11 => ?_)
    · skip
      refine rs_pick rfl rfl rfl ?_
      refine rs_mv rfl rfl ?_
      refine rs_skip rfl ?_
      refine rs_skip rfl ?_
      refine rs_pick rfl rfl rfl ?_
      refine rs_mv rfl rfl ?_
      refine rs_skip rfl ?_
      refine rs_skip rfl ?_
      refine rs_pick rfl rfl rfl ?_
      refine rs_nil fun _ => ?_
      refine th_n ?_
      refine aw_cond rfl (fun _ => ?_) (fun h => by cases h)
      refine aw_seq ?_
      refine aw_reg ?_
      refine rs_mv rfl rfl ?_
      refine rs_nil fun _ => ?_
      refine th_n ?_
      refine aw_ret ?_
      refine th_r ?_
      (exfalso; have hb := h.l; have hc := h.c; have h1 := h.n1; have h2 := h.n2; omega)
    · skip
      refine rs_pick rfl rfl rfl ?_
      refine rs_mv rfl rfl ?_
      refine rs_mv rfl rfl ?_
      refine rs_cmp rfl rfl rfl rfl (fun h15 => ?_) (fun h15 => ?_)
      · skip
        refine rs_pick rfl rfl rfl ?_
        refine rs_mv rfl rfl ?_
        refine rs_skip rfl ?_
        refine rs_skip rfl ?_
        refine rs_pick rfl rfl rfl ?_
        refine rs_nil fun _ => ?_
        refine th_n ?_
        refine aw_cond rfl (fun _ => ?_) (fun h => by cases h)
        refine aw_seq ?_
        refine aw_reg ?_
        refine rs_mv rfl rfl ?_
        refine rs_nil fun _ => ?_
        refine th_n ?_
        refine aw_ret ?_
        refine th_r ?_
        (exfalso; have hb := h.l; have hc := h.c; have h1 := h.n1; have h2 := h.n2; omega)
      · skip
        refine rs_pick rfl rfl rfl ?_
        refine rs_mv rfl rfl ?_
        refine rs_mv rfl rfl ?_
        refine rs_cmp rfl rfl rfl rfl (fun h19 => ?_) (fun h19 => ?_)
        · skip
          refine rs_pick rfl rfl rfl ?_
          refine rs_nil fun _ => ?_
          refine th_n ?_
          refine aw_cond rfl (fun _ => ?_) (fun h => by cases h)
          refine aw_seq ?_
          refine aw_reg ?_
          refine rs_mv rfl rfl ?_
          refine rs_nil fun _ => ?_
          refine th_n ?_
          refine aw_ret ?_
          refine th_r ?_
          (exfalso; have hb := h.l; have hc := h.c; have h1 := h.n1; have h2 := h.n2; omega)
        · skip
          refine rs_pick rfl rfl rfl ?_
          refine rs_nil fun _ => ?_
          refine th_n ?_
          refine aw_cond rfl (fun h => by cases h) (fun _ => ?_)
          refine aw_skip ?_
          refine th_n ?_
          refine aw_seq ?_
          refine aw_reg ?_
          refine rs_mv rfl rfl ?_
          refine rs_calln [] rfl rfl (gc38 ms hl) (.cons (hv_same rfl) (.nil)) rfl ?_
          refine rs_mv rfl rfl ?_
          refine rs_build rfl rfl ?_
          refine rs_box rfl rfl rfl rfl rfl rfl ?_
          refine rs_mv rfl rfl ?_
          refine rs_nil fun _ => ?_
          refine th_n ?_
          refine aw_weak (Weak.trans (F1 := [(4, .ptr 900 0 0)]) (weak_ren (i := 25) (i' := 900) rfl rfl (.cons rfl (.ptr _ _) .nil)) (weak_seed_any (i := 901) (k := 900) (e2 := 3) (z2 := 1) (fl2 := true) rfl rfl (.next (.next (.next (.next (.next (.next (.next (.next (.next (.next (.next (.here)))))))))))))) ?_
          refine aw_ret ?_
          exact ret_new rfl (rc_same rfl (.inr rfl)) (.keep rfl rfl rfl (.keep rfl rfl rfl .nil))

theorem gc13n (ms : List Mv) (n : Int) (hl : ms.length ≤ 4611686018427387904) (h : ¬ newB ms n) : FC Try.prog 13 [mvs ms, iv n] [] .nilp [] false := by
  refine fc_run (nt := 26) Try.func13 rfl rfl mcOkc13 (Nat.le_of_ble_eq_true rfl) ?_
  delta mcc13
  refine aw_seq ?_
  refine aw_reg ?_
  refine rs_mv rfl rfl ?_
  refine rs_nil fun _ => ?_
  refine th_n ?_
  refine aw_seq ?_
  refine aw_seq ?_
  refine aw_reg ?_
  refine rs_mv rfl rfl ?_
  refine rs_calln [] rfl rfl (gc37 ms hl) (.cons (hv_same rfl) (.nil)) rfl ?_
  refine rs_cmp rfl rfl rfl rfl (fun h7 => ?_) (fun h7 => ?_)
  · skip
    refine rs_mv rfl rfl ?_
    refine rs_skip rfl ?_
    refine rs_skip rfl ?_
    refine rs_skip rfl ?_
    refine rs_pick rfl rfl rfl ?_
    refine rs_mv rfl rfl ?_
    refine rs_skip rfl ?_
    refine rs_skip rfl ?_
    refine rs_pick rfl rfl rfl ?_
    refine rs_mv rfl rfl ?_
    refine rs_skip rfl ?_
    refine rs_skip rfl ?_
    refine rs_pick rfl rfl rfl ?_
    refine rs_nil fun _ => ?_
    refine th_n ?_
    refine aw_cond rfl (fun _ => ?_) (fun h => by cases h)
    refine aw_seq ?_
    refine aw_reg ?_
    refine rs_mv rfl rfl ?_
    refine rs_nil fun _ => ?_
    refine th_n ?_
    refine aw_ret ?_
    refine th_r ?_
    exact ret_pure rfl rfl rfl (.inr rfl)
  · skip
    refine rs_mv rfl rfl ?_
    refine rs_mv rfl rfl ?_
    refine rs_len_m rfl rfl ?_
    refine rs_cmp rfl rfl rfl rfl (fun h11 => ?_) (fun h11 => ?_)
    · skip
      refine rs_pick rfl rfl rfl ?_
      refine rs_mv rfl rfl ?_
      refine rs_skip rfl ?_
      refine rs_skip rfl ?_
      refine rs_pick rfl rfl rfl ?_
      refine rs_mv rfl rfl ?_
      refine rs_skip rfl ?_
      refine rs_skip rfl ?_
      refine rs_pick rfl rfl rfl ?_
      refine rs_nil fun _ => ?_
      refine th_n ?_
      refine aw_cond rfl (fun _ => ?_) (fun h => by cases h)
      refine aw_seq ?_
      refine aw_reg ?_
      refine rs_mv rfl rfl ?_
      refine rs_nil fun _ => ?_
      refine th_n ?_
      refine aw_ret ?_
      refine th_r ?_
      exact ret_pure rfl rfl rfl (.inr rfl)
    · skip
      refine rs_pick rfl rfl rfl ?_
      refine rs_mv rfl rfl ?_
      refine rs_mv rfl rfl ?_
      refine rs_cmp rfl rfl rfl rfl (fun h15 => ?_) (fun h15 => ?_)
      · skip
        refine rs_pick rfl rfl rfl ?_
        refine rs_mv rfl rfl ?_
        refine rs_skip rfl ?_
        refine rs_skip rfl ?_
        refine rs_pick rfl rfl rfl ?_
        refine rs_nil fun _ => ?_
        refine th_n ?_
        refine aw_cond rfl (fun _ => ?_) (fun h => by cases h)
        refine aw_seq ?_
        refine aw_reg ?_
        refine rs_mv rfl rfl ?_
        refine rs_nil fun _ => ?_
        refine th_n ?_
        refine aw_ret ?_
        refine th_r ?_
        exact ret_pure rfl rfl rfl (.inr rfl)
      · skip
        refine rs_pick rfl rfl rfl ?_
        refine rs_mv rfl rfl ?_
        refine rs_mv rfl rfl ?_
        refine rs_cmp rfl rfl rfl rfl (fun h19 => ?_) (fun h19 => ?_)
        · skip
          refine rs_pick rfl rfl rfl ?_
          refine rs_nil fun _ => ?_
          refine th_n ?_
          refine aw_cond rfl (fun _ => ?_) (fun h => by cases h)
          refine aw_seq ?_
          refine aw_reg ?_
          refine rs_mv rfl rfl ?_
          refine rs_nil fun _ => ?_
          refine th_n ?_
          refine aw_ret ?_
          refine th_r ?_
          exact ret_pure rfl rfl rfl (.inr rfl)
        · skip
          refine rs_pick rfl rfl rfl ?_
          refine rs_nil fun _ => ?_
          refine th_n ?_
          refine aw_cond rfl (fun h => by cases h) (fun _ => ?_)
          refine aw_skip ?_
          refine th_n ?_
          refine aw_seq ?_
          refine aw_reg ?_
          refine rs_mv rfl rfl ?_
          refine rs_calln [] rfl rfl (gc38 ms hl) (.cons (hv_same rfl) (.nil)) rfl ?_
          refine rs_mv rfl rfl ?_
          refine rs_build rfl rfl ?_
          refine rs_box rfl rfl rfl rfl rfl rfl ?_
          refine rs_mv rfl rfl ?_
          refine rs_nil fun _ => ?_
          refine th_n ?_
          refine aw_ret ?_
          (exfalso; exact h ⟨by omega, by omega, by omega, by omega⟩)

end Go.Proofs.Ytigfcmcdjfmieaa

/-! Walks: C7r. -/
namespace Go.Proofs.Ytigfcmcdjfmieaa
open Go.RowKit
set_option maxRecDepth 100000
set_option linter.unusedVariables false

theorem fc_rtg {P : Program} {f : Nat} {args : List AV} {r : AV} {s s' : St} (σ : Nat → Nat) (hσ : ∀ k, σ (σ k) = k) {x y z a b c : Nat} (ha : σ x = a) (hb : σ y = b) (hc : σ z = c) (hargs : ∀ v, v ∈ args → scopedV [] v = true) (hr : scopedV [] r = true)
    (h : FC P f (.ptr x 0 0 :: args) (hR x y s) r (hR2 x y z s') true) : FC P f (.ptr a 0 0 :: args) (hR a b s) r (hR2 a b c s') true :=
  fc_ren σ hσ h (.cons (.ptr ha) (renVs_closed hargs)) (.cons ha (renO_ref hb s) (.cons hb .flat .nil)) (.closed hr) (.cons ha (renO_ref hc s') (.cons hc .flat (.cons hb .dead .nil)))
theorem at_ref {P : Program} {f : Nat} {args : List AV} {r : AV} {s s' : St} (a b c : Nat) (hn : nmOK a b c = true) (hargs : ∀ v, v ∈ args → scopedV [] v = true) (hr : scopedV [] r = true)
    (h : FC P f (.ptr 900 0 0 :: args) (hR 900 901 s) r (hR2 900 901 902 s') true) : FC P f (.ptr a 0 0 :: args) (hR a b s) r (hR2 a b c s') true :=
  fc_rtg (sw3 a b c) (sw3_sw3 hn) (sw3_at hn).1 (sw3_at hn).2.1 (sw3_at hn).2.2 hargs hr (fc_rtg (x := 900) (y := 901) (z := 902) (shf 6100) (shf_shf 6100 (.inr (by decide))) rfl rfl rfl hargs hr h)
theorem at13 (a b c : Nat) (hn : nmOK a b c = true) (ms : List Mv) (n : Int) (hl : ms.length ≤ 4611686018427387904) (h : newB ms n) : FC Try.prog 13 [mvs ms, iv n] [] (.ptr a 0 0) (hR a b (st0 (pstep ms) n)) false :=
  fc_ren (sw3 a b c) (sw3_sw3 hn) (fc_ren (shf 6100) (shf_shf 6100 (.inr (by decide))) (gc13 ms n hl h) (.cons (.closed rfl) (.cons (.closed rfl) .nil)) .nil (r1 := .ptr 7000 0 0) (.ptr rfl) (H1' := hR 7000 7001 _) (.cons rfl (renO_ref rfl _) (.cons rfl .flat .nil)))
    (.cons (.closed rfl) (.cons (.closed rfl) .nil)) .nil (.ptr (sw3_at hn).1) (.cons (sw3_at hn).1 (renO_ref (sw3_at hn).2.1 _) (.cons (sw3_at hn).2.1 .flat .nil))
/-- Ticks, at any names. -/
theorem at16 (a b c : Nat) (hn : nmOK a b c = true) (s s' : St) (k n e : Int) (hs : Sm s) (hf : Fnd s) (h : doS s k n = (e, s')) : FC Try.prog 16 [.ptr a 0 0, .agg [iv k, iv n]] (hR a b s) (iv e) (hR2 a b c s') true :=
  at_ref a b c hn (ag_closed _ _) rfl (gc16 s s' k n e hs hf h)

end Go.Proofs.Ytigfcmcdjfmieaa
