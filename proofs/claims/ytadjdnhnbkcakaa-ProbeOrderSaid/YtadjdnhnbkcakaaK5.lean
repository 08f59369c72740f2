/-
  Proved: colletlaw21.ProbeOrder returns true for every input, and its arguments read as before. No condition.
-/
import Derived.Test.YtadjdnhnbkcakaaK4
import Derived.Test.YtadjdnhnbkcakaaRows
set_option linter.unusedVariables false

/-! Walks: A21. -/
namespace Go.Proofs.Ytadjdnhnbkcakaa
open Go.RowKit

theorem made_set {n : Nat} {R : List Rd} {lo hi : List Int} {m : Int} (h : MadeOk n R lo hi m) {k : Nat} {a b : Int} (ha : lo[k]? = some a) (hb : hi[k]? = some b) : MadeOk n R lo (hi.set k (min b (a + 5))) m := by
  refine { h with lhi := by simpa using h.lhi, lims := fun i hi' => ?_ }
  have h0 := h.lims i hi'
  have h1 := h.at_ ha hb
  by_cases e : k = i
  · subst e
    rw [getD_set_eq (lt_of_at hb), getD_of ha]
    omega
  · rw [getD_set_ne e]; exact h0
theorem badV_at {V : List Int} {r : Rd} {v : Int} (hv : V[r.of_.toNat]? = some v) : badV (vOf V) r = decide (v < r.lo ∨ v > r.hi) := by
  have e := getD_of hv
  unfold badV
  simp only [vOf, e]
/-- The probes that lie, as an array. -/
def LiesOk (R : List Rd) (V : List Int) (k : Nat) (W : List Bool) : Prop := W.length = 8 ∧ ∀ p, p < 8 → W.getD p false = hasS (maskS (R.take k) (vOf V) 0) p
theorem getDb_set_eq {L : List Bool} {i : Nat} {a : Bool} (h : i < L.length) : (L.set i a).getD i false = a := by simp [h]
theorem getDb_set_ne {L : List Bool} {i j : Nat} {a : Bool} (h : i ≠ j) : (L.set i a).getD j false = L.getD j false := by
  simp only [List.getD_eq_getElem?_getD]
  rw [List.getElem?_set_ne h]
theorem lies_start {R : List Rd} {V : List Int} : LiesOk R V 0 (List.replicate 8 false) := by
  have h : ∀ p, p < 8 → (List.replicate 8 false).getD p false = false := by decide
  exact ⟨rfl, fun p hp => by rw [h p hp]; simp [maskS, hasS_0]⟩
theorem lies_end {R : List Rd} {V : List Int} {k : Nat} {W : List Bool} {r : Rd} {w b : Bool} (h : LiesOk R V k W) (hr : R[k]? = some r) (h8 : 0 ≤ r.probe ∧ r.probe < 8) (hw : W[r.probe.toNat]? = some w) (hb : b = (w || badV (vOf V) r)) : LiesOk R V (k + 1) (W.set r.probe.toNat b) := by
  refine ⟨by simpa using h.1, fun p hp => ?_⟩
  have hk := lt_of_at hr
  have hrk : R[k] = r := (List.getElem?_eq_some_iff.1 hr).2
  have e : maskS (R.take (k + 1)) (vOf V) 0 = if badV (vOf V) r = true then maskS (R.take k) (vOf V) 0 ||| 2 ^ r.probe.toNat else maskS (R.take k) (vOf V) 0 := by
    unfold maskS
    rw [fold_take _ _ _ _ hk, hrk]
  have h0 := h.2 p hp
  by_cases q : r.probe.toNat = p
  · subst q
    rw [getDb_set_eq (lt_of_at hw), hb, e]
    rw [getDb_of hw] at h0
    cases hbad : badV (vOf V) r
    · simp [h0]
    · rw [if_pos rfl, hasS_or]; simp
  · rw [getDb_set_ne q, h0, e]
    split
    · rw [hasS_or]; simp [q]
    · rfl
/-- Both arrays, cell by cell. -/
def AndOk (al W : List Bool) (k : Nat) (A : List Bool) : Prop := A.length = 8 ∧ ∀ p, p < 8 → A.getD p false = if p < k then (al.getD p false && W.getD p false) else al.getD p false
theorem and_end {al W A : List Bool} {k : Nat} {x y b : Bool} (h : AndOk al W k A) (hk : k < 8) (hx : A[k]? = some x) (hy : W[k]? = some y) (hb : b = (x && y)) : AndOk al W (k + 1) (A.set k b) := by
  refine ⟨by simpa using h.1, fun p hp => ?_⟩
  have h0 := h.2 p hp
  by_cases q : k = p
  · subst q
    rw [if_neg (by omega)] at h0
    rw [getDb_set_eq (lt_of_at hx), if_pos (by omega), ← h0, getDb_of hx, getDb_of hy, hb]
  · rw [getDb_set_ne q, h0]
    by_cases c : p < k
    · rw [if_pos c, if_pos (by omega)]
    · rw [if_neg c, if_neg (by omega)]
/-- The least and the greatest ones, place by place. -/
structure MmOk (n : Nat) (V le gr : List Int) (k : Nat) (A B : List Int) : Prop where
  lA : A.length = n
  lB : B.length = n
  a_ : ∀ i, i < n → A.getD i 0 = if i < k then min (le.getD i 0) (V.getD i 0) else le.getD i 0
  b_ : ∀ i, i < n → B.getD i 0 = if i < k then max (gr.getD i 0) (V.getD i 0) else gr.getD i 0
theorem mm_end {n : Nat} {V le gr A B : List Int} {k : Nat} {a b v : Int} (h : MmOk n V le gr k A B) (ha : A[k]? = some a) (hb : B[k]? = some b) (hv : V[k]? = some v) : MmOk n V le gr (k + 1) (A.set k (min a v)) (B.set k (max b v)) := by
  have hk := lt_of_at ha
  rw [h.lA] at hk
  refine ⟨by simpa using h.lA, by simpa using h.lB, fun i hi => ?_, fun i hi => ?_⟩
  · have h0 := h.a_ i hi
    by_cases q : k = i
    · subst q
      rw [if_neg (by omega)] at h0
      rw [getD_set_eq (lt_of_at ha), if_pos (by omega), ← h0, getD_of ha, getD_of hv]
    · rw [getD_set_ne q, h0]
      by_cases c : i < k
      · rw [if_pos c, if_pos (by omega)]
      · rw [if_neg c, if_neg (by omega)]
  · have h0 := h.b_ i hi
    by_cases q : k = i
    · subst q
      rw [if_neg (by omega)] at h0
      rw [getD_set_eq (lt_of_at hb), if_pos (by omega), ← h0, getD_of hb, getD_of hv]
    · rw [getD_set_ne q, h0]
      by_cases c : i < k
      · rw [if_pos c, if_pos (by omega)]
      · rw [if_neg c, if_neg (by omega)]
theorem hv_slm {α : Type} {f : α → List AV} {xs : List α} {H Hs : Hp} {rd : List Nat} {i e z n : Nat} (hi : i ∈ rd) (hg : get H i = some (.cells e z (xs.map f) true)) (hn : xs.length = n) : HV H Hs rd false (.sl i 0 n) (.rs z (xs.map f)) :=
  hv_sl hi hg (by simp; omega) (by rw [List.drop_zero, List.take_of_length_le (by simp; omega)])
section
variable {n : Nat} {R : List Rd} {lo hi V : List Int} {m : Int}
theorem agree_made (hm : MadeOk n R lo hi m) (hV : V.length = n) : agreeS R V m = true ↔ (sizeS (maskS R (vOf V) 0) 8 : Int) ≤ m := agree_iff (made_rok hm) (by omega)
/-- An assignment that agrees has been taken into account. -/
theorem tight_t (hm : MadeOk n R lo hi m) {so : Bool} {al W A : List Bool} {le gr A1 B1 : List Int} (hx : Ok6 n R lo hi m V so al le gr) (h0 : V.getD 0 0 ≤ hi.getD 0 0) (ha : agreeS R V m = true) (hW : LiesOk R V R.length W) (hA : AndOk al W 8 A) (hM : MmOk n V le gr n A1 B1) :
    SumP n lo hi R (Next n R lo hi m V) true A A1 B1 := by
  have hb := ok6_inb hm hx h0
  refine (sum_add (V := V) (made_rok hm) hx.sum hA.1 (fun p hp => ?_) hM.lA hM.lB (fun i hi' => ?_) (fun i hi' => ?_)).congr (next_t hm hb ((agree_made hm hx.len).1 ha))
  · have h1 := hA.2 p hp
    have h2 := hW.2 p hp
    rw [List.take_length] at h2
    rw [h1, if_pos hp, h2]
  · have := hM.a_ i hi'
    rwa [if_pos hi'] at this
  · have := hM.b_ i hi'
    rwa [if_pos hi'] at this
theorem tight_f (hm : MadeOk n R lo hi m) {so : Bool} {al : List Bool} {le gr : List Int} (hx : Ok6 n R lo hi m V so al le gr) (ha : agreeS R V m = false) : SumP n lo hi R (Next n R lo hi m V) so al le gr :=
  hx.sum.congr (next_f fun h => by rw [(agree_made hm hx.len).2 h] at ha; cases ha)
theorem tight_calls' (hm : MadeOk n R lo hi m) {so : Bool} {al : List Bool} {le gr : List Int} (h : Ok6 n R lo hi m V so al le gr) (h0 : hi.getD 0 0 < V.getD 0 0) : ∃ (A B Ls : List Int) (E : Int),
    FC Try.prog 21 [.rs 4 (R.map cR), ints lo, ints hi, .int .i64 m] [] (.tup [ints A, ints B, iv E]) [] false ∧ FC Try.prog 24 [.rs 4 (R.map cR), ints lo, ints hi, .int .i64 m] [] (.tup [ints Ls, iv E]) [] false ∧
    (so = false → E = 21 ∧ A = [] ∧ B = [] ∧ Ls = []) ∧ (so = true → E = 0 ∧ A = le ∧ B = gr ∧ Ls = wantS al 8) := by
  rcases tight_calls hm h h0 with ⟨e, c1, c2⟩ | ⟨e, c1, c2⟩
  · exact ⟨_, _, _, _, c1, c2, fun _ => ⟨rfl, rfl, rfl, rfl⟩, fun e' => (by rw [e] at e'; cases e')⟩
  · exact ⟨_, _, _, _, c1, c2, fun e' => (by rw [e] at e'; cases e'), fun _ => ⟨rfl, rfl, rfl, rfl⟩⟩
end

def mc6 : MC := (.seq (.reg [⟨(some 1), (.box 25 3 (.t 0)), none, []⟩, ⟨(some 2), (.mv (.c (.bool false))), none, []⟩] false) (.seq (.reg [⟨(some 27), (.call 15 []), none, []⟩, ⟨(some 3), (.mv (.t 27)), none, [0, 0, 0]⟩] false) (.seq (.reg [⟨(some 29), (.ld true 3 (.t 1)), none, []⟩, ⟨(some 30), (.call 16 [(.t 29)]), none, [0]⟩, ⟨(some 28), (.mv (.t 30)), none, [1]⟩, ⟨(some 31), (.ext (.t 28) 0), none, [2]⟩, ⟨(some 32), (.ext (.t 28) 1), none, [2]⟩, ⟨(some 33), (.ext (.t 28) 2), none, [2]⟩, ⟨(some 34), (.ext (.t 28) 3), none, [2]⟩, ⟨(some 4), (.mv (.t 31)), none, [3, 1, 0, 1, 2, 3]⟩, ⟨(some 5), (.mv (.t 32)), none, [4, 7, 0, 1, 2, 3, 4, 7]⟩, ⟨(some 6), (.mv (.t 33)), none, [5, 8, 0, 1, 2, 3, 4, 5, 7, 8]⟩, ⟨(some 7), (.mv (.t 34)), none, [6, 9, 0, 1, 2, 3, 4, 5, 6, 7, 8, 9]⟩] false) (.seq (.seq (.reg [⟨(some 35), (.mv (.t 6)), none, []⟩, ⟨(some 36), (.len (.t 35)), none, [0]⟩, ⟨(some 37), (.mv (.c (.int .i64 0))), none, []⟩] false) (.block 0 (.loop (.seq (.reg [⟨(some 38), (.bin .lss (.t 37) (.t 36)), none, []⟩] false) (.seq (.cond (.t 38) .skip (.exit 0)) (.seq (.block 1 (.seq (.reg [⟨(some 39), (.mv (.t 37)), none, []⟩, ⟨(some 8), (.mv (.t 39)), none, [0, 0]⟩] false) (.reg [⟨(some 40), (.mv (.t 6)), none, []⟩, ⟨(some 41), (.mv (.t 8)), none, []⟩, ⟨(some 42), (.mv (.t 6)), none, []⟩, ⟨(some 43), (.mv (.t 8)), none, []⟩, ⟨(some 44), (.ixsl 1 (.t 42) (.t 43)), none, [2, 3]⟩, ⟨(some 45), (.ld false 1 (.t 44)), none, [4]⟩, ⟨(some 46), (.mv (.t 5)), none, []⟩, ⟨(some 47), (.mv (.t 8)), none, []⟩, ⟨(some 48), (.ixsl 1 (.t 46) (.t 47)), none, [6, 7]⟩, ⟨(some 49), (.ld false 1 (.t 48)), none, [8]⟩, ⟨(some 50), (.bin .add (.t 49) (.c (.int .i64 5))), none, [9]⟩, ⟨(some 51), (.mn (.t 45) (.t 50)), none, [5, 10]⟩, ⟨(some 52), (.ixsl 1 (.t 40) (.t 41)), none, [0, 1, 0, 1, 2, 3, 4, 5, 6, 7, 8, 9, 10, 11]⟩, ⟨none, (.st 1 (.t 52) (.t 51)), none, [12, 11, 0, 1, 2, 3, 4, 5, 6, 7, 8, 9, 10, 11]⟩] true))) (.reg [⟨(some 53), (.bin .add (.t 37) (.c (.int .i64 1))), none, []⟩, ⟨(some 37), (.mv (.t 53)), none, [0]⟩] false))))))) (.seq (.reg [⟨(some 54), (.bslice 3 1 [(.int .i64 0)] 0 []), none, []⟩, ⟨(some 55), (.mv (.t 6)), none, []⟩, ⟨(some 56), (.app 3 1 8 [(.int .i64 0)] (.t 54) (.t 55)), none, [0, 1]⟩, ⟨(some 57), (.bslice 3 1 [(.int .i64 0)] 0 []), none, []⟩, ⟨(some 58), (.mv (.t 5)), none, []⟩, ⟨(some 59), (.app 3 1 8 [(.int .i64 0)] (.t 57) (.t 58)), none, [3, 4, 2]⟩, ⟨(some 9), (.mv (.t 56)), none, [2, 5, 0, 1, 2]⟩, ⟨(some 10), (.mv (.t 59)), none, [5, 6, 0, 1, 2, 3, 4, 5, 6]⟩] false) (.seq (.reg [⟨(some 60), (.build [(.bool false), (.bool false), (.bool false), (.bool false), (.bool false), (.bool false), (.bool false), (.bool false)] [(0, (1, (.c (.bool true)))), (1, (1, (.c (.bool true)))), (2, (1, (.c (.bool true)))), (3, (1, (.c (.bool true)))), (4, (1, (.c (.bool true)))), (5, (1, (.c (.bool true)))), (6, (1, (.c (.bool true)))), (7, (1, (.c (.bool true))))]), none, []⟩, ⟨(some 11), (.alloc 47 8 [(.bool false), (.bool false), (.bool false), (.bool false), (.bool false), (.bool false), (.bool false), (.bool false)]), none, []⟩, ⟨none, (.st 8 (.t 11) (.t 60)), none, [1, 0, 0, 1]⟩] false) (.seq (.reg [⟨(some 12), (.mv (.c (.bool false))), none, []⟩] false) (.seq (.reg [⟨(some 61), (.bslice 3 1 [(.int .i64 0)] 0 []), none, []⟩, ⟨(some 62), (.mv (.t 5)), none, []⟩, ⟨(some 63), (.app 3 1 8 [(.int .i64 0)] (.t 61) (.t 62)), none, [0, 1]⟩, ⟨(some 13), (.mv (.t 63)), none, [2, 2, 0, 1, 2]⟩] false) (.seq (.block 2 (.loop (.seq (.seq (.reg [⟨(some 64), (.mv (.t 13)), none, []⟩, ⟨(some 65), (.ixsl 1 (.t 64) (.c (.int .i64 0))), none, [0]⟩, ⟨(some 66), (.ld false 1 (.t 65)), none, [1]⟩, ⟨(some 67), (.mv (.t 6)), none, []⟩, ⟨(some 68), (.ixsl 1 (.t 67) (.c (.int .i64 0))), none, [3]⟩, ⟨(some 69), (.ld false 1 (.t 68)), none, [4]⟩, ⟨(some 70), (.bin .leq (.t 66) (.t 69)), none, [2, 5]⟩] true) (.cond (.t 70) .skip (.exit 2))) (.block 3 (.seq (.seq (.reg [⟨(some 71), (.mv (.t 4)), none, []⟩, ⟨(some 72), (.mv (.t 13)), none, []⟩, ⟨(some 73), (.mv (.t 7)), none, []⟩, ⟨(some 74), (.call 26 [(.t 71), (.t 72), (.t 73)]), none, [0, 1, 2]⟩] false) (.cond (.t 74) (.seq (.reg [⟨(some 12), (.mv (.c (.bool true))), none, []⟩] false) (.seq (.reg [⟨(some 75), (.build [(.bool false), (.bool false), (.bool false), (.bool false), (.bool false), (.bool false), (.bool false), (.bool false)] []), none, []⟩, ⟨(some 14), (.alloc 47 8 [(.bool false), (.bool false), (.bool false), (.bool false), (.bool false), (.bool false), (.bool false), (.bool false)]), none, []⟩, ⟨none, (.st 8 (.t 14) (.t 75)), none, [1, 0, 0, 1]⟩] false) (.seq (.seq (.reg [⟨(some 76), (.mv (.t 4)), none, []⟩, ⟨(some 77), (.len (.t 76)), none, [0]⟩, ⟨(some 78), (.mv (.c (.int .i64 0))), none, []⟩] false) (.block 4 (.loop (.seq (.reg [⟨(some 79), (.bin .lss (.t 78) (.t 77)), none, []⟩] false) (.seq (.cond (.t 79) .skip (.exit 4)) (.seq (.block 5 (.seq (.reg [⟨(some 80), (.ixsl 4 (.t 76) (.t 78)), none, []⟩, ⟨(some 81), (.ld true 4 (.t 80)), none, [0]⟩, ⟨(some 16), (.alloc 50 4 [(.int .i64 0), (.int .i64 0), (.int .i64 0), (.int .i64 0)]), none, []⟩, ⟨none, (.st 4 (.t 16) (.t 81)), none, [2, 1, 0, 1, 2]⟩] false) (.reg [⟨(some 82), (.fa 0 (.t 16)), none, []⟩, ⟨(some 83), (.ld false 1 (.t 82)), none, [0]⟩, ⟨(some 84), (.fa 0 (.t 16)), none, []⟩, ⟨(some 85), (.ld false 1 (.t 84)), none, [2]⟩, ⟨(some 86), (.ixarr 8 1 (.t 14) (.t 85)), none, [3]⟩, ⟨(some 87), (.ld false 1 (.t 86)), none, [4]⟩, ⟨(some 88), (.mv (.t 87)), none, [5]⟩, ⟨(some 89), (.mv (.t 13)), (some (88, false)), [6]⟩, ⟨(some 90), (.fa 1 (.t 16)), (some (88, false)), [6]⟩, ⟨(some 91), (.ld false 1 (.t 90)), (some (88, false)), [8, 6]⟩, ⟨(some 92), (.ixsl 1 (.t 89) (.t 91)), (some (88, false)), [7, 9, 6]⟩, ⟨(some 93), (.ld false 1 (.t 92)), (some (88, false)), [10, 6]⟩, ⟨(some 94), (.fa 2 (.t 16)), (some (88, false)), [6]⟩, ⟨(some 95), (.ld false 1 (.t 94)), (some (88, false)), [12, 6]⟩, ⟨(some 96), (.bin .lss (.t 93) (.t 95)), (some (88, false)), [11, 13, 6]⟩, ⟨(some 97), (.pick (.t 88) (.c (.bool true)) (.t 96)), none, [6, 14]⟩, ⟨(some 98), (.mv (.t 97)), none, [15, 6]⟩, ⟨(some 99), (.mv (.t 13)), (some (98, false)), [16]⟩, ⟨(some 100), (.fa 1 (.t 16)), (some (98, false)), [16]⟩, ⟨(some 101), (.ld false 1 (.t 100)), (some (98, false)), [18, 16]⟩, ⟨(some 102), (.ixsl 1 (.t 99) (.t 101)), (some (98, false)), [17, 19, 16]⟩, ⟨(some 103), (.ld false 1 (.t 102)), (some (98, false)), [20, 16]⟩, ⟨(some 104), (.fa 3 (.t 16)), (some (98, false)), [16]⟩, ⟨(some 105), (.ld false 1 (.t 104)), (some (98, false)), [22, 16]⟩, ⟨(some 106), (.bin .gtr (.t 103) (.t 105)), (some (98, false)), [21, 23, 16]⟩, ⟨(some 107), (.pick (.t 98) (.c (.bool true)) (.t 106)), none, [16, 24]⟩, ⟨(some 108), (.ixarr 8 1 (.t 14) (.t 83)), none, [1, 0, 1, 2, 3, 4, 5, 6, 7, 8, 9, 10, 11, 12, 13, 14, 15, 16, 17, 18, 19, 20, 21, 22, 23, 24, 25]⟩, ⟨none, (.st 1 (.t 108) (.t 107)), none, [26, 25, 16, 0, 1, 2, 3, 4, 5, 6, 7, 8, 9, 10, 11, 12, 13, 14, 15, 16, 17, 18, 19, 20, 21, 22, 23, 24, 25]⟩] true))) (.reg [⟨(some 109), (.bin .add (.t 78) (.c (.int .i64 1))), none, []⟩, ⟨(some 78), (.mv (.t 109)), none, [0]⟩] false))))))) (.seq (.seq (.reg [⟨(some 110), (.mv (.c (.int .i64 0))), none, []⟩] false) (.block 6 (.loop (.seq (.reg [⟨(some 111), (.bin .lss (.t 110) (.c (.int .i64 8))), none, []⟩] false) (.seq (.cond (.t 111) .skip (.exit 6)) (.seq (.block 7 (.seq (.reg [⟨(some 112), (.mv (.t 110)), none, []⟩, ⟨(some 17), (.mv (.t 112)), none, [0, 0]⟩] false) (.reg [⟨(some 113), (.mv (.t 17)), none, []⟩, ⟨(some 114), (.mv (.t 17)), none, []⟩, ⟨(some 115), (.ixarr 8 1 (.t 11) (.t 114)), none, [1]⟩, ⟨(some 116), (.ld false 1 (.t 115)), none, [2]⟩, ⟨(some 117), (.mv (.t 116)), none, [3]⟩, ⟨(some 118), (.mv (.t 17)), (some (117, true)), [4]⟩, ⟨(some 119), (.ixarr 8 1 (.t 14) (.t 118)), (some (117, true)), [5, 4]⟩, ⟨(some 120), (.ld false 1 (.t 119)), (some (117, true)), [6, 4]⟩, ⟨(some 121), (.pick (.t 117) (.t 120) (.c (.bool false))), none, [4, 7]⟩, ⟨(some 122), (.ixarr 8 1 (.t 11) (.t 113)), none, [0, 0, 1, 2, 3, 4, 5, 6, 7, 8]⟩, ⟨none, (.st 1 (.t 122) (.t 121)), none, [9, 8, 4, 0, 1, 2, 3, 4, 5, 6, 7, 8]⟩] false))) (.reg [⟨(some 123), (.bin .add (.t 110) (.c (.int .i64 1))), none, []⟩, ⟨(some 110), (.mv (.t 123)), none, [0]⟩] false))))))) (.seq (.reg [⟨(some 124), (.mv (.t 13)), none, []⟩, ⟨(some 125), (.len (.t 124)), none, [0]⟩, ⟨(some 126), (.mv (.c (.int .i64 0))), none, []⟩] false) (.block 8 (.loop (.seq (.reg [⟨(some 127), (.bin .lss (.t 126) (.t 125)), none, []⟩] false) (.seq (.cond (.t 127) .skip (.exit 8)) (.seq (.block 9 (.seq (.reg [⟨(some 128), (.mv (.t 126)), none, []⟩, ⟨(some 18), (.mv (.t 128)), none, [0, 0]⟩] false) (.reg [⟨(some 129), (.mv (.t 9)), none, []⟩, ⟨(some 130), (.mv (.t 18)), none, []⟩, ⟨(some 131), (.mv (.t 10)), none, []⟩, ⟨(some 132), (.mv (.t 18)), none, []⟩, ⟨(some 133), (.mv (.t 9)), none, []⟩, ⟨(some 134), (.mv (.t 18)), none, []⟩, ⟨(some 135), (.ixsl 1 (.t 133) (.t 134)), none, [4, 5]⟩, ⟨(some 136), (.ld false 1 (.t 135)), none, [6]⟩, ⟨(some 137), (.mv (.t 13)), none, []⟩, ⟨(some 138), (.mv (.t 18)), none, []⟩, ⟨(some 139), (.ixsl 1 (.t 137) (.t 138)), none, [8, 9]⟩, ⟨(some 140), (.ld false 1 (.t 139)), none, [10]⟩, ⟨(some 141), (.mn (.t 136) (.t 140)), none, [7, 11]⟩, ⟨(some 142), (.mv (.t 10)), none, []⟩, ⟨(some 143), (.mv (.t 18)), none, []⟩, ⟨(some 144), (.ixsl 1 (.t 142) (.t 143)), none, [13, 14]⟩, ⟨(some 145), (.ld false 1 (.t 144)), none, [15]⟩, ⟨(some 146), (.mv (.t 13)), none, []⟩, ⟨(some 147), (.mv (.t 18)), none, []⟩, ⟨(some 148), (.ixsl 1 (.t 146) (.t 147)), none, [17, 18]⟩, ⟨(some 149), (.ld false 1 (.t 148)), none, [19]⟩, ⟨(some 150), (.mx (.t 145) (.t 149)), none, [16, 20]⟩, ⟨(some 151), (.ixsl 1 (.t 129) (.t 130)), none, [0, 1, 0, 1, 4, 5, 6, 7, 8, 9, 10, 11, 12, 16, 20]⟩, ⟨none, (.st 1 (.t 151) (.t 141)), none, [22, 12, 0, 1, 4, 5, 6, 7, 8, 9, 10, 11, 12, 16, 20]⟩, ⟨(some 152), (.ixsl 1 (.t 131) (.t 132)), none, [2, 3, 0, 1, 2, 3, 4, 5, 6, 7, 8, 9, 10, 11, 12, 13, 14, 15, 16, 17, 18, 19, 20, 21, 22, 23]⟩, ⟨none, (.st 1 (.t 152) (.t 150)), none, [24, 21, 23, 0, 1, 2, 3, 4, 5, 6, 7, 8, 9, 10, 11, 12, 13, 14, 15, 16, 17, 18, 19, 20, 21, 22, 23]⟩] true))) (.reg [⟨(some 153), (.bin .add (.t 126) (.c (.int .i64 1))), none, []⟩, ⟨(some 126), (.mv (.t 153)), none, [0]⟩] false))))))))))) .skip)) (.seq (.reg [⟨(some 154), (.mv (.t 13)), none, []⟩, ⟨(some 155), (.len (.t 154)), none, [0]⟩, ⟨(some 156), (.bin .sub (.t 155) (.c (.int .i64 1))), none, [1]⟩, ⟨(some 19), (.mv (.t 156)), none, [2, 0, 1, 2]⟩] false) (.seq (.reg [⟨(some 157), (.mv (.t 13)), none, []⟩, ⟨(some 158), (.mv (.t 19)), none, []⟩, ⟨(some 159), (.ixsl 1 (.t 157) (.t 158)), none, [0, 1]⟩, ⟨(some 160), (.ld false 1 (.t 159)), none, [2]⟩, ⟨(some 161), (.bin .add (.t 160) (.c (.int .i64 1))), none, [3]⟩, ⟨(some 162), (.ixsl 1 (.t 157) (.t 158)), none, [0, 1, 0, 1, 2, 3, 4]⟩, ⟨none, (.st 1 (.t 162) (.t 161)), none, [5, 4, 0, 1, 2, 3, 4]⟩] false) (.block 10 (.loop (.seq (.seq (.reg [⟨(some 163), (.mv (.t 19)), none, []⟩, ⟨(some 164), (.bin .gtr (.t 163) (.c (.int .i64 0))), none, [0]⟩, ⟨(some 165), (.mv (.t 164)), none, [1]⟩, ⟨(some 166), (.mv (.t 13)), (some (165, true)), [2]⟩, ⟨(some 167), (.mv (.t 19)), (some (165, true)), [2]⟩, ⟨(some 168), (.ixsl 1 (.t 166) (.t 167)), (some (165, true)), [3, 4, 2]⟩, ⟨(some 169), (.ld false 1 (.t 168)), (some (165, true)), [5, 2]⟩, ⟨(some 170), (.mv (.t 6)), (some (165, true)), [2]⟩, ⟨(some 171), (.mv (.t 19)), (some (165, true)), [2]⟩, ⟨(some 172), (.ixsl 1 (.t 170) (.t 171)), (some (165, true)), [7, 8, 2]⟩, ⟨(some 173), (.ld false 1 (.t 172)), (some (165, true)), [9, 2]⟩, ⟨(some 174), (.bin .gtr (.t 169) (.t 173)), (some (165, true)), [6, 10, 2]⟩, ⟨(some 175), (.pick (.t 165) (.t 174) (.c (.bool false))), none, [2, 11]⟩] true) (.cond (.t 175) .skip (.exit 10))) (.seq (.block 11 (.seq (.reg [⟨(some 182), (.mv (.t 13)), none, []⟩, ⟨(some 183), (.mv (.t 19)), none, []⟩, ⟨(some 184), (.mv (.t 5)), none, []⟩, ⟨(some 185), (.mv (.t 19)), none, []⟩, ⟨(some 186), (.ixsl 1 (.t 184) (.t 185)), none, [2, 3]⟩, ⟨(some 187), (.ld false 1 (.t 186)), none, [4]⟩, ⟨(some 188), (.ixsl 1 (.t 182) (.t 183)), none, [0, 1, 0, 1, 2, 3, 4, 5]⟩, ⟨none, (.st 1 (.t 188) (.t 187)), none, [6, 5, 0, 1, 2, 3, 4, 5]⟩] false) (.reg [⟨(some 189), (.mv (.t 19)), none, []⟩, ⟨(some 190), (.bin .sub (.t 189) (.c (.int .i64 1))), none, [0]⟩, ⟨(some 19), (.mv (.t 190)), none, [1, 0, 1]⟩] false))) (.reg [⟨(some 176), (.mv (.t 13)), none, []⟩, ⟨(some 177), (.mv (.t 19)), none, []⟩, ⟨(some 178), (.ixsl 1 (.t 176) (.t 177)), none, [0, 1]⟩, ⟨(some 179), (.ld false 1 (.t 178)), none, [2]⟩, ⟨(some 180), (.bin .add (.t 179) (.c (.int .i64 1))), none, [3]⟩, ⟨(some 181), (.ixsl 1 (.t 176) (.t 177)), none, [0, 1, 0, 1, 2, 3, 4]⟩, ⟨none, (.st 1 (.t 181) (.t 180)), none, [5, 4, 0, 1, 2, 3, 4]⟩] false)))))))))))) (.seq (.reg [⟨(some 192), (.mv (.t 4)), none, []⟩, ⟨(some 193), (.mv (.t 5)), none, []⟩, ⟨(some 194), (.mv (.t 6)), none, []⟩, ⟨(some 195), (.mv (.t 7)), none, []⟩, ⟨(some 196), (.call 21 [(.t 192), (.t 193), (.t 194), (.t 195)]), none, [0, 1, 2, 3]⟩, ⟨(some 191), (.mv (.t 196)), none, [4]⟩, ⟨(some 197), (.ext (.t 191) 0), none, [5]⟩, ⟨(some 198), (.ext (.t 191) 1), none, [5]⟩, ⟨(some 199), (.ext (.t 191) 2), none, [5]⟩, ⟨(some 20), (.mv (.t 197)), none, [6, 4, 0, 1, 2, 3, 4, 5, 6]⟩, ⟨(some 21), (.mv (.t 198)), none, [7, 9, 0, 1, 2, 3, 4, 5, 6, 7, 9]⟩, ⟨(some 22), (.mv (.t 199)), none, [8, 10, 0, 1, 2, 3, 4, 5, 6, 7, 8, 9, 10]⟩] false) (.seq (.reg [⟨(some 201), (.mv (.t 4)), none, []⟩, ⟨(some 202), (.mv (.t 5)), none, []⟩, ⟨(some 203), (.mv (.t 6)), none, []⟩, ⟨(some 204), (.mv (.t 7)), none, []⟩, ⟨(some 205), (.call 24 [(.t 201), (.t 202), (.t 203), (.t 204)]), none, [0, 1, 2, 3]⟩, ⟨(some 200), (.mv (.t 205)), none, [4]⟩, ⟨(some 206), (.ext (.t 200) 0), none, [5]⟩, ⟨(some 207), (.ext (.t 200) 1), none, [5]⟩, ⟨(some 23), (.mv (.t 206)), none, [6, 4, 0, 1, 2, 3, 4, 5, 6]⟩, ⟨(some 24), (.mv (.t 207)), none, [7, 8, 0, 1, 2, 3, 4, 5, 6, 7, 8]⟩] false) (.seq (.seq (.reg [⟨(some 208), (.mv (.t 12)), none, []⟩, ⟨(some 209), (.un .not (.t 208)), none, [0]⟩] false) (.cond (.t 209) (.seq (.reg [⟨(some 210), (.mv (.t 3)), none, []⟩, ⟨(some 211), (.mv (.t 210)), none, [0]⟩, ⟨(some 212), (.mv (.t 22)), (some (211, true)), [1]⟩, ⟨(some 213), (.bin .eql (.t 212) (.c (.int .i64 21))), (some (211, true)), [2, 1]⟩, ⟨(some 214), (.pick (.t 211) (.t 213) (.c (.bool false))), none, [1, 3]⟩, ⟨(some 215), (.mv (.t 214)), none, [4, 1]⟩, ⟨(some 216), (.mv (.t 24)), (some (215, true)), [5]⟩, ⟨(some 217), (.bin .eql (.t 216) (.c (.int .i64 21))), (some (215, true)), [6, 5]⟩, ⟨(some 218), (.pick (.t 215) (.t 217) (.c (.bool false))), none, [5, 7]⟩, ⟨(some 219), (.mv (.t 218)), none, [8, 5]⟩, ⟨(some 220), (.mv (.t 20)), (some (219, true)), [9]⟩, ⟨(some 221), (.len (.t 220)), (some (219, true)), [10, 9]⟩, ⟨(some 222), (.mv (.t 21)), (some (219, true)), [9]⟩, ⟨(some 223), (.len (.t 222)), (some (219, true)), [12, 9]⟩, ⟨(some 224), (.bin .add (.t 221) (.t 223)), (some (219, true)), [11, 13, 9]⟩, ⟨(some 225), (.mv (.t 23)), (some (219, true)), [9]⟩, ⟨(some 226), (.len (.t 225)), (some (219, true)), [15, 9]⟩, ⟨(some 227), (.bin .add (.t 224) (.t 226)), (some (219, true)), [14, 16, 9]⟩, ⟨(some 228), (.bin .eql (.t 227) (.c (.int .i64 0))), (some (219, true)), [17, 9]⟩, ⟨(some 229), (.pick (.t 219) (.t 228) (.c (.bool false))), none, [9, 18]⟩, ⟨(some 2), (.mv (.t 229)), none, [19, 9, 0, 1, 2, 3, 4, 5, 6, 7, 8, 9, 10, 11, 12, 13, 14, 15, 16, 17, 18, 19]⟩] false) .ret) .skip)) (.seq (.reg [⟨(some 25), (.mv (.c .nils)), none, []⟩] false) (.seq (.seq (.reg [⟨(some 230), (.mv (.c (.int .i64 0))), none, []⟩] false) (.block 12 (.loop (.seq (.reg [⟨(some 231), (.bin .lss (.t 230) (.c (.int .i64 8))), none, []⟩] false) (.seq (.cond (.t 231) .skip (.exit 12)) (.seq (.block 13 (.seq (.reg [⟨(some 232), (.mv (.t 230)), none, []⟩, ⟨(some 26), (.mv (.t 232)), none, [0, 0]⟩] false) (.seq (.reg [⟨(some 233), (.mv (.t 26)), none, []⟩, ⟨(some 234), (.ixarr 8 1 (.t 11) (.t 233)), none, [0]⟩, ⟨(some 235), (.ld false 1 (.t 234)), none, [1]⟩] false) (.cond (.t 235) (.reg [⟨(some 236), (.mv (.t 25)), none, []⟩, ⟨(some 237), (.mv (.t 26)), none, []⟩, ⟨(some 238), (.bslice 3 1 [(.int .i64 0)] 1 [(0, (.t 237))]), none, [1]⟩, ⟨(some 239), (.app 3 1 8 [(.int .i64 0)] (.t 236) (.t 238)), none, [0, 2]⟩, ⟨(some 25), (.mv (.t 239)), none, [3, 3, 0, 1, 2, 3]⟩] false) .skip)))) (.reg [⟨(some 240), (.bin .add (.t 230) (.c (.int .i64 1))), none, []⟩, ⟨(some 230), (.mv (.t 240)), none, [0]⟩] false))))))) (.seq (.reg [⟨(some 241), (.mv (.t 3)), none, []⟩, ⟨(some 242), (.mv (.t 241)), none, [0]⟩, ⟨(some 243), (.mv (.t 22)), (some (242, true)), [1]⟩, ⟨(some 244), (.bin .eql (.t 243) (.c (.int .i64 0))), (some (242, true)), [2, 1]⟩, ⟨(some 245), (.pick (.t 242) (.t 244) (.c (.bool false))), none, [1, 3]⟩, ⟨(some 246), (.mv (.t 245)), none, [4, 1]⟩, ⟨(some 247), (.mv (.t 24)), (some (246, true)), [5]⟩, ⟨(some 248), (.bin .eql (.t 247) (.c (.int .i64 0))), (some (246, true)), [6, 5]⟩, ⟨(some 249), (.pick (.t 246) (.t 248) (.c (.bool false))), none, [5, 7]⟩, ⟨(some 250), (.mv (.t 249)), none, [8, 5]⟩, ⟨(some 251), (.mv (.t 20)), (some (250, true)), [9]⟩, ⟨(some 252), (.mv (.t 9)), (some (250, true)), [9]⟩, ⟨(some 253), (.call 23 [(.t 251), (.t 252)]), (some (250, true)), [10, 11, 9, 9]⟩, ⟨(some 254), (.pick (.t 250) (.t 253) (.c (.bool false))), none, [9, 12]⟩, ⟨(some 255), (.mv (.t 254)), none, [13, 12]⟩, ⟨(some 256), (.mv (.t 21)), (some (255, true)), [14]⟩, ⟨(some 257), (.mv (.t 10)), (some (255, true)), [14]⟩, ⟨(some 258), (.call 23 [(.t 256), (.t 257)]), (some (255, true)), [15, 16, 14, 14]⟩, ⟨(some 259), (.pick (.t 255) (.t 258) (.c (.bool false))), none, [14, 17]⟩, ⟨(some 260), (.mv (.t 259)), none, [18, 17]⟩, ⟨(some 261), (.mv (.t 23)), (some (260, true)), [19]⟩, ⟨(some 262), (.mv (.t 25)), (some (260, true)), [19]⟩, ⟨(some 263), (.call 23 [(.t 261), (.t 262)]), (some (260, true)), [20, 21, 19, 19]⟩, ⟨(some 264), (.pick (.t 260) (.t 263) (.c (.bool false))), none, [19, 22]⟩, ⟨(some 2), (.mv (.t 264)), none, [23, 22, 0, 1, 2, 3, 4, 5, 6, 7, 8, 9, 10, 11, 12, 13, 14, 15, 16, 17, 18, 19, 20, 21, 22, 23]⟩] false) .ret)))))))))))))))
theorem mcOk6 : (match Try.f6.body with | some c => compC Try.prog 265 c | none => none) = some mc6 := by kernel_rfl

theorem fc6 (ls : List (List Int)) (lims : List Int) (lies8 : Int)  (hls : ∀ L ∈ ls, L.length ≤ 4611686018427387904) (hlims : ∀ x ∈ lims, 0 ≤ x ∧ x < 256) (hlies : 0 ≤ lies8 ∧ lies8 < 256) : FC Try.prog 6 [.agg [.rs 1 (ls.map cL), .rs 1 (lims.map cu8), .int .u8 lies8]] [] (.bool true) [] false := by
  obtain ⟨n, R, lo, hi, m, hm, hmade⟩ := made_o ls lims lies8 hls hlims hlies
  have hn1 := hm.n1
  have hn3 := hm.n3
  have hllo := hm.llo
  have hlhi := hm.lhi
  have hm0 := hm.m0
  have hm3 := hm.m3
  have hlR := hm.lR
  refine fc_run (nt := 265) Try.func6 rfl rfl mcOk6 (Nat.le_of_ble_eq_true rfl) ?_
  delta mc6
  refine aw_seq ?_
  refine aw_reg ?_
  refine rs_box rfl rfl rfl rfl rfl rfl ?_
  refine rs_mv rfl rfl ?_
  refine rs_nil fun _ => ?_
  refine th_n ?_
  refine aw_seq ?_
  refine aw_reg ?_
  refine rs_calln [] rfl rfl fc15 .nil rfl ?_
  refine rs_mv rfl rfl ?_
  refine rs_nil fun _ => ?_
  refine th_n ?_
  refine aw_seq ?_
  refine aw_reg ?_
  first | refine rs_ld_pa rfl rfl rfl rfl (Nat.le_of_ble_eq_true rfl) rfl ?_ | refine rs_ld_ra rfl rfl (Nat.le_of_ble_eq_true rfl) rfl ?_ | refine rs_ld_ma rfl rfl rfl (by omega) (Nat.le_of_ble_eq_true rfl) rfl ?_
  refine rs_callo [] rfl rfl hmade (.cons (hv_same rfl) .nil) .nil rfl rfl rfl ?_
  refine rs_mv rfl rfl ?_
  refine rs_ext rfl rfl rfl ?_
  refine rs_ext rfl rfl rfl ?_
  refine rs_ext rfl rfl rfl ?_
  refine rs_ext rfl rfl rfl ?_
  refine rs_mv rfl rfl ?_
  refine rs_mv rfl rfl ?_
  refine rs_mv rfl rfl ?_
  refine rs_mv rfl rfl ?_
  refine rs_nil fun _ => ?_
  refine th_n ?_
  refine aw_seq ?_
  refine aw_seq ?_
  refine aw_weak (F0 := [(3, .bool true), (4, .rs 4 (R.map cR)), (5, ints lo), (6, .sl 1008 0 n), (7, iv m)]) (H0 := [(1008, .cells 3 1 ((hi).map ci) true)]) (weak_to (.cons rfl (rc_same rfl (.inl rfl)) (.cons rfl (rc_frz rfl rfl rfl (fun _ => rfl)) (.cons rfl (rc_frz rfl rfl hllo (fun _ => rfl)) (.cons rfl (rc_same rfl (.inl rfl)) (.cons rfl (rc_same rfl (.inl rfl)) (.nil)))))) (.keep (rfl) rfl (.nil)) (fun i h => by cases h)) ?_
  refine aw_reg ?_
  refine rs_mv rfl rfl ?_
  first | refine rs_len_m rfl rfl ?_ | refine rs_len_s rfl rfl ?_ | refine rs_len_n rfl rfl ?_ | refine rs_len_r rfl rfl rfl ?_
  refine rs_mv rfl rfl ?_
  refine rs_nil fun _ => ?_
  refine th_n ?_
  refine aw_block ?_
  refine aw_fam (α := Nat × List Int) (fun a => n - a.1) (fun a => [(3, .bool true), (4, .rs 4 (R.map cR)), (5, ints lo), (6, .sl 1008 0 n), (7, iv m), (36, iv (n : Int)), (37, iv (((a.1) : Nat) : Int))]) (fun a => [(1008, .cells 3 1 ((a.2).map ci) true)]) (fun a => a.1 ≤ n ∧ MadeOk n R lo a.2 m) (0, hi) (⟨by simp, hm⟩)
    (weak_to (.cons rfl (rc_same rfl (.inl rfl)) (.cons rfl (rc_same rfl (.inl rfl)) (.cons rfl (rc_same rfl (.inl rfl)) (.cons rfl (rc_same rfl (.inl rfl)) (.cons rfl (rc_same rfl (.inl rfl)) (.cons rfl (rc_same rfl (.inl rfl)) (.cons rfl (rc_same rfl (.inl rfl)) (.nil)))))))) (.keep (rfl) rfl (.nil)) (fun i h => by cases h)) ?_
  rintro ⟨k, hi2⟩ ⟨hk, hm2⟩
  dsimp only at hk hm2 ⊢
  refine aw_seq ?_
  refine aw_reg ?_
  refine rs_lss rfl rfl rfl ?_
  refine rs_nil fun _ => ?_
  refine th_n ?_
  refine aw_seq ?_
  refine aw_cond rfl (fun h38 => ?_) (fun h38 => ?_)
  · first | replace h38 := of_decide_eq_true h38 | skip
    refine aw_skip ?_
    refine th_n ?_
    refine aw_seq ?_
    refine aw_block ?_
    refine aw_seq ?_
    refine aw_reg ?_
    refine rs_mv rfl rfl ?_
    refine rs_mv rfl rfl ?_
    refine rs_nil fun _ => ?_
    refine th_n ?_
    refine aw_draw hmix ?_
    obtain ⟨a, hak, _⟩ := at_some (L := lo) (k := k) (by omega)
    obtain ⟨b, hbk, _⟩ := at_some (L := hi2) (k := k) (by have := hm2.lhi; omega)
    have hab := hm2.at_ hak hbk
    have hl2 := hm2.lhi
    refine rs_mv rfl rfl ?_
    refine rs_mv rfl rfl ?_
    refine rs_mv rfl rfl ?_
    refine rs_mv rfl rfl ?_
    refine rs_ix_sm (t := k) rfl rfl rfl rfl (by omega) ?_
    refine rs_ld_g rfl rfl rfl hbk rfl ?_
    refine rs_mv rfl rfl ?_
    refine rs_mv rfl rfl ?_
    refine rs_ix_g rfl rfl rfl (by omega) hak ?_
    refine rs_ld_r rfl rfl rfl ?_
    first | refine rs_add rfl rfl rfl (by omega) ?_ | refine rs_addw rfl rfl rfl rfl ?_
    refine rs_mn rfl rfl rfl rfl ?_
    refine rs_ix_sm (t := k) rfl rfl rfl rfl (by omega) ?_
    refine rs_st_m (v := min b (a + 5)) (fl' := true) rfl rfl rfl rfl (by omega) rfl rfl (Nat.le_of_ble_eq_true rfl) rfl rfl ?_
    refine rs_nil ⟨by kernel_rfl, fun _ => ?_⟩
    refine in_n ?_
    refine th_n ?_
    refine aw_reg ?_
    first | refine rs_add rfl rfl rfl (by omega) ?_ | refine rs_addw rfl rfl rfl rfl ?_
    refine rs_mv rfl rfl ?_
    refine rs_nil fun _ => ?_
    refine th_n ?_
    exact ⟨(k + 1, hi2.set k (min b (a + 5))), ⟨by simp; omega, made_set hm2 hak hbk⟩, by simp; omega, weak_to (.cons rfl (rc_same rfl (.inl rfl)) (.cons rfl (rc_same rfl (.inl rfl)) (.cons rfl (rc_same rfl (.inl rfl)) (.cons rfl (rc_same rfl (.inl rfl)) (.cons rfl (rc_same rfl (.inl rfl)) (.cons rfl (rc_same rfl (.inl rfl)) (.cons rfl (rc_same rfl (.inl rfl)) (.nil)))))))) (.keep (rfl) rfl (.nil)) (fun i h => by cases h)⟩
  · first | replace h38 := of_decide_eq_false h38 | skip
    refine aw_exit ?_
    refine th_e ?_
    refine th_e ?_
    refine in_hit ?_
    refine th_n ?_
    refine aw_seq ?_
    obtain rfl : n = k := by omega
    have hl2 := hm2.lhi
    refine aw_weak (F0 := [(3, .bool true), (4, .rs 4 (R.map cR)), (5, ints lo), (6, ints hi2), (7, iv m)]) (H0 := []) (weak_to (.cons rfl (rc_same rfl (.inl rfl)) (.cons rfl (rc_same rfl (.inl rfl)) (.cons rfl (rc_same rfl (.inl rfl)) (.cons rfl (rc_frz rfl rfl hl2 (fun _ => rfl)) (.cons rfl (rc_same rfl (.inl rfl)) (.nil)))))) (.nil) (fun i h => by cases h)) ?_
    refine aw_reg ?_
    refine rs_bslice rfl rfl rfl rfl rfl rfl ?_
    refine rs_mv rfl rfl ?_
    refine rs_app_e (ys := hi2) (n := n) (f := ci) (rd := []) rfl rfl rfl rfl rfl rfl rfl (by simp) (fun _ => rfl) hl2 (by omega) (by omega) flat_ci ?_
    refine rs_bslice rfl rfl rfl rfl rfl rfl ?_
    refine rs_mv rfl rfl ?_
    refine rs_app_e (ys := lo) (n := n) (f := ci) (rd := []) rfl rfl rfl rfl rfl rfl rfl (by simp) (fun _ => rfl) hllo (by omega) (by omega) flat_ci ?_
    refine rs_mv rfl rfl ?_
    refine rs_mv rfl rfl ?_
    refine rs_nil fun _ => ?_
    refine th_n ?_
    refine aw_seq ?_
    refine aw_reg ?_
    refine rs_build rfl rfl ?_
    refine rs_alloc rfl rfl rfl ?_
    refine rs_st (els' := [[.bool true, .bool true, .bool true, .bool true, .bool true, .bool true, .bool true, .bool true]]) (fl' := true) rfl rfl rfl rfl rfl rfl rfl (Nat.le_of_ble_eq_true rfl) rfl rfl ?_
    refine rs_nil fun _ => ?_
    refine th_n ?_
    refine aw_seq ?_
    refine aw_reg ?_
    refine rs_mv rfl rfl ?_
    refine rs_nil fun _ => ?_
    refine th_n ?_
    refine aw_seq ?_
    refine aw_reg ?_
    refine rs_bslice rfl rfl rfl rfl rfl rfl ?_
    refine rs_mv rfl rfl ?_
    refine rs_app_e (ys := lo) (n := n) (f := ci) (rd := []) rfl rfl rfl rfl rfl rfl rfl (by simp) (fun _ => rfl) hllo (by omega) (by omega) flat_ci ?_
    refine rs_mv rfl rfl ?_
    refine rs_nil fun _ => ?_
    refine th_n ?_
    refine aw_seq ?_
    refine aw_block ?_
    refine aw_fam (α := List Int × Bool × List Bool × List Int × List Int) (fun a => (4096 - key n lo (vOf a.1)).toNat) (fun a => [(3, .bool true), (4, .rs 4 (R.map cR)), (5, ints lo), (6, ints hi2), (7, iv m), (9, .sl 56 0 n), (10, .sl 59 0 n), (11, .ptr 11 0 0), (12, .bool a.2.1), (13, .sl 63 0 n)]) (fun a => [(56, .cells 3 1 ((a.2.2.2.1).map ci) true), (59, .cells 3 1 ((a.2.2.2.2).map ci) true), (11, .cells 47 8 [(a.2.2.1).map AV.bool] true), (63, .cells 3 1 ((a.1).map ci) true)]) (fun a => Ok6 n R lo hi2 m a.1 a.2.1 a.2.2.1 a.2.2.2.1 a.2.2.2.2) (lo, false, List.replicate 8 true, hi2, lo) (ok6_start hm2)
      (weak_to (.cons rfl (rc_same rfl (.inl rfl)) (.cons rfl (rc_same rfl (.inl rfl)) (.cons rfl (rc_same rfl (.inl rfl)) (.cons rfl (rc_same rfl (.inl rfl)) (.cons rfl (rc_same rfl (.inl rfl)) (.cons rfl (rc_same rfl (.inl rfl)) (.cons rfl (rc_same rfl (.inl rfl)) (.cons rfl (rc_same rfl (.inl rfl)) (.cons rfl (rc_same rfl (.inl rfl)) (.cons rfl (rc_same rfl (.inl rfl)) (.nil))))))))))) (.keep (rfl) rfl (.keep (rfl) rfl (.keep (rfl) rfl (.keep (rfl) rfl (.nil))))) (fun i h => by cases h)) ?_
    rintro ⟨V, so, al, le, gr⟩ hx
    dsimp only at hx ⊢
    have hVl0 := hx.len
    obtain ⟨v0, hv0, _⟩ := at_some (L := V) (k := 0) (by omega)
    obtain ⟨h0, hh0, _⟩ := at_some (L := hi2) (k := 0) (by omega)
    refine aw_seq ?_
    refine aw_seq ?_
    refine aw_draw hmix ?_
    
    refine rs_mv rfl rfl ?_
    refine rs_ix_sm (t := 0) rfl rfl rfl rfl (by omega) ?_
    refine rs_ld_g rfl rfl rfl hv0 rfl ?_
    refine rs_mv rfl rfl ?_
    refine rs_ix_g rfl rfl rfl (by omega) hh0 ?_
    refine rs_ld_r rfl rfl rfl ?_
    refine rs_leq rfl rfl rfl ?_
    refine rs_nil ⟨by kernel_rfl, fun _ => ?_⟩
    refine th_n ?_
    refine aw_cond rfl (fun h70 => ?_) (fun h70 => ?_)
    · first | replace h70 := of_decide_eq_true h70 | skip
      refine aw_skip ?_
      refine th_n ?_
      refine aw_block ?_
      refine aw_seq ?_
      refine aw_seq ?_
      refine aw_reg ?_
      refine rs_mv rfl rfl ?_
      refine rs_mv rfl rfl ?_
      refine rs_mv rfl rfl ?_
      refine rs_calln [63] rfl rfl (fc26 R V m (by omega)) (.cons (hv_same rfl) (.cons (hv_slm (by simp) rfl (by omega)) (.cons (hv_same rfl) (.nil)))) rfl ?_
      refine rs_nil fun _ => ?_
      refine th_n ?_
      refine aw_cond rfl (fun h74 => ?_) (fun h74 => ?_)
      · first | replace h74 := of_decide_eq_true h74 | skip
        refine aw_seq ?_
        refine aw_reg ?_
        refine rs_mv rfl rfl ?_
        refine rs_nil fun _ => ?_
        refine th_n ?_
        refine aw_seq ?_
        have hag : agreeS R V m = true := decide_eq_true h74
        refine aw_reg ?_
        refine rs_build rfl rfl ?_
        refine rs_alloc rfl rfl rfl ?_
        refine rs_st (els' := [[.bool false, .bool false, .bool false, .bool false, .bool false, .bool false, .bool false, .bool false]]) (fl' := true) rfl rfl rfl rfl rfl rfl rfl (Nat.le_of_ble_eq_true rfl) rfl rfl ?_
        refine rs_nil fun _ => ?_
        refine th_n ?_
        refine aw_seq ?_
        refine aw_seq ?_
        refine aw_reg ?_
        refine rs_mv rfl rfl ?_
        first | refine rs_len_m rfl rfl ?_ | refine rs_len_s rfl rfl ?_ | refine rs_len_n rfl rfl ?_ | refine rs_len_r rfl rfl rfl ?_
        refine rs_mv rfl rfl ?_
        refine rs_nil fun _ => ?_
        refine th_n ?_
        refine aw_block ?_
        refine aw_fam (α := Nat × List Bool) (fun a => R.length - a.1) (fun a => [(3, .bool true), (4, .rs 4 (R.map cR)), (5, ints lo), (6, ints hi2), (7, iv m), (9, .sl 56 0 n), (10, .sl 59 0 n), (11, .ptr 11 0 0), (12, .bool true), (13, .sl 63 0 n), (14, .ptr 14 0 0), (76, .rs 4 (R.map cR)), (77, iv (R.length : Int)), (78, iv (((a.1) : Nat) : Int))]) (fun a => [(56, .cells 3 1 ((le).map ci) true), (59, .cells 3 1 ((gr).map ci) true), (11, .cells 47 8 [(al).map AV.bool] true), (63, .cells 3 1 ((V).map ci) true), (14, .cells 47 8 [(a.2).map AV.bool] true)]) (fun a => a.1 ≤ R.length ∧ LiesOk R V a.1 a.2) (0, List.replicate 8 false) (⟨by simp, lies_start⟩)
          (weak_to (.cons rfl (rc_same rfl (.inl rfl)) (.cons rfl (rc_same rfl (.inl rfl)) (.cons rfl (rc_same rfl (.inl rfl)) (.cons rfl (rc_same rfl (.inl rfl)) (.cons rfl (rc_same rfl (.inl rfl)) (.cons rfl (rc_same rfl (.inl rfl)) (.cons rfl (rc_same rfl (.inl rfl)) (.cons rfl (rc_same rfl (.inl rfl)) (.cons rfl (rc_same rfl (.inl rfl)) (.cons rfl (rc_same rfl (.inl rfl)) (.cons rfl (rc_same rfl (.inl rfl)) (.cons rfl (rc_same rfl (.inl rfl)) (.cons rfl (rc_same rfl (.inl rfl)) (.cons rfl (rc_same rfl (.inl rfl)) (.nil))))))))))))))) (.keep (rfl) rfl (.keep (rfl) rfl (.keep (rfl) rfl (.keep (rfl) rfl (.keep (rfl) rfl (.nil)))))) (fun i h => by cases h)) ?_
        rintro ⟨k4, W⟩ ⟨hk4, hW⟩
        dsimp only at hk4 hW ⊢
        refine aw_seq ?_
        refine aw_reg ?_
        refine rs_lss rfl rfl rfl ?_
        refine rs_nil fun _ => ?_
        refine th_n ?_
        refine aw_seq ?_
        refine aw_cond rfl (fun h79 => ?_) (fun h79 => ?_)
        · first | replace h79 := of_decide_eq_true h79 | skip
          refine aw_skip ?_
          refine th_n ?_
          refine aw_seq ?_
          refine aw_block ?_
          refine aw_seq ?_
          refine aw_reg ?_
          obtain ⟨r, hr, hrm⟩ := at_some (L := R) (k := k4) (by omega)
          have hrk := made_lok hm r hrm
          have hW8 := hW.1
          obtain ⟨w, hwk, _⟩ := at_some (L := W) (k := r.probe.toNat) (by omega)
          obtain ⟨v, hvk, _⟩ := at_some (L := V) (k := r.of_.toNat) (by have := hx.len; omega)
          refine rs_ix_g rfl rfl rfl (by omega) hr ?_
          first | refine rs_ld_pa rfl rfl rfl rfl (Nat.le_of_ble_eq_true rfl) rfl ?_ | refine rs_ld_ra rfl rfl (Nat.le_of_ble_eq_true rfl) rfl ?_ | refine rs_ld_ma rfl rfl rfl (by omega) (Nat.le_of_ble_eq_true rfl) rfl ?_
          refine rs_alloc rfl rfl rfl ?_
          refine rs_st rfl rfl rfl rfl rfl rfl rfl (Nat.le_of_ble_eq_true rfl) rfl rfl ?_
          refine rs_nil fun _ => ?_
          refine th_n ?_
          refine aw_draw hmix ?_
          first | refine rs_fa_p rfl rfl ?_ | refine rs_fa_r rfl rfl rfl ?_
          first | refine rs_ld_r rfl rfl rfl ?_ | refine rs_ld_p rfl rfl rfl rfl rfl ?_ | refine rs_ld_m rfl rfl rfl (by omega) rfl ?_
          first | refine rs_fa_p rfl rfl ?_ | refine rs_fa_r rfl rfl rfl ?_
          first | refine rs_ld_r rfl rfl rfl ?_ | refine rs_ld_p rfl rfl rfl rfl rfl ?_ | refine rs_ld_m rfl rfl rfl (by omega) rfl ?_
          refine rs_ixarr_p rfl rfl rfl (by omega) (by omega) ?_
          refine rs_ld_f (k := r.probe.toNat) rfl rfl rfl (by simp) hwk ?_
          refine rs_mv rfl rfl ?_
          cases h88 : w
          · skip
            refine rs_mv rfl rfl ?_
            first | refine rs_fa_p rfl rfl ?_ | refine rs_fa_r rfl rfl rfl ?_
            first | refine rs_ld_r rfl rfl rfl ?_ | refine rs_ld_p rfl rfl rfl rfl rfl ?_ | refine rs_ld_m rfl rfl rfl (by omega) rfl ?_
            refine rs_ix_s rfl rfl rfl rfl (by omega) (by omega) ?_
            refine rs_ld_g (y := v) rfl rfl rfl (by simpa using hvk) rfl ?_
            first | refine rs_fa_p rfl rfl ?_ | refine rs_fa_r rfl rfl rfl ?_
            first | refine rs_ld_r rfl rfl rfl ?_ | refine rs_ld_p rfl rfl rfl rfl rfl ?_ | refine rs_ld_m rfl rfl rfl (by omega) rfl ?_
            refine rs_cmp rfl rfl rfl rfl (fun h96 => ?_) (fun h96 => ?_)
            · skip
              refine rs_pick rfl rfl rfl ?_
              refine rs_mv rfl rfl ?_
              refine rs_skip rfl ?_
              refine rs_skip rfl ?_
              refine rs_skip rfl ?_
              refine rs_skip rfl ?_
              refine rs_skip rfl ?_
              refine rs_skip rfl ?_
              refine rs_skip rfl ?_
              refine rs_skip rfl ?_
              refine rs_pick rfl rfl rfl ?_
              refine rs_ixarr_p rfl rfl rfl (by omega) (by omega) ?_
              refine rs_st_f (k := r.probe.toNat) (y := true) rfl rfl rfl rfl rfl rfl rfl (by simp) (by omega) ?_
              refine rs_nil ⟨by kernel_rfl, fun _ => ?_⟩
              refine in_n ?_
              refine th_n ?_
              refine aw_reg ?_
              first | refine rs_add rfl rfl rfl (by omega) ?_ | refine rs_addw rfl rfl rfl rfl ?_
              refine rs_mv rfl rfl ?_
              refine rs_nil fun _ => ?_
              refine th_n ?_
              first
                | exact ⟨(k4 + 1, W.set r.probe.toNat true), ⟨by simp; omega, lies_end hW hr (by omega) hwk (by rw [h88]; rfl)⟩, by simp; omega, weak_to (.cons rfl (rc_same rfl (.inl rfl)) (.cons rfl (rc_same rfl (.inl rfl)) (.cons rfl (rc_same rfl (.inl rfl)) (.cons rfl (rc_same rfl (.inl rfl)) (.cons rfl (rc_same rfl (.inl rfl)) (.cons rfl (rc_same rfl (.inl rfl)) (.cons rfl (rc_same rfl (.inl rfl)) (.cons rfl (rc_same rfl (.inl rfl)) (.cons rfl (rc_same rfl (.inl rfl)) (.cons rfl (rc_same rfl (.inl rfl)) (.cons rfl (rc_same rfl (.inl rfl)) (.cons rfl (rc_same rfl (.inl rfl)) (.cons rfl (rc_same rfl (.inl rfl)) (.cons rfl (rc_same rfl (.inl rfl)) (.nil))))))))))))))) (.keep (rfl) rfl (.keep (rfl) rfl (.keep (rfl) rfl (.keep (rfl) rfl (.keep (rfl) rfl (.nil)))))) (fun i h => by cases h)⟩
                | exact ⟨(k4 + 1, W.set r.probe.toNat true), ⟨by simp; omega, lies_end hW hr (by omega) hwk (by rw [h88, badV_at hvk, decide_eq_true (by omega)]; rfl)⟩, by simp; omega, weak_to (.cons rfl (rc_same rfl (.inl rfl)) (.cons rfl (rc_same rfl (.inl rfl)) (.cons rfl (rc_same rfl (.inl rfl)) (.cons rfl (rc_same rfl (.inl rfl)) (.cons rfl (rc_same rfl (.inl rfl)) (.cons rfl (rc_same rfl (.inl rfl)) (.cons rfl (rc_same rfl (.inl rfl)) (.cons rfl (rc_same rfl (.inl rfl)) (.cons rfl (rc_same rfl (.inl rfl)) (.cons rfl (rc_same rfl (.inl rfl)) (.cons rfl (rc_same rfl (.inl rfl)) (.cons rfl (rc_same rfl (.inl rfl)) (.cons rfl (rc_same rfl (.inl rfl)) (.cons rfl (rc_same rfl (.inl rfl)) (.nil))))))))))))))) (.keep (rfl) rfl (.keep (rfl) rfl (.keep (rfl) rfl (.keep (rfl) rfl (.keep (rfl) rfl (.nil)))))) (fun i h => by cases h)⟩
                | exact ⟨(k4 + 1, W.set r.probe.toNat false), ⟨by simp; omega, lies_end hW hr (by omega) hwk (by rw [h88, badV_at hvk, decide_eq_false (by omega)]; rfl)⟩, by simp; omega, weak_to (.cons rfl (rc_same rfl (.inl rfl)) (.cons rfl (rc_same rfl (.inl rfl)) (.cons rfl (rc_same rfl (.inl rfl)) (.cons rfl (rc_same rfl (.inl rfl)) (.cons rfl (rc_same rfl (.inl rfl)) (.cons rfl (rc_same rfl (.inl rfl)) (.cons rfl (rc_same rfl (.inl rfl)) (.cons rfl (rc_same rfl (.inl rfl)) (.cons rfl (rc_same rfl (.inl rfl)) (.cons rfl (rc_same rfl (.inl rfl)) (.cons rfl (rc_same rfl (.inl rfl)) (.cons rfl (rc_same rfl (.inl rfl)) (.cons rfl (rc_same rfl (.inl rfl)) (.cons rfl (rc_same rfl (.inl rfl)) (.nil))))))))))))))) (.keep (rfl) rfl (.keep (rfl) rfl (.keep (rfl) rfl (.keep (rfl) rfl (.keep (rfl) rfl (.nil)))))) (fun i h => by cases h)⟩
            · skip
              refine rs_pick rfl rfl rfl ?_
              refine rs_mv rfl rfl ?_
              refine rs_mv rfl rfl ?_
              first | refine rs_fa_p rfl rfl ?_ | refine rs_fa_r rfl rfl rfl ?_
              first | refine rs_ld_r rfl rfl rfl ?_ | refine rs_ld_p rfl rfl rfl rfl rfl ?_ | refine rs_ld_m rfl rfl rfl (by omega) rfl ?_
              refine rs_ix_s rfl rfl rfl rfl (by omega) (by omega) ?_
              refine rs_ld_g (y := v) rfl rfl rfl (by simpa using hvk) rfl ?_
              first | refine rs_fa_p rfl rfl ?_ | refine rs_fa_r rfl rfl rfl ?_
              first | refine rs_ld_r rfl rfl rfl ?_ | refine rs_ld_p rfl rfl rfl rfl rfl ?_ | refine rs_ld_m rfl rfl rfl (by omega) rfl ?_
              refine rs_cmp rfl rfl rfl rfl (fun h106 => ?_) (fun h106 => ?_)
              · skip
                refine rs_pick rfl rfl rfl ?_
                refine rs_ixarr_p rfl rfl rfl (by omega) (by omega) ?_
                refine rs_st_f (k := r.probe.toNat) (y := true) rfl rfl rfl rfl rfl rfl rfl (by simp) (by omega) ?_
                refine rs_nil ⟨by kernel_rfl, fun _ => ?_⟩
                refine in_n ?_
                refine th_n ?_
                refine aw_reg ?_
                first | refine rs_add rfl rfl rfl (by omega) ?_ | refine rs_addw rfl rfl rfl rfl ?_
                refine rs_mv rfl rfl ?_
                refine rs_nil fun _ => ?_
                refine th_n ?_
                first
                  | exact ⟨(k4 + 1, W.set r.probe.toNat true), ⟨by simp; omega, lies_end hW hr (by omega) hwk (by rw [h88]; rfl)⟩, by simp; omega, weak_to (.cons rfl (rc_same rfl (.inl rfl)) (.cons rfl (rc_same rfl (.inl rfl)) (.cons rfl (rc_same rfl (.inl rfl)) (.cons rfl (rc_same rfl (.inl rfl)) (.cons rfl (rc_same rfl (.inl rfl)) (.cons rfl (rc_same rfl (.inl rfl)) (.cons rfl (rc_same rfl (.inl rfl)) (.cons rfl (rc_same rfl (.inl rfl)) (.cons rfl (rc_same rfl (.inl rfl)) (.cons rfl (rc_same rfl (.inl rfl)) (.cons rfl (rc_same rfl (.inl rfl)) (.cons rfl (rc_same rfl (.inl rfl)) (.cons rfl (rc_same rfl (.inl rfl)) (.cons rfl (rc_same rfl (.inl rfl)) (.nil))))))))))))))) (.keep (rfl) rfl (.keep (rfl) rfl (.keep (rfl) rfl (.keep (rfl) rfl (.keep (rfl) rfl (.nil)))))) (fun i h => by cases h)⟩
                  | exact ⟨(k4 + 1, W.set r.probe.toNat true), ⟨by simp; omega, lies_end hW hr (by omega) hwk (by rw [h88, badV_at hvk, decide_eq_true (by omega)]; rfl)⟩, by simp; omega, weak_to (.cons rfl (rc_same rfl (.inl rfl)) (.cons rfl (rc_same rfl (.inl rfl)) (.cons rfl (rc_same rfl (.inl rfl)) (.cons rfl (rc_same rfl (.inl rfl)) (.cons rfl (rc_same rfl (.inl rfl)) (.cons rfl (rc_same rfl (.inl rfl)) (.cons rfl (rc_same rfl (.inl rfl)) (.cons rfl (rc_same rfl (.inl rfl)) (.cons rfl (rc_same rfl (.inl rfl)) (.cons rfl (rc_same rfl (.inl rfl)) (.cons rfl (rc_same rfl (.inl rfl)) (.cons rfl (rc_same rfl (.inl rfl)) (.cons rfl (rc_same rfl (.inl rfl)) (.cons rfl (rc_same rfl (.inl rfl)) (.nil))))))))))))))) (.keep (rfl) rfl (.keep (rfl) rfl (.keep (rfl) rfl (.keep (rfl) rfl (.keep (rfl) rfl (.nil)))))) (fun i h => by cases h)⟩
                  | exact ⟨(k4 + 1, W.set r.probe.toNat false), ⟨by simp; omega, lies_end hW hr (by omega) hwk (by rw [h88, badV_at hvk, decide_eq_false (by omega)]; rfl)⟩, by simp; omega, weak_to (.cons rfl (rc_same rfl (.inl rfl)) (.cons rfl (rc_same rfl (.inl rfl)) (.cons rfl (rc_same rfl (.inl rfl)) (.cons rfl (rc_same rfl (.inl rfl)) (.cons rfl (rc_same rfl (.inl rfl)) (.cons rfl (rc_same rfl (.inl rfl)) (.cons rfl (rc_same rfl (.inl rfl)) (.cons rfl (rc_same rfl (.inl rfl)) (.cons rfl (rc_same rfl (.inl rfl)) (.cons rfl (rc_same rfl (.inl rfl)) (.cons rfl (rc_same rfl (.inl rfl)) (.cons rfl (rc_same rfl (.inl rfl)) (.cons rfl (rc_same rfl (.inl rfl)) (.cons rfl (rc_same rfl (.inl rfl)) (.nil))))))))))))))) (.keep (rfl) rfl (.keep (rfl) rfl (.keep (rfl) rfl (.keep (rfl) rfl (.keep (rfl) rfl (.nil)))))) (fun i h => by cases h)⟩
              · skip
                refine rs_pick rfl rfl rfl ?_
                refine rs_ixarr_p rfl rfl rfl (by omega) (by omega) ?_
                refine rs_st_f (k := r.probe.toNat) (y := false) rfl rfl rfl rfl rfl rfl rfl (by simp) (by omega) ?_
                refine rs_nil ⟨by kernel_rfl, fun _ => ?_⟩
                refine in_n ?_
                refine th_n ?_
                refine aw_reg ?_
                first | refine rs_add rfl rfl rfl (by omega) ?_ | refine rs_addw rfl rfl rfl rfl ?_
                refine rs_mv rfl rfl ?_
                refine rs_nil fun _ => ?_
                refine th_n ?_
                first
                  | exact ⟨(k4 + 1, W.set r.probe.toNat true), ⟨by simp; omega, lies_end hW hr (by omega) hwk (by rw [h88]; rfl)⟩, by simp; omega, weak_to (.cons rfl (rc_same rfl (.inl rfl)) (.cons rfl (rc_same rfl (.inl rfl)) (.cons rfl (rc_same rfl (.inl rfl)) (.cons rfl (rc_same rfl (.inl rfl)) (.cons rfl (rc_same rfl (.inl rfl)) (.cons rfl (rc_same rfl (.inl rfl)) (.cons rfl (rc_same rfl (.inl rfl)) (.cons rfl (rc_same rfl (.inl rfl)) (.cons rfl (rc_same rfl (.inl rfl)) (.cons rfl (rc_same rfl (.inl rfl)) (.cons rfl (rc_same rfl (.inl rfl)) (.cons rfl (rc_same rfl (.inl rfl)) (.cons rfl (rc_same rfl (.inl rfl)) (.cons rfl (rc_same rfl (.inl rfl)) (.nil))))))))))))))) (.keep (rfl) rfl (.keep (rfl) rfl (.keep (rfl) rfl (.keep (rfl) rfl (.keep (rfl) rfl (.nil)))))) (fun i h => by cases h)⟩
                  | exact ⟨(k4 + 1, W.set r.probe.toNat true), ⟨by simp; omega, lies_end hW hr (by omega) hwk (by rw [h88, badV_at hvk, decide_eq_true (by omega)]; rfl)⟩, by simp; omega, weak_to (.cons rfl (rc_same rfl (.inl rfl)) (.cons rfl (rc_same rfl (.inl rfl)) (.cons rfl (rc_same rfl (.inl rfl)) (.cons rfl (rc_same rfl (.inl rfl)) (.cons rfl (rc_same rfl (.inl rfl)) (.cons rfl (rc_same rfl (.inl rfl)) (.cons rfl (rc_same rfl (.inl rfl)) (.cons rfl (rc_same rfl (.inl rfl)) (.cons rfl (rc_same rfl (.inl rfl)) (.cons rfl (rc_same rfl (.inl rfl)) (.cons rfl (rc_same rfl (.inl rfl)) (.cons rfl (rc_same rfl (.inl rfl)) (.cons rfl (rc_same rfl (.inl rfl)) (.cons rfl (rc_same rfl (.inl rfl)) (.nil))))))))))))))) (.keep (rfl) rfl (.keep (rfl) rfl (.keep (rfl) rfl (.keep (rfl) rfl (.keep (rfl) rfl (.nil)))))) (fun i h => by cases h)⟩
                  | exact ⟨(k4 + 1, W.set r.probe.toNat false), ⟨by simp; omega, lies_end hW hr (by omega) hwk (by rw [h88, badV_at hvk, decide_eq_false (by omega)]; rfl)⟩, by simp; omega, weak_to (.cons rfl (rc_same rfl (.inl rfl)) (.cons rfl (rc_same rfl (.inl rfl)) (.cons rfl (rc_same rfl (.inl rfl)) (.cons rfl (rc_same rfl (.inl rfl)) (.cons rfl (rc_same rfl (.inl rfl)) (.cons rfl (rc_same rfl (.inl rfl)) (.cons rfl (rc_same rfl (.inl rfl)) (.cons rfl (rc_same rfl (.inl rfl)) (.cons rfl (rc_same rfl (.inl rfl)) (.cons rfl (rc_same rfl (.inl rfl)) (.cons rfl (rc_same rfl (.inl rfl)) (.cons rfl (rc_same rfl (.inl rfl)) (.cons rfl (rc_same rfl (.inl rfl)) (.cons rfl (rc_same rfl (.inl rfl)) (.nil))))))))))))))) (.keep (rfl) rfl (.keep (rfl) rfl (.keep (rfl) rfl (.keep (rfl) rfl (.keep (rfl) rfl (.nil)))))) (fun i h => by cases h)⟩
          · skip
            refine rs_skip rfl ?_
            refine rs_skip rfl ?_
            refine rs_skip rfl ?_
            refine rs_skip rfl ?_
            refine rs_skip rfl ?_
            refine rs_skip rfl ?_
            refine rs_skip rfl ?_
            refine rs_skip rfl ?_
            refine rs_pick rfl rfl rfl ?_
            refine rs_mv rfl rfl ?_
            refine rs_skip rfl ?_
            refine rs_skip rfl ?_
            refine rs_skip rfl ?_
            refine rs_skip rfl ?_
            refine rs_skip rfl ?_
            refine rs_skip rfl ?_
            refine rs_skip rfl ?_
            refine rs_skip rfl ?_
            refine rs_pick rfl rfl rfl ?_
            refine rs_ixarr_p rfl rfl rfl (by omega) (by omega) ?_
            refine rs_st_f (k := r.probe.toNat) (y := true) rfl rfl rfl rfl rfl rfl rfl (by simp) (by omega) ?_
            refine rs_nil ⟨by kernel_rfl, fun _ => ?_⟩
            refine in_n ?_
            refine th_n ?_
            refine aw_reg ?_
            first | refine rs_add rfl rfl rfl (by omega) ?_ | refine rs_addw rfl rfl rfl rfl ?_
            refine rs_mv rfl rfl ?_
            refine rs_nil fun _ => ?_
            refine th_n ?_
            first
              | exact ⟨(k4 + 1, W.set r.probe.toNat true), ⟨by simp; omega, lies_end hW hr (by omega) hwk (by rw [h88]; rfl)⟩, by simp; omega, weak_to (.cons rfl (rc_same rfl (.inl rfl)) (.cons rfl (rc_same rfl (.inl rfl)) (.cons rfl (rc_same rfl (.inl rfl)) (.cons rfl (rc_same rfl (.inl rfl)) (.cons rfl (rc_same rfl (.inl rfl)) (.cons rfl (rc_same rfl (.inl rfl)) (.cons rfl (rc_same rfl (.inl rfl)) (.cons rfl (rc_same rfl (.inl rfl)) (.cons rfl (rc_same rfl (.inl rfl)) (.cons rfl (rc_same rfl (.inl rfl)) (.cons rfl (rc_same rfl (.inl rfl)) (.cons rfl (rc_same rfl (.inl rfl)) (.cons rfl (rc_same rfl (.inl rfl)) (.cons rfl (rc_same rfl (.inl rfl)) (.nil))))))))))))))) (.keep (rfl) rfl (.keep (rfl) rfl (.keep (rfl) rfl (.keep (rfl) rfl (.keep (rfl) rfl (.nil)))))) (fun i h => by cases h)⟩
              | exact ⟨(k4 + 1, W.set r.probe.toNat true), ⟨by simp; omega, lies_end hW hr (by omega) hwk (by rw [h88, badV_at hvk, decide_eq_true (by omega)]; rfl)⟩, by simp; omega, weak_to (.cons rfl (rc_same rfl (.inl rfl)) (.cons rfl (rc_same rfl (.inl rfl)) (.cons rfl (rc_same rfl (.inl rfl)) (.cons rfl (rc_same rfl (.inl rfl)) (.cons rfl (rc_same rfl (.inl rfl)) (.cons rfl (rc_same rfl (.inl rfl)) (.cons rfl (rc_same rfl (.inl rfl)) (.cons rfl (rc_same rfl (.inl rfl)) (.cons rfl (rc_same rfl (.inl rfl)) (.cons rfl (rc_same rfl (.inl rfl)) (.cons rfl (rc_same rfl (.inl rfl)) (.cons rfl (rc_same rfl (.inl rfl)) (.cons rfl (rc_same rfl (.inl rfl)) (.cons rfl (rc_same rfl (.inl rfl)) (.nil))))))))))))))) (.keep (rfl) rfl (.keep (rfl) rfl (.keep (rfl) rfl (.keep (rfl) rfl (.keep (rfl) rfl (.nil)))))) (fun i h => by cases h)⟩
              | exact ⟨(k4 + 1, W.set r.probe.toNat false), ⟨by simp; omega, lies_end hW hr (by omega) hwk (by rw [h88, badV_at hvk, decide_eq_false (by omega)]; rfl)⟩, by simp; omega, weak_to (.cons rfl (rc_same rfl (.inl rfl)) (.cons rfl (rc_same rfl (.inl rfl)) (.cons rfl (rc_same rfl (.inl rfl)) (.cons rfl (rc_same rfl (.inl rfl)) (.cons rfl (rc_same rfl (.inl rfl)) (.cons rfl (rc_same rfl (.inl rfl)) (.cons rfl (rc_same rfl (.inl rfl)) (.cons rfl (rc_same rfl (.inl rfl)) (.cons rfl (rc_same rfl (.inl rfl)) (.cons rfl (rc_same rfl (.inl rfl)) (.cons rfl (rc_same rfl (.inl rfl)) (.cons rfl (rc_same rfl (.inl rfl)) (.cons rfl (rc_same rfl (.inl rfl)) (.cons rfl (rc_same rfl (.inl rfl)) (.nil))))))))))))))) (.keep (rfl) rfl (.keep (rfl) rfl (.keep (rfl) rfl (.keep (rfl) rfl (.keep (rfl) rfl (.nil)))))) (fun i h => by cases h)⟩
        · first | replace h79 := of_decide_eq_false h79 | skip
          refine aw_exit ?_
          refine th_e ?_
          refine th_e ?_
          refine in_hit ?_
          refine th_n ?_
          refine aw_seq ?_
          refine aw_seq ?_
          obtain rfl : k4 = R.length := by omega
          refine aw_reg ?_
          refine rs_mv rfl rfl ?_
          refine rs_nil fun _ => ?_
          refine th_n ?_
          refine aw_block ?_
          refine aw_fam (α := Nat × List Bool) (fun a => 8 - a.1) (fun a => [(3, .bool true), (4, .rs 4 (R.map cR)), (5, ints lo), (6, ints hi2), (7, iv m), (9, .sl 56 0 n), (10, .sl 59 0 n), (11, .ptr 11 0 0), (12, .bool true), (13, .sl 63 0 n), (14, .ptr 14 0 0), (110, iv (((a.1) : Nat) : Int))]) (fun a => [(56, .cells 3 1 ((le).map ci) true), (59, .cells 3 1 ((gr).map ci) true), (11, .cells 47 8 [(a.2).map AV.bool] true), (63, .cells 3 1 ((V).map ci) true), (14, .cells 47 8 [(W).map AV.bool] true)]) (fun a => a.1 ≤ 8 ∧ AndOk al W a.1 a.2) (0, al) (⟨by simp, hx.sum.lal, fun p _ => by simp⟩)
            (weak_to (.cons rfl (rc_same rfl (.inl rfl)) (.cons rfl (rc_same rfl (.inl rfl)) (.cons rfl (rc_same rfl (.inl rfl)) (.cons rfl (rc_same rfl (.inl rfl)) (.cons rfl (rc_same rfl (.inl rfl)) (.cons rfl (rc_same rfl (.inl rfl)) (.cons rfl (rc_same rfl (.inl rfl)) (.cons rfl (rc_same rfl (.inl rfl)) (.cons rfl (rc_same rfl (.inl rfl)) (.cons rfl (rc_same rfl (.inl rfl)) (.cons rfl (rc_same rfl (.inl rfl)) (.cons rfl (rc_same rfl (.inl rfl)) (.nil))))))))))))) (.keep (rfl) rfl (.keep (rfl) rfl (.keep (rfl) rfl (.keep (rfl) rfl (.keep (rfl) rfl (.nil)))))) (fun i h => by cases h)) ?_
          rintro ⟨k6, A2⟩ ⟨hk6, hA2⟩
          dsimp only at hk6 hA2 ⊢
          refine aw_seq ?_
          refine aw_reg ?_
          refine rs_lss rfl rfl rfl ?_
          refine rs_nil fun _ => ?_
          refine th_n ?_
          refine aw_seq ?_
          refine aw_cond rfl (fun h111 => ?_) (fun h111 => ?_)
          · first | replace h111 := of_decide_eq_true h111 | skip
            refine aw_skip ?_
            refine th_n ?_
            refine aw_seq ?_
            refine aw_block ?_
            refine aw_seq ?_
            refine aw_reg ?_
            have hA8 := hA2.1
            have hW8 := hW.1
            obtain ⟨x, hxk, _⟩ := at_some (L := A2) (k := k6) (by omega)
            obtain ⟨y, hyk, _⟩ := at_some (L := W) (k := k6) (by omega)
            refine rs_mv rfl rfl ?_
            refine rs_mv rfl rfl ?_
            refine rs_nil fun _ => ?_
            refine th_n ?_
            refine aw_reg ?_
            refine rs_mv rfl rfl ?_
            refine rs_mv rfl rfl ?_
            refine rs_ixarr_p rfl rfl rfl (by omega) (by omega) ?_
            refine rs_ld_f (k := k6) rfl rfl rfl (by simp) hxk ?_
            refine rs_mv rfl rfl ?_
            cases h117 : x
            · skip
              refine rs_skip rfl ?_
              refine rs_skip rfl ?_
              refine rs_skip rfl ?_
              refine rs_pick rfl rfl rfl ?_
              refine rs_ixarr_p rfl rfl rfl (by omega) (by omega) ?_
              refine rs_st_f (k := k6) (y := false) rfl rfl rfl rfl rfl rfl rfl (by simp) (by omega) ?_
              refine rs_nil fun _ => ?_
              refine in_n ?_
              refine th_n ?_
              refine aw_reg ?_
              first | refine rs_add rfl rfl rfl (by omega) ?_ | refine rs_addw rfl rfl rfl rfl ?_
              refine rs_mv rfl rfl ?_
              refine rs_nil fun _ => ?_
              refine th_n ?_
              first
                | exact ⟨(k6 + 1, A2.set k6 y), ⟨by simp; omega, and_end hA2 (by omega) hxk hyk (by rw [h117]; simp)⟩, by simp; omega, weak_to (.cons rfl (rc_same rfl (.inl rfl)) (.cons rfl (rc_same rfl (.inl rfl)) (.cons rfl (rc_same rfl (.inl rfl)) (.cons rfl (rc_same rfl (.inl rfl)) (.cons rfl (rc_same rfl (.inl rfl)) (.cons rfl (rc_same rfl (.inl rfl)) (.cons rfl (rc_same rfl (.inl rfl)) (.cons rfl (rc_same rfl (.inl rfl)) (.cons rfl (rc_same rfl (.inl rfl)) (.cons rfl (rc_same rfl (.inl rfl)) (.cons rfl (rc_same rfl (.inl rfl)) (.cons rfl (rc_same rfl (.inl rfl)) (.nil))))))))))))) (.keep (rfl) rfl (.keep (rfl) rfl (.keep (rfl) rfl (.keep (rfl) rfl (.keep (rfl) rfl (.nil)))))) (fun i h => by cases h)⟩
                | exact ⟨(k6 + 1, A2.set k6 false), ⟨by simp; omega, and_end hA2 (by omega) hxk hyk (by rw [h117]; rfl)⟩, by simp; omega, weak_to (.cons rfl (rc_same rfl (.inl rfl)) (.cons rfl (rc_same rfl (.inl rfl)) (.cons rfl (rc_same rfl (.inl rfl)) (.cons rfl (rc_same rfl (.inl rfl)) (.cons rfl (rc_same rfl (.inl rfl)) (.cons rfl (rc_same rfl (.inl rfl)) (.cons rfl (rc_same rfl (.inl rfl)) (.cons rfl (rc_same rfl (.inl rfl)) (.cons rfl (rc_same rfl (.inl rfl)) (.cons rfl (rc_same rfl (.inl rfl)) (.cons rfl (rc_same rfl (.inl rfl)) (.cons rfl (rc_same rfl (.inl rfl)) (.nil))))))))))))) (.keep (rfl) rfl (.keep (rfl) rfl (.keep (rfl) rfl (.keep (rfl) rfl (.keep (rfl) rfl (.nil)))))) (fun i h => by cases h)⟩
            · skip
              refine rs_mv rfl rfl ?_
              refine rs_ixarr_p rfl rfl rfl (by omega) (by omega) ?_
              refine rs_ld_f (k := k6) rfl rfl rfl (by simp) hyk ?_
              refine rs_pick rfl rfl rfl ?_
              refine rs_ixarr_p rfl rfl rfl (by omega) (by omega) ?_
              refine rs_st_f (k := k6) (y := y) rfl rfl rfl rfl rfl rfl rfl (by simp) (by omega) ?_
              refine rs_nil fun _ => ?_
              refine in_n ?_
              refine th_n ?_
              refine aw_reg ?_
              first | refine rs_add rfl rfl rfl (by omega) ?_ | refine rs_addw rfl rfl rfl rfl ?_
              refine rs_mv rfl rfl ?_
              refine rs_nil fun _ => ?_
              refine th_n ?_
              first
                | exact ⟨(k6 + 1, A2.set k6 y), ⟨by simp; omega, and_end hA2 (by omega) hxk hyk (by rw [h117]; simp)⟩, by simp; omega, weak_to (.cons rfl (rc_same rfl (.inl rfl)) (.cons rfl (rc_same rfl (.inl rfl)) (.cons rfl (rc_same rfl (.inl rfl)) (.cons rfl (rc_same rfl (.inl rfl)) (.cons rfl (rc_same rfl (.inl rfl)) (.cons rfl (rc_same rfl (.inl rfl)) (.cons rfl (rc_same rfl (.inl rfl)) (.cons rfl (rc_same rfl (.inl rfl)) (.cons rfl (rc_same rfl (.inl rfl)) (.cons rfl (rc_same rfl (.inl rfl)) (.cons rfl (rc_same rfl (.inl rfl)) (.cons rfl (rc_same rfl (.inl rfl)) (.nil))))))))))))) (.keep (rfl) rfl (.keep (rfl) rfl (.keep (rfl) rfl (.keep (rfl) rfl (.keep (rfl) rfl (.nil)))))) (fun i h => by cases h)⟩
                | exact ⟨(k6 + 1, A2.set k6 false), ⟨by simp; omega, and_end hA2 (by omega) hxk hyk (by rw [h117]; rfl)⟩, by simp; omega, weak_to (.cons rfl (rc_same rfl (.inl rfl)) (.cons rfl (rc_same rfl (.inl rfl)) (.cons rfl (rc_same rfl (.inl rfl)) (.cons rfl (rc_same rfl (.inl rfl)) (.cons rfl (rc_same rfl (.inl rfl)) (.cons rfl (rc_same rfl (.inl rfl)) (.cons rfl (rc_same rfl (.inl rfl)) (.cons rfl (rc_same rfl (.inl rfl)) (.cons rfl (rc_same rfl (.inl rfl)) (.cons rfl (rc_same rfl (.inl rfl)) (.cons rfl (rc_same rfl (.inl rfl)) (.cons rfl (rc_same rfl (.inl rfl)) (.nil))))))))))))) (.keep (rfl) rfl (.keep (rfl) rfl (.keep (rfl) rfl (.keep (rfl) rfl (.keep (rfl) rfl (.nil)))))) (fun i h => by cases h)⟩
          · first | replace h111 := of_decide_eq_false h111 | skip
            refine aw_exit ?_
            refine th_e ?_
            refine th_e ?_
            refine in_hit ?_
            refine th_n ?_
            refine aw_seq ?_
            obtain rfl : k6 = 8 := by omega
            refine aw_reg ?_
            refine rs_mv rfl rfl ?_
            first | refine rs_len_m rfl rfl ?_ | refine rs_len_s rfl rfl ?_ | refine rs_len_n rfl rfl ?_ | refine rs_len_r rfl rfl rfl ?_
            refine rs_mv rfl rfl ?_
            refine rs_nil fun _ => ?_
            refine th_n ?_
            refine aw_block ?_
            refine aw_fam (α := Nat × List Int × List Int) (fun a => n - a.1) (fun a => [(3, .bool true), (4, .rs 4 (R.map cR)), (5, ints lo), (6, ints hi2), (7, iv m), (9, .sl 56 0 n), (10, .sl 59 0 n), (11, .ptr 11 0 0), (12, .bool true), (13, .sl 63 0 n), (124, .sl 63 0 n), (125, iv (n : Int)), (126, iv (((a.1) : Nat) : Int))]) (fun a => [(56, .cells 3 1 ((a.2.1).map ci) true), (59, .cells 3 1 ((a.2.2).map ci) true), (11, .cells 47 8 [(A2).map AV.bool] true), (63, .cells 3 1 ((V).map ci) true)]) (fun a => a.1 ≤ n ∧ MmOk n V le gr a.1 a.2.1 a.2.2) (0, le, gr) (⟨by simp, hx.sum.lle, hx.sum.lgr, fun i _ => by simp, fun i _ => by simp⟩)
              (weak_to (.cons rfl (rc_same rfl (.inl rfl)) (.cons rfl (rc_same rfl (.inl rfl)) (.cons rfl (rc_same rfl (.inl rfl)) (.cons rfl (rc_same rfl (.inl rfl)) (.cons rfl (rc_same rfl (.inl rfl)) (.cons rfl (rc_same rfl (.inl rfl)) (.cons rfl (rc_same rfl (.inl rfl)) (.cons rfl (rc_same rfl (.inl rfl)) (.cons rfl (rc_same rfl (.inl rfl)) (.cons rfl (rc_same rfl (.inl rfl)) (.cons rfl (rc_same rfl (.inl rfl)) (.cons rfl (rc_same rfl (.inl rfl)) (.cons rfl (rc_same rfl (.inl rfl)) (.nil)))))))))))))) (.keep (rfl) rfl (.keep (rfl) rfl (.keep (rfl) rfl (.keep (rfl) rfl (.nil))))) (fun i h => by cases h)) ?_
            rintro ⟨k8, A1, B1⟩ ⟨hk8, hM⟩
            dsimp only at hk8 hM ⊢
            refine aw_seq ?_
            refine aw_reg ?_
            refine rs_lss rfl rfl rfl ?_
            refine rs_nil fun _ => ?_
            refine th_n ?_
            refine aw_seq ?_
            refine aw_cond rfl (fun h127 => ?_) (fun h127 => ?_)
            · first | replace h127 := of_decide_eq_true h127 | skip
              refine aw_skip ?_
              refine th_n ?_
              refine aw_seq ?_
              refine aw_block ?_
              refine aw_seq ?_
              refine aw_reg ?_
              have hlA := hM.lA
              have hlB := hM.lB
              obtain ⟨e, hek, _⟩ := at_some (L := A1) (k := k8) (by omega)
              obtain ⟨q, hgk, _⟩ := at_some (L := B1) (k := k8) (by omega)
              obtain ⟨v, hvk, _⟩ := at_some (L := V) (k := k8) (by have := hx.len; omega)
              refine rs_mv rfl rfl ?_
              refine rs_mv rfl rfl ?_
              refine rs_nil fun _ => ?_
              refine th_n ?_
              refine aw_draw hmix ?_
              refine rs_mv rfl rfl ?_
              refine rs_mv rfl rfl ?_
              refine rs_mv rfl rfl ?_
              refine rs_mv rfl rfl ?_
              refine rs_mv rfl rfl ?_
              refine rs_mv rfl rfl ?_
              refine rs_ix_sm (t := k8) rfl rfl rfl rfl (by omega) ?_
              refine rs_ld_g rfl rfl rfl hek rfl ?_
              refine rs_mv rfl rfl ?_
              refine rs_mv rfl rfl ?_
              refine rs_ix_sm (t := k8) rfl rfl rfl rfl (by omega) ?_
              refine rs_ld_g rfl rfl rfl hvk rfl ?_
              refine rs_mn rfl rfl rfl rfl ?_
              refine rs_mv rfl rfl ?_
              refine rs_mv rfl rfl ?_
              refine rs_ix_sm (t := k8) rfl rfl rfl rfl (by omega) ?_
              refine rs_ld_g rfl rfl rfl hgk rfl ?_
              refine rs_mv rfl rfl ?_
              refine rs_mv rfl rfl ?_
              refine rs_ix_sm (t := k8) rfl rfl rfl rfl (by omega) ?_
              refine rs_ld_g rfl rfl rfl hvk rfl ?_
              refine rs_mx rfl rfl rfl rfl ?_
              refine rs_ix_sm (t := k8) rfl rfl rfl rfl (by omega) ?_
              refine rs_st_m (v := min e v) (fl' := true) rfl rfl rfl rfl (by omega) rfl rfl (Nat.le_of_ble_eq_true rfl) rfl rfl ?_
              refine rs_ix_sm (t := k8) rfl rfl rfl rfl (by omega) ?_
              refine rs_st_m (v := max q v) (fl' := true) rfl rfl rfl rfl (by omega) rfl rfl (Nat.le_of_ble_eq_true rfl) rfl rfl ?_
              refine rs_nil ⟨by kernel_rfl, fun _ => ?_⟩
              refine in_n ?_
              refine th_n ?_
              refine aw_reg ?_
              first | refine rs_add rfl rfl rfl (by omega) ?_ | refine rs_addw rfl rfl rfl rfl ?_
              refine rs_mv rfl rfl ?_
              refine rs_nil fun _ => ?_
              refine th_n ?_
              exact ⟨(k8 + 1, A1.set k8 (min e v), B1.set k8 (max q v)), ⟨by simp; omega, mm_end hM hek hgk hvk⟩, by simp; omega, weak_to (.cons rfl (rc_same rfl (.inl rfl)) (.cons rfl (rc_same rfl (.inl rfl)) (.cons rfl (rc_same rfl (.inl rfl)) (.cons rfl (rc_same rfl (.inl rfl)) (.cons rfl (rc_same rfl (.inl rfl)) (.cons rfl (rc_same rfl (.inl rfl)) (.cons rfl (rc_same rfl (.inl rfl)) (.cons rfl (rc_same rfl (.inl rfl)) (.cons rfl (rc_same rfl (.inl rfl)) (.cons rfl (rc_same rfl (.inl rfl)) (.cons rfl (rc_same rfl (.inl rfl)) (.cons rfl (rc_same rfl (.inl rfl)) (.cons rfl (rc_same rfl (.inl rfl)) (.nil)))))))))))))) (.keep (rfl) rfl (.keep (rfl) rfl (.keep (rfl) rfl (.keep (rfl) rfl (.nil))))) (fun i h => by cases h)⟩
            · first | replace h127 := of_decide_eq_false h127 | skip
              refine aw_exit ?_
              refine th_e ?_
              refine th_e ?_
              refine in_hit ?_
              refine th_n ?_
              refine aw_seq ?_
              obtain ⟨so2, al2, le2, gr2, e0, e1, e2, e3, hS⟩ : ∃ so2 al2 le2 gr2, true = so2 ∧ A2 = al2 ∧ A1 = le2 ∧ B1 = gr2 ∧ SumP n lo hi2 R (Next n R lo hi2 m V) so2 al2 le2 gr2 := ⟨_, _, _, _, rfl, rfl, rfl, rfl, tight_t hm2 hx (by rw [getD_of hv0, getD_of hh0]; omega) hag hW hA2 (by (obtain rfl : k8 = n := by omega); exact hM)⟩
              refine aw_weak (F0 := [(3, .bool true), (4, .rs 4 (R.map cR)), (5, ints lo), (6, ints hi2), (7, iv m), (9, .sl 56 0 n), (10, .sl 59 0 n), (11, .ptr 11 0 0), (12, .bool so2), (13, .sl 63 0 n)]) (H0 := [(56, .cells 3 1 ((le2).map ci) true), (59, .cells 3 1 ((gr2).map ci) true), (11, .cells 47 8 [(al2).map AV.bool] true), (63, .cells 3 1 ((V).map ci) true)]) (weak_to (.cons rfl (rc_same rfl (.inl rfl)) (.cons rfl (rc_same rfl (.inl rfl)) (.cons rfl (rc_same rfl (.inl rfl)) (.cons rfl (rc_same rfl (.inl rfl)) (.cons rfl (rc_same rfl (.inl rfl)) (.cons rfl (rc_same rfl (.inl rfl)) (.cons rfl (rc_same rfl (.inl rfl)) (.cons rfl (rc_same rfl (.inl rfl)) (.cons rfl (rc_eq (by rw [← e0]) rfl) (.cons rfl (rc_same rfl (.inl rfl)) (.nil))))))))))) (.keep ((by rw [← e2]; rfl)) rfl (.keep ((by rw [← e3]; rfl)) rfl (.keep ((by rw [← e1]; rfl)) rfl (.keep (rfl) rfl (.nil))))) (fun i h => by cases h)) ?_
              refine aw_reg ?_
              refine rs_mv rfl rfl ?_
              first | refine rs_len_m rfl rfl ?_ | refine rs_len_s rfl rfl ?_ | refine rs_len_n rfl rfl ?_ | refine rs_len_r rfl rfl rfl ?_
              first | refine rs_sub rfl rfl rfl (by omega) ?_ | refine rs_subw rfl rfl rfl rfl ?_
              refine rs_mv rfl rfl ?_
              refine rs_nil fun _ => ?_
              refine th_n ?_
              refine aw_seq ?_
              refine aw_weak (F0 := [(3, .bool true), (4, .rs 4 (R.map cR)), (5, ints lo), (6, ints hi2), (7, iv m), (9, .sl 56 0 n), (10, .sl 59 0 n), (11, .ptr 11 0 0), (12, .bool so2), (13, .sl 63 0 n), (19, iv (((n - 1) : Nat) : Int))]) (H0 := [(56, .cells 3 1 ((le2).map ci) true), (59, .cells 3 1 ((gr2).map ci) true), (11, .cells 47 8 [(al2).map AV.bool] true), (63, .cells 3 1 ((V).map ci) true)]) (weak_to (.cons rfl (rc_same rfl (.inl rfl)) (.cons rfl (rc_same rfl (.inl rfl)) (.cons rfl (rc_same rfl (.inl rfl)) (.cons rfl (rc_same rfl (.inl rfl)) (.cons rfl (rc_same rfl (.inl rfl)) (.cons rfl (rc_same rfl (.inl rfl)) (.cons rfl (rc_same rfl (.inl rfl)) (.cons rfl (rc_same rfl (.inl rfl)) (.cons rfl (rc_same rfl (.inl rfl)) (.cons rfl (rc_same rfl (.inl rfl)) (.cons rfl (rc_int (by omega)) (.nil)))))))))))) (.keep (rfl) rfl (.keep (rfl) rfl (.keep (rfl) rfl (.keep (rfl) rfl (.nil))))) (fun i h => by cases h)) ?_
              refine aw_reg ?_
              refine rs_mv rfl rfl ?_
              have hVl := hx.len
              obtain ⟨vn, hvn, _⟩ := at_some (L := V) (k := n - 1) (by omega)
              have hbV := ok6_inb hm2 hx (by rw [getD_of hv0, getD_of hh0]; omega)
              have hbn := hbV (n - 1) (by omega)
              rw [getD_of hvn] at hbn
              have hln := lims_at hm2 (n - 1) (by omega)
              have hl3 := hm2.lims (n - 1) (by omega)
              refine rs_mv rfl rfl ?_
              refine rs_ix_sm (t := n - 1) rfl rfl rfl rfl (by omega) ?_
              refine rs_ld_g rfl rfl rfl hvn rfl ?_
              first | refine rs_add rfl rfl rfl (by omega) ?_ | refine rs_addw rfl rfl rfl rfl ?_
              refine rs_ix_sm (t := n - 1) rfl rfl rfl rfl (by omega) ?_
              refine rs_st_m (v := vn + 1) (fl' := true) rfl rfl rfl rfl (by omega) rfl rfl (Nat.le_of_ble_eq_true rfl) rfl rfl ?_
              refine rs_nil fun _ => ?_
              refine th_n ?_
              refine aw_block ?_
              refine aw_fam (α := Nat × List Int) (fun a => a.1) (fun a => [(3, .bool true), (4, .rs 4 (R.map cR)), (5, ints lo), (6, ints hi2), (7, iv m), (9, .sl 56 0 n), (10, .sl 59 0 n), (11, .ptr 11 0 0), (12, .bool so2), (13, .sl 63 0 n), (19, iv (((a.1) : Nat) : Int))]) (fun a => [(56, .cells 3 1 ((le2).map ci) true), (59, .cells 3 1 ((gr2).map ci) true), (11, .cells 47 8 [(al2).map AV.bool] true), (63, .cells 3 1 ((a.2).map ci) true)]) (fun a => Odo n lo hi2 V a.1 a.2) (n - 1, V.set (n - 1) (vn + 1)) (by have := odo_start hm2 hVl hbV; rwa [getD_of hvn] at this)
                (weak_to (.cons rfl (rc_same rfl (.inl rfl)) (.cons rfl (rc_same rfl (.inl rfl)) (.cons rfl (rc_same rfl (.inl rfl)) (.cons rfl (rc_same rfl (.inl rfl)) (.cons rfl (rc_same rfl (.inl rfl)) (.cons rfl (rc_same rfl (.inl rfl)) (.cons rfl (rc_same rfl (.inl rfl)) (.cons rfl (rc_same rfl (.inl rfl)) (.cons rfl (rc_same rfl (.inl rfl)) (.cons rfl (rc_same rfl (.inl rfl)) (.cons rfl (rc_same rfl (.inl rfl)) (.nil)))))))))))) (.keep (rfl) rfl (.keep (rfl) rfl (.keep (rfl) rfl (.keep (rfl) rfl (.nil))))) (fun i h => by cases h)) ?_
              rintro ⟨t, U⟩ ho
              dsimp only at ho ⊢
              refine aw_seq ?_
              refine aw_seq ?_
              refine aw_draw hmix ?_
              have htn := ho.lt
              have hUl := ho.len
              obtain ⟨ut, hut, _⟩ := at_some (L := U) (k := t) (by omega)
              obtain ⟨h1, hht, _⟩ := at_some (L := hi2) (k := t) (by omega)
              obtain ⟨l1, hlt, _⟩ := at_some (L := lo) (k := t) (by omega)
              refine rs_mv rfl rfl ?_
              refine rs_cmp rfl rfl rfl rfl (fun h164 => ?_) (fun h164 => ?_)
              · skip
                refine rs_mv rfl rfl ?_
                refine rs_mv rfl rfl ?_
                refine rs_mv rfl rfl ?_
                refine rs_ix_sm (t := t) rfl rfl rfl rfl (by omega) ?_
                refine rs_ld_g rfl rfl rfl hut rfl ?_
                refine rs_mv rfl rfl ?_
                refine rs_mv rfl rfl ?_
                refine rs_ix_g rfl rfl rfl (by omega) hht ?_
                refine rs_ld_r rfl rfl rfl ?_
                refine rs_cmp rfl rfl rfl rfl (fun h174 => ?_) (fun h174 => ?_)
                · skip
                  refine rs_pick rfl rfl rfl ?_
                  refine rs_nil ⟨by kernel_rfl, fun _ => ?_⟩
                  refine th_n ?_
                  refine aw_cond rfl (fun _ => ?_) (fun h => by cases h)
                  refine aw_skip ?_
                  refine th_n ?_
                  refine aw_seq ?_
                  refine aw_block ?_
                  refine aw_seq ?_
                  refine aw_reg ?_
                  
                  refine rs_mv rfl rfl ?_
                  refine rs_mv rfl rfl ?_
                  refine rs_mv rfl rfl ?_
                  refine rs_mv rfl rfl ?_
                  refine rs_ix_g rfl rfl rfl (by omega) hlt ?_
                  refine rs_ld_r rfl rfl rfl ?_
                  refine rs_ix_sm (t := t) rfl rfl rfl rfl (by omega) ?_
                  refine rs_st_m (v := l1) (fl' := true) rfl rfl rfl rfl (by omega) rfl rfl (Nat.le_of_ble_eq_true rfl) rfl rfl ?_
                  refine rs_nil fun _ => ?_
                  refine th_n ?_
                  refine aw_reg ?_
                  refine rs_mv rfl rfl ?_
                  first | refine rs_sub rfl rfl rfl (by omega) ?_ | refine rs_subw rfl rfl rfl rfl ?_
                  refine rs_mv rfl rfl ?_
                  refine rs_nil fun _ => ?_
                  refine in_n ?_
                  refine th_n ?_
                  refine aw_weak (F0 := [(3, .bool true), (4, .rs 4 (R.map cR)), (5, ints lo), (6, ints hi2), (7, iv m), (9, .sl 56 0 n), (10, .sl 59 0 n), (11, .ptr 11 0 0), (12, .bool so2), (13, .sl 63 0 n), (19, iv (((t - 1) : Nat) : Int))]) (H0 := [(56, .cells 3 1 ((le2).map ci) true), (59, .cells 3 1 ((gr2).map ci) true), (11, .cells 47 8 [(al2).map AV.bool] true), (63, .cells 3 1 ((U.set t l1).map ci) true)]) (weak_to (.cons rfl (rc_same rfl (.inl rfl)) (.cons rfl (rc_same rfl (.inl rfl)) (.cons rfl (rc_same rfl (.inl rfl)) (.cons rfl (rc_same rfl (.inl rfl)) (.cons rfl (rc_same rfl (.inl rfl)) (.cons rfl (rc_same rfl (.inl rfl)) (.cons rfl (rc_same rfl (.inl rfl)) (.cons rfl (rc_same rfl (.inl rfl)) (.cons rfl (rc_same rfl (.inl rfl)) (.cons rfl (rc_same rfl (.inl rfl)) (.cons rfl (rc_int (by omega)) (.nil)))))))))))) (.keep (rfl) rfl (.keep (rfl) rfl (.keep (rfl) rfl (.keep (rfl) rfl (.nil))))) (fun i h => by cases h)) ?_
                  refine aw_reg ?_
                  refine rs_mv rfl rfl ?_
                  obtain ⟨u1, hu1, _⟩ := at_some (L := U) (k := t - 1) (by omega)
                  have hlw := ho.low (t - 1) (by omega)
                  rw [getD_of hu1] at hlw
                  have hl9 := hm2.lims (t - 1) (by omega)
                  refine rs_mv rfl rfl ?_
                  refine rs_ix_sm (t := t - 1) rfl rfl rfl rfl (by omega) ?_
                  refine rs_ld_g rfl rfl rfl ((List.getElem?_set_ne (by omega)).trans hu1) rfl ?_
                  first | refine rs_add rfl rfl rfl (by omega) ?_ | refine rs_addw rfl rfl rfl rfl ?_
                  refine rs_ix_sm (t := t - 1) rfl rfl rfl rfl (by omega) ?_
                  refine rs_st_m (v := u1 + 1) (fl' := true) rfl rfl rfl rfl (by simp; omega) rfl rfl (Nat.le_of_ble_eq_true rfl) rfl rfl ?_
                  refine rs_nil fun _ => ?_
                  refine th_n ?_
                  exact ⟨(t - 1, (U.set t l1).set (t - 1) (u1 + 1)), by have := odo_step hm2 ho (by omega) (by rw [getD_of hut, getD_of hht]; omega); rwa [getD_of hlt, getD_of hu1] at this, by simp; omega, weak_to (.cons rfl (rc_same rfl (.inl rfl)) (.cons rfl (rc_same rfl (.inl rfl)) (.cons rfl (rc_same rfl (.inl rfl)) (.cons rfl (rc_same rfl (.inl rfl)) (.cons rfl (rc_same rfl (.inl rfl)) (.cons rfl (rc_same rfl (.inl rfl)) (.cons rfl (rc_same rfl (.inl rfl)) (.cons rfl (rc_same rfl (.inl rfl)) (.cons rfl (rc_same rfl (.inl rfl)) (.cons rfl (rc_same rfl (.inl rfl)) (.cons rfl (rc_same rfl (.inl rfl)) (.nil)))))))))))) (.keep (rfl) rfl (.keep (rfl) rfl (.keep (rfl) rfl (.keep (rfl) rfl (.nil))))) (fun i h => by cases h)⟩
                · skip
                  refine rs_pick rfl rfl rfl ?_
                  refine rs_nil ⟨by kernel_rfl, fun _ => ?_⟩
                  refine th_n ?_
                  refine aw_cond rfl (fun h => by cases h) (fun _ => ?_)
                  refine aw_exit ?_
                  refine th_e ?_
                  refine th_e ?_
                  refine in_hit ?_
                  refine in_n ?_
                  refine th_n ?_
                  have hx2 := ok6_next hm2 hbV ho (by rw [getD_of hut, getD_of hht]; omega) hS
                  have hk1 := key_range hm2 hx.v0 hx.v1
                  have hk2 := key_range hm2 hx2.v0 hx2.v1
                  have hk3 := ho.key_lt
                  exact ⟨(U, so2, al2, le2, gr2), hx2, by simp only; omega, weak_to (.cons rfl (rc_same rfl (.inl rfl)) (.cons rfl (rc_same rfl (.inl rfl)) (.cons rfl (rc_same rfl (.inl rfl)) (.cons rfl (rc_same rfl (.inl rfl)) (.cons rfl (rc_same rfl (.inl rfl)) (.cons rfl (rc_same rfl (.inl rfl)) (.cons rfl (rc_same rfl (.inl rfl)) (.cons rfl (rc_same rfl (.inl rfl)) (.cons rfl (rc_same rfl (.inl rfl)) (.cons rfl (rc_same rfl (.inl rfl)) (.nil))))))))))) (.keep (rfl) rfl (.keep (rfl) rfl (.keep (rfl) rfl (.keep (rfl) rfl (.nil))))) (fun i h => by cases h)⟩
              · skip
                refine rs_mv rfl rfl ?_
                refine rs_skip rfl ?_
                refine rs_skip rfl ?_
                refine rs_skip rfl ?_
                refine rs_skip rfl ?_
                refine rs_skip rfl ?_
                refine rs_skip rfl ?_
                refine rs_skip rfl ?_
                refine rs_skip rfl ?_
                refine rs_skip rfl ?_
                refine rs_pick rfl rfl rfl ?_
                refine rs_nil ⟨by kernel_rfl, fun _ => ?_⟩
                refine th_n ?_
                refine aw_cond rfl (fun h => by cases h) (fun _ => ?_)
                refine aw_exit ?_
                refine th_e ?_
                refine th_e ?_
                refine in_hit ?_
                refine in_n ?_
                refine th_n ?_
                have hx2 := ok6_next hm2 hbV ho (by rw [getD_of hut, getD_of hht]; omega) hS
                have hk1 := key_range hm2 hx.v0 hx.v1
                have hk2 := key_range hm2 hx2.v0 hx2.v1
                have hk3 := ho.key_lt
                exact ⟨(U, so2, al2, le2, gr2), hx2, by simp only; omega, weak_to (.cons rfl (rc_same rfl (.inl rfl)) (.cons rfl (rc_same rfl (.inl rfl)) (.cons rfl (rc_same rfl (.inl rfl)) (.cons rfl (rc_same rfl (.inl rfl)) (.cons rfl (rc_same rfl (.inl rfl)) (.cons rfl (rc_same rfl (.inl rfl)) (.cons rfl (rc_same rfl (.inl rfl)) (.cons rfl (rc_same rfl (.inl rfl)) (.cons rfl (rc_same rfl (.inl rfl)) (.cons rfl (rc_same rfl (.inl rfl)) (.nil))))))))))) (.keep (rfl) rfl (.keep (rfl) rfl (.keep (rfl) rfl (.keep (rfl) rfl (.nil))))) (fun i h => by cases h)⟩
      · first | replace h74 := of_decide_eq_false h74 | skip
        refine aw_skip ?_
        refine th_n ?_
        refine aw_seq ?_
        obtain ⟨so2, al2, le2, gr2, e0, e1, e2, e3, hS⟩ : ∃ so2 al2 le2 gr2, so = so2 ∧ al = al2 ∧ le = le2 ∧ gr = gr2 ∧ SumP n lo hi2 R (Next n R lo hi2 m V) so2 al2 le2 gr2 := ⟨_, _, _, _, rfl, rfl, rfl, rfl, tight_f hm2 hx (decide_eq_false h74)⟩
        refine aw_weak (F0 := [(3, .bool true), (4, .rs 4 (R.map cR)), (5, ints lo), (6, ints hi2), (7, iv m), (9, .sl 56 0 n), (10, .sl 59 0 n), (11, .ptr 11 0 0), (12, .bool so2), (13, .sl 63 0 n)]) (H0 := [(56, .cells 3 1 ((le2).map ci) true), (59, .cells 3 1 ((gr2).map ci) true), (11, .cells 47 8 [(al2).map AV.bool] true), (63, .cells 3 1 ((V).map ci) true)]) (weak_to (.cons rfl (rc_same rfl (.inl rfl)) (.cons rfl (rc_same rfl (.inl rfl)) (.cons rfl (rc_same rfl (.inl rfl)) (.cons rfl (rc_same rfl (.inl rfl)) (.cons rfl (rc_same rfl (.inl rfl)) (.cons rfl (rc_same rfl (.inl rfl)) (.cons rfl (rc_same rfl (.inl rfl)) (.cons rfl (rc_same rfl (.inl rfl)) (.cons rfl (rc_eq (by rw [← e0]) rfl) (.cons rfl (rc_same rfl (.inl rfl)) (.nil))))))))))) (.keep ((by rw [← e2]; rfl)) rfl (.keep ((by rw [← e3]; rfl)) rfl (.keep ((by rw [← e1]; rfl)) rfl (.keep (rfl) rfl (.nil))))) (fun i h => by cases h)) ?_
        refine aw_reg ?_
        refine rs_mv rfl rfl ?_
        first | refine rs_len_m rfl rfl ?_ | refine rs_len_s rfl rfl ?_ | refine rs_len_n rfl rfl ?_ | refine rs_len_r rfl rfl rfl ?_
        first | refine rs_sub rfl rfl rfl (by omega) ?_ | refine rs_subw rfl rfl rfl rfl ?_
        refine rs_mv rfl rfl ?_
        refine rs_nil fun _ => ?_
        refine th_n ?_
        refine aw_seq ?_
        refine aw_weak (F0 := [(3, .bool true), (4, .rs 4 (R.map cR)), (5, ints lo), (6, ints hi2), (7, iv m), (9, .sl 56 0 n), (10, .sl 59 0 n), (11, .ptr 11 0 0), (12, .bool so2), (13, .sl 63 0 n), (19, iv (((n - 1) : Nat) : Int))]) (H0 := [(56, .cells 3 1 ((le2).map ci) true), (59, .cells 3 1 ((gr2).map ci) true), (11, .cells 47 8 [(al2).map AV.bool] true), (63, .cells 3 1 ((V).map ci) true)]) (weak_to (.cons rfl (rc_same rfl (.inl rfl)) (.cons rfl (rc_same rfl (.inl rfl)) (.cons rfl (rc_same rfl (.inl rfl)) (.cons rfl (rc_same rfl (.inl rfl)) (.cons rfl (rc_same rfl (.inl rfl)) (.cons rfl (rc_same rfl (.inl rfl)) (.cons rfl (rc_same rfl (.inl rfl)) (.cons rfl (rc_same rfl (.inl rfl)) (.cons rfl (rc_same rfl (.inl rfl)) (.cons rfl (rc_same rfl (.inl rfl)) (.cons rfl (rc_int (by omega)) (.nil)))))))))))) (.keep (rfl) rfl (.keep (rfl) rfl (.keep (rfl) rfl (.keep (rfl) rfl (.nil))))) (fun i h => by cases h)) ?_
        refine aw_reg ?_
        refine rs_mv rfl rfl ?_
        have hVl := hx.len
        obtain ⟨vn, hvn, _⟩ := at_some (L := V) (k := n - 1) (by omega)
        have hbV := ok6_inb hm2 hx (by rw [getD_of hv0, getD_of hh0]; omega)
        have hbn := hbV (n - 1) (by omega)
        rw [getD_of hvn] at hbn
        have hln := lims_at hm2 (n - 1) (by omega)
        have hl3 := hm2.lims (n - 1) (by omega)
        refine rs_mv rfl rfl ?_
        refine rs_ix_sm (t := n - 1) rfl rfl rfl rfl (by omega) ?_
        refine rs_ld_g rfl rfl rfl hvn rfl ?_
        first | refine rs_add rfl rfl rfl (by omega) ?_ | refine rs_addw rfl rfl rfl rfl ?_
        refine rs_ix_sm (t := n - 1) rfl rfl rfl rfl (by omega) ?_
        refine rs_st_m (v := vn + 1) (fl' := true) rfl rfl rfl rfl (by omega) rfl rfl (Nat.le_of_ble_eq_true rfl) rfl rfl ?_
        refine rs_nil fun _ => ?_
        refine th_n ?_
        refine aw_block ?_
        refine aw_fam (α := Nat × List Int) (fun a => a.1) (fun a => [(3, .bool true), (4, .rs 4 (R.map cR)), (5, ints lo), (6, ints hi2), (7, iv m), (9, .sl 56 0 n), (10, .sl 59 0 n), (11, .ptr 11 0 0), (12, .bool so2), (13, .sl 63 0 n), (19, iv (((a.1) : Nat) : Int))]) (fun a => [(56, .cells 3 1 ((le2).map ci) true), (59, .cells 3 1 ((gr2).map ci) true), (11, .cells 47 8 [(al2).map AV.bool] true), (63, .cells 3 1 ((a.2).map ci) true)]) (fun a => Odo n lo hi2 V a.1 a.2) (n - 1, V.set (n - 1) (vn + 1)) (by have := odo_start hm2 hVl hbV; rwa [getD_of hvn] at this)
          (weak_to (.cons rfl (rc_same rfl (.inl rfl)) (.cons rfl (rc_same rfl (.inl rfl)) (.cons rfl (rc_same rfl (.inl rfl)) (.cons rfl (rc_same rfl (.inl rfl)) (.cons rfl (rc_same rfl (.inl rfl)) (.cons rfl (rc_same rfl (.inl rfl)) (.cons rfl (rc_same rfl (.inl rfl)) (.cons rfl (rc_same rfl (.inl rfl)) (.cons rfl (rc_same rfl (.inl rfl)) (.cons rfl (rc_same rfl (.inl rfl)) (.cons rfl (rc_same rfl (.inl rfl)) (.nil)))))))))))) (.keep (rfl) rfl (.keep (rfl) rfl (.keep (rfl) rfl (.keep (rfl) rfl (.nil))))) (fun i h => by cases h)) ?_
        rintro ⟨t, U⟩ ho
        dsimp only at ho ⊢
        refine aw_seq ?_
        refine aw_seq ?_
        refine aw_draw hmix ?_
        have htn := ho.lt
        have hUl := ho.len
        obtain ⟨ut, hut, _⟩ := at_some (L := U) (k := t) (by omega)
        obtain ⟨h1, hht, _⟩ := at_some (L := hi2) (k := t) (by omega)
        obtain ⟨l1, hlt, _⟩ := at_some (L := lo) (k := t) (by omega)
        refine rs_mv rfl rfl ?_
        refine rs_cmp rfl rfl rfl rfl (fun h164 => ?_) (fun h164 => ?_)
        · skip
          refine rs_mv rfl rfl ?_
          refine rs_mv rfl rfl ?_
          refine rs_mv rfl rfl ?_
          refine rs_ix_sm (t := t) rfl rfl rfl rfl (by omega) ?_
          refine rs_ld_g rfl rfl rfl hut rfl ?_
          refine rs_mv rfl rfl ?_
          refine rs_mv rfl rfl ?_
          refine rs_ix_g rfl rfl rfl (by omega) hht ?_
          refine rs_ld_r rfl rfl rfl ?_
          refine rs_cmp rfl rfl rfl rfl (fun h174 => ?_) (fun h174 => ?_)
          · skip
            refine rs_pick rfl rfl rfl ?_
            refine rs_nil ⟨by kernel_rfl, fun _ => ?_⟩
            refine th_n ?_
            refine aw_cond rfl (fun _ => ?_) (fun h => by cases h)
            refine aw_skip ?_
            refine th_n ?_
            refine aw_seq ?_
            refine aw_block ?_
            refine aw_seq ?_
            refine aw_reg ?_
            
            refine rs_mv rfl rfl ?_
            refine rs_mv rfl rfl ?_
            refine rs_mv rfl rfl ?_
            refine rs_mv rfl rfl ?_
            refine rs_ix_g rfl rfl rfl (by omega) hlt ?_
            refine rs_ld_r rfl rfl rfl ?_
            refine rs_ix_sm (t := t) rfl rfl rfl rfl (by omega) ?_
            refine rs_st_m (v := l1) (fl' := true) rfl rfl rfl rfl (by omega) rfl rfl (Nat.le_of_ble_eq_true rfl) rfl rfl ?_
            refine rs_nil fun _ => ?_
            refine th_n ?_
            refine aw_reg ?_
            refine rs_mv rfl rfl ?_
            first | refine rs_sub rfl rfl rfl (by omega) ?_ | refine rs_subw rfl rfl rfl rfl ?_
            refine rs_mv rfl rfl ?_
            refine rs_nil fun _ => ?_
            refine in_n ?_
            refine th_n ?_
            refine aw_weak (F0 := [(3, .bool true), (4, .rs 4 (R.map cR)), (5, ints lo), (6, ints hi2), (7, iv m), (9, .sl 56 0 n), (10, .sl 59 0 n), (11, .ptr 11 0 0), (12, .bool so2), (13, .sl 63 0 n), (19, iv (((t - 1) : Nat) : Int))]) (H0 := [(56, .cells 3 1 ((le2).map ci) true), (59, .cells 3 1 ((gr2).map ci) true), (11, .cells 47 8 [(al2).map AV.bool] true), (63, .cells 3 1 ((U.set t l1).map ci) true)]) (weak_to (.cons rfl (rc_same rfl (.inl rfl)) (.cons rfl (rc_same rfl (.inl rfl)) (.cons rfl (rc_same rfl (.inl rfl)) (.cons rfl (rc_same rfl (.inl rfl)) (.cons rfl (rc_same rfl (.inl rfl)) (.cons rfl (rc_same rfl (.inl rfl)) (.cons rfl (rc_same rfl (.inl rfl)) (.cons rfl (rc_same rfl (.inl rfl)) (.cons rfl (rc_same rfl (.inl rfl)) (.cons rfl (rc_same rfl (.inl rfl)) (.cons rfl (rc_int (by omega)) (.nil)))))))))))) (.keep (rfl) rfl (.keep (rfl) rfl (.keep (rfl) rfl (.keep (rfl) rfl (.nil))))) (fun i h => by cases h)) ?_
            refine aw_reg ?_
            refine rs_mv rfl rfl ?_
            obtain ⟨u1, hu1, _⟩ := at_some (L := U) (k := t - 1) (by omega)
            have hlw := ho.low (t - 1) (by omega)
            rw [getD_of hu1] at hlw
            have hl9 := hm2.lims (t - 1) (by omega)
            refine rs_mv rfl rfl ?_
            refine rs_ix_sm (t := t - 1) rfl rfl rfl rfl (by omega) ?_
            refine rs_ld_g rfl rfl rfl ((List.getElem?_set_ne (by omega)).trans hu1) rfl ?_
            first | refine rs_add rfl rfl rfl (by omega) ?_ | refine rs_addw rfl rfl rfl rfl ?_
            refine rs_ix_sm (t := t - 1) rfl rfl rfl rfl (by omega) ?_
            refine rs_st_m (v := u1 + 1) (fl' := true) rfl rfl rfl rfl (by simp; omega) rfl rfl (Nat.le_of_ble_eq_true rfl) rfl rfl ?_
            refine rs_nil fun _ => ?_
            refine th_n ?_
            exact ⟨(t - 1, (U.set t l1).set (t - 1) (u1 + 1)), by have := odo_step hm2 ho (by omega) (by rw [getD_of hut, getD_of hht]; omega); rwa [getD_of hlt, getD_of hu1] at this, by simp; omega, weak_to (.cons rfl (rc_same rfl (.inl rfl)) (.cons rfl (rc_same rfl (.inl rfl)) (.cons rfl (rc_same rfl (.inl rfl)) (.cons rfl (rc_same rfl (.inl rfl)) (.cons rfl (rc_same rfl (.inl rfl)) (.cons rfl (rc_same rfl (.inl rfl)) (.cons rfl (rc_same rfl (.inl rfl)) (.cons rfl (rc_same rfl (.inl rfl)) (.cons rfl (rc_same rfl (.inl rfl)) (.cons rfl (rc_same rfl (.inl rfl)) (.cons rfl (rc_same rfl (.inl rfl)) (.nil)))))))))))) (.keep (rfl) rfl (.keep (rfl) rfl (.keep (rfl) rfl (.keep (rfl) rfl (.nil))))) (fun i h => by cases h)⟩
          · skip
            refine rs_pick rfl rfl rfl ?_
            refine rs_nil ⟨by kernel_rfl, fun _ => ?_⟩
            refine th_n ?_
            refine aw_cond rfl (fun h => by cases h) (fun _ => ?_)
            refine aw_exit ?_
            refine th_e ?_
            refine th_e ?_
            refine in_hit ?_
            refine in_n ?_
            refine th_n ?_
            have hx2 := ok6_next hm2 hbV ho (by rw [getD_of hut, getD_of hht]; omega) hS
            have hk1 := key_range hm2 hx.v0 hx.v1
            have hk2 := key_range hm2 hx2.v0 hx2.v1
            have hk3 := ho.key_lt
            exact ⟨(U, so2, al2, le2, gr2), hx2, by simp only; omega, weak_to (.cons rfl (rc_same rfl (.inl rfl)) (.cons rfl (rc_same rfl (.inl rfl)) (.cons rfl (rc_same rfl (.inl rfl)) (.cons rfl (rc_same rfl (.inl rfl)) (.cons rfl (rc_same rfl (.inl rfl)) (.cons rfl (rc_same rfl (.inl rfl)) (.cons rfl (rc_same rfl (.inl rfl)) (.cons rfl (rc_same rfl (.inl rfl)) (.cons rfl (rc_same rfl (.inl rfl)) (.cons rfl (rc_same rfl (.inl rfl)) (.nil))))))))))) (.keep (rfl) rfl (.keep (rfl) rfl (.keep (rfl) rfl (.keep (rfl) rfl (.nil))))) (fun i h => by cases h)⟩
        · skip
          refine rs_mv rfl rfl ?_
          refine rs_skip rfl ?_
          refine rs_skip rfl ?_
          refine rs_skip rfl ?_
          refine rs_skip rfl ?_
          refine rs_skip rfl ?_
          refine rs_skip rfl ?_
          refine rs_skip rfl ?_
          refine rs_skip rfl ?_
          refine rs_skip rfl ?_
          refine rs_pick rfl rfl rfl ?_
          refine rs_nil ⟨by kernel_rfl, fun _ => ?_⟩
          refine th_n ?_
          refine aw_cond rfl (fun h => by cases h) (fun _ => ?_)
          refine aw_exit ?_
          refine th_e ?_
          refine th_e ?_
          refine in_hit ?_
          refine in_n ?_
          refine th_n ?_
          have hx2 := ok6_next hm2 hbV ho (by rw [getD_of hut, getD_of hht]; omega) hS
          have hk1 := key_range hm2 hx.v0 hx.v1
          have hk2 := key_range hm2 hx2.v0 hx2.v1
          have hk3 := ho.key_lt
          exact ⟨(U, so2, al2, le2, gr2), hx2, by simp only; omega, weak_to (.cons rfl (rc_same rfl (.inl rfl)) (.cons rfl (rc_same rfl (.inl rfl)) (.cons rfl (rc_same rfl (.inl rfl)) (.cons rfl (rc_same rfl (.inl rfl)) (.cons rfl (rc_same rfl (.inl rfl)) (.cons rfl (rc_same rfl (.inl rfl)) (.cons rfl (rc_same rfl (.inl rfl)) (.cons rfl (rc_same rfl (.inl rfl)) (.cons rfl (rc_same rfl (.inl rfl)) (.cons rfl (rc_same rfl (.inl rfl)) (.nil))))))))))) (.keep (rfl) rfl (.keep (rfl) rfl (.keep (rfl) rfl (.keep (rfl) rfl (.nil))))) (fun i h => by cases h)⟩
    · first | replace h70 := of_decide_eq_false h70 | skip
      refine aw_exit ?_
      refine th_e ?_
      refine th_e ?_
      refine in_hit ?_
      refine th_n ?_
      refine aw_seq ?_
      obtain ⟨A, B, Ls, E, c21, c24, hF, hT⟩ := tight_calls' hm2 hx (by rw [getD_of hv0, getD_of hh0]; omega)
      refine aw_reg ?_
      refine rs_mv rfl rfl ?_
      refine rs_mv rfl rfl ?_
      refine rs_mv rfl rfl ?_
      refine rs_mv rfl rfl ?_
      refine rs_calln [] rfl rfl (c21) (.cons (hv_same rfl) (.cons (hv_same rfl) (.cons (hv_same rfl) (.cons (hv_same rfl) (.nil))))) rfl ?_
      refine rs_mv rfl rfl ?_
      refine rs_ext rfl rfl rfl ?_
      refine rs_ext rfl rfl rfl ?_
      refine rs_ext rfl rfl rfl ?_
      refine rs_mv rfl rfl ?_
      refine rs_mv rfl rfl ?_
      refine rs_mv rfl rfl ?_
      refine rs_nil fun _ => ?_
      refine th_n ?_
      refine aw_seq ?_
      refine aw_reg ?_
      refine rs_mv rfl rfl ?_
      refine rs_mv rfl rfl ?_
      refine rs_mv rfl rfl ?_
      refine rs_mv rfl rfl ?_
      refine rs_calln [] rfl rfl (c24) (.cons (hv_same rfl) (.cons (hv_same rfl) (.cons (hv_same rfl) (.cons (hv_same rfl) (.nil))))) rfl ?_
      refine rs_mv rfl rfl ?_
      refine rs_ext rfl rfl rfl ?_
      refine rs_ext rfl rfl rfl ?_
      refine rs_mv rfl rfl ?_
      refine rs_mv rfl rfl ?_
      refine rs_nil fun _ => ?_
      refine th_n ?_
      refine aw_seq ?_
      refine aw_seq ?_
      refine aw_reg ?_
      refine rs_mv rfl rfl ?_
      refine rs_not rfl rfl ?_
      refine rs_nil fun _ => ?_
      refine th_n ?_
      refine aw_cond rfl (fun h209 => ?_) (fun h209 => ?_)
      · first | replace h209 := of_decide_eq_true h209 | skip
        refine aw_seq ?_
        obtain ⟨hE, hA, hB, hLs⟩ := hF (by simpa using h209)
        have hA0 : A.length = 0 := by rw [hA]; rfl
        have hB0 : B.length = 0 := by rw [hB]; rfl
        have hL0 : Ls.length = 0 := by rw [hLs]; rfl
        refine aw_reg ?_
        refine rs_mv rfl rfl ?_
        refine rs_mv rfl rfl ?_
        refine rs_mv rfl rfl ?_
        refine rs_cmp_t rfl rfl rfl rfl hE ?_
        refine rs_pick rfl rfl rfl ?_
        refine rs_mv rfl rfl ?_
        refine rs_mv rfl rfl ?_
        refine rs_cmp_t rfl rfl rfl rfl hE ?_
        refine rs_pick rfl rfl rfl ?_
        refine rs_mv rfl rfl ?_
        refine rs_mv rfl rfl ?_
        first | refine rs_len_m rfl rfl ?_ | refine rs_len_s rfl rfl ?_ | refine rs_len_n rfl rfl ?_ | refine rs_len_r rfl rfl rfl ?_
        refine rs_mv rfl rfl ?_
        first | refine rs_len_m rfl rfl ?_ | refine rs_len_s rfl rfl ?_ | refine rs_len_n rfl rfl ?_ | refine rs_len_r rfl rfl rfl ?_
        first | refine rs_add rfl rfl rfl (by omega) ?_ | refine rs_addw rfl rfl rfl rfl ?_
        refine rs_mv rfl rfl ?_
        first | refine rs_len_m rfl rfl ?_ | refine rs_len_s rfl rfl ?_ | refine rs_len_n rfl rfl ?_ | refine rs_len_r rfl rfl rfl ?_
        first | refine rs_add rfl rfl rfl (by omega) ?_ | refine rs_addw rfl rfl rfl rfl ?_
        refine rs_cmp_t rfl rfl rfl rfl (by omega) ?_
        refine rs_pick rfl rfl rfl ?_
        refine rs_mv rfl rfl ?_
        refine rs_nil fun _ => ?_
        refine th_n ?_
        refine aw_ret ?_
        refine th_r ?_
        exact ret_pure rfl rfl rfl (.inr rfl)
      · first | replace h209 := of_decide_eq_false h209 | skip
        refine aw_skip ?_
        refine th_n ?_
        refine aw_seq ?_
        obtain ⟨hE, hA, hB, hLs⟩ := hT (by simpa using h209)
        have hlel := hx.sum.lle
        have hlgr := hx.sum.lgr
        have hlal := hx.sum.lal
        refine aw_reg ?_
        refine rs_mv rfl rfl ?_
        refine rs_nil fun _ => ?_
        refine th_n ?_
        refine aw_seq ?_
        refine aw_seq ?_
        refine aw_reg ?_
        refine rs_mv rfl rfl ?_
        refine rs_nil fun _ => ?_
        refine th_n ?_
        refine aw_block ?_
        refine aw_fam (α := Nat) (fun k => 8 - k) (fun k => [(3, .bool true), (9, .sl 56 0 n), (10, .sl 59 0 n), (11, .ptr 11 0 0), (20, ints A), (21, ints B), (22, iv E), (23, ints Ls), (24, iv E), (25, .sl 1025 0 (wantS al (k)).length), (230, iv (((k) : Nat) : Int))]) (fun k => [(56, .cells 3 1 ((le).map ci) true), (59, .cells 3 1 ((gr).map ci) true), (11, .cells 47 8 [(al).map AV.bool] true), (1025, .cells 3 1 ((wantS al (k)).map ci) true)]) (fun k => k ≤ 8) 0 (by omega)
          (weak_to (.cons rfl (rc_same rfl (.inl rfl)) (.cons rfl (rc_same rfl (.inl rfl)) (.cons rfl (rc_same rfl (.inl rfl)) (.cons rfl (rc_same rfl (.inl rfl)) (.cons rfl (rc_same rfl (.inl rfl)) (.cons rfl (rc_same rfl (.inl rfl)) (.cons rfl (rc_same rfl (.inl rfl)) (.cons rfl (rc_same rfl (.inl rfl)) (.cons rfl (rc_same rfl (.inl rfl)) (.cons rfl (rc_virt rfl rfl) (.cons rfl (rc_same rfl (.inl rfl)) (.nil)))))))))))) (.keep (rfl) rfl (.keep (rfl) rfl (.keep (rfl) rfl (.virt rfl (.nil))))) (fun i h => by cases h)) ?_
        intro k hk
        refine aw_seq ?_
        refine aw_reg ?_
        refine rs_lss rfl rfl rfl ?_
        refine rs_nil fun _ => ?_
        refine th_n ?_
        refine aw_seq ?_
        refine aw_cond rfl (fun h231 => ?_) (fun h231 => ?_)
        · first | replace h231 := of_decide_eq_true h231 | skip
          refine aw_skip ?_
          refine th_n ?_
          refine aw_seq ?_
          refine aw_block ?_
          refine aw_seq ?_
          refine aw_reg ?_
          refine rs_mv rfl rfl ?_
          refine rs_mv rfl rfl ?_
          refine rs_nil fun _ => ?_
          refine th_n ?_
          refine aw_seq ?_
          refine aw_reg ?_
          obtain ⟨x, hxk, _⟩ := at_some (L := al) (k := k) (by omega)
          have hwl := wantS_le al k
          refine rs_mv rfl rfl ?_
          refine rs_ixarr_p rfl rfl rfl (by omega) (by omega) ?_
          refine rs_ld_f (k := k) rfl rfl rfl (by simp) hxk ?_
          refine rs_nil fun _ => ?_
          refine th_n ?_
          refine aw_cond rfl (fun h235 => ?_) (fun h235 => ?_)
          · first | replace h235 := of_decide_eq_true h235 | skip
            refine aw_reg ?_
            refine rs_mv rfl rfl ?_
            refine rs_mv rfl rfl ?_
            refine rs_bslice rfl rfl rfl rfl rfl rfl ?_
            refine rs_app_m (y := (k : Int)) rfl rfl rfl rfl rfl rfl rfl rfl (by decide) rfl (by omega) (by omega) rfl ?_
            refine rs_mv rfl rfl ?_
            refine rs_nil fun _ => ?_
            refine in_n ?_
            refine th_n ?_
            refine aw_reg ?_
            first | refine rs_add rfl rfl rfl (by omega) ?_ | refine rs_addw rfl rfl rfl rfl ?_
            refine rs_mv rfl rfl ?_
            refine rs_nil fun _ => ?_
            refine th_n ?_
            refine ⟨k + 1, by omega, by omega, ?_⟩
            first
              | (have hq := wantS_t (hxk.trans (congrArg some h235)); exact weak_to_ren (i := 239) (i' := 1025) (F1 := [(3, .bool true), (9, .sl 56 0 n), (10, .sl 59 0 n), (11, .ptr 11 0 0), (20, ints A), (21, ints B), (22, iv E), (23, ints Ls), (24, iv E), (25, .sl 239 0 (wantS al (k + 1)).length), (230, iv (((k + 1) : Nat) : Int))]) (H1 := [(56, .cells 3 1 ((le).map ci) true), (59, .cells 3 1 ((gr).map ci) true), (11, .cells 47 8 [(al).map AV.bool] true), (239, .cells 3 1 ((wantS al (k + 1)).map ci) true)]) (.cons rfl (rc_same rfl (.inl rfl)) (.cons rfl (rc_same rfl (.inl rfl)) (.cons rfl (rc_same rfl (.inl rfl)) (.cons rfl (rc_same rfl (.inl rfl)) (.cons rfl (rc_same rfl (.inl rfl)) (.cons rfl (rc_same rfl (.inl rfl)) (.cons rfl (rc_same rfl (.inl rfl)) (.cons rfl (rc_same rfl (.inl rfl)) (.cons rfl (rc_same rfl (.inl rfl)) (.cons rfl (rc_eq (by rw [hq]; simp) rfl) (.cons rfl (rc_same rfl (.inl rfl)) (.nil)))))))))))) (.keep (rfl) rfl (.keep (rfl) rfl (.keep (rfl) rfl (.keep ((by (rw [hq]) <;> rfl)) rfl (.nil))))) (fun i h => by cases h) rfl rfl (.cons rfl (.same _) (.cons rfl (.same _) (.cons rfl (.same _) (.cons rfl (.same _) (.cons rfl (.same _) (.cons rfl (.same _) (.cons rfl (.same _) (.cons rfl (.same _) (.cons rfl (.same _) (.cons rfl (.sl _ _) (.cons rfl (.same _) (.nil)))))))))))) (.cons rfl (rc_same rfl (.inl rfl)) (.cons rfl (rc_same rfl (.inl rfl)) (.cons rfl (rc_same rfl (.inl rfl)) (.cons rfl (rc_same rfl (.inl rfl)) (.cons rfl (rc_same rfl (.inl rfl)) (.cons rfl (rc_same rfl (.inl rfl)) (.cons rfl (rc_same rfl (.inl rfl)) (.cons rfl (rc_same rfl (.inl rfl)) (.cons rfl (rc_same rfl (.inl rfl)) (.cons rfl (rc_same rfl (.inl rfl)) (.cons rfl (rc_same rfl (.inl rfl)) (.nil)))))))))))) (.keep (rfl) rfl (.keep (rfl) rfl (.keep (rfl) rfl (.keep (rfl) rfl (.nil))))) (fun i h => by cases h))
              | (have hq := wantS_f (hxk.trans (congrArg some h235)); exact weak_to (.cons rfl (rc_same rfl (.inl rfl)) (.cons rfl (rc_same rfl (.inl rfl)) (.cons rfl (rc_same rfl (.inl rfl)) (.cons rfl (rc_same rfl (.inl rfl)) (.cons rfl (rc_same rfl (.inl rfl)) (.cons rfl (rc_same rfl (.inl rfl)) (.cons rfl (rc_same rfl (.inl rfl)) (.cons rfl (rc_same rfl (.inl rfl)) (.cons rfl (rc_same rfl (.inl rfl)) (.cons rfl (rc_eq (by rw [hq]) rfl) (.cons rfl (rc_same rfl (.inl rfl)) (.nil)))))))))))) (.keep (rfl) rfl (.keep (rfl) rfl (.keep (rfl) rfl (.keep ((by (rw [hq]) <;> rfl)) rfl (.nil))))) (fun i h => by cases h))
          · first | replace h235 := of_decide_eq_false h235 | skip
            refine aw_skip ?_
            refine in_n ?_
            refine th_n ?_
            refine aw_reg ?_
            first | refine rs_add rfl rfl rfl (by omega) ?_ | refine rs_addw rfl rfl rfl rfl ?_
            refine rs_mv rfl rfl ?_
            refine rs_nil fun _ => ?_
            refine th_n ?_
            refine ⟨k + 1, by omega, by omega, ?_⟩
            first
              | (have hq := wantS_t (hxk.trans (congrArg some h235)); exact weak_to_ren (i := 239) (i' := 1025) (F1 := [(3, .bool true), (9, .sl 56 0 n), (10, .sl 59 0 n), (11, .ptr 11 0 0), (20, ints A), (21, ints B), (22, iv E), (23, ints Ls), (24, iv E), (25, .sl 239 0 (wantS al (k + 1)).length), (230, iv (((k + 1) : Nat) : Int))]) (H1 := [(56, .cells 3 1 ((le).map ci) true), (59, .cells 3 1 ((gr).map ci) true), (11, .cells 47 8 [(al).map AV.bool] true), (239, .cells 3 1 ((wantS al (k + 1)).map ci) true)]) (.cons rfl (rc_same rfl (.inl rfl)) (.cons rfl (rc_same rfl (.inl rfl)) (.cons rfl (rc_same rfl (.inl rfl)) (.cons rfl (rc_same rfl (.inl rfl)) (.cons rfl (rc_same rfl (.inl rfl)) (.cons rfl (rc_same rfl (.inl rfl)) (.cons rfl (rc_same rfl (.inl rfl)) (.cons rfl (rc_same rfl (.inl rfl)) (.cons rfl (rc_same rfl (.inl rfl)) (.cons rfl (rc_eq (by rw [hq]; simp) rfl) (.cons rfl (rc_same rfl (.inl rfl)) (.nil)))))))))))) (.keep (rfl) rfl (.keep (rfl) rfl (.keep (rfl) rfl (.keep ((by (rw [hq]) <;> rfl)) rfl (.nil))))) (fun i h => by cases h) rfl rfl (.cons rfl (.same _) (.cons rfl (.same _) (.cons rfl (.same _) (.cons rfl (.same _) (.cons rfl (.same _) (.cons rfl (.same _) (.cons rfl (.same _) (.cons rfl (.same _) (.cons rfl (.same _) (.cons rfl (.sl _ _) (.cons rfl (.same _) (.nil)))))))))))) (.cons rfl (rc_same rfl (.inl rfl)) (.cons rfl (rc_same rfl (.inl rfl)) (.cons rfl (rc_same rfl (.inl rfl)) (.cons rfl (rc_same rfl (.inl rfl)) (.cons rfl (rc_same rfl (.inl rfl)) (.cons rfl (rc_same rfl (.inl rfl)) (.cons rfl (rc_same rfl (.inl rfl)) (.cons rfl (rc_same rfl (.inl rfl)) (.cons rfl (rc_same rfl (.inl rfl)) (.cons rfl (rc_same rfl (.inl rfl)) (.cons rfl (rc_same rfl (.inl rfl)) (.nil)))))))))))) (.keep (rfl) rfl (.keep (rfl) rfl (.keep (rfl) rfl (.keep (rfl) rfl (.nil))))) (fun i h => by cases h))
              | (have hq := wantS_f (hxk.trans (congrArg some h235)); exact weak_to (.cons rfl (rc_same rfl (.inl rfl)) (.cons rfl (rc_same rfl (.inl rfl)) (.cons rfl (rc_same rfl (.inl rfl)) (.cons rfl (rc_same rfl (.inl rfl)) (.cons rfl (rc_same rfl (.inl rfl)) (.cons rfl (rc_same rfl (.inl rfl)) (.cons rfl (rc_same rfl (.inl rfl)) (.cons rfl (rc_same rfl (.inl rfl)) (.cons rfl (rc_same rfl (.inl rfl)) (.cons rfl (rc_eq (by rw [hq]) rfl) (.cons rfl (rc_same rfl (.inl rfl)) (.nil)))))))))))) (.keep (rfl) rfl (.keep (rfl) rfl (.keep (rfl) rfl (.keep ((by (rw [hq]) <;> rfl)) rfl (.nil))))) (fun i h => by cases h))
        · first | replace h231 := of_decide_eq_false h231 | skip
          refine aw_exit ?_
          refine th_e ?_
          refine th_e ?_
          refine in_hit ?_
          refine th_n ?_
          refine aw_seq ?_
          obtain rfl : k = 8 := by omega
          have hw8 := wantS_le al 8
          have c253 : FC Try.prog 23 [ints A, ints le] [] (.bool true) [] false := by rw [hA]; exact fc23_t le (by omega)
          have c258 : FC Try.prog 23 [ints B, ints gr] [] (.bool true) [] false := by rw [hB]; exact fc23_t gr (by omega)
          have c263 : FC Try.prog 23 [ints Ls, ints (wantS al 8)] [] (.bool true) [] false := by rw [hLs]; exact fc23_t (wantS al 8) (by omega)
          refine aw_reg ?_
          refine rs_mv rfl rfl ?_
          refine rs_mv rfl rfl ?_
          refine rs_mv rfl rfl ?_
          refine rs_cmp_t rfl rfl rfl rfl hE ?_
          refine rs_pick rfl rfl rfl ?_
          refine rs_mv rfl rfl ?_
          refine rs_mv rfl rfl ?_
          refine rs_cmp_t rfl rfl rfl rfl hE ?_
          refine rs_pick rfl rfl rfl ?_
          refine rs_mv rfl rfl ?_
          refine rs_mv rfl rfl ?_
          refine rs_mv rfl rfl ?_
          refine rs_calln [56] rfl rfl (c253) (.cons (hv_same rfl) (.cons (hv_slm (by simp) rfl (by omega)) (.nil))) rfl ?_
          refine rs_pick rfl rfl rfl ?_
          refine rs_mv rfl rfl ?_
          refine rs_mv rfl rfl ?_
          refine rs_mv rfl rfl ?_
          refine rs_calln [59] rfl rfl (c258) (.cons (hv_same rfl) (.cons (hv_slm (by simp) rfl (by omega)) (.nil))) rfl ?_
          refine rs_pick rfl rfl rfl ?_
          refine rs_mv rfl rfl ?_
          refine rs_mv rfl rfl ?_
          refine rs_mv rfl rfl ?_
          refine rs_calln [1025] rfl rfl (c263) (.cons (hv_same rfl) (.cons (hv_slm (by simp) rfl (by omega)) (.nil))) rfl ?_
          refine rs_pick rfl rfl rfl ?_
          refine rs_mv rfl rfl ?_
          refine rs_nil fun _ => ?_
          refine th_n ?_
          refine aw_ret ?_
          exact ret_pure rfl rfl rfl (.inr rfl)

end Go.Proofs.Ytadjdnhnbkcakaa

/-! The plain laws of ProbeOrder and ProbeParts. No program in sight, but for the calls' contracts. -/
namespace Go.Proofs.Ytadjdnhnbkcakaa
open Go.RowKit

abbrev fc21T (l : List Rd) (lo hi : List Int) (m : Int) (A B : List Int) (E : Int) : Prop := FC Try.prog 21 [.rs 4 (l.map cR), ints lo, ints hi, .int .i64 m] [] (.tup [ints A, ints B, iv E]) [] false
abbrev fc24T (l : List Rd) (lo hi : List Int) (m : Int) (L : List Int) (E : Int) : Prop := FC Try.prog 24 [.rs 4 (l.map cR), ints lo, ints hi, .int .i64 m] [] (.tup [ints L, iv E]) [] false

theorem expl_mem {l l' : List Rd} (h : ∀ r, r ∈ l ↔ r ∈ l') (v : Nat → Int) (s : Nat) : Expl l v s ↔ Expl l' v s := ⟨fun a r hr => a r ((h r).2 hr), fun a r hr => a r ((h r).1 hr)⟩
theorem ags_expl {l l' : List Rd} {lo hi : List Int} {lies : Int} (h : ∀ v s, Expl l v s ↔ Expl l' v s) (s : Nat) (v : Nat → Int) : AgS l lo hi lies s v ↔ AgS l' lo hi lies s v :=
  ⟨fun a => ⟨a.lt, a.small, a.inb, (h v s).1 a.expl⟩, fun a => ⟨a.lt, a.small, a.inb, (h v s).2 a.expl⟩⟩

/-- The readings there and back. -/
def rd0 : Rd := ⟨0, 0, 0, 0⟩
def backS (R : List Rd) (k : Nat) : List Rd := (List.range k).flatMap fun i => [R.getD (R.length - 1 - i) rd0, R.getD i rd0]
theorem back_succ {R : List Rd} {k : Nat} {x y : Rd} (hx : R[R.length - 1 - k]? = some x) (hy : R[k]? = some y) : backS R (k + 1) = backS R k ++ [x, y] := by
  have h1 : R.getD (R.length - 1 - k) rd0 = x := by simp [List.getD_eq_getElem?_getD, hx]
  have h2 : R.getD k rd0 = y := by simp [List.getD_eq_getElem?_getD, hy]
  simp only [backS, List.range_succ, List.flatMap_append, List.flatMap_cons, List.flatMap_nil, List.append_nil, h1, h2]
theorem back_len (R : List Rd) : ∀ k, (backS R k).length = 2 * k
  | 0 => rfl
  | k + 1 => by
    have e : backS R (k + 1) = backS R k ++ [R.getD (R.length - 1 - k) rd0, R.getD k rd0] := by simp [backS, List.range_succ]
    rw [e, List.length_append, back_len R k]
    simp; omega
theorem back_mem (R : List Rd) (r : Rd) : r ∈ backS R R.length ↔ r ∈ R := by
  have hg : ∀ i, i < R.length → R.getD i rd0 ∈ R := fun i h => by
    rw [List.getD_eq_getElem?_getD, List.getElem?_eq_getElem h]; exact List.getElem_mem h
  unfold backS
  rw [List.mem_flatMap]
  constructor
  · rintro ⟨i, hi, h⟩
    have hi := List.mem_range.1 hi
    simp only [List.mem_cons, List.not_mem_nil, or_false] at h
    rcases h with rfl | rfl
    · exact hg _ (by omega)
    · exact hg _ hi
  · intro h
    obtain ⟨i, hi⟩ := List.getElem?_of_mem h
    have hlt := lt_of_at hi
    exact ⟨i, List.mem_range.2 hlt, by simp [List.getD_eq_getElem?_getD, hi]⟩

section
variable {n : Nat} {R : List Rd} {lo hi : List Int} {m : Int}

theorem ags_inb {l : List Rd} {lies : Int} {s : Nat} {v : Nat → Int} (h : AgS l lo hi lies s v) (hm : MadeOk n R lo hi m) {i : Nat} (hi' : i < n) : lo.getD i 0 ≤ v i ∧ v i ≤ hi.getD i 0 := h.inb i (by rw [hm.llo]; exact hi')
theorem ags_more {l : List Rd} {lies lies' : Int} (h : lies ≤ lies') {s : Nat} {v : Nat → Int} (a : AgS l lo hi lies s v) : AgS l lo hi lies' s v := ⟨a.lt, Int.le_trans a.small h, a.inb, a.expl⟩

/-- What ProbeOrder's calls say. -/
structure OrderOk (n : Nat) (R N : List Rd) (lo hi : List Int) (m : Int) (A B Ls A2 B2 Ls2 A3 B3 : List Int) (E3 : Int) : Prop where
  lA : A.length = n
  lB : B.length = n
  again : fc21T R A B m A B 0
  sure : fc24T R lo hi m Ls 0
  wide : fc21T R lo hi (min (m + 1) 3) A2 B2 0
  fewer : fc24T R lo hi (min (m + 1) 3) Ls2 0
  lA2 : A2.length = n
  lB2 : B2.length = n
  in2 : ∀ (i : Nat) (a b a2 b2 : Int), A[i]? = some a → B[i]? = some b → A2[i]? = some a2 → B2[i]? = some b2 → a2 ≤ a ∧ b ≤ b2
  lL : Ls.length ≤ 8
  lL2 : Ls2.length ≤ 8
  sub : ∀ p, p ∈ Ls2 → p ∈ Ls
  next : fc21T (R ++ N) lo hi m A3 B3 E3
  next_ : E3 = 21 ∨ (E3 = 0 ∧ A3.length = n ∧ B3.length = n ∧ ∀ (i : Nat) (a b a3 b3 : Int), A[i]? = some a → B[i]? = some b → A3[i]? = some a3 → B3[i]? = some b3 → a ≤ a3 ∧ b3 ≤ b)

theorem order_calls (hm : MadeOk n R lo hi m) {N : List Rd} (hN : Lok n N) (hNl : N.length ≤ 20) : ∃ (A B : List Int) (E : Int), fc21T R lo hi m A B E ∧ fc21T (backS R R.length) lo hi m A B E ∧ A.length ≤ 6 ∧ B.length ≤ 6 ∧
    (E = 0 → ∃ Ls A2 B2 Ls2 A3 B3 E3, OrderOk n R N lo hi m A B Ls A2 B2 Ls2 A3 B3 E3) := by
  have hlR := hm.lR
  have hn3 := hm.n3
  have hm0 := hm.m0
  have hm3 := hm.m3
  have hok := made_lok hm
  have c1 : checkS R lo hi m = 0 := made_check hm (by omega) hok hm.m0 hm.m3
  have c2 : checkS (backS R R.length) lo hi m = 0 := made_check hm (by rw [back_len]; omega) (fun r hr => hok r ((back_mem R r).1 hr)) hm.m0 hm.m3
  have c3 : checkS R lo hi (min (m + 1) 3) = 0 := made_check hm (by omega) hok (by omega) (by omega)
  have c4 : checkS (R ++ N) lo hi m = 0 := made_check hm (by simp; omega) (fun r hr => (List.mem_append.1 hr).elim (hok r) (hN r)) hm.m0 hm.m3
  obtain ⟨e1, e2, e3, _, _⟩ := narrow_congr c1 c2 rfl (ags_expl (expl_mem fun r => (back_mem R r).symm))
  have f1 := fz21 R lo hi m
  have f2 := fz21 (backS R R.length) lo hi m
  rw [← e1, ← e2, ← e3] at f2
  refine ⟨_, _, _, f1, f2, (narrow_len _ _ _ _).1, (narrow_len _ _ _ _).2, fun hE => ?_⟩
  rcases narrow_sem c1 with ⟨⟨s, v, hv⟩, a1, a2, all, a3, a4⟩ | ⟨_, a1, _⟩
  · have g3 := fz24 R lo hi m
    rw [a2] at g3
    -- again
    have hAl : (narrowA R lo hi m).length = n := a4.lenA.trans hm.llo
    have hBl : (narrowB R lo hi m).length = n := a4.lenB.trans hm.llo
    have hbd : ∀ i, i < n → lo.getD i 0 ≤ (narrowA R lo hi m).getD i 0 ∧ (narrowA R lo hi m).getD i 0 ≤ (narrowB R lo hi m).getD i 0 ∧ (narrowB R lo hi m).getD i 0 ≤ hi.getD i 0 := fun i hi' => by
      have hi2 : i < lo.length := by rw [hm.llo]; exact hi'
      obtain ⟨s1, v1, h1, h2⟩ := a4.least i hi2
      obtain ⟨s2, v2, h3, h4⟩ := a4.most i hi2
      have q1 := h1.inb i hi2
      have q2 := h3.inb i hi2
      have q3 := a4.le s v hv i hi2
      omega
    have c5 : checkS R (narrowA R lo hi m) (narrowB R lo hi m) m = 0 := by
      refine check_6 (by omega) (by omega) (by omega) (fun j hj h1 h2 => ?_) (fun j hj h1 => ?_)
      · have h3 := hbd j (by omega)
        have h4 := hm.lims j (by omega)
        simp only [List.getD_eq_getElem?_getD, List.getElem?_eq_getElem h1, List.getElem?_eq_getElem h2, Option.getD_some] at h3
        simp only [List.getD_eq_getElem?_getD] at h4
        unfold badL
        omega
      · have := hok R[j] (List.getElem_mem _)
        unfold badR
        rw [hAl]
        omega
    have hag : ∀ s v, AgS R (narrowA R lo hi m) (narrowB R lo hi m) m s v ↔ AgS R lo hi m s v := fun s v =>
      ⟨fun a => ⟨a.lt, a.small, fun i hi' => by
        have h1 := a.inb i (by rw [hAl]; rw [hm.llo] at hi'; exact hi')
        have h2 := hbd i (by rw [hm.llo] at hi'; exact hi')
        omega, a.expl⟩, fun a => ⟨a.lt, a.small, fun i hi' => a4.le s v a i (by rw [hm.llo]; rw [hAl] at hi'; exact hi'), a.expl⟩⟩
    obtain ⟨d1, d2, d3, _, _⟩ := narrow_congr c5 c1 (by rw [hAl, hm.llo]) hag
    have g4 := fz21 R (narrowA R lo hi m) (narrowB R lo hi m) m
    rw [d1, d2, d3, a1] at g4
    -- more lies
    have g5 := fz21 R lo hi (min (m + 1) 3)
    have g6 := fz24 R lo hi (min (m + 1) 3)
    rcases narrow_sem c3 with ⟨_, b1, b2, all', b3, b4⟩ | ⟨hx, _⟩
    · rw [b1] at g5
      rw [b2] at g6
      have g7 := fz21 (R ++ N) lo hi m
      refine ⟨_, _, _, _, _, _, _, hAl, hBl, g4, g3, g5, g6, b4.lenA.trans hm.llo, b4.lenB.trans hm.llo, fun i a b a2' b2' h1 h2 h3 h4 => ?_, by rw [a3]; exact outK_le _ _, by rw [b3]; exact outK_le _ _, fun p hp => ?_, g7, ?_⟩
      · have hi2 : i < lo.length := by have := lt_of_at h1; rw [hm.llo]; omega
        obtain ⟨s1, v1, k1, k2⟩ := a4.least i hi2
        obtain ⟨s2, v2, k3, k4⟩ := a4.most i hi2
        have q1 := b4.le s1 v1 (ags_more (by omega) k1) i hi2
        have q2 := b4.le s2 v2 (ags_more (by omega) k3) i hi2
        rw [getD_of h1] at k2
        rw [getD_of h2] at k4
        rw [getD_of h3, getD_of h4] at q1 q2
        omega
      · rw [b3, mem_outK] at hp
        rw [a3, mem_outK]
        obtain ⟨p0, p8, hp⟩ := hp
        refine ⟨p0, p8, (a4.liars p.toNat (by omega)).2 fun s' v' hv' => (b4.liars p.toNat (by omega)).1 hp s' v' (ags_more (by omega) hv')⟩
      · rcases narrow_sem c4 with ⟨_, n1, _, _, _, n4⟩ | ⟨_, n1, _⟩
        · right
          refine ⟨n1, n4.lenA.trans hm.llo, n4.lenB.trans hm.llo, fun i a b a3' b3' h1 h2 h3 h4 => ?_⟩
          have hi2 : i < lo.length := by have := lt_of_at h1; rw [hm.llo]; omega
          obtain ⟨s1, v1, k1, k2⟩ := n4.least i hi2
          obtain ⟨s2, v2, k3, k4⟩ := n4.most i hi2
          have q1 := a4.le s1 v1 ⟨k1.lt, k1.small, k1.inb, fun r hr => k1.expl r (List.mem_append.2 (.inl hr))⟩ i hi2
          have q2 := a4.le s2 v2 ⟨k3.lt, k3.small, k3.inb, fun r hr => k3.expl r (List.mem_append.2 (.inl hr))⟩ i hi2
          rw [getD_of h3] at k2
          rw [getD_of h4] at k4
          rw [getD_of h1, getD_of h2] at q1 q2
          omega
        · exact .inl n1
    · exact absurd ⟨s, v, ags_more (by omega) hv⟩ hx
  · rw [a1] at hE; cases hE

/-! ### ProbeParts -/

/-- Readings that say the same. -/
structure PartsOk (n : Nat) (R P : List Rd) : Prop where
  len : P.length ≤ 11
  lok : Lok n P
  expl : ∀ v s, Expl R v s ↔ Expl P v s
theorem parts_same (hm : MadeOk n R lo hi m) : PartsOk n R R := ⟨by have := hm.lR; omega, made_lok hm, fun _ _ => Iff.rfl⟩
theorem parts_two (hm : MadeOk n R lo hi m) {i : Nat} {r : Rd} {a b : Int} (hr : R[i]? = some r) (ha : 0 ≤ a) (hb : 0 ≤ b) : PartsOk n R (R.set i ⟨r.probe, r.of_, r.lo, r.hi + a⟩ ++ [⟨r.probe, r.of_, r.lo - b, r.hi⟩]) := by
  have hlR := hm.lR
  have hok := made_lok hm
  have h0 := hok r (mem_of_at hr)
  have hi' := lt_of_at hr
  refine ⟨by simp; omega, fun r' h => ?_, fun v s => ⟨fun h r' hr' => ?_, fun h r' hr' => ?_⟩⟩
  · rcases List.mem_append.1 h with h | h
    · rcases List.mem_or_eq_of_mem_set h with h | rfl
      · exact hok r' h
      · simp only; omega
    · simp only [List.mem_singleton] at h
      subst h
      simp only; omega
  · have hq := h r (mem_of_at hr)
    rcases List.mem_append.1 hr' with h1 | h1
    · rcases List.mem_or_eq_of_mem_set h1 with h1 | rfl
      · exact h r' h1
      · exact hq.imp_right fun e => by simp only; omega
    · simp only [List.mem_singleton] at h1
      subst h1
      exact hq.imp_right fun e => by simp only; omega
  · obtain ⟨j, hj⟩ := List.getElem?_of_mem hr'
    by_cases e : i = j
    · subst e
      rw [hr] at hj
      injection hj with hj
      subst hj
      have h1 := h ⟨r.probe, r.of_, r.lo, r.hi + a⟩ (List.mem_append.2 (.inl (List.mem_of_getElem? (List.getElem?_set_self hi'))))
      have h2 := h ⟨r.probe, r.of_, r.lo - b, r.hi⟩ (List.mem_append.2 (.inr (by simp)))
      simp only at h1 h2
      rcases h1 with h1 | h1
      · exact .inl h1
      · rcases h2 with h2 | h2
        · exact .inl h2
        · exact .inr ⟨h1.1, h2.2⟩
    · exact h r' (List.mem_append.2 (.inl (List.mem_of_getElem? (by rw [List.getElem?_set_ne e]; exact hj))))

theorem parts_calls (hm : MadeOk n R lo hi m) {P : List Rd} (hP : PartsOk n R P) {M : Int} (h0 : 0 ≤ M) (h9 : M < 9) : ∃ (A B Ls : List Int) (E : Int), fc21T R (lo ++ [-5]) (hi ++ [M]) m A B E ∧ fc21T P (lo ++ [-5]) (hi ++ [M]) m A B E ∧ fc24T R (lo ++ [-5]) (hi ++ [M]) m Ls E ∧ fc24T P (lo ++ [-5]) (hi ++ [M]) m Ls E ∧
    A.length ≤ 6 ∧ B.length ≤ 6 ∧ Ls.length ≤ 8 ∧ (E = 21 ∨ (E = 0 ∧ A.length = n + 1 ∧ B.length = n + 1 ∧ A[n]? = some (-5) ∧ B[n]? = some M)) := by
  have hlR := hm.lR
  have hn3 := hm.n3
  have hm0 := hm.m0
  have hm3 := hm.m3
  have hllo := hm.llo
  have hlhi := hm.lhi
  have hl1 : (lo ++ [(-5 : Int)]).length = n + 1 := by simp [hllo]
  have hl2 : (hi ++ [M]).length = n + 1 := by simp [hlhi]
  have chk : ∀ l, l.length ≤ 40 → Lok n l → checkS l (lo ++ [-5]) (hi ++ [M]) m = 0 := fun l hl hlk => by
    refine check_6 (by omega) (by omega) (by omega) (fun j hj h1 h2 => ?_) (fun j hj h1 => ?_)
    · unfold badL
      by_cases e : j < n
      · rw [List.getElem_append_left (by omega), List.getElem_append_left (by omega)]
        have h4 := hm.lims j e
        simp only [List.getD_eq_getElem?_getD, List.getElem?_eq_getElem (show j < lo.length by omega), List.getElem?_eq_getElem (show j < hi.length by omega), Option.getD_some] at h4
        omega
      · have hj' : j = n := by omega
        rw [List.getElem_append_right (by omega), List.getElem_append_right (by omega)]
        simp only [List.getElem_singleton]
        omega
    · have := hlk l[j] (List.getElem_mem _)
      unfold badR
      rw [hl1]
      omega
  have c1 := chk R (by omega) (made_lok hm)
  have c2 := chk P (by have := hP.len; omega) hP.lok
  obtain ⟨e1, e2, e3, e4, e5⟩ := narrow_congr c1 c2 rfl (ags_expl hP.expl)
  have f1 := fz21 R (lo ++ [-5]) (hi ++ [M]) m
  have f2 := fz21 P (lo ++ [-5]) (hi ++ [M]) m
  have f3 := fz24 R (lo ++ [-5]) (hi ++ [M]) m
  have f4 := fz24 P (lo ++ [-5]) (hi ++ [M]) m
  rw [← e1, ← e2, ← e3] at f2
  rw [← e4, ← e5] at f4
  rcases narrow_sem c1 with ⟨⟨s, v, hv⟩, a1, a2, all, a3, a4⟩ | ⟨_, a1, a2, _⟩
  · rw [a1] at f1 f2
    rw [a2] at f3 f4
    have hn1 : n < (lo ++ [(-5 : Int)]).length := by omega
    have gl : (lo ++ [(-5 : Int)]).getD n 0 = -5 := by rw [List.getD_eq_getElem?_getD, List.getElem?_append_right (by omega)]; simp [hllo]
    have gh : (hi ++ [M]).getD n 0 = M := by rw [List.getD_eq_getElem?_getD, List.getElem?_append_right (by omega)]; simp [hlhi]
    -- any value of the last quantity will do
    have any : ∀ x, -5 ≤ x → x ≤ M → AgS R (lo ++ [-5]) (hi ++ [M]) m s (fun i => if i = n then x else v i) := fun x hx1 hx2 => by
      refine ⟨hv.lt, hv.small, fun i hi' => ?_, fun r hr => ?_⟩
      · by_cases e : i = n
        · subst e; rw [gl, gh]; simp; omega
        · simp only [e, if_false]; exact hv.inb i hi'
      · have := made_lok hm r hr
        have hne : ¬ r.of_.toNat = n := by omega
        simp only [hne, if_false]
        exact hv.expl r hr
    have hA : (narrowA R (lo ++ [-5]) (hi ++ [M]) m).getD n 0 = -5 := by
      obtain ⟨s1, v1, h1, h2⟩ := a4.least n hn1
      have q1 := h1.inb n hn1
      have q2 := (a4.le s _ (any (-5) (by omega) (by omega)) n hn1).1
      rw [gl] at q1
      simp only [if_true] at q2
      omega
    have hB : (narrowB R (lo ++ [-5]) (hi ++ [M]) m).getD n 0 = M := by
      obtain ⟨s1, v1, h1, h2⟩ := a4.most n hn1
      have q1 := h1.inb n hn1
      have q2 := (a4.le s _ (any M (by omega) (by omega)) n hn1).2
      rw [gh] at q1
      simp only [if_true] at q2
      omega
    have lA := a4.lenA.trans hl1
    have lB := a4.lenB.trans hl1
    refine ⟨_, _, _, _, f1, f2, f3, f4, (narrow_len _ _ _ _).1, (narrow_len _ _ _ _).2, by rw [a3]; exact outK_le _ _, .inr ⟨rfl, lA, lB, ?_, ?_⟩⟩
    · obtain ⟨a, ha, _⟩ := at_some (L := narrowA R (lo ++ [-5]) (hi ++ [M]) m) (k := n) (by omega)
      rw [getD_of ha] at hA
      rw [ha, hA]
    · obtain ⟨a, ha, _⟩ := at_some (L := narrowB R (lo ++ [-5]) (hi ++ [M]) m) (k := n) (by omega)
      rw [getD_of ha] at hB
      rw [ha, hB]
  · rw [a1] at f1 f2
    rw [a2] at f3 f4
    exact ⟨_, _, _, _, f1, f2, f3, f4, (narrow_len _ _ _ _).1, (narrow_len _ _ _ _).2, liars_len _ _ _ _, .inl rfl⟩
end
end Go.Proofs.Ytadjdnhnbkcakaa

/-! Walks: A22. -/
namespace Go.Proofs.Ytadjdnhnbkcakaa
open Go.RowKit


def mc28 : MC := (.seq (.reg [⟨(some 8), (.mv (.c (.bool false))), none, []⟩] false) (.seq (.seq (.reg [⟨(some 10), (.mv (.t 0)), none, []⟩, ⟨(some 11), (.len (.t 10)), none, [0]⟩, ⟨(some 12), (.mv (.t 2)), none, []⟩, ⟨(some 13), (.len (.t 12)), none, [2]⟩, ⟨(some 14), (.bin .neq (.t 11) (.t 13)), none, [1, 3]⟩, ⟨(some 15), (.mv (.t 14)), none, [4]⟩, ⟨(some 16), (.mv (.t 1)), (some (15, false)), [5]⟩, ⟨(some 17), (.len (.t 16)), (some (15, false)), [6, 5]⟩, ⟨(some 18), (.mv (.t 2)), (some (15, false)), [5]⟩, ⟨(some 19), (.len (.t 18)), (some (15, false)), [8, 5]⟩, ⟨(some 20), (.bin .neq (.t 17) (.t 19)), (some (15, false)), [7, 9, 5]⟩, ⟨(some 21), (.pick (.t 15) (.c (.bool true)) (.t 20)), none, [5, 10]⟩, ⟨(some 22), (.mv (.t 21)), none, [11, 5]⟩, ⟨(some 23), (.mv (.t 3)), (some (22, false)), [12]⟩, ⟨(some 24), (.len (.t 23)), (some (22, false)), [13, 12]⟩, ⟨(some 25), (.mv (.t 2)), (some (22, false)), [12]⟩, ⟨(some 26), (.len (.t 25)), (some (22, false)), [15, 12]⟩, ⟨(some 27), (.bin .neq (.t 24) (.t 26)), (some (22, false)), [14, 16, 12]⟩, ⟨(some 28), (.pick (.t 22) (.c (.bool true)) (.t 27)), none, [12, 17]⟩] false) (.cond (.t 28) (.seq (.reg [⟨(some 8), (.mv (.c (.bool false))), none, []⟩] false) .ret) .skip)) (.seq (.seq (.reg [⟨(some 29), (.mv (.t 0)), none, []⟩, ⟨(some 30), (.len (.t 29)), none, [0]⟩, ⟨(some 31), (.mv (.c (.int .i64 0))), none, []⟩] false) (.block 0 (.loop (.seq (.reg [⟨(some 32), (.bin .lss (.t 31) (.t 30)), none, []⟩] false) (.seq (.cond (.t 32) .skip (.exit 0)) (.seq (.block 1 (.seq (.reg [⟨(some 33), (.mv (.t 31)), none, []⟩, ⟨(some 9), (.mv (.t 33)), none, [0, 0]⟩] false) (.seq (.reg [⟨(some 34), (.mv (.t 0)), none, []⟩, ⟨(some 35), (.mv (.t 9)), none, []⟩, ⟨(some 36), (.ixsl 1 (.t 34) (.t 35)), none, [0, 1]⟩, ⟨(some 37), (.ld false 1 (.t 36)), none, [2]⟩, ⟨(some 38), (.mv (.t 2)), none, []⟩, ⟨(some 39), (.mv (.t 9)), none, []⟩, ⟨(some 40), (.ixsl 1 (.t 38) (.t 39)), none, [4, 5]⟩, ⟨(some 41), (.ld false 1 (.t 40)), none, [6]⟩, ⟨(some 42), (.bin .lss (.t 37) (.t 41)), none, [3, 7]⟩, ⟨(some 43), (.mv (.t 42)), none, [8]⟩, ⟨(some 44), (.mv (.t 1)), (some (43, false)), [9]⟩, ⟨(some 45), (.mv (.t 9)), (some (43, false)), [9]⟩, ⟨(some 46), (.ixsl 1 (.t 44) (.t 45)), (some (43, false)), [10, 11, 9]⟩, ⟨(some 47), (.ld false 1 (.t 46)), (some (43, false)), [12, 9]⟩, ⟨(some 48), (.mv (.t 3)), (some (43, false)), [9]⟩, ⟨(some 49), (.mv (.t 9)), (some (43, false)), [9]⟩, ⟨(some 50), (.ixsl 1 (.t 48) (.t 49)), (some (43, false)), [14, 15, 9]⟩, ⟨(some 51), (.ld false 1 (.t 50)), (some (43, false)), [16, 9]⟩, ⟨(some 52), (.bin .gtr (.t 47) (.t 51)), (some (43, false)), [13, 17, 9]⟩, ⟨(some 53), (.pick (.t 43) (.c (.bool true)) (.t 52)), none, [9, 18]⟩] true) (.cond (.t 53) (.seq (.reg [⟨(some 8), (.mv (.c (.bool false))), none, []⟩] false) .ret) .skip)))) (.reg [⟨(some 54), (.bin .add (.t 31) (.c (.int .i64 1))), none, []⟩, ⟨(some 31), (.mv (.t 54)), none, [0]⟩] false))))))) (.seq (.reg [⟨(some 8), (.mv (.c (.bool true))), none, []⟩] false) .ret))))
theorem mcOk28 : (match Try.f28.body with | some c => compC Try.prog 55 c | none => none) = some mc28 := by kernel_rfl

theorem fc28 (a b lo hi : List Int) (h1 : a.length = lo.length) (h2 : b.length = lo.length) (h3 : hi.length = lo.length) (h6 : lo.length ≤ 6) (hb : ∀ (i : Nat) (x y l u : Int), a[i]? = some x → b[i]? = some y → lo[i]? = some l → hi[i]? = some u → l ≤ x ∧ y ≤ u) : FC Try.prog 28 [ints a, ints b, ints lo, ints hi] [] (.bool true) [] false := by
  refine fc_run (nt := 55) Try.func28 rfl rfl mcOk28 (Nat.le_of_ble_eq_true rfl) ?_
  delta mc28
  refine aw_seq ?_
  refine aw_reg ?_
  refine rs_mv rfl rfl ?_
  refine rs_nil fun _ => ?_
  refine th_n ?_
  refine aw_seq ?_
  refine aw_seq ?_
  refine aw_reg ?_
  refine rs_mv rfl rfl ?_
  first | refine rs_len_m rfl rfl ?_ | refine rs_len_s rfl rfl ?_ | refine rs_len_n rfl rfl ?_ | refine rs_len_r rfl rfl rfl ?_
  refine rs_mv rfl rfl ?_
  first | refine rs_len_m rfl rfl ?_ | refine rs_len_s rfl rfl ?_ | refine rs_len_n rfl rfl ?_ | refine rs_len_r rfl rfl rfl ?_
  refine rs_cmp_f rfl rfl rfl rfl (by omega) ?_
  refine rs_mv rfl rfl ?_
  refine rs_mv rfl rfl ?_
  first | refine rs_len_m rfl rfl ?_ | refine rs_len_s rfl rfl ?_ | refine rs_len_n rfl rfl ?_ | refine rs_len_r rfl rfl rfl ?_
  refine rs_mv rfl rfl ?_
  first | refine rs_len_m rfl rfl ?_ | refine rs_len_s rfl rfl ?_ | refine rs_len_n rfl rfl ?_ | refine rs_len_r rfl rfl rfl ?_
  refine rs_cmp_f rfl rfl rfl rfl (by omega) ?_
  refine rs_pick rfl rfl rfl ?_
  refine rs_mv rfl rfl ?_
  refine rs_mv rfl rfl ?_
  first | refine rs_len_m rfl rfl ?_ | refine rs_len_s rfl rfl ?_ | refine rs_len_n rfl rfl ?_ | refine rs_len_r rfl rfl rfl ?_
  refine rs_mv rfl rfl ?_
  first | refine rs_len_m rfl rfl ?_ | refine rs_len_s rfl rfl ?_ | refine rs_len_n rfl rfl ?_ | refine rs_len_r rfl rfl rfl ?_
  refine rs_cmp_f rfl rfl rfl rfl (by omega) ?_
  refine rs_pick rfl rfl rfl ?_
  refine rs_nil fun _ => ?_
  refine th_n ?_
  refine aw_cond rfl (fun h => by cases h) (fun _ => ?_)
  refine aw_skip ?_
  refine th_n ?_
  refine aw_seq ?_
  refine aw_seq ?_
  refine aw_reg ?_
  refine rs_mv rfl rfl ?_
  first | refine rs_len_m rfl rfl ?_ | refine rs_len_s rfl rfl ?_ | refine rs_len_n rfl rfl ?_ | refine rs_len_r rfl rfl rfl ?_
  refine rs_mv rfl rfl ?_
  refine rs_nil fun _ => ?_
  refine th_n ?_
  refine aw_block ?_
  refine aw_fam (α := Nat) (fun k => a.length - k) (fun k => [(0, ints a), (1, ints b), (2, ints lo), (3, ints hi), (29, ints a), (30, iv (a.length : Int)), (31, iv (((k) : Nat) : Int))]) (fun k => []) (fun k => k ≤ a.length) 0 (by omega)
    (weak_to (.cons rfl (rc_same rfl (.inl rfl)) (.cons rfl (rc_same rfl (.inl rfl)) (.cons rfl (rc_same rfl (.inl rfl)) (.cons rfl (rc_same rfl (.inl rfl)) (.cons rfl (rc_same rfl (.inl rfl)) (.cons rfl (rc_same rfl (.inl rfl)) (.cons rfl (rc_same rfl (.inl rfl)) (.nil)))))))) (.nil) (fun i h => by cases h)) ?_
  intro k hk
  refine aw_seq ?_
  refine aw_reg ?_
  refine rs_lss rfl rfl rfl ?_
  refine rs_nil fun _ => ?_
  refine th_n ?_
  refine aw_seq ?_
  refine aw_cond rfl (fun h32 => ?_) (fun h32 => ?_)
  · first | replace h32 := of_decide_eq_true h32 | skip
    refine aw_skip ?_
    refine th_n ?_
    refine aw_seq ?_
    refine aw_block ?_
    refine aw_seq ?_
    refine aw_reg ?_
    obtain ⟨x, hx, _⟩ := at_some (L := a) (k := k) (by omega)
    obtain ⟨y, hy, _⟩ := at_some (L := b) (k := k) (by omega)
    obtain ⟨l, hl, _⟩ := at_some (L := lo) (k := k) (by omega)
    obtain ⟨u, hu, _⟩ := at_some (L := hi) (k := k) (by omega)
    have hbk := hb k x y l u hx hy hl hu
    refine rs_mv rfl rfl ?_
    refine rs_mv rfl rfl ?_
    refine rs_nil fun _ => ?_
    refine th_n ?_
    refine aw_seq ?_
    refine aw_draw hmix ?_
    refine rs_mv rfl rfl ?_
    refine rs_mv rfl rfl ?_
    refine rs_ix_g rfl rfl rfl (by omega) hx ?_
    refine rs_ld_r rfl rfl rfl ?_
    refine rs_mv rfl rfl ?_
    refine rs_mv rfl rfl ?_
    refine rs_ix_g rfl rfl rfl (by omega) hl ?_
    refine rs_ld_r rfl rfl rfl ?_
    refine rs_cmp_f rfl rfl rfl rfl (by omega) ?_
    refine rs_mv rfl rfl ?_
    refine rs_mv rfl rfl ?_
    refine rs_mv rfl rfl ?_
    refine rs_ix_g rfl rfl rfl (by omega) hy ?_
    refine rs_ld_r rfl rfl rfl ?_
    refine rs_mv rfl rfl ?_
    refine rs_mv rfl rfl ?_
    refine rs_ix_g rfl rfl rfl (by omega) hu ?_
    refine rs_ld_r rfl rfl rfl ?_
    refine rs_cmp_f rfl rfl rfl rfl (by omega) ?_
    refine rs_pick rfl rfl rfl ?_
    refine rs_nil ⟨by kernel_rfl, fun _ => ?_⟩
    refine th_n ?_
    refine aw_cond rfl (fun h => by cases h) (fun _ => ?_)
    refine aw_skip ?_
    refine in_n ?_
    refine th_n ?_
    refine aw_reg ?_
    first | refine rs_add rfl rfl rfl (by omega) ?_ | refine rs_addw rfl rfl rfl rfl ?_
    refine rs_mv rfl rfl ?_
    refine rs_nil fun _ => ?_
    refine th_n ?_
    exact ⟨k + 1, by omega, by omega, weak_to (.cons rfl (rc_same rfl (.inl rfl)) (.cons rfl (rc_same rfl (.inl rfl)) (.cons rfl (rc_same rfl (.inl rfl)) (.cons rfl (rc_same rfl (.inl rfl)) (.cons rfl (rc_same rfl (.inl rfl)) (.cons rfl (rc_same rfl (.inl rfl)) (.cons rfl (rc_same rfl (.inl rfl)) (.nil)))))))) (.nil) (fun i h => by cases h)⟩
  · first | replace h32 := of_decide_eq_false h32 | skip
    refine aw_exit ?_
    refine th_e ?_
    refine th_e ?_
    refine in_hit ?_
    refine th_n ?_
    refine aw_seq ?_
    refine aw_reg ?_
    refine rs_mv rfl rfl ?_
    refine rs_nil fun _ => ?_
    refine th_n ?_
    refine aw_ret ?_
    exact ret_pure rfl rfl rfl (.inr rfl)

def mc7 : MC := (.seq (.reg [⟨(some 2), (.box 25 3 (.t 0)), none, []⟩, ⟨(some 4), (.mv (.c (.bool false))), none, []⟩] false) (.seq (.reg [⟨(some 37), (.call 15 []), none, []⟩, ⟨(some 5), (.mv (.t 37)), none, [0, 0, 0]⟩] false) (.seq (.reg [⟨(some 39), (.ld true 3 (.t 2)), none, []⟩, ⟨(some 40), (.call 16 [(.t 39)]), none, [0]⟩, ⟨(some 38), (.mv (.t 40)), none, [1]⟩, ⟨(some 41), (.ext (.t 38) 0), none, [2]⟩, ⟨(some 42), (.ext (.t 38) 1), none, [2]⟩, ⟨(some 43), (.ext (.t 38) 2), none, [2]⟩, ⟨(some 44), (.ext (.t 38) 3), none, [2]⟩, ⟨(some 6), (.mv (.t 41)), none, [3, 1, 0, 1, 2, 3]⟩, ⟨(some 7), (.mv (.t 42)), none, [4, 7, 0, 1, 2, 3, 4, 7]⟩, ⟨(some 8), (.mv (.t 43)), none, [5, 8, 0, 1, 2, 3, 4, 5, 7, 8]⟩, ⟨(some 9), (.mv (.t 44)), none, [6, 9, 0, 1, 2, 3, 4, 5, 6, 7, 8, 9]⟩] false) (.seq (.reg [⟨(some 10), (.mv (.c .nils)), none, []⟩] false) (.seq (.seq (.reg [⟨(some 45), (.mv (.t 6)), none, []⟩, ⟨(some 46), (.len (.t 45)), none, [0]⟩, ⟨(some 47), (.mv (.c (.int .i64 0))), none, []⟩] false) (.block 0 (.loop (.seq (.reg [⟨(some 48), (.bin .lss (.t 47) (.t 46)), none, []⟩] false) (.seq (.cond (.t 48) .skip (.exit 0)) (.seq (.block 1 (.seq (.reg [⟨(some 49), (.mv (.t 47)), none, []⟩, ⟨(some 11), (.mv (.t 49)), none, [0, 0]⟩] false) (.reg [⟨(some 50), (.mv (.t 10)), none, []⟩, ⟨(some 51), (.mv (.t 6)), none, []⟩, ⟨(some 52), (.mv (.t 6)), none, []⟩, ⟨(some 53), (.len (.t 52)), none, [2]⟩, ⟨(some 54), (.bin .sub (.t 53) (.c (.int .i64 1))), none, [3]⟩, ⟨(some 55), (.mv (.t 11)), none, []⟩, ⟨(some 56), (.bin .sub (.t 54) (.t 55)), none, [4, 5]⟩, ⟨(some 57), (.ixsl 4 (.t 51) (.t 56)), none, [1, 6]⟩, ⟨(some 58), (.ld true 4 (.t 57)), none, [7]⟩, ⟨(some 59), (.mv (.t 6)), none, []⟩, ⟨(some 60), (.mv (.t 11)), none, []⟩, ⟨(some 61), (.ixsl 4 (.t 59) (.t 60)), none, [9, 10]⟩, ⟨(some 62), (.ld true 4 (.t 61)), none, [11]⟩, ⟨(some 63), (.bslice 50 4 [(.int .i64 0), (.int .i64 0), (.int .i64 0), (.int .i64 0)] 2 [(0, (.t 58)), (1, (.t 62))]), none, [8, 12]⟩, ⟨(some 64), (.app 50 4 32 [(.int .i64 0), (.int .i64 0), (.int .i64 0), (.int .i64 0)] (.t 50) (.t 63)), none, [0, 13]⟩, ⟨(some 10), (.mv (.t 64)), none, [14, 14, 0, 1, 2, 3, 4, 5, 6, 7, 8, 9, 10, 11, 12, 13, 14]⟩] true))) (.reg [⟨(some 65), (.bin .add (.t 47) (.c (.int .i64 1))), none, []⟩, ⟨(some 47), (.mv (.t 65)), none, [0]⟩] false))))))) (.seq (.reg [⟨(some 67), (.mv (.t 6)), none, []⟩, ⟨(some 68), (.mv (.t 7)), none, []⟩, ⟨(some 69), (.mv (.t 8)), none, []⟩, ⟨(some 70), (.mv (.t 9)), none, []⟩, ⟨(some 71), (.call 21 [(.t 67), (.t 68), (.t 69), (.t 70)]), none, [0, 1, 2, 3]⟩, ⟨(some 66), (.mv (.t 71)), none, [4]⟩, ⟨(some 72), (.ext (.t 66) 0), none, [5]⟩, ⟨(some 73), (.ext (.t 66) 1), none, [5]⟩, ⟨(some 74), (.ext (.t 66) 2), none, [5]⟩, ⟨(some 12), (.mv (.t 72)), none, [6, 4, 0, 1, 2, 3, 4, 5, 6]⟩, ⟨(some 13), (.mv (.t 73)), none, [7, 9, 0, 1, 2, 3, 4, 5, 6, 7, 9]⟩, ⟨(some 14), (.mv (.t 74)), none, [8, 10, 0, 1, 2, 3, 4, 5, 6, 7, 8, 9, 10]⟩] false) (.seq (.reg [⟨(some 76), (.mv (.t 10)), none, []⟩, ⟨(some 77), (.mv (.t 7)), none, []⟩, ⟨(some 78), (.mv (.t 8)), none, []⟩, ⟨(some 79), (.mv (.t 9)), none, []⟩, ⟨(some 80), (.call 21 [(.t 76), (.t 77), (.t 78), (.t 79)]), none, [0, 1, 2, 3]⟩, ⟨(some 75), (.mv (.t 80)), none, [4]⟩, ⟨(some 81), (.ext (.t 75) 0), none, [5]⟩, ⟨(some 82), (.ext (.t 75) 1), none, [5]⟩, ⟨(some 83), (.ext (.t 75) 2), none, [5]⟩, ⟨(some 15), (.mv (.t 81)), none, [6, 4, 0, 1, 2, 3, 4, 5, 6]⟩, ⟨(some 16), (.mv (.t 82)), none, [7, 9, 0, 1, 2, 3, 4, 5, 6, 7, 9]⟩, ⟨(some 17), (.mv (.t 83)), none, [8, 10, 0, 1, 2, 3, 4, 5, 6, 7, 8, 9, 10]⟩] false) (.seq (.seq (.reg [⟨(some 84), (.mv (.t 14)), none, []⟩, ⟨(some 85), (.mv (.t 17)), none, []⟩, ⟨(some 86), (.bin .neq (.t 84) (.t 85)), none, [0, 1]⟩, ⟨(some 87), (.mv (.t 86)), none, [2]⟩, ⟨(some 88), (.mv (.t 12)), (some (87, false)), [3]⟩, ⟨(some 89), (.mv (.t 15)), (some (87, false)), [3]⟩, ⟨(some 90), (.call 23 [(.t 88), (.t 89)]), (some (87, false)), [4, 5, 3, 3]⟩, ⟨(some 91), (.un .not (.t 90)), (some (87, false)), [6, 3]⟩, ⟨(some 92), (.pick (.t 87) (.c (.bool true)) (.t 91)), none, [3, 7]⟩, ⟨(some 93), (.mv (.t 92)), none, [8, 6]⟩, ⟨(some 94), (.mv (.t 13)), (some (93, false)), [9]⟩, ⟨(some 95), (.mv (.t 16)), (some (93, false)), [9]⟩, ⟨(some 96), (.call 23 [(.t 94), (.t 95)]), (some (93, false)), [10, 11, 9, 9]⟩, ⟨(some 97), (.un .not (.t 96)), (some (93, false)), [12, 9]⟩, ⟨(some 98), (.pick (.t 93) (.c (.bool true)) (.t 97)), none, [9, 13]⟩] false) (.cond (.t 98) (.seq (.reg [⟨(some 4), (.mv (.c (.bool false))), none, []⟩] false) .ret) .skip)) (.seq (.seq (.reg [⟨(some 99), (.mv (.t 14)), none, []⟩, ⟨(some 100), (.bin .neq (.t 99) (.c (.int .i64 0))), none, [0]⟩] false) (.cond (.t 100) (.seq (.reg [⟨(some 101), (.mv (.t 5)), none, []⟩, ⟨(some 4), (.mv (.t 101)), none, [0, 0]⟩] false) .ret) .skip)) (.seq (.reg [⟨(some 103), (.mv (.t 6)), none, []⟩, ⟨(some 104), (.mv (.t 12)), none, []⟩, ⟨(some 105), (.mv (.t 13)), none, []⟩, ⟨(some 106), (.mv (.t 9)), none, []⟩, ⟨(some 107), (.call 21 [(.t 103), (.t 104), (.t 105), (.t 106)]), none, [0, 1, 2, 3]⟩, ⟨(some 102), (.mv (.t 107)), none, [4]⟩, ⟨(some 108), (.ext (.t 102) 0), none, [5]⟩, ⟨(some 109), (.ext (.t 102) 1), none, [5]⟩, ⟨(some 110), (.ext (.t 102) 2), none, [5]⟩, ⟨(some 18), (.mv (.t 108)), none, [6, 4, 0, 1, 2, 3, 4, 5, 6]⟩, ⟨(some 19), (.mv (.t 109)), none, [7, 9, 0, 1, 2, 3, 4, 5, 6, 7, 9]⟩, ⟨(some 20), (.mv (.t 110)), none, [8, 10, 0, 1, 2, 3, 4, 5, 6, 7, 8, 9, 10]⟩] false) (.seq (.seq (.reg [⟨(some 111), (.mv (.t 20)), none, []⟩, ⟨(some 112), (.bin .neq (.t 111) (.c (.int .i64 0))), none, [0]⟩, ⟨(some 113), (.mv (.t 112)), none, [1]⟩, ⟨(some 114), (.mv (.t 18)), (some (113, false)), [2]⟩, ⟨(some 115), (.mv (.t 12)), (some (113, false)), [2]⟩, ⟨(some 116), (.call 23 [(.t 114), (.t 115)]), (some (113, false)), [3, 4, 2, 2]⟩, ⟨(some 117), (.un .not (.t 116)), (some (113, false)), [5, 2]⟩, ⟨(some 118), (.pick (.t 113) (.c (.bool true)) (.t 117)), none, [2, 6]⟩, ⟨(some 119), (.mv (.t 118)), none, [7, 5]⟩, ⟨(some 120), (.mv (.t 19)), (some (119, false)), [8]⟩, ⟨(some 121), (.mv (.t 13)), (some (119, false)), [8]⟩, ⟨(some 122), (.call 23 [(.t 120), (.t 121)]), (some (119, false)), [9, 10, 8, 8]⟩, ⟨(some 123), (.un .not (.t 122)), (some (119, false)), [11, 8]⟩, ⟨(some 124), (.pick (.t 119) (.c (.bool true)) (.t 123)), none, [8, 12]⟩] false) (.cond (.t 124) (.seq (.reg [⟨(some 4), (.mv (.c (.bool false))), none, []⟩] false) .ret) .skip)) (.seq (.reg [⟨(some 126), (.mv (.t 6)), none, []⟩, ⟨(some 127), (.mv (.t 7)), none, []⟩, ⟨(some 128), (.mv (.t 8)), none, []⟩, ⟨(some 129), (.mv (.t 9)), none, []⟩, ⟨(some 130), (.call 24 [(.t 126), (.t 127), (.t 128), (.t 129)]), none, [0, 1, 2, 3]⟩, ⟨(some 125), (.mv (.t 130)), none, [4]⟩, ⟨(some 131), (.ext (.t 125) 0), none, [5]⟩, ⟨(some 132), (.ext (.t 125) 1), none, [5]⟩, ⟨(some 21), (.mv (.t 131)), none, [6, 4, 0, 1, 2, 3, 4, 5, 6]⟩, ⟨(some 22), (.mv (.t 132)), none, [7, 8, 0, 1, 2, 3, 4, 5, 6, 7, 8]⟩] false) (.seq (.reg [⟨(some 134), (.mv (.t 6)), none, []⟩, ⟨(some 135), (.mv (.t 7)), none, []⟩, ⟨(some 136), (.mv (.t 8)), none, []⟩, ⟨(some 137), (.mv (.t 9)), none, []⟩, ⟨(some 138), (.bin .add (.t 137) (.c (.int .i64 1))), none, [3]⟩, ⟨(some 139), (.mn (.t 138) (.c (.int .i64 3))), none, [4]⟩, ⟨(some 140), (.call 21 [(.t 134), (.t 135), (.t 136), (.t 139)]), none, [0, 1, 2, 5]⟩, ⟨(some 133), (.mv (.t 140)), none, [6]⟩, ⟨(some 141), (.ext (.t 133) 0), none, [7]⟩, ⟨(some 142), (.ext (.t 133) 1), none, [7]⟩, ⟨(some 143), (.ext (.t 133) 2), none, [7]⟩, ⟨(some 23), (.mv (.t 141)), none, [8, 6, 0, 1, 2, 3, 4, 5, 6, 7, 8]⟩, ⟨(some 24), (.mv (.t 142)), none, [9, 11, 0, 1, 2, 3, 4, 5, 6, 7, 8, 9, 11]⟩, ⟨(some 25), (.mv (.t 143)), none, [10, 12, 0, 1, 2, 3, 4, 5, 6, 7, 8, 9, 10, 11, 12]⟩] false) (.seq (.reg [⟨(some 145), (.mv (.t 6)), none, []⟩, ⟨(some 146), (.mv (.t 7)), none, []⟩, ⟨(some 147), (.mv (.t 8)), none, []⟩, ⟨(some 148), (.mv (.t 9)), none, []⟩, ⟨(some 149), (.bin .add (.t 148) (.c (.int .i64 1))), none, [3]⟩, ⟨(some 150), (.mn (.t 149) (.c (.int .i64 3))), none, [4]⟩, ⟨(some 151), (.call 24 [(.t 145), (.t 146), (.t 147), (.t 150)]), none, [0, 1, 2, 5]⟩, ⟨(some 144), (.mv (.t 151)), none, [6]⟩, ⟨(some 152), (.ext (.t 144) 0), none, [7]⟩, ⟨(some 153), (.ext (.t 144) 1), none, [7]⟩, ⟨(some 26), (.mv (.t 152)), none, [8, 6, 0, 1, 2, 3, 4, 5, 6, 7, 8]⟩, ⟨(some 27), (.mv (.t 153)), none, [9, 10, 0, 1, 2, 3, 4, 5, 6, 7, 8, 9, 10]⟩] false) (.seq (.seq (.reg [⟨(some 154), (.mv (.t 25)), none, []⟩, ⟨(some 155), (.bin .neq (.t 154) (.c (.int .i64 0))), none, [0]⟩, ⟨(some 156), (.mv (.t 155)), none, [1]⟩, ⟨(some 157), (.mv (.t 27)), (some (156, false)), [2]⟩, ⟨(some 158), (.bin .neq (.t 157) (.c (.int .i64 0))), (some (156, false)), [3, 2]⟩, ⟨(some 159), (.pick (.t 156) (.c (.bool true)) (.t 158)), none, [2, 4]⟩, ⟨(some 160), (.mv (.t 159)), none, [5, 2]⟩, ⟨(some 161), (.mv (.t 12)), (some (160, false)), [6]⟩, ⟨(some 162), (.mv (.t 13)), (some (160, false)), [6]⟩, ⟨(some 163), (.mv (.t 23)), (some (160, false)), [6]⟩, ⟨(some 164), (.mv (.t 24)), (some (160, false)), [6]⟩, ⟨(some 165), (.call 28 [(.t 161), (.t 162), (.t 163), (.t 164)]), (some (160, false)), [7, 8, 9, 10, 6, 6]⟩, ⟨(some 166), (.un .not (.t 165)), (some (160, false)), [11, 6]⟩, ⟨(some 167), (.pick (.t 160) (.c (.bool true)) (.t 166)), none, [6, 12]⟩] false) (.cond (.t 167) (.seq (.reg [⟨(some 4), (.mv (.c (.bool false))), none, []⟩] false) .ret) .skip)) (.seq (.seq (.reg [⟨(some 168), (.mv (.t 26)), none, []⟩, ⟨(some 169), (.len (.t 168)), none, [0]⟩, ⟨(some 170), (.mv (.c (.int .i64 0))), none, []⟩] false) (.block 2 (.loop (.seq (.reg [⟨(some 171), (.bin .lss (.t 170) (.t 169)), none, []⟩] false) (.seq (.cond (.t 171) .skip (.exit 2)) (.seq (.block 3 (.seq (.reg [⟨(some 172), (.ixsl 1 (.t 168) (.t 170)), none, []⟩, ⟨(some 173), (.ld false 1 (.t 172)), none, [0]⟩, ⟨(some 29), (.mv (.t 173)), none, [1, 0, 1]⟩] false) (.seq (.reg [⟨(some 30), (.mv (.c (.bool false))), none, []⟩] false) (.seq (.seq (.reg [⟨(some 174), (.mv (.t 21)), none, []⟩, ⟨(some 175), (.len (.t 174)), none, [0]⟩, ⟨(some 176), (.mv (.c (.int .i64 0))), none, []⟩] false) (.block 4 (.loop (.seq (.reg [⟨(some 177), (.bin .lss (.t 176) (.t 175)), none, []⟩] false) (.seq (.cond (.t 177) .skip (.exit 4)) (.seq (.block 5 (.seq (.reg [⟨(some 178), (.ixsl 1 (.t 174) (.t 176)), none, []⟩, ⟨(some 179), (.ld false 1 (.t 178)), none, [0]⟩, ⟨(some 32), (.mv (.t 179)), none, [1, 0, 1]⟩] false) (.reg [⟨(some 180), (.mv (.t 30)), none, []⟩, ⟨(some 181), (.mv (.t 180)), none, [0]⟩, ⟨(some 182), (.mv (.t 32)), (some (181, false)), [1]⟩, ⟨(some 183), (.mv (.t 29)), (some (181, false)), [1]⟩, ⟨(some 184), (.bin .eql (.t 182) (.t 183)), (some (181, false)), [2, 3, 1]⟩, ⟨(some 185), (.pick (.t 181) (.c (.bool true)) (.t 184)), none, [1, 4]⟩, ⟨(some 30), (.mv (.t 185)), none, [5, 1, 0, 1, 2, 3, 4, 5]⟩] false))) (.reg [⟨(some 186), (.bin .add (.t 176) (.c (.int .i64 1))), none, []⟩, ⟨(some 176), (.mv (.t 186)), none, [0]⟩] false))))))) (.seq (.reg [⟨(some 187), (.mv (.t 30)), none, []⟩, ⟨(some 188), (.un .not (.t 187)), none, [0]⟩] false) (.cond (.t 188) (.seq (.reg [⟨(some 4), (.mv (.c (.bool false))), none, []⟩] false) .ret) .skip)))))) (.reg [⟨(some 189), (.bin .add (.t 170) (.c (.int .i64 1))), none, []⟩, ⟨(some 170), (.mv (.t 189)), none, [0]⟩] false))))))) (.seq (.reg [⟨(some 190), (.bslice 50 4 [(.int .i64 0), (.int .i64 0), (.int .i64 0), (.int .i64 0)] 0 []), none, []⟩, ⟨(some 191), (.mv (.t 6)), none, []⟩, ⟨(some 192), (.app 50 4 32 [(.int .i64 0), (.int .i64 0), (.int .i64 0), (.int .i64 0)] (.t 190) (.t 191)), none, [0, 1]⟩, ⟨(some 193), (.mv (.t 1)), none, []⟩, ⟨(some 194), (.bslice 28 1 [.nils] 1 [(0, (.t 193))]), none, [3]⟩, ⟨(some 195), (.mv (.t 7)), none, []⟩, ⟨(some 196), (.len (.t 195)), none, [5]⟩, ⟨(some 197), (.call 29 [(.t 194), (.t 196)]), none, [4, 6, 2]⟩, ⟨(some 198), (.app 50 4 32 [(.int .i64 0), (.int .i64 0), (.int .i64 0), (.int .i64 0)] (.t 192) (.t 197)), none, [2, 7, 7]⟩, ⟨(some 33), (.mv (.t 198)), none, [8, 8, 0, 1, 2, 3, 4, 5, 6, 7, 8]⟩] false) (.seq (.reg [⟨(some 200), (.mv (.t 33)), none, []⟩, ⟨(some 201), (.mv (.t 7)), none, []⟩, ⟨(some 202), (.mv (.t 8)), none, []⟩, ⟨(some 203), (.mv (.t 9)), none, []⟩, ⟨(some 204), (.call 21 [(.t 200), (.t 201), (.t 202), (.t 203)]), none, [0, 1, 2, 3]⟩, ⟨(some 199), (.mv (.t 204)), none, [4]⟩, ⟨(some 205), (.ext (.t 199) 0), none, [5]⟩, ⟨(some 206), (.ext (.t 199) 1), none, [5]⟩, ⟨(some 207), (.ext (.t 199) 2), none, [5]⟩, ⟨(some 34), (.mv (.t 205)), none, [6, 4, 0, 1, 2, 3, 4, 5, 6]⟩, ⟨(some 35), (.mv (.t 206)), none, [7, 9, 0, 1, 2, 3, 4, 5, 6, 7, 9]⟩, ⟨(some 36), (.mv (.t 207)), none, [8, 10, 0, 1, 2, 3, 4, 5, 6, 7, 8, 9, 10]⟩] false) (.seq (.reg [⟨(some 208), (.mv (.t 5)), none, []⟩, ⟨(some 209), (.mv (.t 208)), none, [0]⟩, ⟨(some 210), (.mv (.t 36)), (some (209, true)), [1]⟩, ⟨(some 211), (.bin .eql (.t 210) (.c (.int .i64 21))), (some (209, true)), [2, 1]⟩, ⟨(some 212), (.mv (.t 211)), (some (209, true)), [3, 1, 1]⟩, ⟨(some 213), (.mv (.t 36)), (some (212, false)), [4]⟩, ⟨(some 214), (.bin .eql (.t 213) (.c (.int .i64 0))), (some (212, false)), [5, 4]⟩, ⟨(some 215), (.mv (.t 214)), (some (212, false)), [6, 4, 4]⟩, ⟨(some 216), (.mv (.t 34)), (some (215, true)), [7]⟩, ⟨(some 217), (.mv (.t 35)), (some (215, true)), [7]⟩, ⟨(some 218), (.mv (.t 12)), (some (215, true)), [7]⟩, ⟨(some 219), (.mv (.t 13)), (some (215, true)), [7]⟩, ⟨(some 220), (.call 28 [(.t 216), (.t 217), (.t 218), (.t 219)]), (some (215, true)), [8, 9, 10, 11, 7, 7]⟩, ⟨(some 221), (.pick (.t 215) (.t 220) (.c (.bool false))), (some (212, false)), [7, 12, 4]⟩, ⟨(some 222), (.pick (.t 212) (.c (.bool true)) (.t 221)), (some (209, true)), [4, 13, 1]⟩, ⟨(some 223), (.pick (.t 209) (.t 222) (.c (.bool false))), none, [1, 14]⟩, ⟨(some 4), (.mv (.t 223)), none, [15, 12, 0, 1, 2, 3, 4, 5, 6, 7, 8, 9, 10, 11, 12, 13, 14, 15]⟩] false) .ret)))))))))))))))))))
theorem mcOk7 : (match Try.f7.body with | some c => compC Try.prog 224 c | none => none) = some mc7 := by kernel_rfl

theorem fc7 (ls : List (List Int)) (lims : List Int) (lies8 : Int) (more : List Int) (hmore : more.length ≤ 4611686018427387904) (hls : ∀ L ∈ ls, L.length ≤ 4611686018427387904) (hlims : ∀ x ∈ lims, 0 ≤ x ∧ x < 256) (hlies : 0 ≤ lies8 ∧ lies8 < 256) : FC Try.prog 7 [.agg [.rs 1 (ls.map cL), .rs 1 (lims.map cu8), .int .u8 lies8], ints more] [] (.bool true) [] false := by
  obtain ⟨n, R, lo, hi, m, hm, hmade⟩ := made_o ls lims lies8 hls hlims hlies
  have hn1 := hm.n1
  have hn3 := hm.n3
  have hllo := hm.llo
  have hlhi := hm.lhi
  have hm0 := hm.m0
  have hm3 := hm.m3
  have hlR := hm.lR
  refine fc_run (nt := 224) Try.func7 rfl rfl mcOk7 (Nat.le_of_ble_eq_true rfl) ?_
  delta mc7
  refine aw_seq ?_
  refine aw_reg ?_
  refine rs_box rfl rfl rfl rfl rfl rfl ?_
  refine rs_mv rfl rfl ?_
  refine rs_nil fun _ => ?_
  refine th_n ?_
  refine aw_seq ?_
  refine aw_reg ?_
  refine rs_calln [] rfl rfl fc15 .nil rfl ?_
  refine rs_mv rfl rfl ?_
  refine rs_nil fun _ => ?_
  refine th_n ?_
  refine aw_seq ?_
  refine aw_reg ?_
  first | refine rs_ld_pa rfl rfl rfl rfl (Nat.le_of_ble_eq_true rfl) rfl ?_ | refine rs_ld_ra rfl rfl (Nat.le_of_ble_eq_true rfl) rfl ?_ | refine rs_ld_ma rfl rfl rfl (by omega) (Nat.le_of_ble_eq_true rfl) rfl ?_
  refine rs_callo [] rfl rfl hmade (.cons (hv_same rfl) .nil) .nil rfl rfl rfl ?_
  refine rs_mv rfl rfl ?_
  refine rs_ext rfl rfl rfl ?_
  refine rs_ext rfl rfl rfl ?_
  refine rs_ext rfl rfl rfl ?_
  refine rs_ext rfl rfl rfl ?_
  refine rs_mv rfl rfl ?_
  refine rs_mv rfl rfl ?_
  refine rs_mv rfl rfl ?_
  refine rs_mv rfl rfl ?_
  refine rs_nil fun _ => ?_
  refine th_n ?_
  refine aw_seq ?_
  refine aw_weak (F0 := [(1, ints more), (5, .bool true), (6, .rs 4 (R.map cR)), (7, ints lo), (8, ints hi), (9, iv m)]) (H0 := []) (weak_to (.cons rfl (rc_same rfl (.inl rfl)) (.cons rfl (rc_same rfl (.inl rfl)) (.cons rfl (rc_frz rfl rfl rfl (fun _ => rfl)) (.cons rfl (rc_frz rfl rfl hllo (fun _ => rfl)) (.cons rfl (rc_frz rfl rfl hlhi (fun _ => rfl)) (.cons rfl (rc_same rfl (.inl rfl)) (.nil))))))) (.nil) (fun i h => by cases h)) ?_
  refine aw_reg ?_
  refine rs_mv rfl rfl ?_
  refine rs_nil fun _ => ?_
  refine th_n ?_
  refine aw_seq ?_
  refine aw_seq ?_
  refine aw_reg ?_
  refine rs_mv rfl rfl ?_
  first | refine rs_len_m rfl rfl ?_ | refine rs_len_s rfl rfl ?_ | refine rs_len_n rfl rfl ?_ | refine rs_len_r rfl rfl rfl ?_
  refine rs_mv rfl rfl ?_
  refine rs_nil fun _ => ?_
  refine th_n ?_
  refine aw_block ?_
  refine aw_fam (α := Nat) (fun k => R.length - k) (fun k => [(1, ints more), (5, .bool true), (6, .rs 4 (R.map cR)), (7, ints lo), (8, ints hi), (9, iv m), (10, .sl 1010 0 (backS R (k)).length), (45, .rs 4 (R.map cR)), (46, iv (R.length : Int)), (47, iv (((k) : Nat) : Int))]) (fun k => [(1010, .cells 50 4 ((backS R (k)).map cR) true)]) (fun k => k ≤ R.length) 0 (by omega)
    (weak_to (.cons rfl (rc_same rfl (.inl rfl)) (.cons rfl (rc_same rfl (.inl rfl)) (.cons rfl (rc_same rfl (.inl rfl)) (.cons rfl (rc_same rfl (.inl rfl)) (.cons rfl (rc_same rfl (.inl rfl)) (.cons rfl (rc_same rfl (.inl rfl)) (.cons rfl (rc_virt rfl rfl) (.cons rfl (rc_same rfl (.inl rfl)) (.cons rfl (rc_same rfl (.inl rfl)) (.cons rfl (rc_same rfl (.inl rfl)) (.nil))))))))))) (.virt rfl (.nil)) (fun i h => by cases h)) ?_
  intro k hk
  refine aw_seq ?_
  refine aw_reg ?_
  refine rs_lss rfl rfl rfl ?_
  refine rs_nil fun _ => ?_
  refine th_n ?_
  refine aw_seq ?_
  refine aw_cond rfl (fun h48 => ?_) (fun h48 => ?_)
  · first | replace h48 := of_decide_eq_true h48 | skip
    refine aw_skip ?_
    refine th_n ?_
    refine aw_seq ?_
    refine aw_block ?_
    refine aw_seq ?_
    refine aw_reg ?_
    refine rs_mv rfl rfl ?_
    refine rs_mv rfl rfl ?_
    refine rs_nil fun _ => ?_
    refine th_n ?_
    refine aw_draw hmix ?_
    obtain ⟨x, hxk, _⟩ := at_some (L := R) (k := R.length - 1 - k) (by omega)
    obtain ⟨y, hyk, _⟩ := at_some (L := R) (k := k) (by omega)
    have hbl := back_len R k
    refine rs_mv rfl rfl ?_
    refine rs_mv rfl rfl ?_
    refine rs_mv rfl rfl ?_
    first | refine rs_len_m rfl rfl ?_ | refine rs_len_s rfl rfl ?_ | refine rs_len_n rfl rfl ?_ | refine rs_len_r rfl rfl rfl ?_
    first | refine rs_sub rfl rfl rfl (by omega) ?_ | refine rs_subw rfl rfl rfl rfl ?_
    refine rs_mv rfl rfl ?_
    first | refine rs_sub rfl rfl rfl (by omega) ?_ | refine rs_subw rfl rfl rfl rfl ?_
    refine rs_ix_g rfl rfl rfl (by omega) (by rw [show ((R.length : Int) - 1 - (k : Int)).toNat = R.length - 1 - k by omega]; exact hxk) ?_
    first | refine rs_ld_pa rfl rfl rfl rfl (Nat.le_of_ble_eq_true rfl) rfl ?_ | refine rs_ld_ra rfl rfl (Nat.le_of_ble_eq_true rfl) rfl ?_ | refine rs_ld_ma rfl rfl rfl (by omega) (Nat.le_of_ble_eq_true rfl) rfl ?_
    refine rs_mv rfl rfl ?_
    refine rs_mv rfl rfl ?_
    refine rs_ix_g rfl rfl rfl (by omega) hyk ?_
    first | refine rs_ld_pa rfl rfl rfl rfl (Nat.le_of_ble_eq_true rfl) rfl ?_ | refine rs_ld_ra rfl rfl (Nat.le_of_ble_eq_true rfl) rfl ?_ | refine rs_ld_ma rfl rfl rfl (by omega) (Nat.le_of_ble_eq_true rfl) rfl ?_
    refine rs_bslice rfl rfl rfl rfl rfl rfl ?_
    refine rs_app_mm (xs := backS R k) (ys := [x, y]) (m := 2) (f := cR) (rd := [63]) rfl rfl rfl rfl rfl rfl rfl (by simp) (fun _ => rfl) rfl rfl (by omega) (by omega) (fun _ => rfl) ?_
    refine rs_mv rfl rfl ?_
    refine rs_nil ⟨by kernel_rfl, fun _ => ?_⟩
    refine in_n ?_
    refine th_n ?_
    refine aw_reg ?_
    first | refine rs_add rfl rfl rfl (by omega) ?_ | refine rs_addw rfl rfl rfl rfl ?_
    refine rs_mv rfl rfl ?_
    refine rs_nil fun _ => ?_
    refine th_n ?_
    have hbs := back_succ hxk hyk
    exact ⟨k + 1, by omega, by omega, weak_to_ren (i := 64) (i' := 1010) (F1 := [(1, ints more), (5, .bool true), (6, .rs 4 (R.map cR)), (7, ints lo), (8, ints hi), (9, iv m), (10, .sl 64 0 (backS R (k + 1)).length), (45, .rs 4 (R.map cR)), (46, iv (R.length : Int)), (47, iv (((k + 1) : Nat) : Int))]) (H1 := [(64, .cells 50 4 ((backS R (k + 1)).map cR) true)]) (.cons rfl (rc_same rfl (.inl rfl)) (.cons rfl (rc_same rfl (.inl rfl)) (.cons rfl (rc_same rfl (.inl rfl)) (.cons rfl (rc_same rfl (.inl rfl)) (.cons rfl (rc_same rfl (.inl rfl)) (.cons rfl (rc_same rfl (.inl rfl)) (.cons rfl (rc_eq (by rw [hbs]; simp) rfl) (.cons rfl (rc_same rfl (.inl rfl)) (.cons rfl (rc_same rfl (.inl rfl)) (.cons rfl (rc_same rfl (.inl rfl)) (.nil))))))))))) (.keep ((by (rw [hbs]) <;> rfl)) rfl (.nil)) (fun i h => by cases h) rfl rfl (.cons rfl (.same _) (.cons rfl (.same _) (.cons rfl (.same _) (.cons rfl (.same _) (.cons rfl (.same _) (.cons rfl (.same _) (.cons rfl (.sl _ _) (.cons rfl (.same _) (.cons rfl (.same _) (.cons rfl (.same _) (.nil))))))))))) (.cons rfl (rc_same rfl (.inl rfl)) (.cons rfl (rc_same rfl (.inl rfl)) (.cons rfl (rc_same rfl (.inl rfl)) (.cons rfl (rc_same rfl (.inl rfl)) (.cons rfl (rc_same rfl (.inl rfl)) (.cons rfl (rc_same rfl (.inl rfl)) (.cons rfl (rc_same rfl (.inl rfl)) (.cons rfl (rc_same rfl (.inl rfl)) (.cons rfl (rc_same rfl (.inl rfl)) (.cons rfl (rc_same rfl (.inl rfl)) (.nil))))))))))) (.keep (rfl) rfl (.nil)) (fun i h => by cases h)⟩
  · first | replace h48 := of_decide_eq_false h48 | skip
    refine aw_exit ?_
    refine th_e ?_
    refine th_e ?_
    refine in_hit ?_
    refine th_n ?_
    refine aw_seq ?_
    obtain rfl : k = R.length := by omega
    have hbl := back_len R R.length
    obtain ⟨A, B, E, c71, c80, hA6, hB6, hOK⟩ := order_calls hm (N := readS [more] (n : Int)) (fun r hr => by have := readS_ok [more] (n : Int) (by omega) r hr; omega) (by have := readS_len [more] (n : Int); omega)
    refine aw_weak (F0 := [(1, ints more), (5, .bool true), (6, .rs 4 (R.map cR)), (7, ints lo), (8, ints hi), (9, iv m), (10, .rs 4 ((backS R R.length).map cR))]) (H0 := []) (weak_to (.cons rfl (rc_same rfl (.inl rfl)) (.cons rfl (rc_same rfl (.inl rfl)) (.cons rfl (rc_same rfl (.inl rfl)) (.cons rfl (rc_same rfl (.inl rfl)) (.cons rfl (rc_same rfl (.inl rfl)) (.cons rfl (rc_same rfl (.inl rfl)) (.cons rfl (rc_frz rfl rfl rfl (fun _ => rfl)) (.nil)))))))) (.nil) (fun i h => by cases h)) ?_
    refine aw_reg ?_
    refine rs_mv rfl rfl ?_
    refine rs_mv rfl rfl ?_
    refine rs_mv rfl rfl ?_
    refine rs_mv rfl rfl ?_
    refine rs_calln [] rfl rfl (c71) (.cons (hv_same rfl) (.cons (hv_same rfl) (.cons (hv_same rfl) (.cons (hv_same rfl) (.nil))))) rfl ?_
    refine rs_mv rfl rfl ?_
    refine rs_ext rfl rfl rfl ?_
    refine rs_ext rfl rfl rfl ?_
    refine rs_ext rfl rfl rfl ?_
    refine rs_mv rfl rfl ?_
    refine rs_mv rfl rfl ?_
    refine rs_mv rfl rfl ?_
    refine rs_nil fun _ => ?_
    refine th_n ?_
    refine aw_seq ?_
    refine aw_reg ?_
    refine rs_mv rfl rfl ?_
    refine rs_mv rfl rfl ?_
    refine rs_mv rfl rfl ?_
    refine rs_mv rfl rfl ?_
    refine rs_calln [] rfl rfl (c80) (.cons (hv_same rfl) (.cons (hv_same rfl) (.cons (hv_same rfl) (.cons (hv_same rfl) (.nil))))) rfl ?_
    refine rs_mv rfl rfl ?_
    refine rs_ext rfl rfl rfl ?_
    refine rs_ext rfl rfl rfl ?_
    refine rs_ext rfl rfl rfl ?_
    refine rs_mv rfl rfl ?_
    refine rs_mv rfl rfl ?_
    refine rs_mv rfl rfl ?_
    refine rs_nil fun _ => ?_
    refine th_n ?_
    refine aw_seq ?_
    refine aw_seq ?_
    refine aw_reg ?_
    refine rs_mv rfl rfl ?_
    refine rs_mv rfl rfl ?_
    refine rs_cmp_f rfl rfl rfl rfl (fun h => h rfl) ?_
    refine rs_mv rfl rfl ?_
    refine rs_mv rfl rfl ?_
    refine rs_mv rfl rfl ?_
    refine rs_calln [] rfl rfl (fc23_t A (by omega)) (.cons (hv_same rfl) (.cons (hv_same rfl) (.nil))) rfl ?_
    refine rs_not rfl rfl ?_
    refine rs_pick rfl rfl rfl ?_
    refine rs_mv rfl rfl ?_
    refine rs_mv rfl rfl ?_
    refine rs_mv rfl rfl ?_
    refine rs_calln [] rfl rfl (fc23_t B (by omega)) (.cons (hv_same rfl) (.cons (hv_same rfl) (.nil))) rfl ?_
    refine rs_not rfl rfl ?_
    refine rs_pick rfl rfl rfl ?_
    refine rs_nil fun _ => ?_
    refine th_n ?_
    refine aw_cond rfl (fun h => by cases h) (fun _ => ?_)
    refine aw_skip ?_
    refine th_n ?_
    refine aw_seq ?_
    refine aw_seq ?_
    refine aw_reg ?_
    refine rs_mv rfl rfl ?_
    refine rs_neq rfl rfl rfl ?_
    refine rs_nil fun _ => ?_
    refine th_n ?_
    refine aw_cond rfl (fun h100 => ?_) (fun h100 => ?_)
    · first | replace h100 := of_decide_eq_true h100 | skip
      refine aw_seq ?_
      refine aw_reg ?_
      refine rs_mv rfl rfl ?_
      refine rs_mv rfl rfl ?_
      refine rs_nil fun _ => ?_
      refine th_n ?_
      refine aw_ret ?_
      refine th_r ?_
      exact ret_pure rfl rfl rfl (.inr rfl)
    · first | replace h100 := of_decide_eq_false h100 | skip
      refine aw_skip ?_
      refine th_n ?_
      refine aw_seq ?_
      obtain ⟨Ls, A2, B2, Ls2, A3, B3, E3, hO⟩ := hOK (by omega)
      have o1 := hO.lA
      have o2 := hO.lB
      have o3 := hO.lA2
      have o4 := hO.lB2
      have o5 := hO.lL
      have o6 := hO.lL2
      refine aw_reg ?_
      refine rs_mv rfl rfl ?_
      refine rs_mv rfl rfl ?_
      refine rs_mv rfl rfl ?_
      refine rs_mv rfl rfl ?_
      refine rs_calln [] rfl rfl (hO.again) (.cons (hv_same rfl) (.cons (hv_same rfl) (.cons (hv_same rfl) (.cons (hv_same rfl) (.nil))))) rfl ?_
      refine rs_mv rfl rfl ?_
      refine rs_ext rfl rfl rfl ?_
      refine rs_ext rfl rfl rfl ?_
      refine rs_ext rfl rfl rfl ?_
      refine rs_mv rfl rfl ?_
      refine rs_mv rfl rfl ?_
      refine rs_mv rfl rfl ?_
      refine rs_nil fun _ => ?_
      refine th_n ?_
      refine aw_seq ?_
      refine aw_seq ?_
      refine aw_reg ?_
      refine rs_mv rfl rfl ?_
      refine rs_cmp_f rfl rfl rfl rfl (fun h => h rfl) ?_
      refine rs_mv rfl rfl ?_
      refine rs_mv rfl rfl ?_
      refine rs_mv rfl rfl ?_
      refine rs_calln [] rfl rfl (fc23_t A (by omega)) (.cons (hv_same rfl) (.cons (hv_same rfl) (.nil))) rfl ?_
      refine rs_not rfl rfl ?_
      refine rs_pick rfl rfl rfl ?_
      refine rs_mv rfl rfl ?_
      refine rs_mv rfl rfl ?_
      refine rs_mv rfl rfl ?_
      refine rs_calln [] rfl rfl (fc23_t B (by omega)) (.cons (hv_same rfl) (.cons (hv_same rfl) (.nil))) rfl ?_
      refine rs_not rfl rfl ?_
      refine rs_pick rfl rfl rfl ?_
      refine rs_nil fun _ => ?_
      refine th_n ?_
      refine aw_cond rfl (fun h => by cases h) (fun _ => ?_)
      refine aw_skip ?_
      refine th_n ?_
      refine aw_seq ?_
      refine aw_reg ?_
      refine rs_mv rfl rfl ?_
      refine rs_mv rfl rfl ?_
      refine rs_mv rfl rfl ?_
      refine rs_mv rfl rfl ?_
      refine rs_calln [] rfl rfl (hO.sure) (.cons (hv_same rfl) (.cons (hv_same rfl) (.cons (hv_same rfl) (.cons (hv_same rfl) (.nil))))) rfl ?_
      refine rs_mv rfl rfl ?_
      refine rs_ext rfl rfl rfl ?_
      refine rs_ext rfl rfl rfl ?_
      refine rs_mv rfl rfl ?_
      refine rs_mv rfl rfl ?_
      refine rs_nil fun _ => ?_
      refine th_n ?_
      refine aw_seq ?_
      refine aw_reg ?_
      refine rs_mv rfl rfl ?_
      refine rs_mv rfl rfl ?_
      refine rs_mv rfl rfl ?_
      refine rs_mv rfl rfl ?_
      first | refine rs_add rfl rfl rfl (by omega) ?_ | refine rs_addw rfl rfl rfl rfl ?_
      refine rs_mn rfl rfl rfl rfl ?_
      refine rs_calln [] rfl rfl (hO.wide) (.cons (hv_same rfl) (.cons (hv_same rfl) (.cons (hv_same rfl) (.cons (hv_same rfl) (.nil))))) rfl ?_
      refine rs_mv rfl rfl ?_
      refine rs_ext rfl rfl rfl ?_
      refine rs_ext rfl rfl rfl ?_
      refine rs_ext rfl rfl rfl ?_
      refine rs_mv rfl rfl ?_
      refine rs_mv rfl rfl ?_
      refine rs_mv rfl rfl ?_
      refine rs_nil fun _ => ?_
      refine th_n ?_
      refine aw_seq ?_
      refine aw_reg ?_
      refine rs_mv rfl rfl ?_
      refine rs_mv rfl rfl ?_
      refine rs_mv rfl rfl ?_
      refine rs_mv rfl rfl ?_
      first | refine rs_add rfl rfl rfl (by omega) ?_ | refine rs_addw rfl rfl rfl rfl ?_
      refine rs_mn rfl rfl rfl rfl ?_
      refine rs_calln [] rfl rfl (hO.fewer) (.cons (hv_same rfl) (.cons (hv_same rfl) (.cons (hv_same rfl) (.cons (hv_same rfl) (.nil))))) rfl ?_
      refine rs_mv rfl rfl ?_
      refine rs_ext rfl rfl rfl ?_
      refine rs_ext rfl rfl rfl ?_
      refine rs_mv rfl rfl ?_
      refine rs_mv rfl rfl ?_
      refine rs_nil fun _ => ?_
      refine th_n ?_
      refine aw_seq ?_
      refine aw_seq ?_
      refine aw_reg ?_
      refine rs_mv rfl rfl ?_
      refine rs_cmp_f rfl rfl rfl rfl (fun h => h rfl) ?_
      refine rs_mv rfl rfl ?_
      refine rs_mv rfl rfl ?_
      refine rs_cmp_f rfl rfl rfl rfl (fun h => h rfl) ?_
      refine rs_pick rfl rfl rfl ?_
      refine rs_mv rfl rfl ?_
      refine rs_mv rfl rfl ?_
      refine rs_mv rfl rfl ?_
      refine rs_mv rfl rfl ?_
      refine rs_mv rfl rfl ?_
      refine rs_calln [] rfl rfl (fc28 A B A2 B2 (by omega) (by omega) (by omega) (by omega) (fun i x y l u h1 h2 h3 h4 => hO.in2 i x y l u h1 h2 h3 h4)) (.cons (hv_same rfl) (.cons (hv_same rfl) (.cons (hv_same rfl) (.cons (hv_same rfl) (.nil))))) rfl ?_
      refine rs_not rfl rfl ?_
      refine rs_pick rfl rfl rfl ?_
      refine rs_nil fun _ => ?_
      refine th_n ?_
      refine aw_cond rfl (fun h => by cases h) (fun _ => ?_)
      refine aw_skip ?_
      refine th_n ?_
      refine aw_seq ?_
      refine aw_seq ?_
      refine aw_reg ?_
      refine rs_mv rfl rfl ?_
      first | refine rs_len_m rfl rfl ?_ | refine rs_len_s rfl rfl ?_ | refine rs_len_n rfl rfl ?_ | refine rs_len_r rfl rfl rfl ?_
      refine rs_mv rfl rfl ?_
      refine rs_nil fun _ => ?_
      refine th_n ?_
      refine aw_block ?_
      refine aw_fam (α := Nat) (fun k => Ls2.length - k) (fun k => [(1, ints more), (5, .bool true), (6, .rs 4 (R.map cR)), (7, ints lo), (8, ints hi), (9, iv m), (12, ints A), (13, ints B), (21, ints Ls), (168, ints Ls2), (169, iv (Ls2.length : Int)), (170, iv (((k) : Nat) : Int))]) (fun k => []) (fun k => k ≤ Ls2.length) 0 (by omega)
        (weak_to (.cons rfl (rc_same rfl (.inl rfl)) (.cons rfl (rc_same rfl (.inl rfl)) (.cons rfl (rc_same rfl (.inl rfl)) (.cons rfl (rc_same rfl (.inl rfl)) (.cons rfl (rc_same rfl (.inl rfl)) (.cons rfl (rc_same rfl (.inl rfl)) (.cons rfl (rc_same rfl (.inl rfl)) (.cons rfl (rc_same rfl (.inl rfl)) (.cons rfl (rc_same rfl (.inl rfl)) (.cons rfl (rc_same rfl (.inl rfl)) (.cons rfl (rc_same rfl (.inl rfl)) (.cons rfl (rc_same rfl (.inl rfl)) (.nil))))))))))))) (.nil) (fun i h => by cases h)) ?_
      intro k hk
      refine aw_seq ?_
      refine aw_reg ?_
      refine rs_lss rfl rfl rfl ?_
      refine rs_nil fun _ => ?_
      refine th_n ?_
      refine aw_seq ?_
      refine aw_cond rfl (fun h171 => ?_) (fun h171 => ?_)
      · first | replace h171 := of_decide_eq_true h171 | skip
        refine aw_skip ?_
        refine th_n ?_
        refine aw_seq ?_
        refine aw_block ?_
        refine aw_seq ?_
        refine aw_reg ?_
        obtain ⟨p, hp, hpm⟩ := at_some (L := Ls2) (k := k) (by omega)
        refine rs_ix_g rfl rfl rfl (by omega) hp ?_
        refine rs_ld_r rfl rfl rfl ?_
        refine rs_mv rfl rfl ?_
        refine rs_nil fun _ => ?_
        refine th_n ?_
        refine aw_seq ?_
        refine aw_reg ?_
        refine rs_mv rfl rfl ?_
        refine rs_nil fun _ => ?_
        refine th_n ?_
        refine aw_seq ?_
        refine aw_seq ?_
        refine aw_reg ?_
        refine rs_mv rfl rfl ?_
        first | refine rs_len_m rfl rfl ?_ | refine rs_len_s rfl rfl ?_ | refine rs_len_n rfl rfl ?_ | refine rs_len_r rfl rfl rfl ?_
        refine rs_mv rfl rfl ?_
        refine rs_nil fun _ => ?_
        refine th_n ?_
        refine aw_block ?_
        refine aw_fam (α := Nat) (fun q => Ls.length - q) (fun q => [(1, ints more), (5, .bool true), (6, .rs 4 (R.map cR)), (7, ints lo), (8, ints hi), (9, iv m), (12, ints A), (13, ints B), (21, ints Ls), (168, ints Ls2), (169, iv (Ls2.length : Int)), (170, iv (((k) : Nat) : Int)), (29, iv p), (30, .bool ((Ls.take (q)).contains p)), (174, ints Ls), (175, iv (Ls.length : Int)), (176, iv (((q) : Nat) : Int))]) (fun q => []) (fun q => q ≤ Ls.length) 0 (by omega)
          (weak_to (.cons rfl (rc_same rfl (.inl rfl)) (.cons rfl (rc_same rfl (.inl rfl)) (.cons rfl (rc_same rfl (.inl rfl)) (.cons rfl (rc_same rfl (.inl rfl)) (.cons rfl (rc_same rfl (.inl rfl)) (.cons rfl (rc_same rfl (.inl rfl)) (.cons rfl (rc_same rfl (.inl rfl)) (.cons rfl (rc_same rfl (.inl rfl)) (.cons rfl (rc_same rfl (.inl rfl)) (.cons rfl (rc_same rfl (.inl rfl)) (.cons rfl (rc_same rfl (.inl rfl)) (.cons rfl (rc_same rfl (.inl rfl)) (.cons rfl (rc_same rfl (.inl rfl)) (.cons rfl (rc_eq (by simp) rfl) (.cons rfl (rc_same rfl (.inl rfl)) (.cons rfl (rc_same rfl (.inl rfl)) (.cons rfl (rc_same rfl (.inl rfl)) (.nil)))))))))))))))))) (.nil) (fun i h => by cases h)) ?_
        intro q hq
        refine aw_seq ?_
        refine aw_reg ?_
        refine rs_lss rfl rfl rfl ?_
        refine rs_nil fun _ => ?_
        refine th_n ?_
        refine aw_seq ?_
        refine aw_cond rfl (fun h177 => ?_) (fun h177 => ?_)
        · first | replace h177 := of_decide_eq_true h177 | skip
          refine aw_skip ?_
          refine th_n ?_
          refine aw_seq ?_
          refine aw_block ?_
          refine aw_seq ?_
          refine aw_reg ?_
          obtain ⟨j, hj, _⟩ := at_some (L := Ls) (k := q) (by omega)
          have hjj : Ls[q]'(by omega) = j := (List.getElem?_eq_some_iff.1 hj).2
          refine rs_ix_g rfl rfl rfl (by omega) hj ?_
          refine rs_ld_r rfl rfl rfl ?_
          refine rs_mv rfl rfl ?_
          refine rs_nil fun _ => ?_
          refine th_n ?_
          refine aw_reg ?_
          refine rs_mv rfl rfl ?_
          cases h180 : ((Ls.take (q)).contains p)
          · skip
            refine rs_mv rfl rfl ?_
            refine rs_mv rfl rfl ?_
            refine rs_mv rfl rfl ?_
            refine rs_cmp rfl rfl rfl rfl (fun h184 => ?_) (fun h184 => ?_)
            · skip
              refine rs_pick rfl rfl rfl ?_
              refine rs_mv rfl rfl ?_
              refine rs_nil fun _ => ?_
              refine in_n ?_
              refine th_n ?_
              refine aw_reg ?_
              first | refine rs_add rfl rfl rfl (by omega) ?_ | refine rs_addw rfl rfl rfl rfl ?_
              refine rs_mv rfl rfl ?_
              refine rs_nil fun _ => ?_
              refine th_n ?_
              refine ⟨q + 1, by omega, by omega, ?_⟩
              have hcs := contains_succ Ls q p (by omega)
              rw [hjj] at hcs
              first
                | exact weak_to (.cons rfl (rc_same rfl (.inl rfl)) (.cons rfl (rc_same rfl (.inl rfl)) (.cons rfl (rc_same rfl (.inl rfl)) (.cons rfl (rc_same rfl (.inl rfl)) (.cons rfl (rc_same rfl (.inl rfl)) (.cons rfl (rc_same rfl (.inl rfl)) (.cons rfl (rc_same rfl (.inl rfl)) (.cons rfl (rc_same rfl (.inl rfl)) (.cons rfl (rc_same rfl (.inl rfl)) (.cons rfl (rc_same rfl (.inl rfl)) (.cons rfl (rc_same rfl (.inl rfl)) (.cons rfl (rc_same rfl (.inl rfl)) (.cons rfl (rc_same rfl (.inl rfl)) (.cons rfl (rc_eq (by rw [hcs, h180, decide_eq_true h184]; rfl) rfl) (.cons rfl (rc_same rfl (.inl rfl)) (.cons rfl (rc_same rfl (.inl rfl)) (.cons rfl (rc_same rfl (.inl rfl)) (.nil)))))))))))))))))) (.nil) (fun i h => by cases h)
                | exact weak_to (.cons rfl (rc_same rfl (.inl rfl)) (.cons rfl (rc_same rfl (.inl rfl)) (.cons rfl (rc_same rfl (.inl rfl)) (.cons rfl (rc_same rfl (.inl rfl)) (.cons rfl (rc_same rfl (.inl rfl)) (.cons rfl (rc_same rfl (.inl rfl)) (.cons rfl (rc_same rfl (.inl rfl)) (.cons rfl (rc_same rfl (.inl rfl)) (.cons rfl (rc_same rfl (.inl rfl)) (.cons rfl (rc_same rfl (.inl rfl)) (.cons rfl (rc_same rfl (.inl rfl)) (.cons rfl (rc_same rfl (.inl rfl)) (.cons rfl (rc_same rfl (.inl rfl)) (.cons rfl (rc_eq (by rw [hcs, h180, decide_eq_false h184]; rfl) rfl) (.cons rfl (rc_same rfl (.inl rfl)) (.cons rfl (rc_same rfl (.inl rfl)) (.cons rfl (rc_same rfl (.inl rfl)) (.nil)))))))))))))))))) (.nil) (fun i h => by cases h)
                | exact weak_to (.cons rfl (rc_same rfl (.inl rfl)) (.cons rfl (rc_same rfl (.inl rfl)) (.cons rfl (rc_same rfl (.inl rfl)) (.cons rfl (rc_same rfl (.inl rfl)) (.cons rfl (rc_same rfl (.inl rfl)) (.cons rfl (rc_same rfl (.inl rfl)) (.cons rfl (rc_same rfl (.inl rfl)) (.cons rfl (rc_same rfl (.inl rfl)) (.cons rfl (rc_same rfl (.inl rfl)) (.cons rfl (rc_same rfl (.inl rfl)) (.cons rfl (rc_same rfl (.inl rfl)) (.cons rfl (rc_same rfl (.inl rfl)) (.cons rfl (rc_same rfl (.inl rfl)) (.cons rfl (rc_eq (by rw [hcs, h180]; rfl) rfl) (.cons rfl (rc_same rfl (.inl rfl)) (.cons rfl (rc_same rfl (.inl rfl)) (.cons rfl (rc_same rfl (.inl rfl)) (.nil)))))))))))))))))) (.nil) (fun i h => by cases h)
            · skip
              refine rs_pick rfl rfl rfl ?_
              refine rs_mv rfl rfl ?_
              refine rs_nil fun _ => ?_
              refine in_n ?_
              refine th_n ?_
              refine aw_reg ?_
              first | refine rs_add rfl rfl rfl (by omega) ?_ | refine rs_addw rfl rfl rfl rfl ?_
              refine rs_mv rfl rfl ?_
              refine rs_nil fun _ => ?_
              refine th_n ?_
              refine ⟨q + 1, by omega, by omega, ?_⟩
              have hcs := contains_succ Ls q p (by omega)
              rw [hjj] at hcs
              first
                | exact weak_to (.cons rfl (rc_same rfl (.inl rfl)) (.cons rfl (rc_same rfl (.inl rfl)) (.cons rfl (rc_same rfl (.inl rfl)) (.cons rfl (rc_same rfl (.inl rfl)) (.cons rfl (rc_same rfl (.inl rfl)) (.cons rfl (rc_same rfl (.inl rfl)) (.cons rfl (rc_same rfl (.inl rfl)) (.cons rfl (rc_same rfl (.inl rfl)) (.cons rfl (rc_same rfl (.inl rfl)) (.cons rfl (rc_same rfl (.inl rfl)) (.cons rfl (rc_same rfl (.inl rfl)) (.cons rfl (rc_same rfl (.inl rfl)) (.cons rfl (rc_same rfl (.inl rfl)) (.cons rfl (rc_eq (by rw [hcs, h180, decide_eq_true h184]; rfl) rfl) (.cons rfl (rc_same rfl (.inl rfl)) (.cons rfl (rc_same rfl (.inl rfl)) (.cons rfl (rc_same rfl (.inl rfl)) (.nil)))))))))))))))))) (.nil) (fun i h => by cases h)
                | exact weak_to (.cons rfl (rc_same rfl (.inl rfl)) (.cons rfl (rc_same rfl (.inl rfl)) (.cons rfl (rc_same rfl (.inl rfl)) (.cons rfl (rc_same rfl (.inl rfl)) (.cons rfl (rc_same rfl (.inl rfl)) (.cons rfl (rc_same rfl (.inl rfl)) (.cons rfl (rc_same rfl (.inl rfl)) (.cons rfl (rc_same rfl (.inl rfl)) (.cons rfl (rc_same rfl (.inl rfl)) (.cons rfl (rc_same rfl (.inl rfl)) (.cons rfl (rc_same rfl (.inl rfl)) (.cons rfl (rc_same rfl (.inl rfl)) (.cons rfl (rc_same rfl (.inl rfl)) (.cons rfl (rc_eq (by rw [hcs, h180, decide_eq_false h184]; rfl) rfl) (.cons rfl (rc_same rfl (.inl rfl)) (.cons rfl (rc_same rfl (.inl rfl)) (.cons rfl (rc_same rfl (.inl rfl)) (.nil)))))))))))))))))) (.nil) (fun i h => by cases h)
                | exact weak_to (.cons rfl (rc_same rfl (.inl rfl)) (.cons rfl (rc_same rfl (.inl rfl)) (.cons rfl (rc_same rfl (.inl rfl)) (.cons rfl (rc_same rfl (.inl rfl)) (.cons rfl (rc_same rfl (.inl rfl)) (.cons rfl (rc_same rfl (.inl rfl)) (.cons rfl (rc_same rfl (.inl rfl)) (.cons rfl (rc_same rfl (.inl rfl)) (.cons rfl (rc_same rfl (.inl rfl)) (.cons rfl (rc_same rfl (.inl rfl)) (.cons rfl (rc_same rfl (.inl rfl)) (.cons rfl (rc_same rfl (.inl rfl)) (.cons rfl (rc_same rfl (.inl rfl)) (.cons rfl (rc_eq (by rw [hcs, h180]; rfl) rfl) (.cons rfl (rc_same rfl (.inl rfl)) (.cons rfl (rc_same rfl (.inl rfl)) (.cons rfl (rc_same rfl (.inl rfl)) (.nil)))))))))))))))))) (.nil) (fun i h => by cases h)
          · skip
            refine rs_mv rfl rfl ?_
            refine rs_skip rfl ?_
            refine rs_skip rfl ?_
            refine rs_skip rfl ?_
            refine rs_pick rfl rfl rfl ?_
            refine rs_mv rfl rfl ?_
            refine rs_nil fun _ => ?_
            refine in_n ?_
            refine th_n ?_
            refine aw_reg ?_
            first | refine rs_add rfl rfl rfl (by omega) ?_ | refine rs_addw rfl rfl rfl rfl ?_
            refine rs_mv rfl rfl ?_
            refine rs_nil fun _ => ?_
            refine th_n ?_
            refine ⟨q + 1, by omega, by omega, ?_⟩
            have hcs := contains_succ Ls q p (by omega)
            rw [hjj] at hcs
            first
              | exact weak_to (.cons rfl (rc_same rfl (.inl rfl)) (.cons rfl (rc_same rfl (.inl rfl)) (.cons rfl (rc_same rfl (.inl rfl)) (.cons rfl (rc_same rfl (.inl rfl)) (.cons rfl (rc_same rfl (.inl rfl)) (.cons rfl (rc_same rfl (.inl rfl)) (.cons rfl (rc_same rfl (.inl rfl)) (.cons rfl (rc_same rfl (.inl rfl)) (.cons rfl (rc_same rfl (.inl rfl)) (.cons rfl (rc_same rfl (.inl rfl)) (.cons rfl (rc_same rfl (.inl rfl)) (.cons rfl (rc_same rfl (.inl rfl)) (.cons rfl (rc_same rfl (.inl rfl)) (.cons rfl (rc_eq (by rw [hcs, h180, decide_eq_true h184]; rfl) rfl) (.cons rfl (rc_same rfl (.inl rfl)) (.cons rfl (rc_same rfl (.inl rfl)) (.cons rfl (rc_same rfl (.inl rfl)) (.nil)))))))))))))))))) (.nil) (fun i h => by cases h)
              | exact weak_to (.cons rfl (rc_same rfl (.inl rfl)) (.cons rfl (rc_same rfl (.inl rfl)) (.cons rfl (rc_same rfl (.inl rfl)) (.cons rfl (rc_same rfl (.inl rfl)) (.cons rfl (rc_same rfl (.inl rfl)) (.cons rfl (rc_same rfl (.inl rfl)) (.cons rfl (rc_same rfl (.inl rfl)) (.cons rfl (rc_same rfl (.inl rfl)) (.cons rfl (rc_same rfl (.inl rfl)) (.cons rfl (rc_same rfl (.inl rfl)) (.cons rfl (rc_same rfl (.inl rfl)) (.cons rfl (rc_same rfl (.inl rfl)) (.cons rfl (rc_same rfl (.inl rfl)) (.cons rfl (rc_eq (by rw [hcs, h180, decide_eq_false h184]; rfl) rfl) (.cons rfl (rc_same rfl (.inl rfl)) (.cons rfl (rc_same rfl (.inl rfl)) (.cons rfl (rc_same rfl (.inl rfl)) (.nil)))))))))))))))))) (.nil) (fun i h => by cases h)
              | exact weak_to (.cons rfl (rc_same rfl (.inl rfl)) (.cons rfl (rc_same rfl (.inl rfl)) (.cons rfl (rc_same rfl (.inl rfl)) (.cons rfl (rc_same rfl (.inl rfl)) (.cons rfl (rc_same rfl (.inl rfl)) (.cons rfl (rc_same rfl (.inl rfl)) (.cons rfl (rc_same rfl (.inl rfl)) (.cons rfl (rc_same rfl (.inl rfl)) (.cons rfl (rc_same rfl (.inl rfl)) (.cons rfl (rc_same rfl (.inl rfl)) (.cons rfl (rc_same rfl (.inl rfl)) (.cons rfl (rc_same rfl (.inl rfl)) (.cons rfl (rc_same rfl (.inl rfl)) (.cons rfl (rc_eq (by rw [hcs, h180]; rfl) rfl) (.cons rfl (rc_same rfl (.inl rfl)) (.cons rfl (rc_same rfl (.inl rfl)) (.cons rfl (rc_same rfl (.inl rfl)) (.nil)))))))))))))))))) (.nil) (fun i h => by cases h)
        · first | replace h177 := of_decide_eq_false h177 | skip
          refine aw_exit ?_
          refine th_e ?_
          refine th_e ?_
          refine in_hit ?_
          refine th_n ?_
          refine aw_seq ?_
          obtain rfl : q = Ls.length := by omega
          have hcon : (Ls.take Ls.length).contains p = true := by rw [List.take_length]; simpa using hO.sub p hpm
          refine aw_weak (F0 := [(1, ints more), (5, .bool true), (6, .rs 4 (R.map cR)), (7, ints lo), (8, ints hi), (9, iv m), (12, ints A), (13, ints B), (21, ints Ls), (168, ints Ls2), (169, iv (Ls2.length : Int)), (170, iv (((k) : Nat) : Int)), (30, .bool true)]) (H0 := []) (weak_to (.cons rfl (rc_same rfl (.inl rfl)) (.cons rfl (rc_same rfl (.inl rfl)) (.cons rfl (rc_same rfl (.inl rfl)) (.cons rfl (rc_same rfl (.inl rfl)) (.cons rfl (rc_same rfl (.inl rfl)) (.cons rfl (rc_same rfl (.inl rfl)) (.cons rfl (rc_same rfl (.inl rfl)) (.cons rfl (rc_same rfl (.inl rfl)) (.cons rfl (rc_same rfl (.inl rfl)) (.cons rfl (rc_same rfl (.inl rfl)) (.cons rfl (rc_same rfl (.inl rfl)) (.cons rfl (rc_same rfl (.inl rfl)) (.cons rfl (rc_eq (by rw [hcon]) rfl) (.nil)))))))))))))) (.nil) (fun i h => by cases h)) ?_
          refine aw_reg ?_
          refine rs_mv rfl rfl ?_
          refine rs_not rfl rfl ?_
          refine rs_nil fun _ => ?_
          refine th_n ?_
          refine aw_cond rfl (fun h => by cases h) (fun _ => ?_)
          refine aw_skip ?_
          refine in_n ?_
          refine th_n ?_
          refine aw_reg ?_
          first | refine rs_add rfl rfl rfl (by omega) ?_ | refine rs_addw rfl rfl rfl rfl ?_
          refine rs_mv rfl rfl ?_
          refine rs_nil fun _ => ?_
          refine th_n ?_
          exact ⟨k + 1, by omega, by omega, weak_to (.cons rfl (rc_same rfl (.inl rfl)) (.cons rfl (rc_same rfl (.inl rfl)) (.cons rfl (rc_same rfl (.inl rfl)) (.cons rfl (rc_same rfl (.inl rfl)) (.cons rfl (rc_same rfl (.inl rfl)) (.cons rfl (rc_same rfl (.inl rfl)) (.cons rfl (rc_same rfl (.inl rfl)) (.cons rfl (rc_same rfl (.inl rfl)) (.cons rfl (rc_same rfl (.inl rfl)) (.cons rfl (rc_same rfl (.inl rfl)) (.cons rfl (rc_same rfl (.inl rfl)) (.cons rfl (rc_same rfl (.inl rfl)) (.nil))))))))))))) (.nil) (fun i h => by cases h)⟩
      · first | replace h171 := of_decide_eq_false h171 | skip
        refine aw_exit ?_
        refine th_e ?_
        refine th_e ?_
        refine in_hit ?_
        refine th_n ?_
        refine aw_seq ?_
        refine aw_reg ?_
        refine rs_bslice rfl rfl rfl rfl rfl rfl ?_
        refine rs_mv rfl rfl ?_
        refine rs_app_e (ys := R) (n := R.length) (f := cR) (rd := []) rfl rfl rfl rfl rfl rfl rfl (by simp) (fun _ => rfl) rfl (by omega) (by omega) (fun _ => rfl) ?_
        refine rs_mv rfl rfl ?_
        refine rs_bslice rfl rfl rfl rfl rfl rfl ?_
        refine rs_mv rfl rfl ?_
        first | refine rs_len_m rfl rfl ?_ | refine rs_len_r rfl rfl rfl ?_
        rw [hllo]
        refine rs_calln [194] rfl rfl (fz29 [more] (n : Int) (by omega) (by simpa using hmore)) (.cons (hv_slm (xs := [more]) (f := cL) (by simp) rfl rfl) (.cons (hv_same rfl) (.nil))) rfl ?_
        refine rs_app_mm (xs := R) (ys := readS [more] (n : Int)) (f := cR) (rd := []) rfl rfl rfl rfl rfl rfl rfl (by simp) (fun _ => rfl) rfl rfl (by have := readS_len [more] (n : Int); omega) (by have := readS_len [more] (n : Int); omega) (fun _ => rfl) ?_
        refine rs_mv rfl rfl ?_
        refine rs_nil fun _ => ?_
        refine th_n ?_
        refine aw_seq ?_
        refine aw_reg ?_
        refine rs_mv rfl rfl ?_
        refine rs_mv rfl rfl ?_
        refine rs_mv rfl rfl ?_
        refine rs_mv rfl rfl ?_
        refine rs_calln [198] rfl rfl (hO.next) (.cons (hv_slm (xs := R ++ readS [more] (n : Int)) (f := cR) (by simp) rfl (by simp)) (.cons (hv_same rfl) (.cons (hv_same rfl) (.cons (hv_same rfl) (.nil))))) rfl ?_
        refine rs_mv rfl rfl ?_
        refine rs_ext rfl rfl rfl ?_
        refine rs_ext rfl rfl rfl ?_
        refine rs_ext rfl rfl rfl ?_
        refine rs_mv rfl rfl ?_
        refine rs_mv rfl rfl ?_
        refine rs_mv rfl rfl ?_
        refine rs_nil fun _ => ?_
        refine th_n ?_
        refine aw_seq ?_
        refine aw_reg ?_
        refine rs_mv rfl rfl ?_
        refine rs_mv rfl rfl ?_
        refine rs_mv rfl rfl ?_
        refine rs_cmp rfl rfl rfl rfl (fun h211 => ?_) (fun h211 => ?_)
        · skip
          refine rs_mv rfl rfl ?_
          refine rs_skip rfl ?_
          refine rs_skip rfl ?_
          refine rs_skip rfl ?_
          refine rs_skip rfl ?_
          refine rs_skip rfl ?_
          refine rs_skip rfl ?_
          refine rs_skip rfl ?_
          refine rs_skip rfl ?_
          refine rs_skip rfl ?_
          refine rs_pick rfl rfl rfl ?_
          refine rs_pick rfl rfl rfl ?_
          refine rs_mv rfl rfl ?_
          refine rs_nil fun _ => ?_
          refine th_n ?_
          refine aw_ret ?_
          exact ret_pure rfl rfl rfl (.inr rfl)
        · skip
          refine rs_mv rfl rfl ?_
          refine rs_mv rfl rfl ?_
          have hE3 : E3 = 0 ∧ A3.length = n ∧ B3.length = n ∧ _ := hO.next_.resolve_left h211
          obtain ⟨hE30, l3, l4, hin3⟩ := hE3
          refine rs_cmp_t rfl rfl rfl rfl hE30 ?_
          refine rs_mv rfl rfl ?_
          refine rs_mv rfl rfl ?_
          refine rs_mv rfl rfl ?_
          refine rs_mv rfl rfl ?_
          refine rs_mv rfl rfl ?_
          refine rs_calln [] rfl rfl (fc28 A3 B3 A B (by omega) (by omega) (by omega) (by omega) (fun i x y l u h1 h2 h3 h4 => hin3 i l u x y h3 h4 h1 h2)) (.cons (hv_same rfl) (.cons (hv_same rfl) (.cons (hv_same rfl) (.cons (hv_same rfl) (.nil))))) rfl ?_
          refine rs_pick rfl rfl rfl ?_
          refine rs_pick rfl rfl rfl ?_
          refine rs_pick rfl rfl rfl ?_
          refine rs_mv rfl rfl ?_
          refine rs_nil fun _ => ?_
          refine th_n ?_
          refine aw_ret ?_
          exact ret_pure rfl rfl rfl (.inr rfl)

end Go.Proofs.Ytadjdnhnbkcakaa

/-! The arguments of the laws, as they are read: the shapes of their types, and what a reading tells. -/
namespace Go.Proofs.Ytadjdnhnbkcakaa
open Go.RowKit Go.WideShapes Go.ChangeShapes Go.ChangeAt
set_option maxRecDepth 100000

theorem own_knob : ownKnob Try.prog.godebug = none := by kernel_rfl
theorem laid_out : laidOutB Try.prog = true := by kernel_rfl

abbrev shCase21 : Sh := .st [.sl 1 (.sl 1 (.int .i64)), .sl 1 (.int .u8), .int .u8]
abbrev shRd : Sh := .st [.int .i64, .int .i64, .int .i64, .int .i64]

theorem rd_i {H : Type} (d : DataW H) (h : Gd (.int .i64) d) : ∃ n : Int, True ∧ avD (.int .i64) d = ci n := by
  obtain ⟨n, _, e⟩ := rd_int d h
  exact ⟨n, trivial, e⟩
theorem rd_u8 {H : Type} (d : DataW H) (h : Gd (.int .u8) d) : ∃ n : Int, (0 ≤ n ∧ n < 256) ∧ avD (.int .u8) d = cu8 n := by
  obtain ⟨n, hw, e⟩ := rd_int d h
  have := bounds_u8 hw
  exact ⟨n, by omega, e⟩
theorem rd_ints {H : Type} (d : DataW H) (h : Gd (.sl 1 (.int .i64)) d) : ∃ L : List Int, L.length ≤ 140737488351232 ∧ avD (.sl 1 (.int .i64)) d = cL L := by
  obtain ⟨L, ⟨h1, _⟩, e⟩ := rd_sl (fun _ => True) ci rd_i d h
  exact ⟨L, h1, e⟩
theorem rd_lists {H : Type} (d : DataW H) (h : Gd (.sl 1 (.sl 1 (.int .i64))) d) : ∃ ls : List (List Int), (ls.length ≤ 140737488351232 ∧ ∀ L ∈ ls, L.length ≤ 140737488351232) ∧ avD (.sl 1 (.sl 1 (.int .i64))) d = [.rs 1 (ls.map cL)] :=
  rd_sl _ cL rd_ints d h
theorem rd_u8s {H : Type} (d : DataW H) (h : Gd (.sl 1 (.int .u8)) d) : ∃ ls : List Int, (ls.length ≤ 140737488351232 ∧ ∀ x ∈ ls, 0 ≤ x ∧ x < 256) ∧ avD (.sl 1 (.int .u8)) d = [.rs 1 (ls.map cu8)] :=
  rd_sl _ cu8 rd_u8 d h
theorem rd_rd {H : Type} (d : DataW H) (h : Gd shRd d) : ∃ r : Rd, True ∧ avD shRd d = cR r := by
  obtain ⟨ps, g, e⟩ := rd_st d h
  obtain ⟨d0, r0, g0, g, e0⟩ := rd_cons ps g
  obtain ⟨d1, r1, g1, g, e1⟩ := rd_cons r0 g
  obtain ⟨d2, r2, g2, g, e2⟩ := rd_cons r1 g
  obtain ⟨d3, r3, g3, g, e3⟩ := rd_cons r2 g
  obtain ⟨n0, _, a0⟩ := rd_i d0 g0
  obtain ⟨n1, _, a1⟩ := rd_i d1 g1
  obtain ⟨n2, _, a2⟩ := rd_i d2 g2
  obtain ⟨n3, _, a3⟩ := rd_i d3 g3
  exact ⟨⟨n0, n1, n2, n3⟩, trivial, by rw [e, e0, e1, e2, e3, rd_nil r3 g, a0, a1, a2, a3]; rfl⟩
theorem rd_case21 {H : Type} (d : DataW H) (h : Gd shCase21 d) : ∃ (ls : List (List Int)) (lims : List Int) (lies : Int), ((ls.length ≤ 140737488351232 ∧ ∀ L ∈ ls, L.length ≤ 140737488351232) ∧ (lims.length ≤ 140737488351232 ∧ ∀ x ∈ lims, 0 ≤ x ∧ x < 256) ∧ (0 ≤ lies ∧ lies < 256)) ∧
    argA shCase21 d = .agg [.rs 1 (ls.map cL), .rs 1 (lims.map cu8), .int .u8 lies] := by
  obtain ⟨ps, g, e⟩ := rd_st d h
  obtain ⟨d0, r0, g0, g, e0⟩ := rd_cons ps g
  obtain ⟨d1, r1, g1, g, e1⟩ := rd_cons r0 g
  obtain ⟨d2, r2, g2, g, e2⟩ := rd_cons r1 g
  obtain ⟨n0, k0, a0⟩ := rd_lists d0 g0
  obtain ⟨n1, k1, a1⟩ := rd_u8s d1 g1
  obtain ⟨n2, k2, a2⟩ := rd_u8 d2 g2
  exact ⟨n0, n1, n2, ⟨k0, k1, k2⟩, by simp only [argA]; rw [e, e0, e1, e2, rd_nil r2 g, a0, a1, a2]; rfl⟩

end Go.Proofs.Ytadjdnhnbkcakaa
namespace Go.Proofs.Ytadjdnhnbkcakaa
open Go.RowKit Go.WideShapes Go.ChangeShapes Go.ChangeAt
set_option maxRecDepth 100000

abbrev shs7 : List Sh := [shCase21, .sl 1 (.int .i64)]

theorem lifted7 (os : Os) (started : os.Started) (H : Type) (enc : TypeId × Value → H) :
    ReturnsInHanded {} Try.checked os 7 .any (Rows.probeOrderSpec.pre6 enc Try.prog Try.f7 Rows.probeOrderRow.domain false) (Rows.probeOrderSpec.post enc Try.prog Try.f7 false true false false) := by
  refine law_row (C := Try.checked) own_knob started (by kernel_rfl) Try.func7 laid_out rfl (tb := 4) rfl Try.underlying4 shs7 (by kernel_rfl) (fun ds h => ?_)
    (ChangeSpec.witness6 (enc := enc) (C := Try.checked) false ⟨#[], #[.agg #[.slice none 0 0, .slice none 0 0, .int .u8 0], .slice none 0 0], []⟩ 8 (by kernel_rfl) (by kernel_rfl) (by kernel_rfl) (by kernel_rfl)) fun ds hg => ⟨false, ?_⟩
  · match ds, h with
    | [_, _], _ => rfl
  · simp only [shs7, GdFs] at hg
    obtain ⟨d0, _, rfl, g0, d1, _, rfl, g1, rfl⟩ := hg
    obtain ⟨ls, lims, lies8, ⟨⟨_, hls⟩, ⟨_, hlims⟩, hl8⟩, e0⟩ := rd_case21 d0 g0
    obtain ⟨more, ⟨hl_more, hr_more⟩, e1⟩ := rd_sl _ ci rd_i d1 g1
    have e : argAs shs7 [d0, d1] = [.agg [.rs 1 (ls.map cL), .rs 1 (lims.map cu8), .int .u8 lies8], .rs 1 (more.map ci)] := by
      simp only [argAs, shs7]
      rw [e0]
      simp only [argA]
      rw [e1]
      rfl
    rw [e]
    exact fc7 ls lims lies8 more (Nat.le_trans hl_more (by decide)) (fun L h => Nat.le_trans (hls L h) (by decide)) hlims hl8

theorem over7 : Rows.probeOrderRow.holds Try.pinned (OpenSpec.ofChange Rows.probeOrderSpec) :=
  OpenClaim.holds_of_wide 7 Try.f7 rfl rfl rfl rfl rfl rfl rfl ⟨rfl, rfl, rfl, rfl, rfl⟩ rfl rfl rfl rfl rfl (by kernel_rfl) Try.func7 (by kernel_rfl)
    (of_decide_eq_true (by kernel_rfl)) (by unfold Func.isWrapper; rw [if_neg (of_decide_eq_false (by kernel_rfl))]; exact ⟨rfl, rfl⟩)
    (fun os started H enc _ => lifted7 os started H enc)

theorem probeOrder_holds : Rows.ProbeOrderSaid := over7
#print axioms probeOrder_holds
end Go.Proofs.Ytadjdnhnbkcakaa
