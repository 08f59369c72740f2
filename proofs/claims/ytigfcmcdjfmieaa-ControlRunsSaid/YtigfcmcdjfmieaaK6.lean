/-
  Proved: colletlaw34.ControlRuns returns true for every input, and its arguments read as before. No condition.
-/
import Derived.Test.YtigfcmcdjfmieaaK5
import Derived.Test.YtigfcmcdjfmieaaRows
set_option linter.unusedVariables false
set_option linter.unusedSimpArgs false

/-! Walks: C8. -/
namespace Go.Proofs.Ytigfcmcdjfmieaa
open Go.RowKit
set_option maxRecDepth 100000
set_option linter.unusedVariables false

abbrev cL (l : List Int) : List AV := [ints l]
/-- A move, put to a point. -/
def mvB (m : Mv) (a : V3) : Mv :=
  if m.kind = 3 then ⟨m.kind, a, addW m.to (subW a m.fr), addW m.co (subW a m.fr), m.feed⟩
  else ⟨m.kind, a, addW m.to (subW a m.fr), m.co, m.feed⟩
theorem mvB_3 {m : Mv} {a : V3} (h : m.kind = 3) : mvB m a = ⟨m.kind, a, addW m.to (subW a m.fr), addW m.co (subW a m.fr), m.feed⟩ := if_pos h
theorem mvB_n {m : Mv} {a : V3} (h : ¬ m.kind = 3) : mvB m a = ⟨m.kind, a, addW m.to (subW a m.fr), m.co, m.feed⟩ := if_neg h
def mvC (m : Mv) (a : V3) : Mv := if checkS (mvB m a) = 0 then mvB m a else ⟨1, a, ⟨-a.y, 1 + a.x.tdiv 2, 0⟩, ⟨0, 0, 0⟩, 0⟩
theorem mvC_ok {m : Mv} {a : V3} (h : checkS (mvB m a) = 0) : mvC m a = mvB m a := if_pos h
theorem mvC_bad {m : Mv} {a : V3} (h : ¬ checkS (mvB m a) = 0) : mvC m a = ⟨1, a, ⟨-a.y, 1 + a.x.tdiv 2, 0⟩, ⟨0, 0, 0⟩, 0⟩ := if_neg h
theorem mvC_fr (m : Mv) (a : V3) : (mvC m a).fr = a := by
  unfold mvC mvB
  split <;> (try split) <;> rfl
/-- The moves, and where they lead. -/
def mvSt (ls : List (List Int)) : Nat → List Mv × V3
  | 0 => ([], ⟨0, 0, 0⟩)
  | k + 1 => match ls[k]? with
    | none => mvSt ls k
    | some L => if checkS (mvC (madeS L) (mvSt ls k).2) = 0 then ((mvSt ls k).1 ++ [mvC (madeS L) (mvSt ls k).2], (mvC (madeS L) (mvSt ls k).2).to) else mvSt ls k
theorem mvSt_y {ls : List (List Int)} {k : Nat} {L : List Int} (h : ls[k]? = some L) (hc : checkS (mvC (madeS L) (mvSt ls k).2) = 0) : mvSt ls (k + 1) = ((mvSt ls k).1 ++ [mvC (madeS L) (mvSt ls k).2], (mvC (madeS L) (mvSt ls k).2).to) := by
  rw [mvSt, h]; exact if_pos hc
theorem mvSt_n {ls : List (List Int)} {k : Nat} {L : List Int} (h : ls[k]? = some L) (hc : ¬ checkS (mvC (madeS L) (mvSt ls k).2) = 0) : mvSt ls (k + 1) = mvSt ls k := by
  rw [mvSt, h]; exact if_neg hc
theorem mvSt_bd (ls : List (List Int)) : ∀ k, Bd 24 (mvSt ls k).2
  | 0 => (⟨by decide, by decide, by decide⟩ : Bd 24 ⟨0, 0, 0⟩)
  | k + 1 => by
    cases h : ls[k]? with
    | none => rw [mvSt, h]; exact mvSt_bd ls k
    | some L =>
      by_cases hc : checkS (mvC (madeS L) (mvSt ls k).2) = 0
      · rw [mvSt_y h hc]; exact (ck_in hc).to
      · rw [mvSt_n h hc]; exact mvSt_bd ls k
theorem mvSt_len (ls : List (List Int)) : ∀ k, (mvSt ls k).1.length ≤ k
  | 0 => Nat.le_refl _
  | k + 1 => by
    have ih := mvSt_len ls k
    cases h : ls[k]? with
    | none => rw [mvSt, h]; dsimp only; omega
    | some L =>
      by_cases hc : checkS (mvC (madeS L) (mvSt ls k).2) = 0
      · rw [mvSt_y h hc]; simp; omega
      · rw [mvSt_n h hc]; omega
/-- Where a list of moves leads. -/
def endV : Option V3 → List Mv → Option V3
  | p, [] => p
  | _, m :: l => endV (some m.to) l
theorem pcL_app : ∀ (l : List Mv) (p : Option V3) (m : Mv), pcL p l = 0 → checkS m = 0 → (∀ t, endV p l = some t → m.fr = t) → pcL p (l ++ [m]) = 0 ∧ endV p (l ++ [m]) = some m.to
  | [], p, m, _, hc, he => by
    refine ⟨?_, rfl⟩
    rw [List.nil_append, pcL_cons, if_pos hc]
    cases p with
    | none => rfl
    | some t => exact if_pos (he t rfl)
  | q :: l, p, m, h, hc, he => by
    rw [pcL_cons] at h
    rw [List.cons_append, pcL_cons]
    split at h
    · rename_i hq
      rw [if_pos hq]
      cases p with
      | none => exact pcL_app l _ m h hc he
      | some t =>
        dsimp only at h ⊢
        split at h
        · rename_i hqt; rw [if_pos hqt]; exact pcL_app l _ m h hc he
        · cases h
    · rename_i hq; exact absurd h hq
theorem pcL_take : ∀ (l : List Mv) (p : Option V3) (j : Nat), pcL p l = 0 → pcL p (l.take j) = 0
  | [], p, j, _ => by simp [pcL]
  | q :: l, p, 0, _ => by cases p <;> rfl
  | q :: l, p, j + 1, h => by
    rw [List.take_succ_cons, pcL_cons]
    rw [pcL_cons] at h
    split at h
    · rename_i hq
      rw [if_pos hq]
      cases p with
      | none => exact pcL_take l _ j h
      | some t =>
        dsimp only at h ⊢
        split at h
        · rename_i hqt; rw [if_pos hqt]; exact pcL_take l _ j h
        · cases h
    · rename_i hq; exact absurd h hq
theorem pcL_all : ∀ (l : List Mv) (p : Option V3), pcL p l = 0 → ∀ m ∈ l, checkS m = 0
  | [], _, _, m, hm => by cases hm
  | q :: l, p, h, m, hm => by
    rw [pcL_cons] at h
    split at h
    · rename_i hq
      rcases List.mem_cons.1 hm with rfl | hm
      · exact hq
      · cases p with
        | none => exact pcL_all l _ h m hm
        | some t =>
          dsimp only at h
          split at h
          · exact pcL_all l _ h m hm
          · cases h
    · rename_i hq; exact absurd h hq
theorem mvSt_ok (ls : List (List Int)) : ∀ k, pcL none (mvSt ls k).1 = 0 ∧ ∀ t, endV none (mvSt ls k).1 = some t → (mvSt ls k).2 = t
  | 0 => ⟨rfl, fun t h => by cases h⟩
  | k + 1 => by
    have ih := mvSt_ok ls k
    cases h : ls[k]? with
    | none => rw [mvSt, h]; exact ih
    | some L =>
      by_cases hc : checkS (mvC (madeS L) (mvSt ls k).2) = 0
      · rw [mvSt_y h hc]
        have := pcL_app (mvSt ls k).1 none _ ih.1 hc (fun t ht => by rw [mvC_fr]; exact ih.2 t ht)
        exact ⟨this.1, fun t ht => by dsimp only at ht ⊢; rw [this.2] at ht; exact Option.some.inj ht⟩
      · rw [mvSt_n h hc]; exact ih
theorem tdiv2 {x : Int} (h : -1000 ≤ x ∧ x ≤ 1000) : -1000 ≤ x.tdiv 2 ∧ x.tdiv 2 ≤ 1000 := by
  rcases Int.le_total 0 x with h0 | h0
  · rw [Int.tdiv_eq_ediv_of_nonneg h0]; omega
  · have : x = -(-x) := by omega
    rw [this, Int.neg_tdiv, Int.tdiv_eq_ediv_of_nonneg (by omega)]; omega
/-- The moves of a path. -/
def movS (ls : List (List Int)) : List Mv := (mvSt ls (min ls.length 6)).1

def mcc53 : MC := (.seq (.reg [⟨(some 3), (.box 80 3 (.t 1)), none, []⟩, ⟨(some 4), (.mv (.c .nils)), none, []⟩] false) (.seq (.reg [⟨(some 5), (.mv (.c .nils)), none, []⟩] false) (.seq (.reg [⟨(some 10), (.ld true 3 (.t 3)), none, []⟩, ⟨(some 6), (.alloc 80 3 [(.int .i64 0), (.int .i64 0), (.int .i64 0)]), none, []⟩, ⟨none, (.st 3 (.t 6) (.t 10)), none, [1, 0, 0, 1]⟩] false) (.seq (.seq (.reg [⟨(some 7), (.mv (.c (.int .i64 0))), none, []⟩] false) (.block 0 (.loop (.seq (.seq (.reg [⟨(some 11), (.mv (.t 7)), none, []⟩, ⟨(some 12), (.mv (.t 0)), none, []⟩, ⟨(some 13), (.len (.t 12)), none, [1]⟩, ⟨(some 14), (.bin .lss (.t 11) (.t 13)), none, [0, 2]⟩, ⟨(some 15), (.mv (.t 14)), none, [3]⟩, ⟨(some 16), (.mv (.t 7)), (some (15, true)), [4]⟩, ⟨(some 17), (.bin .lss (.t 16) (.c (.int .i64 6))), (some (15, true)), [5, 4]⟩, ⟨(some 18), (.pick (.t 15) (.t 17) (.c (.bool false))), none, [4, 6]⟩] false) (.cond (.t 18) .skip (.exit 0))) (.seq (.block 1 (.seq (.reg [⟨(some 21), (.mv (.t 0)), none, []⟩, ⟨(some 22), (.mv (.t 7)), none, []⟩, ⟨(some 23), (.ixsl 1 (.t 21) (.t 22)), none, [0, 1]⟩, ⟨(some 24), (.ld false 1 (.t 23)), none, [2]⟩, ⟨(some 25), (.call 60 [(.t 24)]), none, [3]⟩, ⟨(some 8), (.alloc 82 11 [(.int .i64 0), (.int .i64 0), (.int .i64 0), (.int .i64 0), (.int .i64 0), (.int .i64 0), (.int .i64 0), (.int .i64 0), (.int .i64 0), (.int .i64 0), (.int .i64 0)]), none, []⟩, ⟨none, (.st 11 (.t 8) (.t 25)), none, [5, 4, 4, 0, 1, 2, 3, 4, 5]⟩] false) (.seq (.reg [⟨(some 26), (.ld true 3 (.t 6)), none, []⟩, ⟨(some 27), (.fa 1 (.t 8)), none, []⟩, ⟨(some 28), (.ld true 3 (.t 27)), none, [1]⟩, ⟨(some 29), (.call 61 [(.t 26), (.t 28)]), none, [0, 2]⟩, ⟨(some 9), (.alloc 80 3 [(.int .i64 0), (.int .i64 0), (.int .i64 0)]), none, []⟩, ⟨none, (.st 3 (.t 9) (.t 29)), none, [4, 3, 3, 0, 1, 2, 3, 4]⟩] false) (.seq (.reg [⟨(some 30), (.ld true 3 (.t 6)), none, []⟩, ⟨(some 31), (.fa 1 (.t 8)), none, [0]⟩, ⟨none, (.st 3 (.t 31) (.t 30)), none, [1, 0, 0]⟩] false) (.seq (.reg [⟨(some 32), (.fa 4 (.t 8)), none, []⟩, ⟨(some 33), (.ld true 3 (.t 32)), none, [0]⟩, ⟨(some 34), (.ld true 3 (.t 9)), none, []⟩, ⟨(some 35), (.call 62 [(.t 33), (.t 34)]), none, [1, 2]⟩, ⟨(some 36), (.fa 4 (.t 8)), none, [0, 1, 2, 3]⟩, ⟨none, (.st 3 (.t 36) (.t 35)), none, [4, 3, 3, 0, 1, 2, 3]⟩] false) (.seq (.seq (.reg [⟨(some 37), (.fa 0 (.t 8)), none, []⟩, ⟨(some 38), (.ld false 1 (.t 37)), none, [0]⟩, ⟨(some 39), (.bin .eql (.t 38) (.c (.int .i64 3))), none, [1]⟩] false) (.cond (.t 39) (.reg [⟨(some 40), (.fa 7 (.t 8)), none, []⟩, ⟨(some 41), (.ld true 3 (.t 40)), none, [0]⟩, ⟨(some 42), (.ld true 3 (.t 9)), none, []⟩, ⟨(some 43), (.call 62 [(.t 41), (.t 42)]), none, [1, 2]⟩, ⟨(some 44), (.fa 7 (.t 8)), none, [0, 1, 2, 3]⟩, ⟨none, (.st 3 (.t 44) (.t 43)), none, [4, 3, 3, 0, 1, 2, 3]⟩] false) .skip)) (.seq (.seq (.reg [⟨(some 45), (.ld true 11 (.t 8)), none, []⟩, ⟨(some 46), (.call 55 [(.t 45)]), none, [0]⟩, ⟨(some 47), (.bin .neq (.t 46) (.c (.int .i64 0))), none, [1]⟩] false) (.cond (.t 47) (.reg [⟨(some 48), (.ld true 3 (.t 6)), none, []⟩, ⟨(some 49), (.fa 1 (.t 6)), none, []⟩, ⟨(some 50), (.ld false 1 (.t 49)), none, [1]⟩, ⟨(some 51), (.un .neg (.t 50)), none, [2]⟩, ⟨(some 52), (.fa 0 (.t 6)), none, []⟩, ⟨(some 53), (.ld false 1 (.t 52)), none, [4]⟩, ⟨(some 54), (.bin .quo (.t 53) (.c (.int .i64 2))), none, [5]⟩, ⟨(some 55), (.bin .add (.c (.int .i64 1)) (.t 54)), none, [6]⟩, ⟨(some 56), (.build [(.int .i64 0), (.int .i64 0), (.int .i64 0)] [(0, (1, (.t 51))), (1, (1, (.t 55)))]), none, [3, 7]⟩, ⟨(some 57), (.build [(.int .i64 0), (.int .i64 0), (.int .i64 0), (.int .i64 0), (.int .i64 0), (.int .i64 0), (.int .i64 0), (.int .i64 0), (.int .i64 0), (.int .i64 0), (.int .i64 0)] [(0, (1, (.c (.int .i64 1)))), (1, (3, (.t 48))), (4, (3, (.t 56)))]), none, [0, 8]⟩, ⟨none, (.st 11 (.t 8) (.t 57)), none, [9, 0, 1, 2, 3, 4, 5, 6, 7, 8, 9]⟩] false) .skip)) (.seq (.reg [⟨(some 58), (.ld true 11 (.t 8)), none, []⟩, ⟨(some 59), (.call 55 [(.t 58)]), none, [0]⟩, ⟨(some 60), (.bin .eql (.t 59) (.c (.int .i64 0))), none, [1]⟩] false) (.cond (.t 60) (.seq (.reg [⟨(some 61), (.mv (.t 5)), none, []⟩, ⟨(some 62), (.ld true 11 (.t 8)), none, []⟩, ⟨(some 63), (.bslice 82 11 [(.int .i64 0), (.int .i64 0), (.int .i64 0), (.int .i64 0), (.int .i64 0), (.int .i64 0), (.int .i64 0), (.int .i64 0), (.int .i64 0), (.int .i64 0), (.int .i64 0)] 1 [(0, (.t 62))]), none, [1]⟩, ⟨(some 64), (.app 82 11 88 [(.int .i64 0), (.int .i64 0), (.int .i64 0), (.int .i64 0), (.int .i64 0), (.int .i64 0), (.int .i64 0), (.int .i64 0), (.int .i64 0), (.int .i64 0), (.int .i64 0)] (.t 61) (.t 63)), none, [0, 2]⟩, ⟨(some 5), (.mv (.t 64)), none, [3, 3, 0, 1, 2, 3]⟩] false) (.reg [⟨(some 65), (.fa 4 (.t 8)), none, []⟩, ⟨(some 66), (.ld true 3 (.t 65)), none, [0]⟩, ⟨none, (.st 3 (.t 6) (.t 66)), none, [1, 0, 1]⟩] false)) .skip))))))))) (.reg [⟨(some 19), (.mv (.t 7)), none, []⟩, ⟨(some 20), (.bin .add (.t 19) (.c (.int .i64 1))), none, [0]⟩, ⟨(some 7), (.mv (.t 20)), none, [1, 0, 1]⟩] false)))))) (.seq (.reg [⟨(some 67), (.mv (.t 5)), none, []⟩, ⟨(some 4), (.mv (.t 67)), none, [0, 0]⟩] false) .ret)))))
theorem mcOkc53 : (match Try.f53.body with | some c => compC Try.prog 68 c | none => none) = some mcc53 := by kernel_rfl

set_option maxHeartbeats 1000000 in
theorem gc53 (ls : List (List Int)) (hls : ∀ L ∈ ls, L.length ≤ 4611686018427387904) (hl : ls.length ≤ 4611686018427387904) : FC Try.prog 53 [.rs 1 (ls.map cL), .agg [iv 0, iv 0, iv 0]] [] (mvs (movS ls)) [] false := by
  refine fc_run (nt := 68) Try.func53 rfl rfl mcOkc53 (Nat.le_of_ble_eq_true rfl) ?_
  delta mcc53
  refine aw_seq ?_
  refine aw_reg ?_
  refine rs_box rfl rfl rfl rfl rfl rfl ?_
  refine rs_mv rfl rfl ?_
  refine rs_nil fun _ => ?_
  refine th_n ?_
  refine aw_seq ?_
  refine aw_reg ?_
  refine rs_mv rfl rfl ?_
  refine rs_nil fun _ => ?_
  refine th_n ?_
  refine aw_seq ?_
  refine aw_reg ?_
  refine rs_ld_pa rfl rfl rfl rfl (Nat.le_of_ble_eq_true rfl) rfl ?_
  refine rs_alloc rfl rfl rfl ?_
  refine rs_st rfl rfl rfl rfl rfl rfl rfl (Nat.le_of_ble_eq_true rfl) rfl rfl ?_
  refine rs_nil fun _ => ?_
  refine th_n ?_
  refine aw_seq ?_
  refine aw_seq ?_
  refine aw_reg ?_
  refine rs_mv rfl rfl ?_
  refine rs_nil fun _ => ?_
  refine th_n ?_
  refine aw_block ?_
  refine aw_fam (α := Nat) (fun k => ls.length + 1 - k) (fun k => [(0, .rs 1 (ls.map cL)), (5, .sl 1005 0 (mvSt ls (k)).1.length), (6, .ptr 6 0 0), (7, iv (((k) : Nat) : Int))]) (fun k => [(1005, .cells 82 11 ((mvSt ls (k)).1.map cM) true), (6, .cells 80 3 [cV (mvSt ls (k)).2] true)]) (fun k => k ≤ ls.length ∧ k ≤ 6) 0 (⟨by omega, by omega⟩)
    (weak_to (.cons rfl (rc_same rfl (.inl rfl)) (.cons rfl (rc_virt rfl rfl) (.cons rfl (rc_same rfl (.inl rfl)) (.cons rfl (rc_same rfl (.inl rfl)) (.nil))))) (.virt rfl (.keep (rfl) rfl (.nil))) (fun i h => by cases h)) ?_
  rintro k ⟨hk, hk6⟩
  have hb := mvSt_bd ls k
  have hln := mvSt_len ls k
  try dsimp only
  generalize hst : mvSt ls k = st at hb hln ⊢
  obtain ⟨o, a⟩ := st
  dsimp only at hb hln
  have hbx := hb.x
  have hby := hb.y
  have ht2 := tdiv2 (x := a.x) (by omega)
  refine aw_seq ?_
  refine aw_seq ?_
  refine aw_reg ?_
  refine rs_mv rfl rfl ?_
  refine rs_mv rfl rfl ?_
  refine rs_len_m rfl rfl ?_
  refine rs_cmp rfl rfl rfl rfl (fun h14 => ?_) (fun h14 => ?_)
  · skip
    refine rs_mv rfl rfl ?_
    refine rs_mv rfl rfl ?_
    refine rs_cmp rfl rfl rfl rfl (fun h17 => ?_) (fun h17 => ?_)
    · skip
      refine rs_pick rfl rfl rfl ?_
      refine rs_nil fun _ => ?_
      refine th_n ?_
      refine aw_cond rfl (fun _ => ?_) (fun h => by cases h)
      refine aw_skip ?_
      refine th_n ?_
      refine aw_seq ?_
      refine aw_block ?_
      refine aw_seq ?_
      refine aw_reg ?_
      refine rs_mv rfl rfl ?_
      refine rs_mv rfl rfl ?_
      obtain ⟨L, hL, hLm⟩ := at_some (L := ls) (k := k) (by omega)
      have h10 := fc10 L (hls L hLm)
      generalize hm : madeS L = m at h10
      refine rs_ix_g (f := cL) (y := L) rfl rfl rfl (by omega) hL ?_
      refine rs_ld_r rfl rfl rfl ?_
      refine rs_calln [] rfl rfl (h10) (.cons (hv_same rfl) (.nil)) rfl ?_
      refine rs_alloc rfl rfl rfl ?_
      refine rs_st rfl rfl rfl rfl rfl rfl rfl (Nat.le_of_ble_eq_true rfl) rfl rfl ?_
      refine rs_nil fun _ => ?_
      refine th_n ?_
      refine aw_seq ?_
      refine aw_reg ?_
      refine rs_ld_pa rfl rfl rfl rfl (Nat.le_of_ble_eq_true rfl) rfl ?_
      refine rs_fa_p rfl rfl ?_
      refine rs_ld_pa rfl rfl rfl rfl (Nat.le_of_ble_eq_true rfl) rfl ?_
      refine rs_calln [] rfl rfl (fc50 a m.fr) (.cons (hv_same rfl) (.cons (hv_same rfl) (.nil))) rfl ?_
      refine rs_alloc rfl rfl rfl ?_
      refine rs_st rfl rfl rfl rfl rfl rfl rfl (Nat.le_of_ble_eq_true rfl) rfl rfl ?_
      refine rs_nil fun _ => ?_
      refine th_n ?_
      refine aw_seq ?_
      refine aw_reg ?_
      refine rs_ld_pa rfl rfl rfl rfl (Nat.le_of_ble_eq_true rfl) rfl ?_
      refine rs_fa_p rfl rfl ?_
      refine rs_st rfl rfl rfl rfl rfl rfl rfl (Nat.le_of_ble_eq_true rfl) rfl rfl ?_
      refine rs_nil fun _ => ?_
      refine th_n ?_
      refine aw_seq ?_
      refine aw_reg ?_
      refine rs_fa_p rfl rfl ?_
      refine rs_ld_pa rfl rfl rfl rfl (Nat.le_of_ble_eq_true rfl) rfl ?_
      refine rs_ld_pa rfl rfl rfl rfl (Nat.le_of_ble_eq_true rfl) rfl ?_
      refine rs_calln [] rfl rfl (fc57 m.to (subW a m.fr)) (.cons (hv_same rfl) (.cons (hv_same rfl) (.nil))) rfl ?_
      refine rs_fa_p rfl rfl ?_
      refine rs_st rfl rfl rfl rfl rfl rfl rfl (Nat.le_of_ble_eq_true rfl) rfl rfl ?_
      refine rs_nil fun _ => ?_
      refine th_n ?_
      refine aw_seq ?_
      refine aw_seq ?_
      refine aw_weak (F0 := [(0, .rs 1 (ls.map cL)), (5, .sl 1005 0 o.length), (6, .ptr 6 0 0), (7, iv (((k) : Nat) : Int)), (8, .ptr 8 0 0), (9, .ptr 9 0 0)]) (H0 := [(1005, .cells 82 11 (o.map cM) true), (6, .cells 80 3 [cV a] true), (8, .cells 82 11 [cM ⟨m.kind, a, addW m.to (subW a m.fr), m.co, m.feed⟩] true), (9, .cells 80 3 [cV (subW a m.fr)] true)]) (weak_to (.cons rfl (rc_same rfl (.inl rfl)) (.cons rfl (rc_same rfl (.inl rfl)) (.cons rfl (rc_same rfl (.inl rfl)) (.cons rfl (rc_same rfl (.inl rfl)) (.cons rfl (rc_same rfl (.inl rfl)) (.cons rfl (rc_same rfl (.inl rfl)) (.nil))))))) (.keep (rfl) rfl (.keep (rfl) rfl (.keep (rfl) rfl (.keep (rfl) rfl (.nil))))) (fun i h => by cases h)) ?_
      refine aw_reg ?_
      refine rs_fa_p rfl rfl ?_
      refine rs_ld_p rfl rfl rfl rfl rfl ?_
      refine rs_eql rfl rfl rfl ?_
      refine rs_nil fun _ => ?_
      refine th_n ?_
      refine aw_cond rfl (fun h39 => ?_) (fun h39 => ?_)
      · replace h39 := of_decide_eq_true h39
        replace h39 : m.kind = 3 := h39
        refine aw_reg ?_
        refine rs_fa_p rfl rfl ?_
        refine rs_ld_pa rfl rfl rfl rfl (Nat.le_of_ble_eq_true rfl) rfl ?_
        refine rs_ld_pa rfl rfl rfl rfl (Nat.le_of_ble_eq_true rfl) rfl ?_
        refine rs_calln [] rfl rfl (fc57 m.co (subW a m.fr)) (.cons (hv_same rfl) (.cons (hv_same rfl) (.nil))) rfl ?_
        refine rs_fa_p rfl rfl ?_
        refine rs_st rfl rfl rfl rfl rfl rfl rfl (Nat.le_of_ble_eq_true rfl) rfl rfl ?_
        refine rs_nil fun _ => ?_
        refine th_n ?_
        refine aw_seq ?_
        refine aw_seq ?_
        refine aw_weak (F0 := [(0, .rs 1 (ls.map cL)), (5, .sl 1005 0 o.length), (6, .ptr 6 0 0), (7, iv (((k) : Nat) : Int)), (8, .ptr 8 0 0)]) (H0 := [(1005, .cells 82 11 (o.map cM) true), (6, .cells 80 3 [cV a] true), (8, .cells 82 11 [cM (mvB m a)] true)]) (weak_to (.cons rfl (rc_same rfl (.inl rfl)) (.cons rfl (rc_same rfl (.inl rfl)) (.cons rfl (rc_same rfl (.inl rfl)) (.cons rfl (rc_same rfl (.inl rfl)) (.cons rfl (rc_same rfl (.inl rfl)) (.nil)))))) (.keep (rfl) rfl (.keep (rfl) rfl (.keep ((by first | (rw [mvB_3 (a := a) h39]; rfl) | (rw [mvB_n (a := a) h39]; rfl))) rfl (.nil)))) (fun i h => by cases h)) ?_
        refine aw_reg ?_
        refine rs_ld_pa rfl rfl rfl rfl (Nat.le_of_ble_eq_true rfl) rfl ?_
        refine rs_calln [] rfl rfl (fc13c (mvB m a)) (.cons (hv_same rfl) (.nil)) rfl ?_
        refine rs_neq rfl rfl rfl ?_
        refine rs_nil fun _ => ?_
        refine th_n ?_
        refine aw_cond rfl (fun h47 => ?_) (fun h47 => ?_)
        · replace h47 := of_decide_eq_true h47
          replace h47 : ¬ checkS (mvB m a) = 0 := h47
          refine aw_reg ?_
          refine rs_ld_pa rfl rfl rfl rfl (Nat.le_of_ble_eq_true rfl) rfl ?_
          refine rs_fa_p rfl rfl ?_
          refine rs_ld_p rfl rfl rfl rfl rfl ?_
          refine rs_neg rfl rfl (by omega) ?_
          refine rs_fa_p rfl rfl ?_
          refine rs_ld_p rfl rfl rfl rfl rfl ?_
          refine rs_quow rfl rfl rfl (by decide) (W_eq (by omega)) ?_
          refine rs_add rfl rfl rfl (by omega) ?_
          refine rs_build rfl rfl ?_
          refine rs_build rfl rfl ?_
          refine rs_st rfl rfl rfl rfl rfl rfl rfl (Nat.le_of_ble_eq_true rfl) rfl rfl ?_
          refine rs_nil fun _ => ?_
          refine th_n ?_
          refine aw_seq ?_
          refine aw_weak (F0 := [(0, .rs 1 (ls.map cL)), (5, .sl 1005 0 o.length), (6, .ptr 6 0 0), (7, iv (((k) : Nat) : Int)), (8, .ptr 8 0 0)]) (H0 := [(1005, .cells 82 11 (o.map cM) true), (6, .cells 80 3 [cV a] true), (8, .cells 82 11 [cM (mvC m a)] true)]) (weak_to (.cons rfl (rc_same rfl (.inl rfl)) (.cons rfl (rc_same rfl (.inl rfl)) (.cons rfl (rc_same rfl (.inl rfl)) (.cons rfl (rc_same rfl (.inl rfl)) (.cons rfl (rc_same rfl (.inl rfl)) (.nil)))))) (.keep (rfl) rfl (.keep (rfl) rfl (.keep ((by first | (rw [mvC_bad (a := a) h47]; rfl) | (rw [mvC_ok (a := a) h47]; rfl))) rfl (.nil)))) (fun i h => by cases h)) ?_
          refine aw_reg ?_
          refine rs_ld_pa rfl rfl rfl rfl (Nat.le_of_ble_eq_true rfl) rfl ?_
          refine rs_calln [] rfl rfl (fc13c (mvC m a)) (.cons (hv_same rfl) (.nil)) rfl ?_
          refine rs_eql rfl rfl rfl ?_
          refine rs_nil fun _ => ?_
          refine th_n ?_
          refine aw_cond rfl (fun h60 => ?_) (fun h60 => ?_)
          · replace h60 := of_decide_eq_true h60
            refine aw_seq ?_
            refine aw_reg ?_
            refine rs_mv rfl rfl ?_
            refine rs_ld_pa rfl rfl rfl rfl (Nat.le_of_ble_eq_true rfl) rfl ?_
            refine rs_bslice (l := [mvC m a].flatMap cM) (els := [mvC m a].map cM) (fl := true) rfl (by kernel_rfl) rfl rfl (by kernel_rfl) (by kernel_rfl) ?_
            refine rs_app_m (f := cM) (xs := o) (y := mvC m a) (fl' := true) rfl rfl rfl rfl rfl rfl rfl rfl (by decide) rfl (by omega) (by omega) rfl ?_
            refine rs_mv rfl rfl ?_
            refine rs_nil fun _ => ?_
            refine th_n ?_
            refine aw_reg ?_
            refine rs_fa_p rfl rfl ?_
            refine rs_ld_pa rfl rfl rfl rfl (Nat.le_of_ble_eq_true rfl) rfl ?_
            refine rs_st rfl rfl rfl rfl rfl rfl rfl (Nat.le_of_ble_eq_true rfl) rfl rfl ?_
            refine rs_nil fun _ => ?_
            refine in_n ?_
            refine th_n ?_
            refine aw_reg ?_
            refine rs_mv rfl rfl ?_
            refine rs_add rfl rfl rfl (by omega) ?_
            refine rs_mv rfl rfl ?_
            refine rs_nil fun _ => ?_
            refine th_n ?_
            (have hs := mvSt_y hL (by rw [hst, hm]; exact h60)
             rw [hst, hm] at hs
             dsimp only at hs
             refine ⟨k + 1, ⟨by omega, by omega⟩, by omega, ?_⟩
             rw [hs]
             exact weak_to_ren (i := 64) (i' := 1005) (F1 := [(0, .rs 1 (ls.map cL)), (5, .sl 64 0 (o ++ [mvC m a]).length), (6, .ptr 6 0 0), (7, iv (((k + 1) : Nat) : Int))]) (H1 := [(64, .cells 82 11 ((o ++ [mvC m a]).map cM) true), (6, .cells 80 3 [cV (mvC m a).to] true)]) (.cons rfl (rc_same rfl (.inl rfl)) (.cons rfl (rc_eq (by rw [List.length_append]; rfl) rfl) (.cons rfl (rc_same rfl (.inl rfl)) (.cons rfl (rc_same rfl (.inl rfl)) (.nil))))) (.keep (rfl) rfl (.keep (rfl) rfl (.nil))) (fun i h => by cases h) rfl rfl (.cons rfl (.same _) (.cons rfl (.sl _ _) (.cons rfl (.same _) (.cons rfl (.same _) (.nil))))) (.cons rfl (rc_same rfl (.inl rfl)) (.cons rfl (rc_same rfl (.inl rfl)) (.cons rfl (rc_same rfl (.inl rfl)) (.cons rfl (rc_same rfl (.inl rfl)) (.nil))))) (.keep (rfl) rfl (.keep (rfl) rfl (.nil))) (fun i h => by cases h))
          · replace h60 := of_decide_eq_false h60
            refine aw_skip ?_
            refine in_n ?_
            refine th_n ?_
            refine aw_reg ?_
            refine rs_mv rfl rfl ?_
            refine rs_add rfl rfl rfl (by omega) ?_
            refine rs_mv rfl rfl ?_
            refine rs_nil fun _ => ?_
            refine th_n ?_
            (have hs := mvSt_n hL (by rw [hst, hm]; exact h60)
             rw [hst] at hs
             refine ⟨k + 1, ⟨by omega, by omega⟩, by omega, ?_⟩
             rw [hs]
             exact weak_to (.cons rfl (rc_same rfl (.inl rfl)) (.cons rfl (rc_same rfl (.inl rfl)) (.cons rfl (rc_same rfl (.inl rfl)) (.cons rfl (rc_same rfl (.inl rfl)) (.nil))))) (.keep (rfl) rfl (.keep (rfl) rfl (.nil))) (fun i h => by cases h))
        · replace h47 := of_decide_eq_false h47
          replace h47 : checkS (mvB m a) = 0 := by simpa using h47
          refine aw_skip ?_
          refine th_n ?_
          refine aw_seq ?_
          refine aw_weak (F0 := [(0, .rs 1 (ls.map cL)), (5, .sl 1005 0 o.length), (6, .ptr 6 0 0), (7, iv (((k) : Nat) : Int)), (8, .ptr 8 0 0)]) (H0 := [(1005, .cells 82 11 (o.map cM) true), (6, .cells 80 3 [cV a] true), (8, .cells 82 11 [cM (mvC m a)] true)]) (weak_to (.cons rfl (rc_same rfl (.inl rfl)) (.cons rfl (rc_same rfl (.inl rfl)) (.cons rfl (rc_same rfl (.inl rfl)) (.cons rfl (rc_same rfl (.inl rfl)) (.cons rfl (rc_same rfl (.inl rfl)) (.nil)))))) (.keep (rfl) rfl (.keep (rfl) rfl (.keep ((by first | (rw [mvC_bad (a := a) h47]; rfl) | (rw [mvC_ok (a := a) h47]; rfl))) rfl (.nil)))) (fun i h => by cases h)) ?_
          refine aw_reg ?_
          refine rs_ld_pa rfl rfl rfl rfl (Nat.le_of_ble_eq_true rfl) rfl ?_
          refine rs_calln [] rfl rfl (fc13c (mvC m a)) (.cons (hv_same rfl) (.nil)) rfl ?_
          refine rs_eql rfl rfl rfl ?_
          refine rs_nil fun _ => ?_
          refine th_n ?_
          refine aw_cond rfl (fun h60 => ?_) (fun h60 => ?_)
          · replace h60 := of_decide_eq_true h60
            refine aw_seq ?_
            refine aw_reg ?_
            refine rs_mv rfl rfl ?_
            refine rs_ld_pa rfl rfl rfl rfl (Nat.le_of_ble_eq_true rfl) rfl ?_
            refine rs_bslice (l := [mvC m a].flatMap cM) (els := [mvC m a].map cM) (fl := true) rfl (by kernel_rfl) rfl rfl (by kernel_rfl) (by kernel_rfl) ?_
            refine rs_app_m (f := cM) (xs := o) (y := mvC m a) (fl' := true) rfl rfl rfl rfl rfl rfl rfl rfl (by decide) rfl (by omega) (by omega) rfl ?_
            refine rs_mv rfl rfl ?_
            refine rs_nil fun _ => ?_
            refine th_n ?_
            refine aw_reg ?_
            refine rs_fa_p rfl rfl ?_
            refine rs_ld_pa rfl rfl rfl rfl (Nat.le_of_ble_eq_true rfl) rfl ?_
            refine rs_st rfl rfl rfl rfl rfl rfl rfl (Nat.le_of_ble_eq_true rfl) rfl rfl ?_
            refine rs_nil fun _ => ?_
            refine in_n ?_
            refine th_n ?_
            refine aw_reg ?_
            refine rs_mv rfl rfl ?_
            refine rs_add rfl rfl rfl (by omega) ?_
            refine rs_mv rfl rfl ?_
            refine rs_nil fun _ => ?_
            refine th_n ?_
            (have hs := mvSt_y hL (by rw [hst, hm]; exact h60)
             rw [hst, hm] at hs
             dsimp only at hs
             refine ⟨k + 1, ⟨by omega, by omega⟩, by omega, ?_⟩
             rw [hs]
             exact weak_to_ren (i := 64) (i' := 1005) (F1 := [(0, .rs 1 (ls.map cL)), (5, .sl 64 0 (o ++ [mvC m a]).length), (6, .ptr 6 0 0), (7, iv (((k + 1) : Nat) : Int))]) (H1 := [(64, .cells 82 11 ((o ++ [mvC m a]).map cM) true), (6, .cells 80 3 [cV (mvC m a).to] true)]) (.cons rfl (rc_same rfl (.inl rfl)) (.cons rfl (rc_eq (by rw [List.length_append]; rfl) rfl) (.cons rfl (rc_same rfl (.inl rfl)) (.cons rfl (rc_same rfl (.inl rfl)) (.nil))))) (.keep (rfl) rfl (.keep (rfl) rfl (.nil))) (fun i h => by cases h) rfl rfl (.cons rfl (.same _) (.cons rfl (.sl _ _) (.cons rfl (.same _) (.cons rfl (.same _) (.nil))))) (.cons rfl (rc_same rfl (.inl rfl)) (.cons rfl (rc_same rfl (.inl rfl)) (.cons rfl (rc_same rfl (.inl rfl)) (.cons rfl (rc_same rfl (.inl rfl)) (.nil))))) (.keep (rfl) rfl (.keep (rfl) rfl (.nil))) (fun i h => by cases h))
          · replace h60 := of_decide_eq_false h60
            refine aw_skip ?_
            refine in_n ?_
            refine th_n ?_
            refine aw_reg ?_
            refine rs_mv rfl rfl ?_
            refine rs_add rfl rfl rfl (by omega) ?_
            refine rs_mv rfl rfl ?_
            refine rs_nil fun _ => ?_
            refine th_n ?_
            (have hs := mvSt_n hL (by rw [hst, hm]; exact h60)
             rw [hst] at hs
             refine ⟨k + 1, ⟨by omega, by omega⟩, by omega, ?_⟩
             rw [hs]
             exact weak_to (.cons rfl (rc_same rfl (.inl rfl)) (.cons rfl (rc_same rfl (.inl rfl)) (.cons rfl (rc_same rfl (.inl rfl)) (.cons rfl (rc_same rfl (.inl rfl)) (.nil))))) (.keep (rfl) rfl (.keep (rfl) rfl (.nil))) (fun i h => by cases h))
      · replace h39 := of_decide_eq_false h39
        replace h39 : ¬ m.kind = 3 := h39
        refine aw_skip ?_
        refine th_n ?_
        refine aw_seq ?_
        refine aw_seq ?_
        refine aw_weak (F0 := [(0, .rs 1 (ls.map cL)), (5, .sl 1005 0 o.length), (6, .ptr 6 0 0), (7, iv (((k) : Nat) : Int)), (8, .ptr 8 0 0)]) (H0 := [(1005, .cells 82 11 (o.map cM) true), (6, .cells 80 3 [cV a] true), (8, .cells 82 11 [cM (mvB m a)] true)]) (weak_to (.cons rfl (rc_same rfl (.inl rfl)) (.cons rfl (rc_same rfl (.inl rfl)) (.cons rfl (rc_same rfl (.inl rfl)) (.cons rfl (rc_same rfl (.inl rfl)) (.cons rfl (rc_same rfl (.inl rfl)) (.nil)))))) (.keep (rfl) rfl (.keep (rfl) rfl (.keep ((by first | (rw [mvB_3 (a := a) h39]; rfl) | (rw [mvB_n (a := a) h39]; rfl))) rfl (.nil)))) (fun i h => by cases h)) ?_
        refine aw_reg ?_
        refine rs_ld_pa rfl rfl rfl rfl (Nat.le_of_ble_eq_true rfl) rfl ?_
        refine rs_calln [] rfl rfl (fc13c (mvB m a)) (.cons (hv_same rfl) (.nil)) rfl ?_
        refine rs_neq rfl rfl rfl ?_
        refine rs_nil fun _ => ?_
        refine th_n ?_
        refine aw_cond rfl (fun h47 => ?_) (fun h47 => ?_)
        · replace h47 := of_decide_eq_true h47
          replace h47 : ¬ checkS (mvB m a) = 0 := h47
          refine aw_reg ?_
          refine rs_ld_pa rfl rfl rfl rfl (Nat.le_of_ble_eq_true rfl) rfl ?_
          refine rs_fa_p rfl rfl ?_
          refine rs_ld_p rfl rfl rfl rfl rfl ?_
          refine rs_neg rfl rfl (by omega) ?_
          refine rs_fa_p rfl rfl ?_
          refine rs_ld_p rfl rfl rfl rfl rfl ?_
          refine rs_quow rfl rfl rfl (by decide) (W_eq (by omega)) ?_
          refine rs_add rfl rfl rfl (by omega) ?_
          refine rs_build rfl rfl ?_
          refine rs_build rfl rfl ?_
          refine rs_st rfl rfl rfl rfl rfl rfl rfl (Nat.le_of_ble_eq_true rfl) rfl rfl ?_
          refine rs_nil fun _ => ?_
          refine th_n ?_
          refine aw_seq ?_
          refine aw_weak (F0 := [(0, .rs 1 (ls.map cL)), (5, .sl 1005 0 o.length), (6, .ptr 6 0 0), (7, iv (((k) : Nat) : Int)), (8, .ptr 8 0 0)]) (H0 := [(1005, .cells 82 11 (o.map cM) true), (6, .cells 80 3 [cV a] true), (8, .cells 82 11 [cM (mvC m a)] true)]) (weak_to (.cons rfl (rc_same rfl (.inl rfl)) (.cons rfl (rc_same rfl (.inl rfl)) (.cons rfl (rc_same rfl (.inl rfl)) (.cons rfl (rc_same rfl (.inl rfl)) (.cons rfl (rc_same rfl (.inl rfl)) (.nil)))))) (.keep (rfl) rfl (.keep (rfl) rfl (.keep ((by first | (rw [mvC_bad (a := a) h47]; rfl) | (rw [mvC_ok (a := a) h47]; rfl))) rfl (.nil)))) (fun i h => by cases h)) ?_
          refine aw_reg ?_
          refine rs_ld_pa rfl rfl rfl rfl (Nat.le_of_ble_eq_true rfl) rfl ?_
          refine rs_calln [] rfl rfl (fc13c (mvC m a)) (.cons (hv_same rfl) (.nil)) rfl ?_
          refine rs_eql rfl rfl rfl ?_
          refine rs_nil fun _ => ?_
          refine th_n ?_
          refine aw_cond rfl (fun h60 => ?_) (fun h60 => ?_)
          · replace h60 := of_decide_eq_true h60
            refine aw_seq ?_
            refine aw_reg ?_
            refine rs_mv rfl rfl ?_
            refine rs_ld_pa rfl rfl rfl rfl (Nat.le_of_ble_eq_true rfl) rfl ?_
            refine rs_bslice (l := [mvC m a].flatMap cM) (els := [mvC m a].map cM) (fl := true) rfl (by kernel_rfl) rfl rfl (by kernel_rfl) (by kernel_rfl) ?_
            refine rs_app_m (f := cM) (xs := o) (y := mvC m a) (fl' := true) rfl rfl rfl rfl rfl rfl rfl rfl (by decide) rfl (by omega) (by omega) rfl ?_
            refine rs_mv rfl rfl ?_
            refine rs_nil fun _ => ?_
            refine th_n ?_
            refine aw_reg ?_
            refine rs_fa_p rfl rfl ?_
            refine rs_ld_pa rfl rfl rfl rfl (Nat.le_of_ble_eq_true rfl) rfl ?_
            refine rs_st rfl rfl rfl rfl rfl rfl rfl (Nat.le_of_ble_eq_true rfl) rfl rfl ?_
            refine rs_nil fun _ => ?_
            refine in_n ?_
            refine th_n ?_
            refine aw_reg ?_
            refine rs_mv rfl rfl ?_
            refine rs_add rfl rfl rfl (by omega) ?_
            refine rs_mv rfl rfl ?_
            refine rs_nil fun _ => ?_
            refine th_n ?_
            (have hs := mvSt_y hL (by rw [hst, hm]; exact h60)
             rw [hst, hm] at hs
             dsimp only at hs
             refine ⟨k + 1, ⟨by omega, by omega⟩, by omega, ?_⟩
             rw [hs]
             exact weak_to_ren (i := 64) (i' := 1005) (F1 := [(0, .rs 1 (ls.map cL)), (5, .sl 64 0 (o ++ [mvC m a]).length), (6, .ptr 6 0 0), (7, iv (((k + 1) : Nat) : Int))]) (H1 := [(64, .cells 82 11 ((o ++ [mvC m a]).map cM) true), (6, .cells 80 3 [cV (mvC m a).to] true)]) (.cons rfl (rc_same rfl (.inl rfl)) (.cons rfl (rc_eq (by rw [List.length_append]; rfl) rfl) (.cons rfl (rc_same rfl (.inl rfl)) (.cons rfl (rc_same rfl (.inl rfl)) (.nil))))) (.keep (rfl) rfl (.keep (rfl) rfl (.nil))) (fun i h => by cases h) rfl rfl (.cons rfl (.same _) (.cons rfl (.sl _ _) (.cons rfl (.same _) (.cons rfl (.same _) (.nil))))) (.cons rfl (rc_same rfl (.inl rfl)) (.cons rfl (rc_same rfl (.inl rfl)) (.cons rfl (rc_same rfl (.inl rfl)) (.cons rfl (rc_same rfl (.inl rfl)) (.nil))))) (.keep (rfl) rfl (.keep (rfl) rfl (.nil))) (fun i h => by cases h))
          · replace h60 := of_decide_eq_false h60
            refine aw_skip ?_
            refine in_n ?_
            refine th_n ?_
            refine aw_reg ?_
            refine rs_mv rfl rfl ?_
            refine rs_add rfl rfl rfl (by omega) ?_
            refine rs_mv rfl rfl ?_
            refine rs_nil fun _ => ?_
            refine th_n ?_
            (have hs := mvSt_n hL (by rw [hst, hm]; exact h60)
             rw [hst] at hs
             refine ⟨k + 1, ⟨by omega, by omega⟩, by omega, ?_⟩
             rw [hs]
             exact weak_to (.cons rfl (rc_same rfl (.inl rfl)) (.cons rfl (rc_same rfl (.inl rfl)) (.cons rfl (rc_same rfl (.inl rfl)) (.cons rfl (rc_same rfl (.inl rfl)) (.nil))))) (.keep (rfl) rfl (.keep (rfl) rfl (.nil))) (fun i h => by cases h))
        · replace h47 := of_decide_eq_false h47
          replace h47 : checkS (mvB m a) = 0 := by simpa using h47
          refine aw_skip ?_
          refine th_n ?_
          refine aw_seq ?_
          refine aw_weak (F0 := [(0, .rs 1 (ls.map cL)), (5, .sl 1005 0 o.length), (6, .ptr 6 0 0), (7, iv (((k) : Nat) : Int)), (8, .ptr 8 0 0)]) (H0 := [(1005, .cells 82 11 (o.map cM) true), (6, .cells 80 3 [cV a] true), (8, .cells 82 11 [cM (mvC m a)] true)]) (weak_to (.cons rfl (rc_same rfl (.inl rfl)) (.cons rfl (rc_same rfl (.inl rfl)) (.cons rfl (rc_same rfl (.inl rfl)) (.cons rfl (rc_same rfl (.inl rfl)) (.cons rfl (rc_same rfl (.inl rfl)) (.nil)))))) (.keep (rfl) rfl (.keep (rfl) rfl (.keep ((by first | (rw [mvC_bad (a := a) h47]; rfl) | (rw [mvC_ok (a := a) h47]; rfl))) rfl (.nil)))) (fun i h => by cases h)) ?_
          refine aw_reg ?_
          refine rs_ld_pa rfl rfl rfl rfl (Nat.le_of_ble_eq_true rfl) rfl ?_
          refine rs_calln [] rfl rfl (fc13c (mvC m a)) (.cons (hv_same rfl) (.nil)) rfl ?_
          refine rs_eql rfl rfl rfl ?_
          refine rs_nil fun _ => ?_
          refine th_n ?_
          refine aw_cond rfl (fun h60 => ?_) (fun h60 => ?_)
          · replace h60 := of_decide_eq_true h60
            refine aw_seq ?_
            refine aw_reg ?_
            refine rs_mv rfl rfl ?_
            refine rs_ld_pa rfl rfl rfl rfl (Nat.le_of_ble_eq_true rfl) rfl ?_
            refine rs_bslice (l := [mvC m a].flatMap cM) (els := [mvC m a].map cM) (fl := true) rfl (by kernel_rfl) rfl rfl (by kernel_rfl) (by kernel_rfl) ?_
            refine rs_app_m (f := cM) (xs := o) (y := mvC m a) (fl' := true) rfl rfl rfl rfl rfl rfl rfl rfl (by decide) rfl (by omega) (by omega) rfl ?_
            refine rs_mv rfl rfl ?_
            refine rs_nil fun _ => ?_
            refine th_n ?_
            refine aw_reg ?_
            refine rs_fa_p rfl rfl ?_
            refine rs_ld_pa rfl rfl rfl rfl (Nat.le_of_ble_eq_true rfl) rfl ?_
            refine rs_st rfl rfl rfl rfl rfl rfl rfl (Nat.le_of_ble_eq_true rfl) rfl rfl ?_
            refine rs_nil fun _ => ?_
            refine in_n ?_
            refine th_n ?_
            refine aw_reg ?_
            refine rs_mv rfl rfl ?_
            refine rs_add rfl rfl rfl (by omega) ?_
            refine rs_mv rfl rfl ?_
            refine rs_nil fun _ => ?_
            refine th_n ?_
            (have hs := mvSt_y hL (by rw [hst, hm]; exact h60)
             rw [hst, hm] at hs
             dsimp only at hs
             refine ⟨k + 1, ⟨by omega, by omega⟩, by omega, ?_⟩
             rw [hs]
             exact weak_to_ren (i := 64) (i' := 1005) (F1 := [(0, .rs 1 (ls.map cL)), (5, .sl 64 0 (o ++ [mvC m a]).length), (6, .ptr 6 0 0), (7, iv (((k + 1) : Nat) : Int))]) (H1 := [(64, .cells 82 11 ((o ++ [mvC m a]).map cM) true), (6, .cells 80 3 [cV (mvC m a).to] true)]) (.cons rfl (rc_same rfl (.inl rfl)) (.cons rfl (rc_eq (by rw [List.length_append]; rfl) rfl) (.cons rfl (rc_same rfl (.inl rfl)) (.cons rfl (rc_same rfl (.inl rfl)) (.nil))))) (.keep (rfl) rfl (.keep (rfl) rfl (.nil))) (fun i h => by cases h) rfl rfl (.cons rfl (.same _) (.cons rfl (.sl _ _) (.cons rfl (.same _) (.cons rfl (.same _) (.nil))))) (.cons rfl (rc_same rfl (.inl rfl)) (.cons rfl (rc_same rfl (.inl rfl)) (.cons rfl (rc_same rfl (.inl rfl)) (.cons rfl (rc_same rfl (.inl rfl)) (.nil))))) (.keep (rfl) rfl (.keep (rfl) rfl (.nil))) (fun i h => by cases h))
          · replace h60 := of_decide_eq_false h60
            refine aw_skip ?_
            refine in_n ?_
            refine th_n ?_
            refine aw_reg ?_
            refine rs_mv rfl rfl ?_
            refine rs_add rfl rfl rfl (by omega) ?_
            refine rs_mv rfl rfl ?_
            refine rs_nil fun _ => ?_
            refine th_n ?_
            (have hs := mvSt_n hL (by rw [hst, hm]; exact h60)
             rw [hst] at hs
             refine ⟨k + 1, ⟨by omega, by omega⟩, by omega, ?_⟩
             rw [hs]
             exact weak_to (.cons rfl (rc_same rfl (.inl rfl)) (.cons rfl (rc_same rfl (.inl rfl)) (.cons rfl (rc_same rfl (.inl rfl)) (.cons rfl (rc_same rfl (.inl rfl)) (.nil))))) (.keep (rfl) rfl (.keep (rfl) rfl (.nil))) (fun i h => by cases h))
    · skip
      refine rs_pick rfl rfl rfl ?_
      refine rs_nil fun _ => ?_
      refine th_n ?_
      refine aw_cond rfl (fun h => by cases h) (fun _ => ?_)
      refine aw_exit ?_
      refine th_e ?_
      refine th_e ?_
      refine in_hit ?_
      refine th_n ?_
      refine aw_seq ?_
      refine aw_reg ?_
      refine rs_mv rfl rfl ?_
      refine rs_mv rfl rfl ?_
      refine rs_nil fun _ => ?_
      refine th_n ?_
      refine aw_ret ?_
      have hkk : k = min ls.length 6 := by omega
      unfold movS
      rw [← hkk, hst]
      exact ret_new rfl (rc_frz rfl rfl rfl (fun _ => rfl)) .nil
  · skip
    refine rs_mv rfl rfl ?_
    refine rs_skip rfl ?_
    refine rs_skip rfl ?_
    refine rs_pick rfl rfl rfl ?_
    refine rs_nil fun _ => ?_
    refine th_n ?_
    refine aw_cond rfl (fun h => by cases h) (fun _ => ?_)
    refine aw_exit ?_
    refine th_e ?_
    refine th_e ?_
    refine in_hit ?_
    refine th_n ?_
    refine aw_seq ?_
    refine aw_reg ?_
    refine rs_mv rfl rfl ?_
    refine rs_mv rfl rfl ?_
    refine rs_nil fun _ => ?_
    refine th_n ?_
    refine aw_ret ?_
    have hkk : k = min ls.length 6 := by omega
    unfold movS
    rw [← hkk, hst]
    exact ret_new rfl (rc_frz rfl rfl rfl (fun _ => rfl)) .nil

end Go.Proofs.Ytigfcmcdjfmieaa

/-! Walks: C9. -/
namespace Go.Proofs.Ytigfcmcdjfmieaa
open Go.RowKit
set_option maxRecDepth 100000
set_option linter.unusedVariables false

/-- A path that numbers make. -/
def pthS (ls : List (List Int)) : List Mv := if movS ls = [] then [lineT] else (movS ls).take (1 + modS ((movS ls).length - 1) 3).toNat
def cutS (ls : List (List Int)) : List (List Int) := (ls.take 6).map (·.take 12)
theorem movS_len (ls : List (List Int)) : (movS ls).length ≤ 6 := by
  have := mvSt_len ls (min ls.length 6)
  unfold movS
  omega
theorem pthS_len (ls : List (List Int)) : (pthS ls).length ≤ 6 ∧ 1 ≤ (pthS ls).length := by
  have h := movS_len ls
  unfold pthS
  split
  · exact ⟨by decide, by decide⟩
  · rename_i hn
    have h1 : 1 ≤ (movS ls).length := by
      cases hm : movS ls with
      | nil => exact absurd hm hn
      | cons m l => simp
    have := modS_range ((movS ls).length - 1) 3 (by decide)
    simp only [List.length_take]
    omega
theorem pthS_ok (ls : List (List Int)) : pchk (pthS ls) = 0 := by
  have hl := (pthS_len ls).1
  unfold pchk
  rw [if_neg (by omega)]
  unfold pthS
  split
  · exact (by kernel_rfl : pcL none [lineT] = 0)
  · exact pcL_take _ _ _ (mvSt_ok ls _).1
theorem pthS_new (ls : List (List Int)) {n : Int} (h1 : 1 ≤ n) (h2 : n ≤ 100) : newB (pthS ls) n := ⟨by have := (pthS_len ls).2; omega, pthS_ok ls, h1, h2⟩
theorem step_pos {m : Mv} (h : checkS m = 0) : 1 ≤ stepsS m := by
  have := path_two h
  unfold stepsS
  omega
theorem pthS_steps (ls : List (List Int)) : 1 ≤ pstep (pthS ls) ∧ pstep (pthS ls) ≤ 1000 := by
  have h := pthS_len ls
  have hc := pthS_ok ls
  have hr := sumS_range (pthS ls)
  unfold pstep
  rw [if_pos hc]
  refine ⟨?_, by omega⟩
  have hc2 : pcL none (pthS ls) = 0 := by
    unfold pchk at hc
    rwa [if_neg (by omega)] at hc
  cases hp : pthS ls with
  | nil => rw [hp] at h; simp at h
  | cons m l =>
    have h1 := step_pos (pcL_all _ _ hc2 m (by rw [hp]; exact List.mem_cons_self))
    have h2 := (sumS_range l).1
    unfold sumS at h2 ⊢
    simp only [List.map_cons, List.sum_cons]
    omega
theorem rc_frz_al {α : Type} {f : α → List AV} {xs : List α} {H H0 : Hp} {i e z n : Nat} (h : get H i = some (.cells e z (xs.map f) true)) (h0 : get H0 i = none) (hn : xs.length = n) : RC H H0 true (.sl i 0 n) (.rs z (xs.map f)) := by
  have := rc_freeze (al := true) (j := 0) (n := n) h h0 (by simp; omega) (.inl rfl)
  rwa [List.drop_zero, List.take_of_length_le (by simp; omega)] at this
theorem cutS_succ {ls : List (List Int)} {k : Nat} {L : List Int} (h : ls[k]? = some L) : (ls.take (k + 1)).map (·.take 12) = (ls.take k).map (·.take 12) ++ [L.take 12] := by
  rw [take_succ_at h]; simp
/-- Events that a number makes. -/
def evx (x : Int) : Int × Int := (1 + x.tmod 7, if 1 + x.tmod 7 = 5 then 1 + x.tdiv 7 else 0)
def ev1 (x : Int) : List (Int × Int) := if x ≥ 64 then List.replicate (x.tmod 9).toNat (1, 0) else [evx x]
def evS (l : List Int) : List (Int × Int) := l.flatMap ev1
abbrev cE (p : Int × Int) : List AV := [iv p.1, iv p.2]
theorem evx_5 {x : Int} (h : 1 + x.tmod 7 = 5) : evx x = (1 + x.tmod 7, 1 + x.tdiv 7) := by rw [evx, if_pos h]
theorem evx_n {x : Int} (h : ¬ 1 + x.tmod 7 = 5) : evx x = (1 + x.tmod 7, 0) := by rw [evx, if_neg h]
theorem evS_succ {l : List Int} {k : Nat} {x : Int} (h : l[k]? = some x) : evS (l.take (k + 1)) = evS (l.take k) ++ ev1 x := by
  unfold evS
  rw [take_succ_at h]; simp
theorem ev1_len {x : Int} (h : 0 ≤ x ∧ x < 256) : (ev1 x).length ≤ 8 := by
  have e9 : x.tmod 9 = x % 9 := Int.tmod_eq_emod_of_nonneg h.1
  unfold ev1
  split
  · simp; omega
  · simp
theorem evS_len : ∀ (l : List Int), (∀ x ∈ l, 0 ≤ x ∧ x < 256) → (evS l).length ≤ 8 * l.length
  | [], _ => Nat.le_refl _
  | x :: l, h => by
    have h1 := ev1_len (h x List.mem_cons_self)
    have h2 := evS_len l fun y hy => h y (List.mem_cons_of_mem _ hy)
    unfold evS at h2 ⊢
    simp only [List.flatMap_cons, List.length_append, List.length_cons]
    omega

def mcc35 : MC := (.seq (.reg [⟨(some 2), (.mv (.c .nils)), none, []⟩] false) (.seq (.reg [⟨(some 4), (.mv (.t 0)), none, []⟩, ⟨(some 5), (.build [(.int .i64 0), (.int .i64 0), (.int .i64 0)] []), none, []⟩, ⟨(some 6), (.call 53 [(.t 4), (.t 5)]), none, [0, 1]⟩, ⟨(some 3), (.mv (.t 6)), none, [2, 2, 0, 1, 2]⟩] false) (.seq (.seq (.reg [⟨(some 7), (.mv (.t 3)), none, []⟩, ⟨(some 8), (.len (.t 7)), none, [0]⟩, ⟨(some 9), (.bin .eql (.t 8) (.c (.int .i64 0))), none, [1]⟩] false) (.cond (.t 9) (.seq (.reg [⟨(some 10), (.build [(.int .i64 0), (.int .i64 0), (.int .i64 0)] [(0, (1, (.c (.int .i64 10))))]), none, []⟩, ⟨(some 11), (.build [(.int .i64 0), (.int .i64 0), (.int .i64 0), (.int .i64 0), (.int .i64 0), (.int .i64 0), (.int .i64 0), (.int .i64 0), (.int .i64 0), (.int .i64 0), (.int .i64 0)] [(0, (1, (.c (.int .i64 2)))), (4, (3, (.t 10))), (10, (1, (.c (.int .i64 1))))]), none, [0]⟩, ⟨(some 12), (.bslice 82 11 [(.int .i64 0), (.int .i64 0), (.int .i64 0), (.int .i64 0), (.int .i64 0), (.int .i64 0), (.int .i64 0), (.int .i64 0), (.int .i64 0), (.int .i64 0), (.int .i64 0)] 1 [(0, (.t 11))]), none, [1]⟩, ⟨(some 2), (.mv (.t 12)), none, [2, 0, 1, 2]⟩] false) .ret) .skip)) (.seq (.reg [⟨(some 13), (.mv (.t 3)), none, []⟩, ⟨(some 14), (.mv (.t 3)), none, []⟩, ⟨(some 15), (.len (.t 14)), none, [1]⟩, ⟨(some 16), (.bin .sub (.t 15) (.c (.int .i64 1))), none, [2]⟩, ⟨(some 17), (.call 11 [(.t 16), (.c (.int .i64 3))]), none, [3]⟩, ⟨(some 18), (.bin .add (.c (.int .i64 1)) (.t 17)), none, [4]⟩, ⟨(some 19), (.slc 11 (.t 13) none (some (.t 18))), none, [0, 5]⟩, ⟨(some 2), (.mv (.t 19)), none, [6, 4, 0, 1, 2, 3, 4, 5, 6]⟩] false) .ret))))
theorem mcOkc35 : (match Try.f35.body with | some c => compC Try.prog 20 c | none => none) = some mcc35 := by kernel_rfl

theorem gc35 (ls : List (List Int)) (hls : ∀ L ∈ ls, L.length ≤ 4611686018427387904) (hl : ls.length ≤ 4611686018427387904) : FC Try.prog 35 [.rs 1 (ls.map cL)] [] (mvs (pthS ls)) [] true := by
  have hml := movS_len ls
  refine fc_run (nt := 20) Try.func35 rfl rfl mcOkc35 (Nat.le_of_ble_eq_true rfl) ?_
  delta mcc35
  refine aw_seq ?_
  refine aw_reg ?_
  refine rs_mv rfl rfl ?_
  refine rs_nil fun _ => ?_
  refine th_n ?_
  refine aw_seq ?_
  refine aw_reg ?_
  refine rs_mv rfl rfl ?_
  refine rs_build rfl rfl ?_
  refine rs_calln [] rfl rfl (gc53 ls hls hl) (.cons (hv_same rfl) (.cons (hv_same rfl) (.nil))) rfl ?_
  refine rs_mv rfl rfl ?_
  refine rs_nil fun _ => ?_
  refine th_n ?_
  refine aw_seq ?_
  refine aw_seq ?_
  refine aw_reg ?_
  refine rs_mv rfl rfl ?_
  refine rs_len_m rfl rfl ?_
  refine rs_eql rfl rfl rfl ?_
  refine rs_nil fun _ => ?_
  refine th_n ?_
  refine aw_cond rfl (fun h9 => ?_) (fun h9 => ?_)
  · replace h9 := of_decide_eq_true h9
    refine aw_seq ?_
    refine aw_reg ?_
    refine rs_build rfl rfl ?_
    refine rs_build rfl rfl ?_
    refine rs_bslice (l := ([lineT]).flatMap cM) (els := ([lineT]).map cM) (fl := true) rfl (by kernel_rfl) rfl rfl (by kernel_rfl) (by kernel_rfl) ?_
    refine rs_mv rfl rfl ?_
    refine rs_nil fun _ => ?_
    refine th_n ?_
    refine aw_ret ?_
    refine th_r ?_
    (have hx : pthS ls = [lineT] := if_pos (List.eq_nil_of_length_eq_zero (by omega))
     rw [hx]
     exact ret_new rfl (rc_frz rfl rfl rfl (fun _ => rfl)) .nil)
  · replace h9 := of_decide_eq_false h9
    refine aw_skip ?_
    refine th_n ?_
    refine aw_seq ?_
    refine aw_reg ?_
    refine rs_mv rfl rfl ?_
    refine rs_mv rfl rfl ?_
    refine rs_len_m rfl rfl ?_
    refine rs_sub rfl rfl rfl (by omega) ?_
    refine rs_calln [] rfl rfl (fc16 ((movS ls).length - 1) 3 (by decide)) (.cons (hv_same rfl) (.cons (hv_same rfl) (.nil))) rfl ?_
    have hmr := modS_range ((movS ls).length - 1) 3 (by decide)
    refine rs_add rfl rfl rfl (by omega) ?_
    refine rs_slc_r (l := 0) (q := 1 + modS ((movS ls).length - 1) 3) (els' := ((movS ls).take (1 + modS ((movS ls).length - 1) 3).toNat).map cM) rfl rfl rfl rfl rfl (by omega) (by omega) (by rw [List.length_map]; unfold modS at hmr ⊢; rw [if_neg (by decide)] at hmr ⊢; omega) (by simp) ?_
    refine rs_mv rfl rfl ?_
    refine rs_nil fun _ => ?_
    refine th_n ?_
    refine aw_ret ?_
    (have hx : pthS ls = (movS ls).take (1 + modS ((movS ls).length - 1) 3).toNat := if_neg (fun e => h9 (by rw [e]; rfl))
     rw [hx]
     exact ret_pure rfl rfl rfl (.inl rfl))

def mcc10 : MC := (.seq (.reg [⟨(some 1), (.box 24 2 (.t 0)), none, []⟩, ⟨(some 2), (.mv (.c .nils)), none, []⟩, ⟨(some 3), (.mv (.c (.int .i64 0))), none, [1]⟩] false) (.seq (.reg [⟨(some 4), (.mv (.c .nils)), none, []⟩] false) (.seq (.seq (.reg [⟨(some 5), (.mv (.c (.int .i64 0))), none, []⟩] false) (.block 0 (.loop (.seq (.seq (.reg [⟨(some 6), (.mv (.t 5)), none, []⟩, ⟨(some 7), (.fa 0 (.t 1)), none, []⟩, ⟨(some 8), (.ld false 1 (.t 7)), none, [1]⟩, ⟨(some 9), (.len (.t 8)), none, [2]⟩, ⟨(some 10), (.bin .lss (.t 6) (.t 9)), none, [0, 3]⟩, ⟨(some 11), (.mv (.t 10)), none, [4]⟩, ⟨(some 12), (.mv (.t 5)), (some (11, true)), [5]⟩, ⟨(some 13), (.bin .lss (.t 12) (.c (.int .i64 6))), (some (11, true)), [6, 5]⟩, ⟨(some 14), (.pick (.t 11) (.t 13) (.c (.bool false))), none, [5, 7]⟩] false) (.cond (.t 14) .skip (.exit 0))) (.seq (.block 1 (.reg [⟨(some 17), (.mv (.t 4)), none, []⟩, ⟨(some 18), (.fa 0 (.t 1)), none, []⟩, ⟨(some 19), (.ld false 1 (.t 18)), none, [1]⟩, ⟨(some 20), (.mv (.t 5)), none, []⟩, ⟨(some 21), (.ixsl 1 (.t 19) (.t 20)), none, [2, 3]⟩, ⟨(some 22), (.ld false 1 (.t 21)), none, [4]⟩, ⟨(some 23), (.fa 0 (.t 1)), none, []⟩, ⟨(some 24), (.ld false 1 (.t 23)), none, [6]⟩, ⟨(some 25), (.mv (.t 5)), none, []⟩, ⟨(some 26), (.ixsl 1 (.t 24) (.t 25)), none, [7, 8]⟩, ⟨(some 27), (.ld false 1 (.t 26)), none, [9]⟩, ⟨(some 28), (.len (.t 27)), none, [10]⟩, ⟨(some 29), (.mn (.t 28) (.c (.int .i64 12))), none, [11]⟩, ⟨(some 30), (.slc 1 (.t 22) none (some (.t 29))), none, [5, 12]⟩, ⟨(some 31), (.bslice 32 1 [.nils] 1 [(0, (.t 30))]), none, [13]⟩, ⟨(some 32), (.app 32 1 24 [.nils] (.t 17) (.t 31)), none, [0, 14]⟩, ⟨(some 4), (.mv (.t 32)), none, [15, 15, 0, 1, 2, 3, 4, 5, 6, 7, 8, 9, 10, 11, 12, 13, 14, 15]⟩] true)) (.reg [⟨(some 15), (.mv (.t 5)), none, []⟩, ⟨(some 16), (.bin .add (.t 15) (.c (.int .i64 1))), none, [0]⟩, ⟨(some 5), (.mv (.t 16)), none, [1, 0, 1]⟩] false)))))) (.seq (.reg [⟨(some 33), (.mv (.t 4)), none, []⟩, ⟨(some 34), (.call 35 [(.t 33)]), none, [0]⟩, ⟨(some 35), (.fa 1 (.t 1)), none, []⟩, ⟨(some 36), (.ld false 1 (.t 35)), none, [2]⟩, ⟨(some 37), (.cvt .i64 (.t 36)), none, [3]⟩, ⟨(some 38), (.bin .rem (.t 37) (.c (.int .i64 12))), none, [4]⟩, ⟨(some 39), (.bin .add (.c (.int .i64 1)) (.t 38)), none, [5]⟩, ⟨(some 2), (.mv (.t 34)), none, [1, 1, 0, 1]⟩, ⟨(some 3), (.mv (.t 39)), none, [6, 7, 0, 1, 2, 3, 4, 5, 6, 7]⟩] true) .ret))))
theorem mcOkc10 : (match Try.f10.body with | some c => compC Try.prog 40 c | none => none) = some mcc10 := by kernel_rfl

theorem gc10 (ls : List (List Int)) (e : Int) (hls : ∀ L ∈ ls, L.length ≤ 4611686018427387904) (hl : ls.length ≤ 4611686018427387904) (he : 0 ≤ e ∧ e < 256) : FC Try.prog 10 [.agg [.rs 1 (ls.map cL), .int .u8 e]] [] (.tup [mvs (pthS (cutS ls)), iv (1 + e.tmod 12)]) [] true := by
  have he12 : e.tmod 12 = e % 12 := Int.tmod_eq_emod_of_nonneg he.1
  refine fc_run (nt := 40) Try.func10 rfl rfl mcOkc10 (Nat.le_of_ble_eq_true rfl) ?_
  delta mcc10
  refine aw_seq ?_
  refine aw_reg ?_
  refine rs_box rfl rfl rfl rfl rfl rfl ?_
  refine rs_mv rfl rfl ?_
  refine rs_mv rfl rfl ?_
  refine rs_nil fun _ => ?_
  refine th_n ?_
  refine aw_seq ?_
  refine aw_reg ?_
  refine rs_mv rfl rfl ?_
  refine rs_nil fun _ => ?_
  refine th_n ?_
  refine aw_seq ?_
  refine aw_seq ?_
  refine aw_reg ?_
  refine rs_mv rfl rfl ?_
  refine rs_nil fun _ => ?_
  refine th_n ?_
  refine aw_block ?_
  refine aw_fam (α := Nat) (fun k => ls.length + 1 - k) (fun k => [(1, .ptr 1 0 0), (4, .sl 1005 0 ((ls.take (k)).map (·.take 12)).length), (5, iv (((k) : Nat) : Int))]) (fun k => [(1, .cells 24 2 [[.rs 1 (ls.map cL), .int .u8 e]] true), (1005, .cells 32 1 (((ls.take (k)).map (·.take 12)).map cL) true)]) (fun k => k ≤ ls.length ∧ k ≤ 6) 0 (⟨by omega, by omega⟩)
    (weak_to (.cons rfl (rc_same rfl (.inl rfl)) (.cons rfl (rc_virt rfl rfl) (.cons rfl (rc_same rfl (.inl rfl)) (.nil)))) (.keep (rfl) rfl (.virt rfl (.nil))) (fun i h => by cases h)) ?_
  rintro k ⟨hk, hk6⟩
  have hlk : ((ls.take (k)).map (·.take 12)).length = k := by simp; omega
  refine aw_seq ?_
  refine aw_seq ?_
  refine aw_reg ?_
  refine rs_mv rfl rfl ?_
  refine rs_fa_p rfl rfl ?_
  refine rs_ld_p rfl rfl rfl rfl rfl ?_
  refine rs_len_m rfl rfl ?_
  refine rs_cmp rfl rfl rfl rfl (fun h10 => ?_) (fun h10 => ?_)
  · skip
    refine rs_mv rfl rfl ?_
    refine rs_mv rfl rfl ?_
    refine rs_cmp rfl rfl rfl rfl (fun h13 => ?_) (fun h13 => ?_)
    · skip
      refine rs_pick rfl rfl rfl ?_
      refine rs_nil fun _ => ?_
      refine th_n ?_
      refine aw_cond rfl (fun _ => ?_) (fun h => by cases h)
      refine aw_skip ?_
      refine th_n ?_
      refine aw_seq ?_
      refine aw_block ?_
      refine aw_draw hmix ?_
      refine rs_mv rfl rfl ?_
      refine rs_fa_p rfl rfl ?_
      refine rs_ld_p rfl rfl rfl rfl rfl ?_
      refine rs_mv rfl rfl ?_
      obtain ⟨L, hL, hLm⟩ := at_some (L := ls) (k := k) (by omega)
      have hLl := hls L hLm
      refine rs_ix_g (f := cL) (y := L) rfl rfl rfl (by omega) hL ?_
      refine rs_ld_r rfl rfl rfl ?_
      refine rs_fa_p rfl rfl ?_
      refine rs_ld_p rfl rfl rfl rfl rfl ?_
      refine rs_mv rfl rfl ?_
      refine rs_ix_g (f := cL) (y := L) rfl rfl rfl (by omega) hL ?_
      refine rs_ld_r rfl rfl rfl ?_
      refine rs_len_m rfl rfl ?_
      refine rs_mn rfl rfl rfl rfl ?_
      refine rs_slc_r (l := 0) (q := min (L.length : Int) 12) (els' := (L.take 12).map ci) rfl rfl rfl rfl rfl (by omega) (by omega) (by simp; omega) (by rw [show (min (L.length : Int) 12).toNat = min L.length 12 by omega]; simp [List.take_eq_take_min, Nat.min_comm]) ?_
      refine rs_bslice (l := ([L.take 12]).flatMap cL) (els := ([L.take 12]).map cL) (fl := true) rfl (by kernel_rfl) rfl rfl (by kernel_rfl) (by kernel_rfl) ?_
      refine rs_app_m (f := cL) (xs := ((ls.take (k)).map (·.take 12))) (y := L.take 12) (fl' := true) rfl rfl rfl rfl rfl rfl rfl rfl (by decide) rfl (by omega) (by omega) rfl ?_
      refine rs_mv rfl rfl ?_
      refine rs_nil ⟨by kernel_rfl, fun _ => ?_⟩
      refine in_n ?_
      refine th_n ?_
      refine aw_reg ?_
      refine rs_mv rfl rfl ?_
      refine rs_add rfl rfl rfl (by omega) ?_
      refine rs_mv rfl rfl ?_
      refine rs_nil fun _ => ?_
      refine th_n ?_
      refine ⟨k + 1, ⟨by omega, by omega⟩, by omega, ?_⟩
      rw [cutS_succ hL]
      exact weak_to_ren (i := 32) (i' := 1005) (F1 := [(1, .ptr 1 0 0), (4, .sl 32 0 (((ls.take (k)).map (·.take 12)) ++ [L.take 12]).length), (5, iv (((k + 1) : Nat) : Int))]) (H1 := [(1, .cells 24 2 [[.rs 1 (ls.map cL), .int .u8 e]] true), (32, .cells 32 1 ((((ls.take (k)).map (·.take 12)) ++ [L.take 12]).map cL) true)]) (.cons rfl (rc_same rfl (.inl rfl)) (.cons rfl (rc_eq (by rw [List.length_append]; rfl) rfl) (.cons rfl (rc_same rfl (.inl rfl)) (.nil)))) (.keep (rfl) rfl (.keep (rfl) rfl (.nil))) (fun i h => by cases h) rfl rfl (.cons rfl (.same _) (.cons rfl (.sl _ _) (.cons rfl (.same _) (.nil)))) (.cons rfl (rc_same rfl (.inl rfl)) (.cons rfl (rc_same rfl (.inl rfl)) (.cons rfl (rc_same rfl (.inl rfl)) (.nil)))) (.keep (rfl) rfl (.keep (rfl) rfl (.nil))) (fun i h => by cases h)
    · skip
      refine rs_pick rfl rfl rfl ?_
      refine rs_nil fun _ => ?_
      refine th_n ?_
      refine aw_cond rfl (fun h => by cases h) (fun _ => ?_)
      refine aw_exit ?_
      refine th_e ?_
      refine th_e ?_
      refine in_hit ?_
      refine th_n ?_
      refine aw_seq ?_
      have hkk : ls.take k = ls.take 6 := by
        rcases Nat.lt_or_ge k 6 with h | h
        · rw [List.take_of_length_le (by omega), List.take_of_length_le (by omega)]
        · rw [show k = 6 by omega]
      have hck : ((ls.take (k)).map (·.take 12)) = cutS ls := by unfold cutS; rw [hkk]
      have hcl : (cutS ls).length = k := by rw [← hck]; exact hlk
      have hcs : ∀ L ∈ cutS ls, L.length ≤ 4611686018427387904 := fun L hL => by
        unfold cutS at hL
        obtain ⟨L0, _, rfl⟩ := List.mem_map.1 hL
        simp; omega
      rw [hck]
      refine aw_weak (F0 := [(1, .ptr 1 0 0), (4, .rs 1 ((cutS ls).map cL))]) (H0 := [(1, .cells 24 2 [[.rs 1 (ls.map cL), .int .u8 e]] true)]) (weak_to (.cons rfl (rc_same rfl (.inl rfl)) (.cons rfl (rc_frz_al rfl rfl rfl) (.nil))) (.keep (rfl) rfl (.nil)) (fun i h => by cases h)) ?_
      refine aw_draw hmix ?_
      refine rs_mv rfl rfl ?_
      refine rs_callo [] rfl rfl (gc35 (cutS ls) hcs (by omega)) (.cons (hv_same rfl) .nil) .nil rfl rfl rfl ?_
      refine rs_fa_p rfl rfl ?_
      refine rs_ld_p rfl rfl rfl rfl rfl ?_
      refine rs_cvt rfl rfl (W_eq (by omega)) ?_
      refine rs_rem rfl rfl rfl (by decide) rfl ?_
      refine rs_add rfl rfl rfl (by omega) ?_
      refine rs_mv rfl rfl ?_
      refine rs_mv rfl rfl ?_
      refine rs_nil ⟨by kernel_rfl, fun _ => ?_⟩
      refine th_n ?_
      refine aw_ret ?_
      exact ret_pure rfl rfl rfl (.inl rfl)
  · skip
    refine rs_mv rfl rfl ?_
    refine rs_skip rfl ?_
    refine rs_skip rfl ?_
    refine rs_pick rfl rfl rfl ?_
    refine rs_nil fun _ => ?_
    refine th_n ?_
    refine aw_cond rfl (fun h => by cases h) (fun _ => ?_)
    refine aw_exit ?_
    refine th_e ?_
    refine th_e ?_
    refine in_hit ?_
    refine th_n ?_
    refine aw_seq ?_
    have hkk : ls.take k = ls.take 6 := by
      rcases Nat.lt_or_ge k 6 with h | h
      · rw [List.take_of_length_le (by omega), List.take_of_length_le (by omega)]
      · rw [show k = 6 by omega]
    have hck : ((ls.take (k)).map (·.take 12)) = cutS ls := by unfold cutS; rw [hkk]
    have hcl : (cutS ls).length = k := by rw [← hck]; exact hlk
    have hcs : ∀ L ∈ cutS ls, L.length ≤ 4611686018427387904 := fun L hL => by
      unfold cutS at hL
      obtain ⟨L0, _, rfl⟩ := List.mem_map.1 hL
      simp; omega
    rw [hck]
    refine aw_weak (F0 := [(1, .ptr 1 0 0), (4, .rs 1 ((cutS ls).map cL))]) (H0 := [(1, .cells 24 2 [[.rs 1 (ls.map cL), .int .u8 e]] true)]) (weak_to (.cons rfl (rc_same rfl (.inl rfl)) (.cons rfl (rc_frz_al rfl rfl rfl) (.nil))) (.keep (rfl) rfl (.nil)) (fun i h => by cases h)) ?_
    refine aw_draw hmix ?_
    refine rs_mv rfl rfl ?_
    refine rs_callo [] rfl rfl (gc35 (cutS ls) hcs (by omega)) (.cons (hv_same rfl) .nil) .nil rfl rfl rfl ?_
    refine rs_fa_p rfl rfl ?_
    refine rs_ld_p rfl rfl rfl rfl rfl ?_
    refine rs_cvt rfl rfl (W_eq (by omega)) ?_
    refine rs_rem rfl rfl rfl (by decide) rfl ?_
    refine rs_add rfl rfl rfl (by omega) ?_
    refine rs_mv rfl rfl ?_
    refine rs_mv rfl rfl ?_
    refine rs_nil ⟨by kernel_rfl, fun _ => ?_⟩
    refine th_n ?_
    refine aw_ret ?_
    exact ret_pure rfl rfl rfl (.inl rfl)

def mcc14 : MC := (.seq (.reg [⟨(some 2), (.mv (.c .nils)), none, []⟩] false) (.seq (.reg [⟨(some 3), (.mv (.c .nils)), none, []⟩] false) (.seq (.seq (.reg [⟨(some 4), (.mv (.c (.int .i64 0))), none, []⟩] false) (.block 0 (.loop (.seq (.seq (.reg [⟨(some 8), (.mv (.t 4)), none, []⟩, ⟨(some 9), (.mv (.t 0)), none, []⟩, ⟨(some 10), (.len (.t 9)), none, [1]⟩, ⟨(some 11), (.bin .lss (.t 8) (.t 10)), none, [0, 2]⟩, ⟨(some 12), (.mv (.t 11)), none, [3]⟩, ⟨(some 13), (.mv (.t 4)), (some (12, true)), [4]⟩, ⟨(some 14), (.bin .lss (.t 13) (.c (.int .i64 40))), (some (12, true)), [5, 4]⟩, ⟨(some 15), (.pick (.t 12) (.t 14) (.c (.bool false))), none, [4, 6]⟩] false) (.cond (.t 15) .skip (.exit 0))) (.seq (.block 1 (.seq (.reg [⟨(some 18), (.mv (.t 0)), none, []⟩, ⟨(some 19), (.mv (.t 4)), none, []⟩, ⟨(some 20), (.ixsl 1 (.t 18) (.t 19)), none, [0, 1]⟩, ⟨(some 21), (.ld false 1 (.t 20)), none, [2]⟩, ⟨(some 22), (.cvt .i64 (.t 21)), none, [3]⟩, ⟨(some 5), (.mv (.t 22)), none, [4, 0, 1, 2, 3, 4]⟩] false) (.seq (.seq (.reg [⟨(some 23), (.mv (.t 5)), none, []⟩, ⟨(some 24), (.bin .geq (.t 23) (.c (.int .i64 64))), none, [0]⟩] false) (.cond (.t 24) (.seq (.seq (.reg [⟨(some 6), (.mv (.c (.int .i64 0))), none, []⟩] false) (.block 2 (.loop (.seq (.seq (.reg [⟨(some 25), (.mv (.t 6)), none, []⟩, ⟨(some 26), (.mv (.t 5)), none, []⟩, ⟨(some 27), (.bin .rem (.t 26) (.c (.int .i64 9))), none, [1]⟩, ⟨(some 28), (.bin .lss (.t 25) (.t 27)), none, [0, 2]⟩] false) (.cond (.t 28) .skip (.exit 2))) (.seq (.block 3 (.reg [⟨(some 31), (.mv (.t 3)), none, []⟩, ⟨(some 32), (.build [(.int .i64 0), (.int .i64 0)] [(0, (1, (.c (.int .i64 1))))]), none, []⟩, ⟨(some 33), (.bslice 39 2 [(.int .i64 0), (.int .i64 0)] 1 [(0, (.t 32))]), none, [1]⟩, ⟨(some 34), (.app 39 2 16 [(.int .i64 0), (.int .i64 0)] (.t 31) (.t 33)), none, [0, 2]⟩, ⟨(some 3), (.mv (.t 34)), none, [3, 3, 0, 1, 2, 3]⟩] false)) (.reg [⟨(some 29), (.mv (.t 6)), none, []⟩, ⟨(some 30), (.bin .add (.t 29) (.c (.int .i64 1))), none, [0]⟩, ⟨(some 6), (.mv (.t 30)), none, [1, 0, 1]⟩] false)))))) (.exit 1)) .skip)) (.seq (.reg [⟨(some 35), (.mv (.t 5)), none, []⟩, ⟨(some 36), (.bin .rem (.t 35) (.c (.int .i64 7))), none, [0]⟩, ⟨(some 37), (.bin .add (.c (.int .i64 1)) (.t 36)), none, [1]⟩, ⟨(some 38), (.build [(.int .i64 0), (.int .i64 0)] [(0, (1, (.t 37)))]), none, [2]⟩, ⟨(some 7), (.alloc 39 2 [(.int .i64 0), (.int .i64 0)]), none, []⟩, ⟨none, (.st 2 (.t 7) (.t 38)), none, [4, 3, 0, 1, 2, 3, 4]⟩] false) (.seq (.seq (.reg [⟨(some 39), (.fa 0 (.t 7)), none, []⟩, ⟨(some 40), (.ld false 1 (.t 39)), none, [0]⟩, ⟨(some 41), (.bin .eql (.t 40) (.c (.int .i64 5))), none, [1]⟩] false) (.cond (.t 41) (.reg [⟨(some 42), (.mv (.t 5)), none, []⟩, ⟨(some 43), (.bin .quo (.t 42) (.c (.int .i64 7))), none, [0]⟩, ⟨(some 44), (.bin .add (.c (.int .i64 1)) (.t 43)), none, [1]⟩, ⟨(some 45), (.fa 1 (.t 7)), none, [0, 1, 2]⟩, ⟨none, (.st 1 (.t 45) (.t 44)), none, [3, 2, 0, 1, 2]⟩] false) .skip)) (.reg [⟨(some 46), (.mv (.t 3)), none, []⟩, ⟨(some 47), (.ld true 2 (.t 7)), none, []⟩, ⟨(some 48), (.bslice 39 2 [(.int .i64 0), (.int .i64 0)] 1 [(0, (.t 47))]), none, [1]⟩, ⟨(some 49), (.app 39 2 16 [(.int .i64 0), (.int .i64 0)] (.t 46) (.t 48)), none, [0, 2]⟩, ⟨(some 3), (.mv (.t 49)), none, [3, 3, 0, 1, 2, 3]⟩] false)))))) (.reg [⟨(some 16), (.mv (.t 4)), none, []⟩, ⟨(some 17), (.bin .add (.t 16) (.c (.int .i64 1))), none, [0]⟩, ⟨(some 4), (.mv (.t 17)), none, [1, 0, 1]⟩] false)))))) (.seq (.reg [⟨(some 50), (.mv (.t 3)), none, []⟩, ⟨(some 2), (.mv (.t 50)), none, [0, 0]⟩] false) .ret))))
theorem mcOkc14 : (match Try.f14.body with | some c => compC Try.prog 51 c | none => none) = some mcc14 := by kernel_rfl

theorem gc14 (l : List Int) (hl : l.length ≤ 4611686018427387904) (hx : ∀ x ∈ l, 0 ≤ x ∧ x < 256) : FC Try.prog 14 [.rs 1 (l.map cu8)] [] (.sl 1005 0 (evS (l.take 40)).length) [(1005, .cells 39 2 ((evS (l.take 40)).map cE) true)] false := by
  refine fc_run (nt := 51) Try.func14 rfl rfl mcOkc14 (Nat.le_of_ble_eq_true rfl) ?_
  delta mcc14
  refine aw_seq ?_
  refine aw_reg ?_
  refine rs_mv rfl rfl ?_
  refine rs_nil fun _ => ?_
  refine th_n ?_
  refine aw_seq ?_
  refine aw_reg ?_
  refine rs_mv rfl rfl ?_
  refine rs_nil fun _ => ?_
  refine th_n ?_
  refine aw_seq ?_
  refine aw_seq ?_
  refine aw_reg ?_
  refine rs_mv rfl rfl ?_
  refine rs_nil fun _ => ?_
  refine th_n ?_
  refine aw_block ?_
  refine aw_fam (α := Nat) (fun k => l.length + 1 - k) (fun k => [(0, .rs 1 (l.map cu8)), (3, .sl 1005 0 ((evS (l.take (k)))).length), (4, iv (((k) : Nat) : Int))]) (fun k => [(1005, .cells 39 2 (((evS (l.take (k)))).map cE) true)]) (fun k => k ≤ l.length ∧ k ≤ 40) 0 (⟨by omega, by omega⟩)
    (weak_to (.cons rfl (rc_same rfl (.inl rfl)) (.cons rfl (rc_virt rfl rfl) (.cons rfl (rc_same rfl (.inl rfl)) (.nil)))) (.virt rfl (.nil)) (fun i h => by cases h)) ?_
  rintro k ⟨hk, hk4⟩
  have hle : (evS (l.take k)).length ≤ 8 * 40 := by
    have := evS_len (l.take k) (fun x hx0 => hx x (List.mem_of_mem_take hx0))
    simp at this; omega
  refine aw_seq ?_
  refine aw_seq ?_
  refine aw_reg ?_
  refine rs_mv rfl rfl ?_
  refine rs_mv rfl rfl ?_
  refine rs_len_m rfl rfl ?_
  refine rs_cmp rfl rfl rfl rfl (fun h11 => ?_) (fun h11 => ?_)
  · skip
    refine rs_mv rfl rfl ?_
    refine rs_mv rfl rfl ?_
    refine rs_cmp rfl rfl rfl rfl (fun h14 => ?_) (fun h14 => ?_)
    · skip
      refine rs_pick rfl rfl rfl ?_
      refine rs_nil fun _ => ?_
      refine th_n ?_
      refine aw_cond rfl (fun _ => ?_) (fun h => by cases h)
      refine aw_skip ?_
      refine th_n ?_
      refine aw_seq ?_
      refine aw_block ?_
      refine aw_seq ?_
      refine aw_reg ?_
      refine rs_mv rfl rfl ?_
      refine rs_mv rfl rfl ?_
      obtain ⟨x, hL, hxm⟩ := at_some (L := l) (k := k) (by omega)
      have hxr := hx x hxm
      have e9 : x.tmod 9 = x % 9 := Int.tmod_eq_emod_of_nonneg hxr.1
      have e7 : x.tmod 7 = x % 7 := Int.tmod_eq_emod_of_nonneg hxr.1
      have d7 : x.tdiv 7 = x / 7 := Int.tdiv_eq_ediv_of_nonneg hxr.1
      refine rs_ix_g (f := cu8) (y := x) rfl rfl rfl (by omega) hL ?_
      refine rs_ld_r rfl rfl rfl ?_
      refine rs_cvt rfl rfl (W_eq (by omega)) ?_
      refine rs_mv rfl rfl ?_
      refine rs_nil fun _ => ?_
      refine th_n ?_
      refine aw_seq ?_
      refine aw_seq ?_
      refine aw_reg ?_
      refine rs_mv rfl rfl ?_
      refine rs_geq rfl rfl rfl ?_
      refine rs_nil fun _ => ?_
      refine th_n ?_
      refine aw_cond rfl (fun h24 => ?_) (fun h24 => ?_)
      · replace h24 := of_decide_eq_true h24
        refine aw_seq ?_
        refine aw_seq ?_
        refine aw_reg ?_
        refine rs_mv rfl rfl ?_
        refine rs_nil fun _ => ?_
        refine th_n ?_
        refine aw_block ?_
        refine aw_fam (α := Nat) (fun i => (x.tmod 9).toNat - i) (fun i => [(0, .rs 1 (l.map cu8)), (3, .sl 1005 0 (evS (l.take k) ++ List.replicate (i) (1, 0)).length), (4, iv (((k) : Nat) : Int)), (5, iv x), (6, iv (((i) : Nat) : Int))]) (fun i => [(1005, .cells 39 2 ((evS (l.take k) ++ List.replicate (i) (1, 0)).map cE) true)]) (fun i => i ≤ (x.tmod 9).toNat) 0 (by omega)
          (weak_to (.cons rfl (rc_same rfl (.inl rfl)) (.cons rfl (rc_eq (by simp) rfl) (.cons rfl (rc_same rfl (.inl rfl)) (.cons rfl (rc_same rfl (.inl rfl)) (.cons rfl (rc_same rfl (.inl rfl)) (.nil)))))) (.keep ((by rw [show List.replicate 0 ((1, 0) : Int × Int) = [] from rfl, List.append_nil]; rfl)) rfl (.nil)) (fun i h => by cases h)) ?_
        intro i hi9
        have hli : (evS (l.take k) ++ List.replicate (i) (1, 0)).length = (evS (l.take k)).length + i := by simp
        refine aw_seq ?_
        refine aw_seq ?_
        refine aw_reg ?_
        refine rs_mv rfl rfl ?_
        refine rs_mv rfl rfl ?_
        refine rs_rem rfl rfl rfl (by decide) rfl ?_
        refine rs_lss rfl rfl rfl ?_
        refine rs_nil fun _ => ?_
        refine th_n ?_
        refine aw_cond rfl (fun h28 => ?_) (fun h28 => ?_)
        · replace h28 := of_decide_eq_true h28
          refine aw_skip ?_
          refine th_n ?_
          refine aw_seq ?_
          refine aw_block ?_
          refine aw_reg ?_
          refine rs_mv rfl rfl ?_
          refine rs_build rfl rfl ?_
          refine rs_bslice (l := (([(1, 0)] : List (Int × Int))).flatMap cE) (els := (([(1, 0)] : List (Int × Int))).map cE) (fl := true) rfl (by kernel_rfl) rfl rfl (by kernel_rfl) (by kernel_rfl) ?_
          refine rs_app_m (f := cE) (xs := evS (l.take k) ++ List.replicate (i) (1, 0)) (y := (1, 0)) (fl' := true) rfl rfl rfl rfl rfl rfl rfl rfl (by decide) rfl (by omega) (by omega) rfl ?_
          refine rs_mv rfl rfl ?_
          refine rs_nil fun _ => ?_
          refine in_n ?_
          refine th_n ?_
          refine aw_reg ?_
          refine rs_mv rfl rfl ?_
          refine rs_add rfl rfl rfl (by omega) ?_
          refine rs_mv rfl rfl ?_
          refine rs_nil fun _ => ?_
          refine th_n ?_
          refine ⟨i + 1, by omega, by omega, ?_⟩
          rw [List.replicate_succ', ← List.append_assoc]
          exact weak_to_ren (i := 34) (i' := 1005) (F1 := [(0, .rs 1 (l.map cu8)), (3, .sl 34 0 ((evS (l.take k) ++ List.replicate (i) (1, 0)) ++ [(1, 0)]).length), (4, iv (((k) : Nat) : Int)), (5, iv x), (6, iv (((i + 1) : Nat) : Int))]) (H1 := [(34, .cells 39 2 (((evS (l.take k) ++ List.replicate (i) (1, 0)) ++ [(1, 0)]).map cE) true)]) (.cons rfl (rc_same rfl (.inl rfl)) (.cons rfl (rc_eq (congrArg (AV.sl 34 0) (by simp only [List.length_append, List.length_replicate, List.length_cons, List.length_nil])) rfl) (.cons rfl (rc_same rfl (.inl rfl)) (.cons rfl (rc_same rfl (.inl rfl)) (.cons rfl (rc_same rfl (.inl rfl)) (.nil)))))) (.keep (rfl) rfl (.nil)) (fun i h => by cases h) rfl rfl (.cons rfl (.same _) (.cons rfl (.sl _ _) (.cons rfl (.same _) (.cons rfl (.same _) (.cons rfl (.same _) (.nil)))))) (.cons rfl (rc_same rfl (.inl rfl)) (.cons rfl (rc_same rfl (.inl rfl)) (.cons rfl (rc_same rfl (.inl rfl)) (.cons rfl (rc_same rfl (.inl rfl)) (.cons rfl (rc_same rfl (.inl rfl)) (.nil)))))) (.keep (rfl) rfl (.nil)) (fun i h => by cases h)
        · replace h28 := of_decide_eq_false h28
          refine aw_exit ?_
          refine th_e ?_
          refine th_e ?_
          refine in_hit ?_
          refine th_n ?_
          refine aw_exit ?_
          refine th_e ?_
          refine in_hit ?_
          refine th_n ?_
          refine aw_reg ?_
          refine rs_mv rfl rfl ?_
          refine rs_add rfl rfl rfl (by omega) ?_
          refine rs_mv rfl rfl ?_
          refine rs_nil fun _ => ?_
          refine th_n ?_
          refine ⟨k + 1, ⟨by omega, by omega⟩, by omega, ?_⟩
          rw [evS_succ hL]
          (have hi : ev1 x = List.replicate i (1, 0) := by
             unfold ev1; rw [if_pos h24]; congr 1; omega
           rw [hi]
           exact weak_to (.cons rfl (rc_same rfl (.inl rfl)) (.cons rfl (rc_same rfl (.inl rfl)) (.cons rfl (rc_same rfl (.inl rfl)) (.nil)))) (.keep (rfl) rfl (.nil)) (fun i h => by cases h))
      · replace h24 := of_decide_eq_false h24
        refine aw_skip ?_
        refine th_n ?_
        refine aw_seq ?_
        refine aw_reg ?_
        refine rs_mv rfl rfl ?_
        refine rs_rem rfl rfl rfl (by decide) rfl ?_
        refine rs_add rfl rfl rfl (by omega) ?_
        refine rs_build rfl rfl ?_
        refine rs_alloc rfl rfl rfl ?_
        refine rs_st rfl rfl rfl rfl rfl rfl rfl (Nat.le_of_ble_eq_true rfl) rfl rfl ?_
        refine rs_nil fun _ => ?_
        refine th_n ?_
        refine aw_seq ?_
        refine aw_seq ?_
        refine aw_reg ?_
        refine rs_fa_p rfl rfl ?_
        refine rs_ld_p rfl rfl rfl rfl rfl ?_
        refine rs_eql rfl rfl rfl ?_
        refine rs_nil fun _ => ?_
        refine th_n ?_
        refine aw_cond rfl (fun h41 => ?_) (fun h41 => ?_)
        · replace h41 := of_decide_eq_true h41
          refine aw_reg ?_
          refine rs_mv rfl rfl ?_
          refine rs_quow rfl rfl rfl (by decide) (W_eq (by omega)) ?_
          refine rs_add rfl rfl rfl (by omega) ?_
          refine rs_fa_p rfl rfl ?_
          refine rs_st rfl rfl rfl rfl rfl rfl rfl (Nat.le_of_ble_eq_true rfl) rfl rfl ?_
          refine rs_nil fun _ => ?_
          refine th_n ?_
          refine aw_weak (F0 := [(0, .rs 1 (l.map cu8)), (3, .sl 1005 0 ((evS (l.take (k)))).length), (4, iv (((k) : Nat) : Int)), (7, .ptr 7 0 0)]) (H0 := [(1005, .cells 39 2 (((evS (l.take (k)))).map cE) true), (7, .cells 39 2 [cE (evx x)] true)]) (weak_to (.cons rfl (rc_same rfl (.inl rfl)) (.cons rfl (rc_same rfl (.inl rfl)) (.cons rfl (rc_same rfl (.inl rfl)) (.cons rfl (rc_same rfl (.inl rfl)) (.nil))))) (.keep (rfl) rfl (.keep ((by first | (rw [evx_5 h41]; rfl) | (rw [evx_n h41]; rfl))) rfl (.nil))) (fun i h => by cases h)) ?_
          refine aw_reg ?_
          refine rs_mv rfl rfl ?_
          refine rs_ld_pa rfl rfl rfl rfl (Nat.le_of_ble_eq_true rfl) rfl ?_
          refine rs_bslice (l := ([evx x]).flatMap cE) (els := ([evx x]).map cE) (fl := true) rfl (by kernel_rfl) rfl rfl (by kernel_rfl) (by kernel_rfl) ?_
          refine rs_app_m (f := cE) (xs := evS (l.take k)) (y := evx x) (fl' := true) rfl rfl rfl rfl rfl rfl rfl rfl (by decide) rfl (by omega) (by omega) rfl ?_
          refine rs_mv rfl rfl ?_
          refine rs_nil fun _ => ?_
          refine in_n ?_
          refine th_n ?_
          refine aw_reg ?_
          refine rs_mv rfl rfl ?_
          refine rs_add rfl rfl rfl (by omega) ?_
          refine rs_mv rfl rfl ?_
          refine rs_nil fun _ => ?_
          refine th_n ?_
          refine ⟨k + 1, ⟨by omega, by omega⟩, by omega, ?_⟩
          rw [evS_succ hL]
          (have hi : ev1 x = [evx x] := by unfold ev1; rw [if_neg h24]
           rw [hi]
           exact weak_to_ren (i := 49) (i' := 1005) (F1 := [(0, .rs 1 (l.map cu8)), (3, .sl 49 0 (evS (l.take k) ++ [evx x]).length), (4, iv (((k + 1) : Nat) : Int))]) (H1 := [(49, .cells 39 2 ((evS (l.take k) ++ [evx x]).map cE) true)]) (.cons rfl (rc_same rfl (.inl rfl)) (.cons rfl (rc_eq (congrArg (AV.sl 49 0) (by simp)) rfl) (.cons rfl (rc_same rfl (.inl rfl)) (.nil)))) (.keep (rfl) rfl (.nil)) (fun i h => by cases h) rfl rfl (.cons rfl (.same _) (.cons rfl (.sl _ _) (.cons rfl (.same _) (.nil)))) (.cons rfl (rc_same rfl (.inl rfl)) (.cons rfl (rc_same rfl (.inl rfl)) (.cons rfl (rc_same rfl (.inl rfl)) (.nil)))) (.keep (rfl) rfl (.nil)) (fun i h => by cases h))
        · replace h41 := of_decide_eq_false h41
          refine aw_skip ?_
          refine th_n ?_
          refine aw_weak (F0 := [(0, .rs 1 (l.map cu8)), (3, .sl 1005 0 ((evS (l.take (k)))).length), (4, iv (((k) : Nat) : Int)), (7, .ptr 7 0 0)]) (H0 := [(1005, .cells 39 2 (((evS (l.take (k)))).map cE) true), (7, .cells 39 2 [cE (evx x)] true)]) (weak_to (.cons rfl (rc_same rfl (.inl rfl)) (.cons rfl (rc_same rfl (.inl rfl)) (.cons rfl (rc_same rfl (.inl rfl)) (.cons rfl (rc_same rfl (.inl rfl)) (.nil))))) (.keep (rfl) rfl (.keep ((by first | (rw [evx_5 h41]; rfl) | (rw [evx_n h41]; rfl))) rfl (.nil))) (fun i h => by cases h)) ?_
          refine aw_reg ?_
          refine rs_mv rfl rfl ?_
          refine rs_ld_pa rfl rfl rfl rfl (Nat.le_of_ble_eq_true rfl) rfl ?_
          refine rs_bslice (l := ([evx x]).flatMap cE) (els := ([evx x]).map cE) (fl := true) rfl (by kernel_rfl) rfl rfl (by kernel_rfl) (by kernel_rfl) ?_
          refine rs_app_m (f := cE) (xs := evS (l.take k)) (y := evx x) (fl' := true) rfl rfl rfl rfl rfl rfl rfl rfl (by decide) rfl (by omega) (by omega) rfl ?_
          refine rs_mv rfl rfl ?_
          refine rs_nil fun _ => ?_
          refine in_n ?_
          refine th_n ?_
          refine aw_reg ?_
          refine rs_mv rfl rfl ?_
          refine rs_add rfl rfl rfl (by omega) ?_
          refine rs_mv rfl rfl ?_
          refine rs_nil fun _ => ?_
          refine th_n ?_
          refine ⟨k + 1, ⟨by omega, by omega⟩, by omega, ?_⟩
          rw [evS_succ hL]
          (have hi : ev1 x = [evx x] := by unfold ev1; rw [if_neg h24]
           rw [hi]
           exact weak_to_ren (i := 49) (i' := 1005) (F1 := [(0, .rs 1 (l.map cu8)), (3, .sl 49 0 (evS (l.take k) ++ [evx x]).length), (4, iv (((k + 1) : Nat) : Int))]) (H1 := [(49, .cells 39 2 ((evS (l.take k) ++ [evx x]).map cE) true)]) (.cons rfl (rc_same rfl (.inl rfl)) (.cons rfl (rc_eq (congrArg (AV.sl 49 0) (by simp)) rfl) (.cons rfl (rc_same rfl (.inl rfl)) (.nil)))) (.keep (rfl) rfl (.nil)) (fun i h => by cases h) rfl rfl (.cons rfl (.same _) (.cons rfl (.sl _ _) (.cons rfl (.same _) (.nil)))) (.cons rfl (rc_same rfl (.inl rfl)) (.cons rfl (rc_same rfl (.inl rfl)) (.cons rfl (rc_same rfl (.inl rfl)) (.nil)))) (.keep (rfl) rfl (.nil)) (fun i h => by cases h))
    · skip
      refine rs_pick rfl rfl rfl ?_
      refine rs_nil fun _ => ?_
      refine th_n ?_
      refine aw_cond rfl (fun h => by cases h) (fun _ => ?_)
      refine aw_exit ?_
      refine th_e ?_
      refine th_e ?_
      refine in_hit ?_
      refine th_n ?_
      refine aw_seq ?_
      refine aw_reg ?_
      refine rs_mv rfl rfl ?_
      refine rs_mv rfl rfl ?_
      refine rs_nil fun _ => ?_
      refine th_n ?_
      refine aw_ret ?_
      have hkk : l.take 40 = l.take k := by
        rcases Nat.lt_or_ge k 40 with h | h
        · rw [List.take_of_length_le (by omega), List.take_of_length_le (by omega)]
        · rw [show k = 40 by omega]
      rw [hkk]
      exact ret_new rfl (rc_same rfl (.inr rfl)) (.keep rfl rfl (noROE_map (fun _ => rfl) _) .nil)
  · skip
    refine rs_mv rfl rfl ?_
    refine rs_skip rfl ?_
    refine rs_skip rfl ?_
    refine rs_pick rfl rfl rfl ?_
    refine rs_nil fun _ => ?_
    refine th_n ?_
    refine aw_cond rfl (fun h => by cases h) (fun _ => ?_)
    refine aw_exit ?_
    refine th_e ?_
    refine th_e ?_
    refine in_hit ?_
    refine th_n ?_
    refine aw_seq ?_
    refine aw_reg ?_
    refine rs_mv rfl rfl ?_
    refine rs_mv rfl rfl ?_
    refine rs_nil fun _ => ?_
    refine th_n ?_
    refine aw_ret ?_
    have hkk : l.take 40 = l.take k := by
      rcases Nat.lt_or_ge k 40 with h | h
      · rw [List.take_of_length_le (by omega), List.take_of_length_le (by omega)]
      · rw [show k = 40 by omega]
    rw [hkk]
    exact ret_new rfl (rc_same rfl (.inr rfl)) (.keep rfl rfl (noROE_map (fun _ => rfl) _) .nil)

/-- A case: its path, and its number. -/
theorem made_ex (ls : List (List Int)) (ev : Int) (hls : ∀ L ∈ ls, L.length ≤ 4611686018427387904) (hl : ls.length ≤ 4611686018427387904) (hev : 0 ≤ ev ∧ ev < 256) : ∃ (p : List Mv) (n : Int), FC Try.prog 10 [.agg [.rs 1 (ls.map cL), .int .u8 ev]] [] (.tup [mvs p, iv n]) [] true ∧ newB p n ∧ p.length ≤ 6 ∧ (1 ≤ pstep p ∧ pstep p ≤ 1000) ∧ (1 ≤ n ∧ n ≤ 12) := by
  have e12 : ev.tmod 12 = ev % 12 := Int.tmod_eq_emod_of_nonneg hev.1
  exact ⟨_, _, gc10 ls ev hls hl hev, pthS_new _ (by omega) (by omega), (pthS_len _).1, pthS_steps _, by omega⟩

end Go.Proofs.Ytigfcmcdjfmieaa

/-! Plain law of a controller: what an event changes, and what is known after it (ControlTrue). -/
namespace Go.Proofs.Ytigfcmcdjfmieaa
open Go.RowKit
set_option linter.unusedVariables false

/-- A broken tool that was found: nothing goes on. -/
def Nf (s : St) : Prop := s.found = true → s.noticed = true ∧ s.made = lastS s.rs
/-- What an event changes. -/
structure Tr (s t : St) (k e : Int) : Prop where
  nf : Nf t
  all : t.all = s.all
  every : t.every = s.every
  m0 : s.made ≤ t.made
  m1 : t.made ≤ s.made + 1
  mv : t.made > s.made → k = 1 ∧ e = 0
  bl : t.blind = (s.blind || (decide (k = 2) && decide (e = 0)))

theorem step_tr {s : St} (h : Nf s) (hn : s.noticed = false) : Nf (stepS s) ∧ (stepS s).all = s.all ∧ (stepS s).every = s.every ∧ (stepS s).made = s.made + 1 ∧ (stepS s).blind = s.blind := by
  unfold stepS
  dsimp only
  split
  · refine ⟨fun hf => ⟨hf, ?_⟩, rfl, rfl, rfl, rfl⟩
    exact (last_app s.rs (s.made + 1)).symm
  · refine ⟨fun hf => ?_, rfl, rfl, rfl, rfl⟩
    have := (h hf).1
    rw [hn] at this; cases this
theorem bl_n {b : Bool} {k e : Int} (h : ¬ (k = 2 ∧ e = 0)) : b = (b || (decide (k = 2) && decide (e = 0))) := by
  have : (decide (k = 2) && decide (e = 0)) = false := by
    by_cases hk : k = 2
    · rw [decide_eq_false (p := e = 0) (fun he => h ⟨hk, he⟩), Bool.and_false]
    · rw [decide_eq_false hk]; rfl
  rw [this, Bool.or_false]
theorem tick_tr {s : St} (h : Nf s) : Tr s (tickS s).2 1 (tickS s).1 := by
  unfold tickS
  split
  · exact ⟨h, rfl, rfl, Int.le_refl _, by dsimp only; omega, fun h => by dsimp only at h; omega, bl_n (by omega)⟩
  · rename_i hn
    split
    · exact ⟨h, rfl, rfl, Int.le_refl _, by dsimp only; omega, fun h => by dsimp only at h; omega, bl_n (by omega)⟩
    · dsimp only
      split
      · exact ⟨h, rfl, rfl, Int.le_refl _, by dsimp only; omega, fun h => by dsimp only at h; omega, bl_n (by omega)⟩
      · have hs := step_tr (s := { s with ran := s.ran + 1, since := s.since + 1 }) h (by simpa using hn)
        dsimp only at hs
        exact ⟨hs.1, hs.2.1, hs.2.2.1, by rw [hs.2.2.2.1]; omega, by rw [hs.2.2.2.1]; omega, fun _ => ⟨rfl, rfl⟩, by rw [hs.2.2.2.2]; exact bl_n (by omega)⟩
theorem tr_do {s : St} (h : Nf s) (k n : Int) : Tr s (doS s k n).2 k (doS s k n).1 := by
  unfold doS
  split
  · rename_i hc
    unfold handS
    split
    · rename_i hk; subst hk; exact tick_tr h
    split
    · rename_i hk; subst hk
      exact ⟨h, rfl, rfl, Int.le_refl _, by dsimp only; omega, fun h => by dsimp only at h; omega, by simp⟩
    split
    · exact ⟨h, rfl, rfl, Int.le_refl _, by dsimp only; omega, fun h => by dsimp only at h; omega, bl_n (by omega)⟩
    split
    · split
      · exact ⟨h, rfl, rfl, Int.le_refl _, by dsimp only; omega, fun h => by dsimp only at h; omega, bl_n (by omega)⟩
      · exact ⟨h, rfl, rfl, Int.le_refl _, by dsimp only; omega, fun h => by dsimp only at h; omega, bl_n (by omega)⟩
    split
    · exact ⟨h, rfl, rfl, Int.le_refl _, by dsimp only; omega, fun h => by dsimp only at h; omega, bl_n (by omega)⟩
    split
    · exact ⟨h, rfl, rfl, Int.le_refl _, by dsimp only; omega, fun h => by dsimp only at h; omega, bl_n (by omega)⟩
    · exact ⟨fun hf => ⟨by dsimp only at hf ⊢; rw [(h hf).1]; rfl, (h hf).2⟩, rfl, rfl, Int.le_refl _, by dsimp only; omega, fun h => by dsimp only at h; omega, bl_n (by omega)⟩
  · rename_i hc
    exact ⟨h, rfl, rfl, Int.le_refl _, by dsimp only; omega, fun h => by dsimp only at h; omega, bl_n (fun h => hc h.2)⟩

theorem lastO_mono {x y e a : Int} (hx : 0 ≤ x) (hxy : x ≤ y) (hy : y ≤ a) (he : 1 ≤ e) : lastO x e a ≤ lastO y e a := by
  have h2 := lastO_range hx (by omega : x ≤ a) he
  have hmx := em_le hx he
  have hmy := em_le (m := y) (by omega) he
  have hd : x / e ≤ y / e := Int.ediv_le_ediv (by omega) hxy
  have h1 := Int.mul_ediv_add_emod x e
  have h3 := Int.mul_ediv_add_emod y e
  have h4 := Int.mul_le_mul_of_nonneg_left hd (show 0 ≤ e by omega)
  unfold lastO at h2 ⊢
  rw [tm_eq hx] at h2 ⊢
  rw [tm_eq (show 0 ≤ y by omega)]
  split
  · split <;> omega
  · split <;> omega
/-- How many steps were made with a tool that was whole. -/
def wholeV (t : St) : Int := if brkV t ≥ 0 then brkV t else t.made
/-- What is known. -/
structure Kn (t : St) (A B : Int) : Prop where
  b : -1 ≤ brkV t ∧ brkV t ≤ t.made
  s : A ≤ t.made ∧ t.made ≤ B
  w : t.sound ≤ wholeV t ∧ wholeV t ≤ B
  l : t.sound ≤ A
  n : t.blind = false → A = B
  d : B - A < t.every
  h : B ≤ t.all
  f : t.blind = true → A = lastS t.rs
  e : t.made - lastS t.rs < t.every
theorem kn_iv {K : Nat} {t : St} (h : Iv K t) (hf : Nf t) : Kn t (spanS t).1 (spanS t).2 := by
  have h1 := h.made; have h2 := h.breach; have h3 := h.every; have h4 := h.all; have hl := h.last
  have hlr := lastO_range h1.1 h1.2 h3.1
  have hm : t.made - lastS t.rs < t.every ∧ (¬ lastS t.rs = t.all → t.made < t.all) := by
    have := em_le h1.1 h3.1
    rw [hl]
    unfold lastO
    rw [tm_eq h1.1]
    split
    · exact ⟨by omega, fun h => absurd rfl h⟩
    · exact ⟨by omega, fun _ => by omega⟩
  have hb : -1 ≤ brkV t ∧ brkV t ≤ t.made ∧ t.sound ≤ wholeV t ∧ wholeV t ≤ t.made ∧ t.sound ≤ lastS t.rs := by
    unfold wholeV brkV
    cases hbr : t.broken with
    | false =>
      have := h.sw hbr
      refine ⟨by simp, by simp; omega, ?_, ?_, by omega⟩
      · simp; omega
      · simp
    | true =>
      have hs := h.sb hbr
      have hr := lastO_range h2.1 (by omega : t.breach ≤ t.all) h3.1
      have hmo := lastO_mono (a := t.all) h2.1 h2.2 h1.2 h3.1
      refine ⟨by simp; omega, by simp; omega, ?_, ?_, by omega⟩
      · simp only [cond_true]; rw [if_pos (by omega)]; omega
      · simp only [cond_true]; rw [if_pos (by omega)]; omega
  unfold spanS
  cases hbl : t.blind with
  | false =>
    rw [if_neg (by decide)]
    exact ⟨by omega, by dsimp only; omega, by dsimp only; omega, by dsimp only; omega, fun _ => rfl, by dsimp only; omega, by dsimp only; omega, fun h => (by rw [hbl] at h; cases h), hm.1⟩
  | true =>
    rw [if_pos rfl]
    split
    · rename_i hq
      have hml : t.made ≤ lastS t.rs := by
        rcases hq with hq | hq
        · rw [(hf hq).2]; exact Int.le_refl _
        · omega
      exact ⟨by omega, by dsimp only; omega, by dsimp only; omega, by dsimp only; omega, fun _ => rfl, by dsimp only; omega, by dsimp only; omega, fun _ => rfl, hm.1⟩
    · rename_i hq
      have hlt := hm.2 (fun h => hq (.inr h))
      have hm1 := hm.1
      exact ⟨by omega, by dsimp only; omega, by dsimp only; omega, by dsimp only; omega, fun h => (by rw [hbl] at h; cases h), by dsimp only; omega, by dsimp only; omega, fun _ => rfl, hm.1⟩
/-- A record, one after the other. -/
theorem recs_at {K : Nat} {t : St} (h : Iv K t) {j : Nat} {r : Int} (hr : t.rs[j]? = some r) : lastS (t.rs.take j) < r ∧ r ≤ t.made ∧ (r.tmod t.every = 0 ∨ r = t.all) ∧ lastS (t.rs.take (j + 1)) = r := by
  obtain ⟨hj, hjr⟩ := List.getElem?_eq_some_iff.1 hr
  have hm : r ∈ t.rs := hjr ▸ List.getElem_mem hj
  have h1 := h.recs r hm
  refine ⟨?_, h1.2.1, by rw [tm_eq (by omega)]; exact h1.2.2, ?_⟩
  · unfold lastS
    cases hg : (t.rs.take j).getLast? with
    | none => exact h1.1
    | some y =>
      dsimp only
      rw [List.getLast?_eq_getElem?] at hg
      obtain ⟨hy, hyy⟩ := List.getElem?_eq_some_iff.1 hg
      have hl : (t.rs.take j).length = j := by simp; omega
      have := List.pairwise_iff_getElem.1 h.inc ((t.rs.take j).length - 1) j (by omega) hj (by omega)
      rw [hjr] at this
      rw [List.getElem_take] at hyy
      omega
  · rw [List.take_add_one, hr]
    exact last_app _ _
end Go.Proofs.Ytigfcmcdjfmieaa

/-! Walks: C15. -/
namespace Go.Proofs.Ytigfcmcdjfmieaa
open Go.RowKit
set_option maxRecDepth 100000
set_option linter.unusedVariables false

/-- How far it is. -/
structure Q3s where
  k : Nat
  s : St
def xj (e : Int) (k : Nat) : Int := if k = 0 then e else modS e 103
theorem aw_cutw {P : Program} {N : Nat} {Z : List Nat} {rn : Option Nat} {Q : Post} {F F0 : Fr} {H H0 : Hp} {x y : MC} (h1 : AW P N Z rn x (fun e F' H' => e = .normal ∧ Weak N Z F' H' F0 H0) F H) (h2 : AW P N Z rn y Q F0 H0) : AW P N Z rn (.seq x y) Q F H :=
  aw_seq (aw_mono h1 fun e F' H' ⟨he, hw⟩ => by subst he; exact aw_weak hw h2)

def mcc3 : MC := (.seq (.reg [⟨(some 5), (.box 24 2 (.t 0)), none, []⟩, ⟨(some 10), (.mv (.c (.bool false))), none, []⟩] false) (.seq (.reg [⟨(some 24), (.call 9 []), none, []⟩, ⟨(some 11), (.mv (.t 24)), none, [0, 0, 0]⟩] false) (.seq (.reg [⟨(some 26), (.ld true 2 (.t 5)), none, []⟩, ⟨(some 27), (.call 10 [(.t 26)]), none, [0]⟩, ⟨(some 25), (.mv (.t 27)), none, [1]⟩, ⟨(some 28), (.ext (.t 25) 0), none, [2]⟩, ⟨(some 29), (.ext (.t 25) 1), none, [2]⟩, ⟨(some 12), (.mv (.t 28)), none, [3, 1, 0, 1, 2, 3]⟩, ⟨(some 13), (.mv (.t 29)), none, [4, 5, 0, 1, 2, 3, 4, 5]⟩] false) (.seq (.reg [⟨(some 30), (.mv (.t 3)), none, []⟩, ⟨(some 31), (.mv (.t 3)), none, []⟩, ⟨(some 32), (.len (.t 31)), none, [1]⟩, ⟨(some 33), (.mn (.t 32) (.c (.int .i64 3))), none, [2]⟩, ⟨(some 34), (.slc 11 (.t 30) none (some (.t 33))), none, [0, 3]⟩, ⟨(some 3), (.mv (.t 34)), none, [4, 0, 1, 2, 3, 4]⟩] false) (.seq (.seq (.reg [⟨(some 35), (.mv (.t 4)), none, []⟩, ⟨(some 36), (.mv (.t 4)), none, []⟩, ⟨(some 37), (.call 11 [(.t 36), (.c (.int .i64 103))]), none, [1]⟩, ⟨(some 38), (.bslice 3 1 [(.int .i64 0)] 2 [(0, (.t 35)), (1, (.t 37))]), none, [0, 2]⟩, ⟨(some 39), (.len (.t 38)), none, [3]⟩, ⟨(some 40), (.mv (.c (.int .i64 0))), none, []⟩] false) (.block 0 (.loop (.seq (.reg [⟨(some 41), (.bin .lss (.t 40) (.t 39)), none, []⟩] false) (.seq (.cond (.t 41) .skip (.exit 0)) (.seq (.block 1 (.seq (.reg [⟨(some 42), (.ixsl 1 (.t 38) (.t 40)), none, []⟩, ⟨(some 43), (.ld false 1 (.t 42)), none, [0]⟩, ⟨(some 15), (.mv (.t 43)), none, [1, 0, 1]⟩] false) (.seq (.reg [⟨(some 44), (.mv (.t 3)), none, []⟩, ⟨(some 45), (.mv (.t 15)), none, []⟩, ⟨(some 46), (.call 12 [(.t 44), (.t 45)]), none, [0, 1]⟩, ⟨(some 47), (.isnil false false (.t 46)), none, [2]⟩, ⟨(some 48), (.mv (.t 3)), none, []⟩, ⟨(some 49), (.mv (.t 15)), none, []⟩, ⟨(some 50), (.call 13 [(.t 48), (.t 49)]), none, [4, 5, 2]⟩, ⟨(some 51), (.isnil false false (.t 50)), none, [6]⟩, ⟨(some 52), (.beq true (.t 47) (.t 51)), none, [3, 7]⟩, ⟨(some 53), (.mv (.t 52)), none, [8, 6]⟩, ⟨(some 54), (.mv (.t 12)), (some (53, false)), [9]⟩, ⟨(some 55), (.mv (.t 15)), (some (53, false)), [9]⟩, ⟨(some 56), (.call 12 [(.t 54), (.t 55)]), (some (53, false)), [10, 11, 9, 9]⟩, ⟨(some 57), (.isnil false false (.t 56)), (some (53, false)), [12, 9]⟩, ⟨(some 58), (.mv (.t 12)), (some (53, false)), [9]⟩, ⟨(some 59), (.mv (.t 15)), (some (53, false)), [9]⟩, ⟨(some 60), (.call 13 [(.t 58), (.t 59)]), (some (53, false)), [14, 15, 12, 9]⟩, ⟨(some 61), (.isnil false false (.t 60)), (some (53, false)), [16, 9]⟩, ⟨(some 62), (.beq true (.t 57) (.t 61)), (some (53, false)), [13, 17, 9]⟩, ⟨(some 63), (.pick (.t 53) (.c (.bool true)) (.t 62)), none, [9, 18]⟩] false) (.cond (.t 63) (.seq (.reg [⟨(some 10), (.mv (.c (.bool false))), none, []⟩] false) .ret) .skip)))) (.reg [⟨(some 64), (.bin .add (.t 40) (.c (.int .i64 1))), none, []⟩, ⟨(some 40), (.mv (.t 64)), none, [0]⟩] false))))))) (.seq (.reg [⟨(some 65), (.mv (.t 12)), none, []⟩, ⟨(some 66), (.mv (.t 13)), none, []⟩, ⟨(some 67), (.call 12 [(.t 65), (.t 66)]), none, [0, 1]⟩, ⟨(some 68), (.mv (.t 12)), none, []⟩, ⟨(some 69), (.mv (.t 13)), none, []⟩, ⟨(some 70), (.call 13 [(.t 68), (.t 69)]), none, [3, 4, 2]⟩, ⟨(some 16), (.mv (.t 67)), none, [2, 5, 0, 1, 2]⟩, ⟨(some 17), (.mv (.t 70)), none, [5, 6, 0, 1, 2, 3, 4, 5, 6]⟩] false) (.seq (.seq (.reg [⟨(some 71), (.mv (.t 16)), none, []⟩, ⟨(some 72), (.isnil false false (.t 71)), none, [0]⟩, ⟨(some 73), (.mv (.t 72)), none, [1]⟩, ⟨(some 74), (.mv (.t 17)), (some (73, false)), [2]⟩, ⟨(some 75), (.isnil false false (.t 74)), (some (73, false)), [3, 2]⟩, ⟨(some 76), (.pick (.t 73) (.c (.bool true)) (.t 75)), none, [2, 4]⟩] false) (.cond (.t 76) (.seq (.reg [⟨(some 10), (.mv (.c (.bool false))), none, []⟩] false) .ret) .skip)) (.seq (.seq (.reg [⟨(some 77), (.mv (.t 1)), none, []⟩, ⟨(some 78), (.call 14 [(.t 77)]), none, [0]⟩, ⟨(some 79), (.mv (.t 2)), none, []⟩, ⟨(some 80), (.mv (.t 2)), none, []⟩, ⟨(some 81), (.len (.t 80)), none, [3]⟩, ⟨(some 82), (.mn (.t 81) (.c (.int .i64 6))), none, [4]⟩, ⟨(some 83), (.slc 2 (.t 79) none (some (.t 82))), none, [2, 5]⟩, ⟨(some 84), (.app 39 2 16 [(.int .i64 0), (.int .i64 0)] (.t 78) (.t 83)), none, [1, 6, 1]⟩, ⟨(some 85), (.len (.t 84)), none, [7]⟩, ⟨(some 86), (.mv (.c (.int .i64 0))), none, []⟩] true) (.block 2 (.loop (.seq (.reg [⟨(some 87), (.bin .lss (.t 86) (.t 85)), none, []⟩] false) (.seq (.cond (.t 87) .skip (.exit 2)) (.seq (.block 3 (.seq (.reg [⟨(some 88), (.ixsl 2 (.t 84) (.t 86)), none, []⟩, ⟨(some 89), (.ld true 2 (.t 88)), none, [0]⟩, ⟨(some 19), (.alloc 39 2 [(.int .i64 0), (.int .i64 0)]), none, []⟩, ⟨none, (.st 2 (.t 19) (.t 89)), none, [2, 1, 0, 1, 2]⟩] false) (.seq (.seq (.reg [⟨(some 90), (.mv (.t 16)), none, []⟩, ⟨(some 91), (.ld true 2 (.t 19)), none, []⟩, ⟨(some 92), (.call 15 [(.t 90), (.t 91)]), none, [0, 1]⟩, ⟨(some 93), (.mv (.t 17)), none, []⟩, ⟨(some 94), (.ld true 2 (.t 19)), none, []⟩, ⟨(some 95), (.call 16 [(.t 93), (.t 94)]), none, [3, 4, 2]⟩, ⟨(some 96), (.bin .neq (.t 92) (.t 95)), none, [2, 5]⟩] true) (.cond (.t 96) (.seq (.reg [⟨(some 10), (.mv (.c (.bool false))), none, []⟩] false) .ret) .skip)) (.seq (.reg [⟨(some 98), (.mv (.t 16)), none, []⟩, ⟨(some 99), (.call 17 [(.t 98)]), none, [0]⟩, ⟨(some 97), (.mv (.t 99)), none, [1]⟩, ⟨(some 100), (.ext (.t 97) 0), none, [2]⟩, ⟨(some 101), (.ext (.t 97) 1), none, [2]⟩, ⟨(some 20), (.mv (.t 100)), none, [3, 1, 0, 1, 2, 3]⟩, ⟨(some 21), (.mv (.t 101)), none, [4, 5, 0, 1, 2, 3, 4, 5]⟩] false) (.seq (.reg [⟨(some 103), (.mv (.t 17)), none, []⟩, ⟨(some 104), (.call 18 [(.t 103)]), none, [0]⟩, ⟨(some 102), (.mv (.t 104)), none, [1]⟩, ⟨(some 105), (.ext (.t 102) 0), none, [2]⟩, ⟨(some 106), (.ext (.t 102) 1), none, [2]⟩, ⟨(some 22), (.mv (.t 105)), none, [3, 1, 0, 1, 2, 3]⟩, ⟨(some 23), (.mv (.t 106)), none, [4, 5, 0, 1, 2, 3, 4, 5]⟩] false) (.seq (.reg [⟨(some 107), (.mv (.t 20)), none, []⟩, ⟨(some 108), (.mv (.t 22)), none, []⟩, ⟨(some 109), (.bin .neq (.t 107) (.t 108)), none, [0, 1]⟩, ⟨(some 110), (.mv (.t 109)), none, [2]⟩, ⟨(some 111), (.mv (.t 21)), (some (110, false)), [3]⟩, ⟨(some 112), (.mv (.t 23)), (some (110, false)), [3]⟩, ⟨(some 113), (.bin .neq (.t 111) (.t 112)), (some (110, false)), [4, 5, 3]⟩, ⟨(some 114), (.pick (.t 110) (.c (.bool true)) (.t 113)), none, [3, 6]⟩, ⟨(some 115), (.mv (.t 114)), none, [7, 3]⟩, ⟨(some 116), (.mv (.t 16)), (some (115, false)), [8]⟩, ⟨(some 117), (.call 19 [(.t 116)]), (some (115, false)), [9, 8, 8]⟩, ⟨(some 118), (.mv (.t 17)), (some (115, false)), [8]⟩, ⟨(some 119), (.call 20 [(.t 118)]), (some (115, false)), [11, 10, 8]⟩, ⟨(some 120), (.aeq true 2 (.t 117) (.t 119)), (some (115, false)), [10, 12, 8]⟩, ⟨(some 121), (.pick (.t 115) (.c (.bool true)) (.t 120)), none, [8, 13]⟩, ⟨(some 122), (.mv (.t 121)), none, [14, 12]⟩, ⟨(some 123), (.mv (.t 16)), (some (122, false)), [15]⟩, ⟨(some 124), (.call 21 [(.t 123)]), (some (122, false)), [16, 15, 15]⟩, ⟨(some 125), (.mv (.t 17)), (some (122, false)), [15]⟩, ⟨(some 126), (.call 22 [(.t 125)]), (some (122, false)), [18, 17, 15]⟩, ⟨(some 127), (.aeq true 2 (.t 124) (.t 126)), (some (122, false)), [17, 19, 15]⟩, ⟨(some 128), (.pick (.t 122) (.c (.bool true)) (.t 127)), none, [15, 20]⟩, ⟨(some 129), (.mv (.t 128)), none, [21, 19]⟩, ⟨(some 130), (.mv (.t 16)), (some (129, false)), [22]⟩, ⟨(some 131), (.call 23 [(.t 130)]), (some (129, false)), [23, 22, 22]⟩, ⟨(some 132), (.mv (.t 17)), (some (129, false)), [22]⟩, ⟨(some 133), (.call 24 [(.t 132)]), (some (129, false)), [25, 24, 22]⟩, ⟨(some 134), (.bin .neq (.t 131) (.t 133)), (some (129, false)), [24, 26, 22]⟩, ⟨(some 135), (.pick (.t 129) (.c (.bool true)) (.t 134)), none, [22, 27]⟩, ⟨(some 136), (.mv (.t 135)), none, [28, 26]⟩, ⟨(some 137), (.mv (.t 16)), (some (136, false)), [29]⟩, ⟨(some 138), (.call 26 [(.t 137)]), (some (136, false)), [30, 29, 29]⟩, ⟨(some 139), (.mv (.t 17)), (some (136, false)), [29]⟩, ⟨(some 140), (.call 27 [(.t 139)]), (some (136, false)), [32, 31, 29]⟩, ⟨(some 141), (.call 25 [(.t 138), (.t 140)]), (some (136, false)), [31, 33, 33, 29]⟩, ⟨(some 142), (.un .not (.t 141)), (some (136, false)), [34, 29]⟩, ⟨(some 143), (.pick (.t 136) (.c (.bool true)) (.t 142)), none, [29, 35]⟩] false) (.cond (.t 143) (.seq (.reg [⟨(some 10), (.mv (.c (.bool false))), none, []⟩] false) .ret) .skip))))))) (.reg [⟨(some 144), (.bin .add (.t 86) (.c (.int .i64 1))), none, []⟩, ⟨(some 86), (.mv (.t 144)), none, [0]⟩] false))))))) (.seq (.reg [⟨(some 145), (.mv (.t 11)), none, []⟩, ⟨(some 10), (.mv (.t 145)), none, [0, 0]⟩] false) .ret)))))))))
theorem mcOkc3 : (match Try.f3.body with | some c => compC Try.prog 146 c | none => none) = some mcc3 := by kernel_rfl

set_option maxHeartbeats 1600000 in
theorem gc3 (ls : List (List Int)) (ev : Int) (hls : ∀ L ∈ ls, L.length ≤ 4611686018427387904) (hlls : ls.length ≤ 4611686018427387904) (hev : 0 ≤ ev ∧ ev < 256) (l : List Int) (hl : l.length ≤ 4611686018427387904) (hx : ∀ x ∈ l, 0 ≤ x ∧ x < 256) (raw : List (Int × Int)) (hraw : raw.length ≤ 4611686018427387904) (ms : List Mv) (hms : ms.length ≤ 4611686018427387904) (ey : Int) : FC Try.prog 3 [.agg [.rs 1 (ls.map cL), .int .u8 ev], .rs 1 (l.map cu8), .rs 2 (raw.map cE), mvs ms, iv ey] [] (.bool true) [] false := by
  obtain ⟨p, n, h10, hnw, hpl, ha, hn⟩ := made_ex ls ev hls hlls hev
  have h12 := at12 900 901 902 rfl p n (by omega) hnw
  have h13 := at13 910 911 912 rfl p n (by omega) hnw
  have h28 := gc28 p (by omega)
  generalize pstep p = a at h12 h13 h28 ha
  have hI0 : Iv 0 (st0 a n) := iv_0 ⟨by omega, by omega⟩ ⟨by omega, by omega⟩
  have h14 := gc14 l hl hx
  have hE : (evS (l.take 40)).length ≤ 320 := by
    have := evS_len (l.take 40) (fun x hx0 => hx x (List.mem_of_mem_take hx0))
    simp at this; omega
  generalize evS (l.take 40) = E at h14 hE
  obtain ⟨E2, hE2⟩ : ∃ E2, E ++ raw.take 6 = E2 := ⟨_, rfl⟩
  have hr6 : (raw.take 6).length ≤ 6 := by simp; omega
  have hN : E.length + (raw.take 6).length = E2.length := by rw [← hE2, List.length_append]
  have hE2l : E2.length ≤ 326 := by omega
  have hm3 : (ms.take 3).length ≤ 3 := by simp; omega
  refine fc_run (nt := 146) Try.func3 rfl rfl mcOkc3 (Nat.le_of_ble_eq_true rfl) ?_
  delta mcc3
  refine aw_seq ?_
  refine aw_reg ?_
  refine rs_box rfl rfl rfl rfl rfl rfl ?_
  refine rs_mv rfl rfl ?_
  refine rs_nil fun _ => ?_
  refine th_n ?_
  refine aw_seq ?_
  refine aw_reg ?_
  refine rs_calln [] rfl rfl gc9 .nil rfl ?_
  refine rs_mv rfl rfl ?_
  refine rs_nil fun _ => ?_
  refine th_n ?_
  refine aw_seq ?_
  refine aw_reg ?_
  refine rs_ld_pa rfl rfl rfl rfl (Nat.le_of_ble_eq_true rfl) rfl ?_
  refine rs_callo [] rfl rfl (h10) (.cons (hv_same rfl) (.nil)) (.nil) rfl rfl rfl ?_
  refine rs_mv rfl rfl ?_
  refine rs_ext rfl rfl rfl ?_
  refine rs_ext rfl rfl rfl ?_
  refine rs_mv rfl rfl ?_
  refine rs_mv rfl rfl ?_
  refine rs_nil fun _ => ?_
  refine th_n ?_
  refine aw_seq ?_
  refine aw_reg ?_
  refine rs_mv rfl rfl ?_
  refine rs_mv rfl rfl ?_
  refine rs_len_m rfl rfl ?_
  refine rs_mn rfl rfl rfl rfl ?_
  refine rs_slc_r (l := 0) (q := min (ms.length : Int) 3) (els' := (ms.take 3).map cM) rfl rfl rfl rfl rfl (by omega) (by omega) (by simp; omega) (by rw [show (min (ms.length : Int) 3).toNat = min ms.length 3 by omega]; simp [List.take_eq_take_min, Nat.min_comm]) ?_
  refine rs_mv rfl rfl ?_
  refine rs_nil fun _ => ?_
  refine th_n ?_
  refine aw_seq ?_
  refine aw_seq ?_
  refine aw_reg ?_
  refine rs_mv rfl rfl ?_
  refine rs_mv rfl rfl ?_
  refine rs_calln [] rfl rfl (fc16 ey 103 (by decide)) (.cons (hv_same rfl) (.cons (hv_same rfl) (.nil))) rfl ?_
  refine rs_bslice (l := ([ey, modS ey 103]).flatMap ci) (els := ([ey, modS ey 103]).map ci) (fl := true) rfl (by kernel_rfl) rfl rfl (by kernel_rfl) (by kernel_rfl) ?_
  refine rs_len_s rfl rfl ?_
  refine rs_mv rfl rfl ?_
  refine rs_nil fun _ => ?_
  refine th_n ?_
  refine aw_block ?_
  refine aw_fam (α := Nat) (fun k => 2 - k) (fun k => [(1, .rs 1 (l.map cu8)), (2, .rs 2 (raw.map cE)), (3, mvs (ms.take 3)), (11, .bool true), (12, mvs p), (13, iv n), (38, .sl 38 0 2), (39, iv 2), (40, iv (((k) : Nat) : Int))]) (fun k => [(38, .cells 3 1 [[iv ey], [iv (modS ey 103)]] true)]) (fun k => k ≤ 2) 0 (by omega)
    (weak_to (.cons rfl (rc_same rfl (.inl rfl)) (.cons rfl (rc_same rfl (.inl rfl)) (.cons rfl (rc_same rfl (.inl rfl)) (.cons rfl (rc_same rfl (.inl rfl)) (.cons rfl (rc_same rfl (.inl rfl)) (.cons rfl (rc_same rfl (.inl rfl)) (.cons rfl (rc_same rfl (.inl rfl)) (.cons rfl (rc_same rfl (.inl rfl)) (.cons rfl (rc_same rfl (.inl rfl)) (.nil)))))))))) (.keep (rfl) rfl (.nil)) (fun i h => by cases h)) ?_
  intro k hk
  refine aw_seq ?_
  refine aw_reg ?_
  refine rs_lss rfl rfl rfl ?_
  refine rs_nil fun _ => ?_
  refine th_n ?_
  refine aw_seq ?_
  refine aw_cond rfl (fun h41 => ?_) (fun h41 => ?_)
  · replace h41 := of_decide_eq_true h41
    refine aw_skip ?_
    refine th_n ?_
    refine aw_seq ?_
    refine aw_block ?_
    refine aw_cutw (F0 := [(1, .rs 1 (l.map cu8)), (2, .rs 2 (raw.map cE)), (3, mvs (ms.take 3)), (11, .bool true), (12, mvs p), (13, iv n), (38, .sl 38 0 2), (39, iv 2), (40, iv (((k) : Nat) : Int)), (15, iv (xj ey k))]) (H0 := [(38, .cells 3 1 [[iv ey], [iv (modS ey 103)]] true)]) ?_ ?_
    · skip
      refine aw_reg ?_
      obtain rfl | rfl : k = 0 ∨ k = 1 := by omega
      · skip
        refine rs_ix_s rfl rfl rfl rfl (by decide) (by decide) ?_
        refine rs_ld_p rfl rfl rfl rfl rfl ?_
        refine rs_mv rfl rfl ?_
        refine rs_nil fun _ => ?_
        exact ⟨rfl, weak_to (.cons rfl (rc_same rfl (.inl rfl)) (.cons rfl (rc_same rfl (.inl rfl)) (.cons rfl (rc_same rfl (.inl rfl)) (.cons rfl (rc_same rfl (.inl rfl)) (.cons rfl (rc_same rfl (.inl rfl)) (.cons rfl (rc_same rfl (.inl rfl)) (.cons rfl (rc_same rfl (.inl rfl)) (.cons rfl (rc_same rfl (.inl rfl)) (.cons rfl (rc_same rfl (.inl rfl)) (.cons rfl (rc_int rfl) (.nil))))))))))) (.keep (rfl) rfl (.nil)) (fun i h => by cases h)⟩
      · skip
        refine rs_ix_s rfl rfl rfl rfl (by decide) (by decide) ?_
        refine rs_ld_p rfl rfl rfl rfl rfl ?_
        refine rs_mv rfl rfl ?_
        refine rs_nil fun _ => ?_
        exact ⟨rfl, weak_to (.cons rfl (rc_same rfl (.inl rfl)) (.cons rfl (rc_same rfl (.inl rfl)) (.cons rfl (rc_same rfl (.inl rfl)) (.cons rfl (rc_same rfl (.inl rfl)) (.cons rfl (rc_same rfl (.inl rfl)) (.cons rfl (rc_same rfl (.inl rfl)) (.cons rfl (rc_same rfl (.inl rfl)) (.cons rfl (rc_same rfl (.inl rfl)) (.cons rfl (rc_same rfl (.inl rfl)) (.cons rfl (rc_int rfl) (.nil))))))))))) (.keep (rfl) rfl (.nil)) (fun i h => by cases h)⟩
    · skip
      refine aw_seq ?_
      refine aw_reg ?_
      generalize xj ey k = x
      refine rs_mv rfl rfl ?_
      refine rs_mv rfl rfl ?_
      by_cases hb : newB (ms.take 3) x
      · skip
        refine rs_calln [] rfl rfl (at12 940 941 942 rfl (ms.take 3) x (by omega) hb) (.cons (hv_same rfl) (.cons (hv_same rfl) (.nil))) rfl ?_
        refine rs_nil_p rfl rfl (.inr ⟨_, _, _, rfl⟩) ?_
        refine rs_mv rfl rfl ?_
        refine rs_mv rfl rfl ?_
        refine rs_calln [] rfl rfl (at13 950 951 952 rfl (ms.take 3) x (by omega) hb) (.cons (hv_same rfl) (.cons (hv_same rfl) (.nil))) rfl ?_
        refine rs_nil_p rfl rfl (.inr ⟨_, _, _, rfl⟩) ?_
        refine rs_beq rfl rfl rfl ?_
        refine rs_mv rfl rfl ?_
        refine rs_mv rfl rfl ?_
        refine rs_mv rfl rfl ?_
        by_cases hq : newB p x
        · skip
          refine rs_calln [] rfl rfl (at12 960 961 962 rfl p x (by omega) hq) (.cons (hv_same rfl) (.cons (hv_same rfl) (.nil))) rfl ?_
          refine rs_nil_p rfl rfl (.inr ⟨_, _, _, rfl⟩) ?_
          refine rs_mv rfl rfl ?_
          refine rs_mv rfl rfl ?_
          refine rs_calln [] rfl rfl (at13 970 971 972 rfl p x (by omega) hq) (.cons (hv_same rfl) (.cons (hv_same rfl) (.nil))) rfl ?_
          refine rs_nil_p rfl rfl (.inr ⟨_, _, _, rfl⟩) ?_
          refine rs_beq rfl rfl rfl ?_
          refine rs_pick rfl rfl rfl ?_
          refine rs_nil fun _ => ?_
          refine th_n ?_
          refine aw_cond rfl (fun h => by cases h) (fun _ => ?_)
          refine aw_skip ?_
          refine in_n ?_
          refine th_n ?_
          refine aw_reg ?_
          refine rs_add rfl rfl rfl (by omega) ?_
          refine rs_mv rfl rfl ?_
          refine rs_nil fun _ => ?_
          refine th_n ?_
          exact ⟨k + 1, by omega, by omega, weak_to (.cons rfl (rc_same rfl (.inl rfl)) (.cons rfl (rc_same rfl (.inl rfl)) (.cons rfl (rc_same rfl (.inl rfl)) (.cons rfl (rc_same rfl (.inl rfl)) (.cons rfl (rc_same rfl (.inl rfl)) (.cons rfl (rc_same rfl (.inl rfl)) (.cons rfl (rc_same rfl (.inl rfl)) (.cons rfl (rc_same rfl (.inl rfl)) (.cons rfl (rc_same rfl (.inl rfl)) (.nil)))))))))) (.keep (rfl) rfl (.nil)) (fun i h => by cases h)⟩
        · skip
          refine rs_calln [] rfl rfl (gc12n p x (by omega) hq) (.cons (hv_same rfl) (.cons (hv_same rfl) (.nil))) rfl ?_
          refine rs_nil_n rfl rfl (.inr ⟨rfl, rfl⟩) ?_
          refine rs_mv rfl rfl ?_
          refine rs_mv rfl rfl ?_
          refine rs_calln [] rfl rfl (gc13n p x (by omega) hq) (.cons (hv_same rfl) (.cons (hv_same rfl) (.nil))) rfl ?_
          refine rs_nil_n rfl rfl (.inr ⟨rfl, rfl⟩) ?_
          refine rs_beq rfl rfl rfl ?_
          refine rs_pick rfl rfl rfl ?_
          refine rs_nil fun _ => ?_
          refine th_n ?_
          refine aw_cond rfl (fun h => by cases h) (fun _ => ?_)
          refine aw_skip ?_
          refine in_n ?_
          refine th_n ?_
          refine aw_reg ?_
          refine rs_add rfl rfl rfl (by omega) ?_
          refine rs_mv rfl rfl ?_
          refine rs_nil fun _ => ?_
          refine th_n ?_
          exact ⟨k + 1, by omega, by omega, weak_to (.cons rfl (rc_same rfl (.inl rfl)) (.cons rfl (rc_same rfl (.inl rfl)) (.cons rfl (rc_same rfl (.inl rfl)) (.cons rfl (rc_same rfl (.inl rfl)) (.cons rfl (rc_same rfl (.inl rfl)) (.cons rfl (rc_same rfl (.inl rfl)) (.cons rfl (rc_same rfl (.inl rfl)) (.cons rfl (rc_same rfl (.inl rfl)) (.cons rfl (rc_same rfl (.inl rfl)) (.nil)))))))))) (.keep (rfl) rfl (.nil)) (fun i h => by cases h)⟩
      · skip
        refine rs_calln [] rfl rfl (gc12n (ms.take 3) x (by omega) hb) (.cons (hv_same rfl) (.cons (hv_same rfl) (.nil))) rfl ?_
        refine rs_nil_n rfl rfl (.inr ⟨rfl, rfl⟩) ?_
        refine rs_mv rfl rfl ?_
        refine rs_mv rfl rfl ?_
        refine rs_calln [] rfl rfl (gc13n (ms.take 3) x (by omega) hb) (.cons (hv_same rfl) (.cons (hv_same rfl) (.nil))) rfl ?_
        refine rs_nil_n rfl rfl (.inr ⟨rfl, rfl⟩) ?_
        refine rs_beq rfl rfl rfl ?_
        refine rs_mv rfl rfl ?_
        refine rs_mv rfl rfl ?_
        refine rs_mv rfl rfl ?_
        by_cases hq : newB p x
        · skip
          refine rs_calln [] rfl rfl (at12 960 961 962 rfl p x (by omega) hq) (.cons (hv_same rfl) (.cons (hv_same rfl) (.nil))) rfl ?_
          refine rs_nil_p rfl rfl (.inr ⟨_, _, _, rfl⟩) ?_
          refine rs_mv rfl rfl ?_
          refine rs_mv rfl rfl ?_
          refine rs_calln [] rfl rfl (at13 970 971 972 rfl p x (by omega) hq) (.cons (hv_same rfl) (.cons (hv_same rfl) (.nil))) rfl ?_
          refine rs_nil_p rfl rfl (.inr ⟨_, _, _, rfl⟩) ?_
          refine rs_beq rfl rfl rfl ?_
          refine rs_pick rfl rfl rfl ?_
          refine rs_nil fun _ => ?_
          refine th_n ?_
          refine aw_cond rfl (fun h => by cases h) (fun _ => ?_)
          refine aw_skip ?_
          refine in_n ?_
          refine th_n ?_
          refine aw_reg ?_
          refine rs_add rfl rfl rfl (by omega) ?_
          refine rs_mv rfl rfl ?_
          refine rs_nil fun _ => ?_
          refine th_n ?_
          exact ⟨k + 1, by omega, by omega, weak_to (.cons rfl (rc_same rfl (.inl rfl)) (.cons rfl (rc_same rfl (.inl rfl)) (.cons rfl (rc_same rfl (.inl rfl)) (.cons rfl (rc_same rfl (.inl rfl)) (.cons rfl (rc_same rfl (.inl rfl)) (.cons rfl (rc_same rfl (.inl rfl)) (.cons rfl (rc_same rfl (.inl rfl)) (.cons rfl (rc_same rfl (.inl rfl)) (.cons rfl (rc_same rfl (.inl rfl)) (.nil)))))))))) (.keep (rfl) rfl (.nil)) (fun i h => by cases h)⟩
        · skip
          refine rs_calln [] rfl rfl (gc12n p x (by omega) hq) (.cons (hv_same rfl) (.cons (hv_same rfl) (.nil))) rfl ?_
          refine rs_nil_n rfl rfl (.inr ⟨rfl, rfl⟩) ?_
          refine rs_mv rfl rfl ?_
          refine rs_mv rfl rfl ?_
          refine rs_calln [] rfl rfl (gc13n p x (by omega) hq) (.cons (hv_same rfl) (.cons (hv_same rfl) (.nil))) rfl ?_
          refine rs_nil_n rfl rfl (.inr ⟨rfl, rfl⟩) ?_
          refine rs_beq rfl rfl rfl ?_
          refine rs_pick rfl rfl rfl ?_
          refine rs_nil fun _ => ?_
          refine th_n ?_
          refine aw_cond rfl (fun h => by cases h) (fun _ => ?_)
          refine aw_skip ?_
          refine in_n ?_
          refine th_n ?_
          refine aw_reg ?_
          refine rs_add rfl rfl rfl (by omega) ?_
          refine rs_mv rfl rfl ?_
          refine rs_nil fun _ => ?_
          refine th_n ?_
          exact ⟨k + 1, by omega, by omega, weak_to (.cons rfl (rc_same rfl (.inl rfl)) (.cons rfl (rc_same rfl (.inl rfl)) (.cons rfl (rc_same rfl (.inl rfl)) (.cons rfl (rc_same rfl (.inl rfl)) (.cons rfl (rc_same rfl (.inl rfl)) (.cons rfl (rc_same rfl (.inl rfl)) (.cons rfl (rc_same rfl (.inl rfl)) (.cons rfl (rc_same rfl (.inl rfl)) (.cons rfl (rc_same rfl (.inl rfl)) (.nil)))))))))) (.keep (rfl) rfl (.nil)) (fun i h => by cases h)⟩
  · replace h41 := of_decide_eq_false h41
    refine aw_exit ?_
    refine th_e ?_
    refine th_e ?_
    refine in_hit ?_
    refine th_n ?_
    refine aw_seq ?_
    refine aw_reg ?_
    refine rs_mv rfl rfl ?_
    refine rs_mv rfl rfl ?_
    refine rs_calln [] rfl rfl (h12) (.cons (hv_same rfl) (.cons (hv_same rfl) (.nil))) rfl ?_
    refine rs_mv rfl rfl ?_
    refine rs_mv rfl rfl ?_
    refine rs_calln [] rfl rfl (h13) (.cons (hv_same rfl) (.cons (hv_same rfl) (.nil))) rfl ?_
    refine rs_mv rfl rfl ?_
    refine rs_mv rfl rfl ?_
    refine rs_nil fun _ => ?_
    refine th_n ?_
    refine aw_seq ?_
    refine aw_seq ?_
    refine aw_reg ?_
    refine rs_mv rfl rfl ?_
    refine rs_nil_p rfl rfl (.inr ⟨_, _, _, rfl⟩) ?_
    refine rs_mv rfl rfl ?_
    refine rs_mv rfl rfl ?_
    refine rs_nil_p rfl rfl (.inr ⟨_, _, _, rfl⟩) ?_
    refine rs_pick rfl rfl rfl ?_
    refine rs_nil fun _ => ?_
    refine th_n ?_
    refine aw_cond rfl (fun h => by cases h) (fun _ => ?_)
    refine aw_skip ?_
    refine th_n ?_
    refine aw_seq ?_
    refine aw_cutw (F0 := [(11, .bool true), (16, .ptr 900 0 0), (17, .ptr 910 0 0), (84, .sl 84 0 E2.length), (85, iv (E2.length : Int)), (86, iv 0)]) (H0 := [(900, ctlO 901 (st0 a n)), (901, rowO (st0 a n).rs), (910, refO 911 (st0 a n)), (911, rowO (st0 a n).rs), (84, .cells 39 2 (E2.map cE) true)]) ?_ ?_
    · skip
      refine aw_draw hmix ?_
      refine rs_mv rfl rfl ?_
      refine rs_calln [] rfl rfl (h14) (.cons (hv_same rfl) (.nil)) rfl ?_
      refine rs_mv rfl rfl ?_
      refine rs_mv rfl rfl ?_
      refine rs_len_m rfl rfl ?_
      refine rs_mn rfl rfl rfl rfl ?_
      refine rs_slc_r (l := 0) (q := min (raw.length : Int) 6) (els' := (raw.take 6).map cE) rfl rfl rfl rfl rfl (by omega) (by omega) (by simp; omega) (by rw [show (min (raw.length : Int) 6).toNat = min raw.length 6 by omega]; simp [List.take_eq_take_min, Nat.min_comm]) ?_
      refine rs_app_mm (f := cE) (xs := E) (ys := raw.take 6) (m := (raw.take 6).length) (rd := []) rfl rfl rfl rfl rfl rfl rfl (by simp) (fun _ => rfl) rfl rfl (by omega) (by omega) (fun _ => rfl) ?_
      refine rs_len_s rfl rfl ?_
      refine rs_mv rfl rfl ?_
      refine rs_nil ⟨by kernel_rfl, fun _ => ?_⟩
      exact ⟨rfl, weak_to (.cons rfl (rc_same rfl (.inl rfl)) (.cons rfl (rc_same rfl (.inl rfl)) (.cons rfl (rc_same rfl (.inl rfl)) (.cons rfl (rc_eq (congrArg (AV.sl 84 0) hN) rfl) (.cons rfl (rc_int (by omega)) (.cons rfl (rc_same rfl (.inl rfl)) (.nil))))))) (.keep (rfl) rfl (.keep (rfl) rfl (.keep (rfl) rfl (.keep (rfl) rfl (.keep ((by rw [← hE2]; rfl)) rfl (.nil)))))) (fun i h => by cases h)⟩
    · skip
      refine aw_block ?_
      refine aw_fam (α := Q3s) (fun q => E2.length - q.k) (fun q => [(11, .bool true), (16, .ptr 900 0 0), (17, .ptr 910 0 0), (84, .sl 84 0 E2.length), (85, iv (E2.length : Int)), (86, iv (((q.k) : Nat) : Int))]) (fun q => [(900, ctlO 903 q.s), (903, rowO q.s.rs), (910, refO 913 q.s), (913, rowO q.s.rs), (84, .cells 39 2 (E2.map cE) true)]) (fun q => q.k ≤ E2.length ∧ Iv q.k q.s) ⟨0, st0 a n⟩ (⟨by dsimp only; omega, hI0⟩)
        (show Weak _ _ _ _ [(11, .bool true), (16, .ptr 900 0 0), (17, .ptr 910 0 0), (84, .sl 84 0 E2.length), (85, iv (E2.length : Int)), (86, iv (((0) : Nat) : Int))] [(900, ctlO 903 (st0 a n)), (903, rowO (st0 a n).rs), (910, refO 913 (st0 a n)), (913, rowO (st0 a n).rs), (84, .cells 39 2 (E2.map cE) true)] from Weak.trans (F1 := [(11, .bool true), (16, .ptr 900 0 0), (17, .ptr 910 0 0), (84, .sl 84 0 E2.length), (85, iv (E2.length : Int)), (86, iv (((0) : Nat) : Int))]) (H1 := [(900, ctlO 901 (st0 a n)), (901, rowO (st0 a n).rs), (910, refO 911 (st0 a n)), (911, rowO (st0 a n).rs), (84, .cells 39 2 (E2.map cE) true)]) (weak_to (.cons rfl (rc_same rfl (.inl rfl)) (.cons rfl (rc_same rfl (.inl rfl)) (.cons rfl (rc_same rfl (.inl rfl)) (.cons rfl (rc_same rfl (.inl rfl)) (.cons rfl (rc_same rfl (.inl rfl)) (.cons rfl (rc_same rfl (.inl rfl)) (.nil))))))) (.keep (rfl) rfl (.keep (rfl) rfl (.keep (rfl) rfl (.keep (rfl) rfl (.keep (rfl) rfl (.nil)))))) fun i h => by cases h) (Weak.trans (F1 := [(11, .bool true), (16, .ptr 900 0 0), (17, .ptr 910 0 0), (84, .sl 84 0 E2.length), (85, iv (E2.length : Int)), (86, iv (((0) : Nat) : Int))]) (weak_ren_row (i := 901) (i' := 903) (k := 900) rfl rfl (.cons rfl (.same _) (.cons rfl (.same _) (.cons rfl (.same _) (.cons rfl (.same _) (.cons rfl (.same _) (.cons rfl (.same _) (.nil))))))) (by decide) rfl (.cons (.sl _ _) (RenL.refl _ _ _))) (Weak.trans (F1 := [(11, .bool true), (16, .ptr 900 0 0), (17, .ptr 910 0 0), (84, .sl 84 0 E2.length), (85, iv (E2.length : Int)), (86, iv (((0) : Nat) : Int))]) (H1 := [(900, ctlO 903 (st0 a n)), (903, rowO (st0 a n).rs), (910, refO 911 (st0 a n)), (911, rowO (st0 a n).rs), (84, .cells 39 2 (E2.map cE) true)]) (weak_to (.cons rfl (rc_same rfl (.inl rfl)) (.cons rfl (rc_same rfl (.inl rfl)) (.cons rfl (rc_same rfl (.inl rfl)) (.cons rfl (rc_same rfl (.inl rfl)) (.cons rfl (rc_same rfl (.inl rfl)) (.cons rfl (rc_same rfl (.inl rfl)) (.nil))))))) (.keep (rfl) rfl (.keep (rfl) rfl (.keep (rfl) rfl (.keep (rfl) rfl (.keep (rfl) rfl (.nil)))))) fun i h => by cases h) (Weak.trans (F1 := [(11, .bool true), (16, .ptr 900 0 0), (17, .ptr 910 0 0), (84, .sl 84 0 E2.length), (85, iv (E2.length : Int)), (86, iv (((0) : Nat) : Int))]) (weak_ren_row (i := 911) (i' := 913) (k := 910) rfl rfl (.cons rfl (.same _) (.cons rfl (.same _) (.cons rfl (.same _) (.cons rfl (.same _) (.cons rfl (.same _) (.cons rfl (.same _) (.nil))))))) (by decide) rfl (.cons (.same _) (.cons (.same _) (.cons (.same _) (.cons (.same _) (.cons (.same _) (.cons (.same _) (.cons (.same _) (.cons (.same _) (.cons (.same _) (.cons (.same _) (.cons (.same _) (.cons (.sl _ _) (RenL.refl _ _ _)))))))))))))) (weak_to (.cons rfl (rc_same rfl (.inl rfl)) (.cons rfl (rc_same rfl (.inl rfl)) (.cons rfl (rc_same rfl (.inl rfl)) (.cons rfl (rc_same rfl (.inl rfl)) (.cons rfl (rc_same rfl (.inl rfl)) (.cons rfl (rc_same rfl (.inl rfl)) (.nil))))))) (.keep (rfl) rfl (.keep (rfl) rfl (.keep (rfl) rfl (.keep (rfl) rfl (.keep (rfl) rfl (.nil)))))) fun i h => by cases h))))) ?_
      rintro ⟨k, s⟩ ⟨hk, hI⟩
      dsimp only at hk hI
      try dsimp only
      refine aw_seq ?_
      refine aw_reg ?_
      refine rs_lss rfl rfl rfl ?_
      refine rs_nil fun _ => ?_
      refine th_n ?_
      refine aw_seq ?_
      refine aw_cond rfl (fun h87 => ?_) (fun h87 => ?_)
      · replace h87 := of_decide_eq_true h87
        refine aw_skip ?_
        refine th_n ?_
        refine aw_seq ?_
        refine aw_block ?_
        refine aw_seq ?_
        refine aw_reg ?_
        obtain ⟨p0, hp0, _⟩ := at_some (L := E2) (k := k) (by omega)
        refine rs_ix_s rfl rfl rfl rfl (by omega) (by omega) ?_
        refine rs_ld_ga (f := cE) (xs := E2) (y := p0) rfl rfl rfl (by rw [show 0 + ((k : Nat) : Int).toNat = k by omega]; exact hp0) (Nat.le_of_ble_eq_true rfl) rfl ?_
        refine rs_alloc rfl rfl rfl ?_
        refine rs_st rfl rfl rfl rfl rfl rfl rfl (Nat.le_of_ble_eq_true rfl) rfl rfl ?_
        refine rs_nil fun _ => ?_
        refine th_n ?_
        refine aw_seq ?_
        refine aw_seq ?_
        refine aw_draw hmix ?_
        refine rs_mv rfl rfl ?_
        refine rs_ld_pa rfl rfl rfl rfl (Nat.le_of_ble_eq_true rfl) rfl ?_
        have hI2 := iv_do hI p0.1 p0.2
        generalize hd : doS s p0.1 p0.2 = q at hI2
        obtain ⟨e, t⟩ := q
        dsimp only at hI2
        have hst := hI2.sm (by omega)
        obtain ⟨A, B, hAB⟩ : ∃ A B, spanS t = (A, B) := ⟨_, _, rfl⟩
        refine rs_callo (hC 900 903 s) rfl rfl (at15 900 903 905 rfl s t p0.1 p0.2 e (hI.sm (by omega)) hd) (.cons (hv_same rfl) (.cons (hv_same rfl) (.nil))) (.cons rfl (.cons rfl (.nil))) rfl rfl rfl ?_
        refine rs_mv rfl rfl ?_
        refine rs_ld_pa rfl rfl rfl rfl (Nat.le_of_ble_eq_true rfl) rfl ?_
        refine rs_callo (hR 910 913 s) rfl rfl (at16 910 913 915 rfl s t p0.1 p0.2 e (hI.sm (by omega)) hI.fd hd) (.cons (hv_same rfl) (.cons (hv_same rfl) (.nil))) (.cons rfl (.cons rfl (.nil))) rfl rfl rfl ?_
        refine rs_cmp_f rfl rfl rfl rfl (fun h => h rfl) ?_
        refine rs_nil ⟨by kernel_rfl, fun _ => ?_⟩
        refine th_n ?_
        refine aw_cond rfl (fun h => by cases h) (fun _ => ?_)
        refine aw_skip ?_
        refine th_n ?_
        refine aw_seq ?_
        refine aw_reg ?_
        refine rs_mv rfl rfl ?_
        refine rs_calln [900, 905] rfl rfl (gc17 t hst) (.cons (hv_obj (by simp) rfl (.sl (by simp) rfl (by simp) (.int (.bool (.int (.int (.int (.int (.int (.int (.bool (.int (.bool (.bool (.bool (.bool .nil)))))))))))))))) (.nil)) rfl ?_
        refine rs_mv rfl rfl ?_
        refine rs_ext rfl rfl rfl ?_
        refine rs_ext rfl rfl rfl ?_
        refine rs_mv rfl rfl ?_
        refine rs_mv rfl rfl ?_
        refine rs_nil fun _ => ?_
        refine th_n ?_
        refine aw_seq ?_
        refine aw_reg ?_
        refine rs_mv rfl rfl ?_
        refine rs_calln [910, 915] rfl rfl (gc18 t hst) (.cons (hv_obj (by simp) rfl (.int (.int (.int (.int (.int (.int (.int (.bool (.bool (.bool (.bool (.sl (by simp) rfl (by simp) (.int (.bool .nil))))))))))))))) (.nil)) rfl ?_
        refine rs_mv rfl rfl ?_
        refine rs_ext rfl rfl rfl ?_
        refine rs_ext rfl rfl rfl ?_
        refine rs_mv rfl rfl ?_
        refine rs_mv rfl rfl ?_
        refine rs_nil fun _ => ?_
        refine th_n ?_
        refine aw_seq ?_
        refine aw_reg ?_
        refine rs_mv rfl rfl ?_
        refine rs_mv rfl rfl ?_
        refine rs_cmp_f rfl rfl rfl rfl (fun h => h rfl) ?_
        refine rs_mv rfl rfl ?_
        refine rs_mv rfl rfl ?_
        refine rs_mv rfl rfl ?_
        refine rs_cmp_f rfl rfl rfl rfl (fun h => h rfl) ?_
        refine rs_pick rfl rfl rfl ?_
        refine rs_mv rfl rfl ?_
        refine rs_mv rfl rfl ?_
        refine rs_calln [900, 905] rfl rfl (gc19 t A B hst hI2.ls hAB) (.cons (hv_obj (by simp) rfl (.sl (by simp) rfl (by simp) (.int (.bool (.int (.int (.int (.int (.int (.int (.bool (.int (.bool (.bool (.bool (.bool .nil)))))))))))))))) (.nil)) rfl ?_
        refine rs_mv rfl rfl ?_
        refine rs_calln [910, 915] rfl rfl (gc20 t A B hst hI2.ls hAB) (.cons (hv_obj (by simp) rfl (.int (.int (.int (.int (.int (.int (.int (.bool (.bool (.bool (.bool (.sl (by simp) rfl (by simp) (.int (.bool .nil))))))))))))))) (.nil)) rfl ?_
        refine rs_aeq (b := false) [A, B] [A, B] rfl rfl rfl rfl rfl rfl rfl (by simp) ?_
        refine rs_pick rfl rfl rfl ?_
        refine rs_mv rfl rfl ?_
        refine rs_mv rfl rfl ?_
        refine rs_calln [900, 905] rfl rfl (gc21 t A B hst hI2.ls hAB) (.cons (hv_obj (by simp) rfl (.sl (by simp) rfl (by simp) (.int (.bool (.int (.int (.int (.int (.int (.int (.bool (.int (.bool (.bool (.bool (.bool .nil)))))))))))))))) (.nil)) rfl ?_
        refine rs_mv rfl rfl ?_
        refine rs_calln [910, 915] rfl rfl (gc22 t A B hst hI2.ls hAB) (.cons (hv_obj (by simp) rfl (.int (.int (.int (.int (.int (.int (.int (.bool (.bool (.bool (.bool (.sl (by simp) rfl (by simp) (.int (.bool .nil))))))))))))))) (.nil)) rfl ?_
        refine rs_aeq (b := false) [t.sound, B] [t.sound, B] rfl rfl rfl rfl rfl rfl rfl (by simp) ?_
        refine rs_pick rfl rfl rfl ?_
        refine rs_mv rfl rfl ?_
        refine rs_mv rfl rfl ?_
        refine rs_calln [900, 905] rfl rfl (gc23 t hst) (.cons (hv_obj (by simp) rfl (.sl (by simp) rfl (by simp) (.int (.bool (.int (.int (.int (.int (.int (.int (.bool (.int (.bool (.bool (.bool (.bool .nil)))))))))))))))) (.nil)) rfl ?_
        refine rs_mv rfl rfl ?_
        refine rs_calln [910, 915] rfl rfl (gc24 t hst) (.cons (hv_obj (by simp) rfl (.int (.int (.int (.int (.int (.int (.int (.bool (.bool (.bool (.bool (.sl (by simp) rfl (by simp) (.int (.bool .nil))))))))))))))) (.nil)) rfl ?_
        refine rs_cmp_f rfl rfl rfl rfl (fun h => h rfl) ?_
        refine rs_pick rfl rfl rfl ?_
        refine rs_mv rfl rfl ?_
        refine rs_mv rfl rfl ?_
        refine rs_calln [900, 905] rfl rfl (gc26 t hst) (.cons (hv_obj (by simp) rfl (.sl (by simp) rfl (by simp) (.int (.bool (.int (.int (.int (.int (.int (.int (.bool (.int (.bool (.bool (.bool (.bool .nil)))))))))))))))) (.nil)) rfl ?_
        refine rs_mv rfl rfl ?_
        refine rs_calln [910, 915] rfl rfl (gc27 t hst) (.cons (hv_obj (by simp) rfl (.int (.int (.int (.int (.int (.int (.int (.bool (.bool (.bool (.bool (.sl (by simp) rfl (by simp) (.int (.bool .nil))))))))))))))) (.nil)) rfl ?_
        refine rs_calln [] rfl rfl (gc25t t.rs (by have := hst.len; omega)) (.cons (hv_same rfl) (.cons (hv_same rfl) (.nil))) rfl ?_
        refine rs_not rfl rfl ?_
        refine rs_pick rfl rfl rfl ?_
        refine rs_nil fun _ => ?_
        refine th_n ?_
        refine aw_cond rfl (fun h => by cases h) (fun _ => ?_)
        refine aw_skip ?_
        refine in_n ?_
        refine th_n ?_
        refine aw_reg ?_
        refine rs_add rfl rfl rfl (by omega) ?_
        refine rs_mv rfl rfl ?_
        refine rs_nil fun _ => ?_
        refine th_n ?_
        refine ⟨⟨k + 1, t⟩, ⟨by dsimp only; omega, hI2⟩, by dsimp only; omega, ?_⟩
        exact show Weak _ _ _ _ [(11, .bool true), (16, .ptr 900 0 0), (17, .ptr 910 0 0), (84, .sl 84 0 E2.length), (85, iv (E2.length : Int)), (86, iv (((k + 1) : Nat) : Int))] [(900, ctlO 903 t), (903, rowO t.rs), (910, refO 913 t), (913, rowO t.rs), (84, .cells 39 2 (E2.map cE) true)] from Weak.trans (F1 := [(11, .bool true), (16, .ptr 900 0 0), (17, .ptr 910 0 0), (84, .sl 84 0 E2.length), (85, iv (E2.length : Int)), (86, iv (((k + 1) : Nat) : Int))]) (H1 := [(900, ctlO 905 t), (905, rowO t.rs), (910, refO 915 t), (915, rowO t.rs), (84, .cells 39 2 (E2.map cE) true)]) (weak_to (.cons rfl (rc_same rfl (.inl rfl)) (.cons rfl (rc_same rfl (.inl rfl)) (.cons rfl (rc_same rfl (.inl rfl)) (.cons rfl (rc_same rfl (.inl rfl)) (.cons rfl (rc_same rfl (.inl rfl)) (.cons rfl (rc_same rfl (.inl rfl)) (.nil))))))) (.keep (rfl) rfl (.keep (rfl) rfl (.keep (rfl) rfl (.keep (rfl) rfl (.keep (rfl) rfl (.nil)))))) fun i h => by cases h) (Weak.trans (F1 := [(11, .bool true), (16, .ptr 900 0 0), (17, .ptr 910 0 0), (84, .sl 84 0 E2.length), (85, iv (E2.length : Int)), (86, iv (((k + 1) : Nat) : Int))]) (weak_ren_row (i := 905) (i' := 903) (k := 900) rfl rfl (.cons rfl (.same _) (.cons rfl (.same _) (.cons rfl (.same _) (.cons rfl (.same _) (.cons rfl (.same _) (.cons rfl (.same _) (.nil))))))) (by decide) rfl (.cons (.sl _ _) (RenL.refl _ _ _))) (Weak.trans (F1 := [(11, .bool true), (16, .ptr 900 0 0), (17, .ptr 910 0 0), (84, .sl 84 0 E2.length), (85, iv (E2.length : Int)), (86, iv (((k + 1) : Nat) : Int))]) (H1 := [(900, ctlO 903 t), (903, rowO t.rs), (910, refO 915 t), (915, rowO t.rs), (84, .cells 39 2 (E2.map cE) true)]) (weak_to (.cons rfl (rc_same rfl (.inl rfl)) (.cons rfl (rc_same rfl (.inl rfl)) (.cons rfl (rc_same rfl (.inl rfl)) (.cons rfl (rc_same rfl (.inl rfl)) (.cons rfl (rc_same rfl (.inl rfl)) (.cons rfl (rc_same rfl (.inl rfl)) (.nil))))))) (.keep (rfl) rfl (.keep (rfl) rfl (.keep (rfl) rfl (.keep (rfl) rfl (.keep (rfl) rfl (.nil)))))) fun i h => by cases h) (Weak.trans (F1 := [(11, .bool true), (16, .ptr 900 0 0), (17, .ptr 910 0 0), (84, .sl 84 0 E2.length), (85, iv (E2.length : Int)), (86, iv (((k + 1) : Nat) : Int))]) (weak_ren_row (i := 915) (i' := 913) (k := 910) rfl rfl (.cons rfl (.same _) (.cons rfl (.same _) (.cons rfl (.same _) (.cons rfl (.same _) (.cons rfl (.same _) (.cons rfl (.same _) (.nil))))))) (by decide) rfl (.cons (.same _) (.cons (.same _) (.cons (.same _) (.cons (.same _) (.cons (.same _) (.cons (.same _) (.cons (.same _) (.cons (.same _) (.cons (.same _) (.cons (.same _) (.cons (.same _) (.cons (.sl _ _) (RenL.refl _ _ _)))))))))))))) (weak_to (.cons rfl (rc_same rfl (.inl rfl)) (.cons rfl (rc_same rfl (.inl rfl)) (.cons rfl (rc_same rfl (.inl rfl)) (.cons rfl (rc_same rfl (.inl rfl)) (.cons rfl (rc_same rfl (.inl rfl)) (.cons rfl (rc_same rfl (.inl rfl)) (.nil))))))) (.keep (rfl) rfl (.keep (rfl) rfl (.keep (rfl) rfl (.keep (rfl) rfl (.keep (rfl) rfl (.nil)))))) fun i h => by cases h))))
      · replace h87 := of_decide_eq_false h87
        refine aw_exit ?_
        refine th_e ?_
        refine th_e ?_
        refine in_hit ?_
        refine th_n ?_
        refine aw_seq ?_
        refine aw_reg ?_
        refine rs_mv rfl rfl ?_
        refine rs_mv rfl rfl ?_
        refine rs_nil fun _ => ?_
        refine th_n ?_
        refine aw_ret ?_
        exact ret_pure rfl rfl rfl (.inr rfl)

end Go.Proofs.Ytigfcmcdjfmieaa

/-! The arguments of the laws of control, as they are read. -/
namespace Go.Proofs.Ytigfcmcdjfmieaa
open Go.RowKit Go.WideShapes Go.ChangeShapes Go.ChangeAt
set_option maxRecDepth 100000

theorem own_knob : ownKnob Try.prog.godebug = none := by kernel_rfl
theorem laid_out : laidOutB Try.prog = true := by kernel_rfl

theorem rd_i {H : Type} (d : DataW H) (h : Gd (.int .i64) d) : ∃ n : Int, True ∧ avD (.int .i64) d = ci n := by
  obtain ⟨n, _, e⟩ := rd_int d h
  exact ⟨n, trivial, e⟩
theorem rd_u8 {H : Type} (d : DataW H) (h : Gd (.int .u8) d) : ∃ n : Int, (0 ≤ n ∧ n < 256) ∧ avD (.int .u8) d = cu8 n := by
  obtain ⟨n, hw, e⟩ := rd_int d h
  have := bounds_u8 hw
  exact ⟨n, by omega, e⟩
abbrev shV : Sh := .st [.int .i64, .int .i64, .int .i64]
abbrev shM : Sh := .st [.int .i64, shV, shV, shV, .int .i64]
abbrev shE : Sh := .st [.int .i64, .int .i64]
abbrev shCase : Sh := .st [.sl 1 (.sl 1 (.int .i64)), .int .u8]
theorem rd_vec {H : Type} (d : DataW H) (h : Gd shV d) : ∃ v : V3, True ∧ avD shV d = cV v := by
  obtain ⟨ps, g, e⟩ := rd_st d h
  obtain ⟨d0, r0, g0, g, e0⟩ := rd_cons ps g
  obtain ⟨d1, r1, g1, g, e1⟩ := rd_cons r0 g
  obtain ⟨d2, r2, g2, g, e2⟩ := rd_cons r1 g
  obtain ⟨n0, _, a0⟩ := rd_i d0 g0
  obtain ⟨n1, _, a1⟩ := rd_i d1 g1
  obtain ⟨n2, _, a2⟩ := rd_i d2 g2
  exact ⟨⟨n0, n1, n2⟩, trivial, by rw [e, e0, e1, e2, rd_nil r2 g, a0, a1, a2]; rfl⟩
theorem rd_mv {H : Type} (d : DataW H) (h : Gd shM d) : ∃ m : Mv, True ∧ avD shM d = cM m := by
  obtain ⟨ps, g, e⟩ := rd_st d h
  obtain ⟨d0, r0, g0, g, e0⟩ := rd_cons ps g
  obtain ⟨d1, r1, g1, g, e1⟩ := rd_cons r0 g
  obtain ⟨d2, r2, g2, g, e2⟩ := rd_cons r1 g
  obtain ⟨d3, r3, g3, g, e3⟩ := rd_cons r2 g
  obtain ⟨d4, r4, g4, g, e4⟩ := rd_cons r3 g
  obtain ⟨n0, _, a0⟩ := rd_i d0 g0
  obtain ⟨v1, _, a1⟩ := rd_vec d1 g1
  obtain ⟨v2, _, a2⟩ := rd_vec d2 g2
  obtain ⟨v3, _, a3⟩ := rd_vec d3 g3
  obtain ⟨n4, _, a4⟩ := rd_i d4 g4
  exact ⟨⟨n0, v1, v2, v3, n4⟩, trivial, by rw [e, e0, e1, e2, e3, e4, rd_nil r4 g, a0, a1, a2, a3, a4]; rfl⟩
theorem rd_ev {H : Type} (d : DataW H) (h : Gd shE d) : ∃ p : Int × Int, True ∧ avD shE d = cE p := by
  obtain ⟨ps, g, e⟩ := rd_st d h
  obtain ⟨d0, r0, g0, g, e0⟩ := rd_cons ps g
  obtain ⟨d1, r1, g1, g, e1⟩ := rd_cons r0 g
  obtain ⟨n0, _, a0⟩ := rd_i d0 g0
  obtain ⟨n1, _, a1⟩ := rd_i d1 g1
  exact ⟨(n0, n1), trivial, by rw [e, e0, e1, rd_nil r1 g, a0, a1]; rfl⟩
theorem rd_ints {H : Type} (d : DataW H) (h : Gd (.sl 1 (.int .i64)) d) : ∃ L : List Int, L.length ≤ 140737488351232 ∧ avD (.sl 1 (.int .i64)) d = cL L := by
  obtain ⟨L, ⟨h1, _⟩, e⟩ := rd_sl (fun _ => True) ci rd_i d h
  exact ⟨L, h1, e⟩
theorem rd_case {H : Type} (d : DataW H) (h : Gd shCase d) : ∃ (ls : List (List Int)) (ev : Int), ((ls.length ≤ 140737488351232 ∧ ∀ L ∈ ls, L.length ≤ 140737488351232) ∧ (0 ≤ ev ∧ ev < 256)) ∧ argA shCase d = .agg [.rs 1 (ls.map cL), .int .u8 ev] := by
  obtain ⟨ps, g, e⟩ := rd_st d h
  obtain ⟨d0, r0, g0, g, e0⟩ := rd_cons ps g
  obtain ⟨d1, r1, g1, g, e1⟩ := rd_cons r0 g
  obtain ⟨n0, k0, a0⟩ := rd_sl _ cL rd_ints d0 g0
  obtain ⟨n1, k1, a1⟩ := rd_u8 d1 g1
  exact ⟨n0, n1, ⟨k0, k1⟩, by simp only [argA]; rw [e, e0, e1, rd_nil r1 g, a0, a1]; rfl⟩
end Go.Proofs.Ytigfcmcdjfmieaa
namespace Go.Proofs.Ytigfcmcdjfmieaa
open Go.RowKit Go.WideShapes Go.ChangeShapes Go.ChangeAt
set_option maxRecDepth 100000

abbrev shs3 : List Sh := [shCase, .sl 1 (.int .u8), .sl 2 (shE), .sl 11 (shM), .int .i64]

theorem lifted3 (os : Os) (started : os.Started) (H : Type) (enc : TypeId × Value → H) :
    ReturnsInHanded {} Try.checked os 3 .any (Rows.controlRunsSpec.pre6 enc Try.prog Try.f3 Rows.controlRunsRow.domain false) (Rows.controlRunsSpec.post enc Try.prog Try.f3 false true false false) := by
  refine law_row (C := Try.checked) own_knob started (by kernel_rfl) Try.func3 laid_out rfl (tb := 4) rfl Try.underlying4 shs3 (by kernel_rfl) (fun ds h => ?_)
    (ChangeSpec.witness6 (enc := enc) (C := Try.checked) false ⟨#[], #[.agg #[.slice none 0 0, .int .u8 0], .slice none 0 0, .slice none 0 0, .slice none 0 0, .int .i64 0], []⟩ 8 (by kernel_rfl) (by kernel_rfl) (by kernel_rfl) (by kernel_rfl)) fun ds hg => ⟨false, ?_⟩
  · match ds, h with
    | [_, _, _, _, _], _ => rfl
  · simp only [shs3, GdFs] at hg
    obtain ⟨d0, _, rfl, g0, d1, _, rfl, g1, d2, _, rfl, g2, d3, _, rfl, g3, d4, _, rfl, g4, rfl⟩ := hg
    obtain ⟨ls, ev, ⟨⟨hll, hls⟩, hev⟩, e0⟩ := rd_case d0 g0
    obtain ⟨l, ⟨hl_l, hr_l⟩, e1⟩ := rd_sl _ cu8 rd_u8 d1 g1
    obtain ⟨raw, ⟨hl_raw, hr_raw⟩, e2⟩ := rd_sl _ cE rd_ev d2 g2
    obtain ⟨ms, ⟨hl_ms, hr_ms⟩, e3⟩ := rd_sl _ cM rd_mv d3 g3
    obtain ⟨n, _, e4⟩ := rd_i d4 g4
    have e : argAs shs3 [d0, d1, d2, d3, d4] = [.agg [.rs 1 (ls.map cL), .int .u8 ev], .rs 1 (l.map cu8), .rs 2 (raw.map cE), .rs 11 (ms.map cM), iv n] := by
      simp only [argAs, shs3]
      rw [e0]
      simp only [argA]
      rw [e1, e2, e3, e4]
      rfl
    rw [e]
    exact gc3 ls ev (fun L h => Nat.le_trans (hls L h) (by decide)) (Nat.le_trans hll (by decide)) hev l (Nat.le_trans hl_l (by decide)) hr_l raw (Nat.le_trans hl_raw (by decide)) ms (Nat.le_trans hl_ms (by decide)) n

theorem over3 : Rows.controlRunsRow.holds Try.pinned (OpenSpec.ofChange Rows.controlRunsSpec) :=
  OpenClaim.holds_of_wide 3 Try.f3 rfl rfl rfl rfl rfl rfl rfl ⟨rfl, rfl, rfl, rfl, rfl⟩ rfl rfl rfl rfl rfl (by kernel_rfl) Try.func3 (by kernel_rfl)
    (of_decide_eq_true (by kernel_rfl)) (by unfold Func.isWrapper; rw [if_neg (of_decide_eq_false (by kernel_rfl))]; exact ⟨rfl, rfl⟩)
    (fun os started H enc _ => lifted3 os started H enc)

theorem controlRuns_holds : Rows.ControlRunsSaid := over3
#print axioms controlRuns_holds
end Go.Proofs.Ytigfcmcdjfmieaa
