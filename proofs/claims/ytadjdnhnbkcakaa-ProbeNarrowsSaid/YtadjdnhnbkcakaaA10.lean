/-
  Walks: A10.
-/
import Derived.Test.YtadjdnhnbkcakaaA9
namespace Go.Proofs.Ytadjdnhnbkcakaa
open Go.RowKit

/-- A reading that values contradict. -/
def isWrong (v : List Int) (r : Rd) : Prop := 0 ≤ r.of_ ∧ r.of_ < (v.length : Int) ∧ (v.getD r.of_.toNat 0 < r.lo ∨ v.getD r.of_.toNat 0 > r.hi)
instance (v : List Int) (r : Rd) : Decidable (isWrong v r) := by unfold isWrong; infer_instance
def addW (v : List Int) (ks : List Int) (r : Rd) : List Int := if isWrong v r then addK ks r.probe else ks
def wrongS (l : List Rd) (v : List Int) : List Int := l.foldl (addW v) []
def agreeS (l : List Rd) (v : List Int) (lies : Int) : Bool := decide (((wrongS l v).length : Int) ≤ lies)
theorem addK_len (ks : List Int) (n : Int) : (addK ks n).length ≤ ks.length + 1 := by unfold addK; split <;> simp
theorem addW_len (v ks : List Int) (r : Rd) : (addW v ks r).length ≤ ks.length + 1 := by
  unfold addW
  split
  · exact addK_len _ _
  · omega
theorem wrong_len (v : List Int) : ∀ (l : List Rd) (ks : List Int), (l.foldl (addW v) ks).length ≤ ks.length + l.length
  | [], ks => by simp
  | r :: l, ks => by
    have h1 := wrong_len v l (addW v ks r)
    have h2 := addW_len v ks r
    simp only [List.foldl_cons, List.length_cons]
    omega
theorem wrong_at {v : List Int} {t : Int} (h0 : 0 ≤ t) (h1 : t < (v.length : Int)) : v[t.toNat]'(by omega) = v.getD t.toNat 0 := by
  simp [show t.toNat < v.length by omega]

def mc26 : MC := (.seq (.reg [⟨(some 6), (.mv (.c (.bool false))), none, []⟩] false) (.seq (.reg [⟨(some 10), .mkmap, none, []⟩, ⟨(some 7), (.mv (.t 10)), none, [0, 0]⟩] false) (.seq (.seq (.reg [⟨(some 11), (.mv (.t 0)), none, []⟩, ⟨(some 12), (.len (.t 11)), none, [0]⟩, ⟨(some 13), (.mv (.c (.int .i64 0))), none, []⟩] false) (.block 0 (.loop (.seq (.reg [⟨(some 14), (.bin .lss (.t 13) (.t 12)), none, []⟩] false) (.seq (.cond (.t 14) .skip (.exit 0)) (.seq (.block 1 (.seq (.reg [⟨(some 15), (.ixsl 4 (.t 11) (.t 13)), none, []⟩, ⟨(some 16), (.ld true 4 (.t 15)), none, [0]⟩, ⟨(some 9), (.alloc 50 4 [(.int .i64 0), (.int .i64 0), (.int .i64 0), (.int .i64 0)]), none, []⟩, ⟨none, (.st 4 (.t 9) (.t 16)), none, [2, 1, 0, 1, 2]⟩] false) (.seq (.reg [⟨(some 17), (.fa 1 (.t 9)), none, []⟩, ⟨(some 18), (.ld false 1 (.t 17)), none, [0]⟩, ⟨(some 19), (.bin .geq (.t 18) (.c (.int .i64 0))), none, [1]⟩, ⟨(some 20), (.mv (.t 19)), none, [2]⟩, ⟨(some 21), (.fa 1 (.t 9)), (some (20, true)), [3]⟩, ⟨(some 22), (.ld false 1 (.t 21)), (some (20, true)), [4, 3]⟩, ⟨(some 23), (.mv (.t 1)), (some (20, true)), [3]⟩, ⟨(some 24), (.len (.t 23)), (some (20, true)), [6, 3]⟩, ⟨(some 25), (.bin .lss (.t 22) (.t 24)), (some (20, true)), [5, 7, 3]⟩, ⟨(some 26), (.pick (.t 20) (.t 25) (.c (.bool false))), none, [3, 8]⟩, ⟨(some 27), (.mv (.t 26)), none, [9, 3]⟩, ⟨(some 28), (.mv (.t 1)), (some (27, true)), [10]⟩, ⟨(some 29), (.fa 1 (.t 9)), (some (27, true)), [10]⟩, ⟨(some 30), (.ld false 1 (.t 29)), (some (27, true)), [12, 10]⟩, ⟨(some 31), (.ixsl 1 (.t 28) (.t 30)), (some (27, true)), [11, 13, 10]⟩, ⟨(some 32), (.ld false 1 (.t 31)), (some (27, true)), [14, 10]⟩, ⟨(some 33), (.fa 2 (.t 9)), (some (27, true)), [10]⟩, ⟨(some 34), (.ld false 1 (.t 33)), (some (27, true)), [16, 10]⟩, ⟨(some 35), (.bin .lss (.t 32) (.t 34)), (some (27, true)), [15, 17, 10]⟩, ⟨(some 36), (.mv (.t 35)), (some (27, true)), [18, 10, 10]⟩, ⟨(some 37), (.mv (.t 1)), (some (36, false)), [19]⟩, ⟨(some 38), (.fa 1 (.t 9)), (some (36, false)), [19]⟩, ⟨(some 39), (.ld false 1 (.t 38)), (some (36, false)), [21, 19]⟩, ⟨(some 40), (.ixsl 1 (.t 37) (.t 39)), (some (36, false)), [20, 22, 19]⟩, ⟨(some 41), (.ld false 1 (.t 40)), (some (36, false)), [23, 19]⟩, ⟨(some 42), (.fa 3 (.t 9)), (some (36, false)), [19]⟩, ⟨(some 43), (.ld false 1 (.t 42)), (some (36, false)), [25, 19]⟩, ⟨(some 44), (.bin .gtr (.t 41) (.t 43)), (some (36, false)), [24, 26, 19]⟩, ⟨(some 45), (.pick (.t 36) (.c (.bool true)) (.t 44)), (some (27, true)), [19, 27, 10]⟩, ⟨(some 46), (.pick (.t 27) (.t 45) (.c (.bool false))), none, [10, 28]⟩] true) (.cond (.t 46) (.reg [⟨(some 47), (.mv (.t 7)), none, []⟩, ⟨(some 48), (.fa 0 (.t 9)), none, []⟩, ⟨(some 49), (.ld false 1 (.t 48)), none, [1]⟩, ⟨none, (.mapadd (.t 47) (.t 49) (.c (.bool true))), none, [0, 2, 0, 1, 2]⟩] false) .skip)))) (.reg [⟨(some 50), (.bin .add (.t 13) (.c (.int .i64 1))), none, []⟩, ⟨(some 13), (.mv (.t 50)), none, [0]⟩] false))))))) (.seq (.reg [⟨(some 51), (.mv (.t 7)), none, []⟩, ⟨(some 52), (.lenm (.t 51)), none, [0]⟩, ⟨(some 53), (.mv (.t 2)), none, []⟩, ⟨(some 54), (.bin .leq (.t 52) (.t 53)), none, [1, 2]⟩, ⟨(some 6), (.mv (.t 54)), none, [3, 1, 0, 1, 2, 3]⟩] false) .ret))))
theorem mcOk26 : (match Try.f26.body with | some c => compC Try.prog 55 c | none => none) = some mc26 := by kernel_rfl

theorem fc26 (l : List Rd) (v : List Int) (lies : Int) (hl : l.length ≤ 4611686018427387904) : FC Try.prog 26 [.rs 4 (l.map cR), ints v, iv lies] [] (.bool (agreeS l v lies)) [] false := by
  refine fc_run (nt := 55) Try.func26 rfl rfl mcOk26 (Nat.le_of_ble_eq_true rfl) ?_
  delta mc26
  refine aw_seq ?_
  refine aw_reg ?_
  refine rs_mv rfl rfl ?_
  refine rs_nil fun _ => ?_
  refine th_n ?_
  refine aw_seq ?_
  refine aw_reg ?_
  refine rs_mkmap rfl rfl ?_
  refine rs_mv rfl rfl ?_
  refine rs_nil fun _ => ?_
  refine th_n ?_
  refine aw_seq ?_
  refine aw_seq ?_
  refine aw_reg ?_
  refine rs_mv rfl rfl ?_
  first | refine rs_len_m rfl rfl ?_ | refine rs_len_s rfl rfl ?_ | refine rs_len_n rfl rfl ?_ | refine rs_len_r rfl rfl rfl ?_
  refine rs_mv rfl rfl ?_
  refine rs_nil fun _ => ?_
  refine th_n ?_
  refine aw_block ?_
  refine aw_fam (α := Nat) (fun k => l.length - k) (fun k => [(1, ints v), (2, iv lies), (7, .mp 10), (11, .rs 4 (l.map cR)), (12, iv (l.length : Int)), (13, iv (((k) : Nat) : Int))]) (fun k => [(10, .mset ((l.take (k)).foldl (addW v) []))]) (fun k => k ≤ l.length) 0 (by omega)
    (weak_to (.cons rfl (rc_same rfl (.inl rfl)) (.cons rfl (rc_same rfl (.inl rfl)) (.cons rfl (rc_same rfl (.inl rfl)) (.cons rfl (rc_same rfl (.inl rfl)) (.cons rfl (rc_same rfl (.inl rfl)) (.cons rfl (rc_same rfl (.inl rfl)) (.nil))))))) (.keep (rfl) rfl (.nil)) (fun i h => by cases h)) ?_
  intro k hk
  refine aw_seq ?_
  refine aw_reg ?_
  refine rs_lss rfl rfl rfl ?_
  refine rs_nil fun _ => ?_
  refine th_n ?_
  refine aw_seq ?_
  refine aw_cond rfl (fun h14 => ?_) (fun h14 => ?_)
  · first | replace h14 := of_decide_eq_true h14 | skip
    refine aw_skip ?_
    refine th_n ?_
    refine aw_seq ?_
    refine aw_block ?_
    refine aw_seq ?_
    refine aw_reg ?_
    have hkl : k < l.length := by omega
    have hst := fold_take (addW v) [] l k hkl
    first | refine rs_ix_m rfl rfl rfl (by omega) ?_ | refine rs_ix_sm rfl rfl rfl rfl (by omega) ?_
    first | refine rs_ld_pa rfl rfl rfl rfl (Nat.le_of_ble_eq_true rfl) rfl ?_ | refine rs_ld_ra rfl rfl (Nat.le_of_ble_eq_true rfl) rfl ?_ | refine rs_ld_ma rfl rfl rfl (by omega) (Nat.le_of_ble_eq_true rfl) rfl ?_
    refine rs_alloc rfl rfl rfl ?_
    refine rs_st rfl rfl rfl rfl rfl rfl rfl (Nat.le_of_ble_eq_true rfl) rfl rfl ?_
    refine rs_nil fun _ => ?_
    refine th_n ?_
    refine aw_seq ?_
    refine aw_draw hmix ?_
    first | refine rs_fa_p rfl rfl ?_ | refine rs_fa_r rfl rfl rfl ?_
    first | refine rs_ld_r rfl rfl rfl ?_ | refine rs_ld_p rfl rfl rfl rfl rfl ?_ | refine rs_ld_m rfl rfl rfl (by omega) rfl ?_
    refine rs_cmp rfl rfl rfl rfl (fun h19 => ?_) (fun h19 => ?_)
    · skip
      refine rs_mv rfl rfl ?_
      first | refine rs_fa_p rfl rfl ?_ | refine rs_fa_r rfl rfl rfl ?_
      first | refine rs_ld_r rfl rfl rfl ?_ | refine rs_ld_p rfl rfl rfl rfl rfl ?_ | refine rs_ld_m rfl rfl rfl (by omega) rfl ?_
      refine rs_mv rfl rfl ?_
      first | refine rs_len_m rfl rfl ?_ | refine rs_len_s rfl rfl ?_ | refine rs_len_n rfl rfl ?_ | refine rs_len_r rfl rfl rfl ?_
      refine rs_cmp rfl rfl rfl rfl (fun h25 => ?_) (fun h25 => ?_)
      · skip
        refine rs_pick rfl rfl rfl ?_
        refine rs_mv rfl rfl ?_
        refine rs_mv rfl rfl ?_
        first | refine rs_fa_p rfl rfl ?_ | refine rs_fa_r rfl rfl rfl ?_
        first | refine rs_ld_r rfl rfl rfl ?_ | refine rs_ld_p rfl rfl rfl rfl rfl ?_ | refine rs_ld_m rfl rfl rfl (by omega) rfl ?_
        refine rs_ix_mi rfl rfl rfl (by omega) (by omega) ?_
        first | refine rs_ld_r rfl rfl rfl ?_ | refine rs_ld_p rfl rfl rfl rfl rfl ?_ | refine rs_ld_m rfl rfl rfl (by omega) rfl ?_
        first | refine rs_fa_p rfl rfl ?_ | refine rs_fa_r rfl rfl rfl ?_
        first | refine rs_ld_r rfl rfl rfl ?_ | refine rs_ld_p rfl rfl rfl rfl rfl ?_ | refine rs_ld_m rfl rfl rfl (by omega) rfl ?_
        refine rs_cmp rfl rfl rfl rfl (fun h35 => ?_) (fun h35 => ?_)
        · skip
          refine rs_mv rfl rfl ?_
          refine rs_skip rfl ?_
          refine rs_skip rfl ?_
          refine rs_skip rfl ?_
          refine rs_skip rfl ?_
          refine rs_skip rfl ?_
          refine rs_skip rfl ?_
          refine rs_skip rfl ?_
          refine rs_skip rfl ?_
          refine rs_pick rfl rfl rfl ?_
          refine rs_pick rfl rfl rfl ?_
          refine rs_nil ⟨by kernel_rfl, fun _ => ?_⟩
          refine th_n ?_
          refine aw_cond rfl (fun _ => ?_) (fun h => by cases h)
          refine aw_reg ?_
          refine rs_mv rfl rfl ?_
          first | refine rs_fa_p rfl rfl ?_ | refine rs_fa_r rfl rfl rfl ?_
          first | refine rs_ld_r rfl rfl rfl ?_ | refine rs_ld_p rfl rfl rfl rfl rfl ?_ | refine rs_ld_m rfl rfl rfl (by omega) rfl ?_
          refine rs_mapadd rfl rfl rfl rfl rfl ?_
          refine rs_nil fun _ => ?_
          refine in_n ?_
          refine th_n ?_
          refine aw_reg ?_
          first | refine rs_add rfl rfl rfl (by omega) ?_ | refine rs_addw rfl rfl rfl rfl ?_
          refine rs_mv rfl rfl ?_
          refine rs_nil fun _ => ?_
          refine th_n ?_
          refine ⟨k + 1, by omega, by omega, ?_⟩
          first
            | exact weak_to (.cons rfl (rc_same rfl (.inl rfl)) (.cons rfl (rc_same rfl (.inl rfl)) (.cons rfl (rc_same rfl (.inl rfl)) (.cons rfl (rc_same rfl (.inl rfl)) (.cons rfl (rc_same rfl (.inl rfl)) (.cons rfl (rc_same rfl (.inl rfl)) (.nil))))))) (.keep ((by (rw [hst, addW, if_pos (show isWrong v l[k] from ⟨by omega, by omega, by rw [← wrong_at (by omega) (by omega)]; omega⟩)]) <;> rfl)) rfl (.nil)) (fun i h => by cases h)
            | exact weak_to (.cons rfl (rc_same rfl (.inl rfl)) (.cons rfl (rc_same rfl (.inl rfl)) (.cons rfl (rc_same rfl (.inl rfl)) (.cons rfl (rc_same rfl (.inl rfl)) (.cons rfl (rc_same rfl (.inl rfl)) (.cons rfl (rc_same rfl (.inl rfl)) (.nil))))))) (.keep ((by (rw [hst, addW, if_neg (show ¬ isWrong v l[k] from fun h => by obtain ⟨a1, a2, a3⟩ := h; first | omega | (rw [← wrong_at a1 a2] at a3; omega))]) <;> rfl)) rfl (.nil)) (fun i h => by cases h)
        · skip
          refine rs_mv rfl rfl ?_
          refine rs_mv rfl rfl ?_
          first | refine rs_fa_p rfl rfl ?_ | refine rs_fa_r rfl rfl rfl ?_
          first | refine rs_ld_r rfl rfl rfl ?_ | refine rs_ld_p rfl rfl rfl rfl rfl ?_ | refine rs_ld_m rfl rfl rfl (by omega) rfl ?_
          refine rs_ix_mi rfl rfl rfl (by omega) (by omega) ?_
          first | refine rs_ld_r rfl rfl rfl ?_ | refine rs_ld_p rfl rfl rfl rfl rfl ?_ | refine rs_ld_m rfl rfl rfl (by omega) rfl ?_
          first | refine rs_fa_p rfl rfl ?_ | refine rs_fa_r rfl rfl rfl ?_
          first | refine rs_ld_r rfl rfl rfl ?_ | refine rs_ld_p rfl rfl rfl rfl rfl ?_ | refine rs_ld_m rfl rfl rfl (by omega) rfl ?_
          refine rs_cmp rfl rfl rfl rfl (fun h44 => ?_) (fun h44 => ?_)
          · skip
            refine rs_pick rfl rfl rfl ?_
            refine rs_pick rfl rfl rfl ?_
            refine rs_nil ⟨by kernel_rfl, fun _ => ?_⟩
            refine th_n ?_
            refine aw_cond rfl (fun _ => ?_) (fun h => by cases h)
            refine aw_reg ?_
            refine rs_mv rfl rfl ?_
            first | refine rs_fa_p rfl rfl ?_ | refine rs_fa_r rfl rfl rfl ?_
            first | refine rs_ld_r rfl rfl rfl ?_ | refine rs_ld_p rfl rfl rfl rfl rfl ?_ | refine rs_ld_m rfl rfl rfl (by omega) rfl ?_
            refine rs_mapadd rfl rfl rfl rfl rfl ?_
            refine rs_nil fun _ => ?_
            refine in_n ?_
            refine th_n ?_
            refine aw_reg ?_
            first | refine rs_add rfl rfl rfl (by omega) ?_ | refine rs_addw rfl rfl rfl rfl ?_
            refine rs_mv rfl rfl ?_
            refine rs_nil fun _ => ?_
            refine th_n ?_
            refine ⟨k + 1, by omega, by omega, ?_⟩
            first
              | exact weak_to (.cons rfl (rc_same rfl (.inl rfl)) (.cons rfl (rc_same rfl (.inl rfl)) (.cons rfl (rc_same rfl (.inl rfl)) (.cons rfl (rc_same rfl (.inl rfl)) (.cons rfl (rc_same rfl (.inl rfl)) (.cons rfl (rc_same rfl (.inl rfl)) (.nil))))))) (.keep ((by (rw [hst, addW, if_pos (show isWrong v l[k] from ⟨by omega, by omega, by rw [← wrong_at (by omega) (by omega)]; omega⟩)]) <;> rfl)) rfl (.nil)) (fun i h => by cases h)
              | exact weak_to (.cons rfl (rc_same rfl (.inl rfl)) (.cons rfl (rc_same rfl (.inl rfl)) (.cons rfl (rc_same rfl (.inl rfl)) (.cons rfl (rc_same rfl (.inl rfl)) (.cons rfl (rc_same rfl (.inl rfl)) (.cons rfl (rc_same rfl (.inl rfl)) (.nil))))))) (.keep ((by (rw [hst, addW, if_neg (show ¬ isWrong v l[k] from fun h => by obtain ⟨a1, a2, a3⟩ := h; first | omega | (rw [← wrong_at a1 a2] at a3; omega))]) <;> rfl)) rfl (.nil)) (fun i h => by cases h)
          · skip
            refine rs_pick rfl rfl rfl ?_
            refine rs_pick rfl rfl rfl ?_
            refine rs_nil ⟨by kernel_rfl, fun _ => ?_⟩
            refine th_n ?_
            refine aw_cond rfl (fun h => by cases h) (fun _ => ?_)
            refine aw_skip ?_
            refine in_n ?_
            refine th_n ?_
            refine aw_reg ?_
            first | refine rs_add rfl rfl rfl (by omega) ?_ | refine rs_addw rfl rfl rfl rfl ?_
            refine rs_mv rfl rfl ?_
            refine rs_nil fun _ => ?_
            refine th_n ?_
            refine ⟨k + 1, by omega, by omega, ?_⟩
            first
              | exact weak_to (.cons rfl (rc_same rfl (.inl rfl)) (.cons rfl (rc_same rfl (.inl rfl)) (.cons rfl (rc_same rfl (.inl rfl)) (.cons rfl (rc_same rfl (.inl rfl)) (.cons rfl (rc_same rfl (.inl rfl)) (.cons rfl (rc_same rfl (.inl rfl)) (.nil))))))) (.keep ((by (rw [hst, addW, if_pos (show isWrong v l[k] from ⟨by omega, by omega, by rw [← wrong_at (by omega) (by omega)]; omega⟩)]) <;> rfl)) rfl (.nil)) (fun i h => by cases h)
              | exact weak_to (.cons rfl (rc_same rfl (.inl rfl)) (.cons rfl (rc_same rfl (.inl rfl)) (.cons rfl (rc_same rfl (.inl rfl)) (.cons rfl (rc_same rfl (.inl rfl)) (.cons rfl (rc_same rfl (.inl rfl)) (.cons rfl (rc_same rfl (.inl rfl)) (.nil))))))) (.keep ((by (rw [hst, addW, if_neg (show ¬ isWrong v l[k] from fun h => by obtain ⟨a1, a2, a3⟩ := h; first | omega | (rw [← wrong_at a1 a2] at a3; omega))]) <;> rfl)) rfl (.nil)) (fun i h => by cases h)
      · skip
        refine rs_pick rfl rfl rfl ?_
        refine rs_mv rfl rfl ?_
        refine rs_skip rfl ?_
        refine rs_skip rfl ?_
        refine rs_skip rfl ?_
        refine rs_skip rfl ?_
        refine rs_skip rfl ?_
        refine rs_skip rfl ?_
        refine rs_skip rfl ?_
        refine rs_skip rfl ?_
        refine rs_skip rfl ?_
        refine rs_skip rfl ?_
        refine rs_skip rfl ?_
        refine rs_skip rfl ?_
        refine rs_skip rfl ?_
        refine rs_skip rfl ?_
        refine rs_skip rfl ?_
        refine rs_skip rfl ?_
        refine rs_skip rfl ?_
        refine rs_skip rfl ?_
        refine rs_pick rfl rfl rfl ?_
        refine rs_nil ⟨by kernel_rfl, fun _ => ?_⟩
        refine th_n ?_
        refine aw_cond rfl (fun h => by cases h) (fun _ => ?_)
        refine aw_skip ?_
        refine in_n ?_
        refine th_n ?_
        refine aw_reg ?_
        first | refine rs_add rfl rfl rfl (by omega) ?_ | refine rs_addw rfl rfl rfl rfl ?_
        refine rs_mv rfl rfl ?_
        refine rs_nil fun _ => ?_
        refine th_n ?_
        refine ⟨k + 1, by omega, by omega, ?_⟩
        first
          | exact weak_to (.cons rfl (rc_same rfl (.inl rfl)) (.cons rfl (rc_same rfl (.inl rfl)) (.cons rfl (rc_same rfl (.inl rfl)) (.cons rfl (rc_same rfl (.inl rfl)) (.cons rfl (rc_same rfl (.inl rfl)) (.cons rfl (rc_same rfl (.inl rfl)) (.nil))))))) (.keep ((by (rw [hst, addW, if_pos (show isWrong v l[k] from ⟨by omega, by omega, by rw [← wrong_at (by omega) (by omega)]; omega⟩)]) <;> rfl)) rfl (.nil)) (fun i h => by cases h)
          | exact weak_to (.cons rfl (rc_same rfl (.inl rfl)) (.cons rfl (rc_same rfl (.inl rfl)) (.cons rfl (rc_same rfl (.inl rfl)) (.cons rfl (rc_same rfl (.inl rfl)) (.cons rfl (rc_same rfl (.inl rfl)) (.cons rfl (rc_same rfl (.inl rfl)) (.nil))))))) (.keep ((by (rw [hst, addW, if_neg (show ¬ isWrong v l[k] from fun h => by obtain ⟨a1, a2, a3⟩ := h; first | omega | (rw [← wrong_at a1 a2] at a3; omega))]) <;> rfl)) rfl (.nil)) (fun i h => by cases h)
    · skip
      refine rs_mv rfl rfl ?_
      refine rs_skip rfl ?_
      refine rs_skip rfl ?_
      refine rs_skip rfl ?_
      refine rs_skip rfl ?_
      refine rs_skip rfl ?_
      refine rs_pick rfl rfl rfl ?_
      refine rs_mv rfl rfl ?_
      refine rs_skip rfl ?_
      refine rs_skip rfl ?_
      refine rs_skip rfl ?_
      refine rs_skip rfl ?_
      refine rs_skip rfl ?_
      refine rs_skip rfl ?_
      refine rs_skip rfl ?_
      refine rs_skip rfl ?_
      refine rs_skip rfl ?_
      refine rs_skip rfl ?_
      refine rs_skip rfl ?_
      refine rs_skip rfl ?_
      refine rs_skip rfl ?_
      refine rs_skip rfl ?_
      refine rs_skip rfl ?_
      refine rs_skip rfl ?_
      refine rs_skip rfl ?_
      refine rs_skip rfl ?_
      refine rs_pick rfl rfl rfl ?_
      refine rs_nil ⟨by kernel_rfl, fun _ => ?_⟩
      refine th_n ?_
      refine aw_cond rfl (fun h => by cases h) (fun _ => ?_)
      refine aw_skip ?_
      refine in_n ?_
      refine th_n ?_
      refine aw_reg ?_
      first | refine rs_add rfl rfl rfl (by omega) ?_ | refine rs_addw rfl rfl rfl rfl ?_
      refine rs_mv rfl rfl ?_
      refine rs_nil fun _ => ?_
      refine th_n ?_
      refine ⟨k + 1, by omega, by omega, ?_⟩
      first
        | exact weak_to (.cons rfl (rc_same rfl (.inl rfl)) (.cons rfl (rc_same rfl (.inl rfl)) (.cons rfl (rc_same rfl (.inl rfl)) (.cons rfl (rc_same rfl (.inl rfl)) (.cons rfl (rc_same rfl (.inl rfl)) (.cons rfl (rc_same rfl (.inl rfl)) (.nil))))))) (.keep ((by (rw [hst, addW, if_pos (show isWrong v l[k] from ⟨by omega, by omega, by rw [← wrong_at (by omega) (by omega)]; omega⟩)]) <;> rfl)) rfl (.nil)) (fun i h => by cases h)
        | exact weak_to (.cons rfl (rc_same rfl (.inl rfl)) (.cons rfl (rc_same rfl (.inl rfl)) (.cons rfl (rc_same rfl (.inl rfl)) (.cons rfl (rc_same rfl (.inl rfl)) (.cons rfl (rc_same rfl (.inl rfl)) (.cons rfl (rc_same rfl (.inl rfl)) (.nil))))))) (.keep ((by (rw [hst, addW, if_neg (show ¬ isWrong v l[k] from fun h => by obtain ⟨a1, a2, a3⟩ := h; first | omega | (rw [← wrong_at a1 a2] at a3; omega))]) <;> rfl)) rfl (.nil)) (fun i h => by cases h)
  · first | replace h14 := of_decide_eq_false h14 | skip
    refine aw_exit ?_
    refine th_e ?_
    refine th_e ?_
    refine in_hit ?_
    refine th_n ?_
    refine aw_seq ?_
    refine aw_reg ?_
    refine rs_mv rfl rfl ?_
    refine rs_lenm rfl rfl rfl ?_
    refine rs_mv rfl rfl ?_
    refine rs_leq rfl rfl rfl ?_
    refine rs_mv rfl rfl ?_
    refine rs_nil fun _ => ?_
    refine th_n ?_
    refine aw_ret ?_
    have hfin : wrongS l v = (l.take k).foldl (addW v) [] := by (rw [List.take_of_length_le (by omega)]) <;> rfl
    exact ret_pure rfl (by rw [agreeS, hfin]; rfl) rfl (.inr rfl)

end Go.Proofs.Ytadjdnhnbkcakaa
