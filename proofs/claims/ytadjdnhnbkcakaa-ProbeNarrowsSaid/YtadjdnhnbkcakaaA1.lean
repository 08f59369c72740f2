/-
  Walks: A1.
-/
import Derived.Test.YtadjdnhnbkcakaaA0
namespace Go.Proofs.Ytadjdnhnbkcakaa
open Go.RowKit

/-- A reading. -/
structure Rd where
  (probe of_ lo hi : Int)
deriving DecidableEq
abbrev cR (r : Rd) : List AV := [.int .i64 r.probe, .int .i64 r.of_, .int .i64 r.lo, .int .i64 r.hi]
abbrev cL (L : List Int) : List AV := [ints L]
def widS (t : Int) : Int := if t = 0 then 0 else if t = 1 then 1 else if t = 2 then 3 else 9
theorem wid_at (t : Int) (h0 : 0 ≤ t) (h1 : t < 4) : ([ci 0, ci 1, ci 3, ci 9] : List (List AV))[0 + t.toNat]? = some (ci (widS t)) := by
  obtain rfl | rfl | rfl | rfl : t = 0 ∨ t = 1 ∨ t = 2 ∨ t = 3 := by omega
  all_goals rfl
theorem wid_range (t : Int) : 0 ≤ widS t ∧ widS t ≤ 9 := by
  unfold widS
  split <;> (try split) <;> (try split) <;> omega
def mkR (q : Int) (L : List Int) : Rd :=
  let a1 := nextA L 0
  let a2 := nextA L a1
  let a3 := nextA L a2
  ⟨nextV L 0 4, nextV L a1 q, nextV L a2 9, nextV L a2 9 + widS (nextV L a3 4)⟩
def readS (ls : List (List Int)) (q : Int) : List Rd := if 0 < q then (ls.take 10).map (mkR q) else []
theorem take_map_succ {α β : Type} (f : α → β) (l : List α) (k : Nat) (h : k < l.length) : (l.take (k + 1)).map f = (l.take k).map f ++ [f l[k]] := by
  rw [List.take_succ_eq_append_getElem h, List.map_append]; rfl

def mc29 : MC := (.seq (.reg [⟨(some 4), (.mv (.c .nils)), none, []⟩] false) (.seq (.reg [⟨(some 5), (.mv (.c .nils)), none, []⟩] false) (.seq (.seq (.reg [⟨(some 6), (.mv (.c (.int .i64 0))), none, []⟩] false) (.block 0 (.loop (.seq (.seq (.reg [⟨(some 9), (.mv (.t 6)), none, []⟩, ⟨(some 10), (.mv (.t 0)), none, []⟩, ⟨(some 11), (.len (.t 10)), none, [1]⟩, ⟨(some 12), (.bin .lss (.t 9) (.t 11)), none, [0, 2]⟩, ⟨(some 13), (.mv (.t 12)), none, [3]⟩, ⟨(some 14), (.mv (.t 6)), (some (13, true)), [4]⟩, ⟨(some 15), (.bin .lss (.t 14) (.c (.int .i64 10))), (some (13, true)), [5, 4]⟩, ⟨(some 16), (.pick (.t 13) (.t 15) (.c (.bool false))), none, [4, 6]⟩, ⟨(some 17), (.mv (.t 16)), none, [7, 4]⟩, ⟨(some 18), (.mv (.t 1)), (some (17, true)), [8]⟩, ⟨(some 19), (.bin .gtr (.t 18) (.c (.int .i64 0))), (some (17, true)), [9, 8]⟩, ⟨(some 20), (.pick (.t 17) (.t 19) (.c (.bool false))), none, [8, 10]⟩] false) (.cond (.t 20) .skip (.exit 0))) (.seq (.block 1 (.seq (.reg [⟨(some 23), (.mv (.t 0)), none, []⟩, ⟨(some 24), (.mv (.t 6)), none, []⟩, ⟨(some 25), (.ixsl 1 (.t 23) (.t 24)), none, [0, 1]⟩, ⟨(some 26), (.ld false 1 (.t 25)), none, [2]⟩, ⟨(some 27), (.build [.nils, (.int .i64 0)] [(0, (1, (.t 26)))]), none, [3]⟩, ⟨(some 28), (.box 103 2 (.t 27)), none, [4]⟩, ⟨(some 7), (.mv (.t 28)), none, [5, 0, 1, 2, 3, 4, 5]⟩] false) (.seq (.reg [⟨(some 29), (.mv (.t 7)), none, []⟩, ⟨(some 30), (.call 56 [(.t 29), (.c (.int .i64 4))]), none, [0]⟩, ⟨(some 31), (.mv (.t 7)), none, []⟩, ⟨(some 32), (.mv (.t 1)), none, []⟩, ⟨(some 33), (.call 56 [(.t 31), (.t 32)]), none, [2, 3, 1]⟩, ⟨(some 34), (.mv (.t 7)), none, []⟩, ⟨(some 35), (.call 56 [(.t 34), (.c (.int .i64 9))]), none, [5, 4]⟩, ⟨(some 36), (.build [(.int .i64 0), (.int .i64 0), (.int .i64 0), (.int .i64 0)] [(0, (1, (.t 30))), (1, (1, (.t 33))), (2, (1, (.t 35)))]), none, [1, 4, 6]⟩, ⟨(some 8), (.alloc 50 4 [(.int .i64 0), (.int .i64 0), (.int .i64 0), (.int .i64 0)]), none, []⟩, ⟨none, (.st 4 (.t 8) (.t 36)), none, [8, 7, 6, 0, 1, 2, 3, 4, 5, 6, 7, 8]⟩] false) (.seq (.reg [⟨(some 37), (.fa 2 (.t 8)), none, []⟩, ⟨(some 38), (.ld false 1 (.t 37)), none, [0]⟩, ⟨(some 39), (.bslice 3 1 [(.int .i64 0)] 4 [(0, (.c (.int .i64 0))), (1, (.c (.int .i64 1))), (2, (.c (.int .i64 3))), (3, (.c (.int .i64 9)))]), none, []⟩, ⟨(some 40), (.mv (.t 7)), none, []⟩, ⟨(some 41), (.call 56 [(.t 40), (.c (.int .i64 4))]), none, [3]⟩, ⟨(some 42), (.ixsl 1 (.t 39) (.t 41)), none, [2, 4]⟩, ⟨(some 43), (.ld false 1 (.t 42)), none, [5]⟩, ⟨(some 44), (.bin .add (.t 38) (.t 43)), none, [1, 6]⟩, ⟨(some 45), (.fa 3 (.t 8)), none, [0, 1, 2, 3, 4, 5, 6, 7]⟩, ⟨none, (.st 1 (.t 45) (.t 44)), none, [8, 7, 4, 0, 1, 2, 3, 4, 5, 6, 7]⟩] true) (.reg [⟨(some 46), (.mv (.t 5)), none, []⟩, ⟨(some 47), (.ld true 4 (.t 8)), none, []⟩, ⟨(some 48), (.bslice 50 4 [(.int .i64 0), (.int .i64 0), (.int .i64 0), (.int .i64 0)] 1 [(0, (.t 47))]), none, [1]⟩, ⟨(some 49), (.app 50 4 32 [(.int .i64 0), (.int .i64 0), (.int .i64 0), (.int .i64 0)] (.t 46) (.t 48)), none, [0, 2]⟩, ⟨(some 5), (.mv (.t 49)), none, [3, 3, 0, 1, 2, 3]⟩] false))))) (.reg [⟨(some 21), (.mv (.t 6)), none, []⟩, ⟨(some 22), (.bin .add (.t 21) (.c (.int .i64 1))), none, [0]⟩, ⟨(some 6), (.mv (.t 22)), none, [1, 0, 1]⟩] false)))))) (.seq (.reg [⟨(some 50), (.mv (.t 5)), none, []⟩, ⟨(some 4), (.mv (.t 50)), none, [0, 0]⟩] false) .ret))))
theorem mcOk29 : (match Try.f29.body with | some c => compC Try.prog 51 c | none => none) = some mc29 := by kernel_rfl

theorem fc29 (ls : List (List Int)) (q : Int) (hq : q ≤ 4611686018427387904) (hls : ∀ L ∈ ls, L.length ≤ 4611686018427387904) : FC Try.prog 29 [.rs 1 (ls.map cL), .int .i64 q] [] (.sl 1005 0 (readS ls q).length) [(1005, .cells 50 4 ((readS ls q).map cR) true)] false := by
  refine fc_run (nt := 51) Try.func29 rfl rfl mcOk29 (Nat.le_of_ble_eq_true rfl) ?_
  delta mc29
  refine aw_seq ?_
  refine aw_reg ?_
  refine rs_mv rfl rfl ?_
  refine rs_nil fun _ => ?_
  refine th_n ?_
  refine aw_seq ?_
  refine aw_reg ?_
  refine rs_mv rfl rfl ?_
  refine rs_nil fun _ => ?_
  refine th_n ?_
  refine aw_seq ?_
  refine aw_seq ?_
  refine aw_reg ?_
  refine rs_mv rfl rfl ?_
  refine rs_nil fun _ => ?_
  refine th_n ?_
  refine aw_block ?_
  refine aw_fam (α := Nat) (fun k => ls.length + 1 - k) (fun k => [(0, .rs 1 (ls.map cL)), (1, .int .i64 q), (5, .sl 1005 0 (k)), (6, .int .i64 (((k) : Nat) : Int))]) (fun k => [(1005, .cells 50 4 (((ls.take (k)).map (mkR q)).map cR) true)]) (fun k => k ≤ ls.length ∧ k ≤ 10 ∧ (0 < q ∨ k = 0)) 0 (⟨by omega, by omega, .inr rfl⟩)
    (weak_to (.cons rfl (rc_same rfl (.inl rfl)) (.cons rfl (rc_same rfl (.inl rfl)) (.cons rfl (rc_virt rfl rfl) (.cons rfl (rc_same rfl (.inl rfl)) (.nil))))) (.virt rfl (.nil)) (fun i h => by cases h)) ?_
  rintro k ⟨hk, hk10, hkq⟩
  refine aw_seq ?_
  refine aw_seq ?_
  refine aw_reg ?_
  refine rs_mv rfl rfl ?_
  refine rs_mv rfl rfl ?_
  first | refine rs_len_m rfl rfl ?_ | refine rs_len_s rfl rfl ?_ | refine rs_len_n rfl rfl ?_ | refine rs_len_r rfl rfl rfl ?_
  refine rs_cmp rfl rfl rfl rfl (fun h12 => ?_) (fun h12 => ?_)
  · skip
    refine rs_mv rfl rfl ?_
    refine rs_mv rfl rfl ?_
    refine rs_cmp rfl rfl rfl rfl (fun h15 => ?_) (fun h15 => ?_)
    · skip
      refine rs_pick rfl rfl rfl ?_
      refine rs_mv rfl rfl ?_
      refine rs_mv rfl rfl ?_
      refine rs_cmp rfl rfl rfl rfl (fun h19 => ?_) (fun h19 => ?_)
      · skip
        refine rs_pick rfl rfl rfl ?_
        refine rs_nil fun _ => ?_
        refine th_n ?_
        refine aw_cond rfl (fun _ => ?_) (fun h => by cases h)
        refine aw_skip ?_
        refine th_n ?_
        refine aw_seq ?_
        refine aw_block ?_
        refine aw_seq ?_
        refine aw_reg ?_
        have hkl : k < ls.length := by omega
        have hL := hls ls[k] (List.getElem_mem _)
        refine rs_mv rfl rfl ?_
        refine rs_mv rfl rfl ?_
        first | refine rs_ix_m rfl rfl rfl (by omega) ?_ | refine rs_ix_sm rfl rfl rfl rfl (by omega) ?_
        first | refine rs_ld_r rfl rfl rfl ?_ | refine rs_ld_p rfl rfl rfl rfl rfl ?_ | refine rs_ld_m rfl rfl rfl (by omega) rfl ?_
        refine rs_build rfl rfl ?_
        refine rs_box rfl rfl rfl rfl rfl rfl ?_
        refine rs_mv rfl rfl ?_
        refine rs_nil fun _ => ?_
        refine th_n ?_
        refine aw_seq ?_
        refine aw_reg ?_
        refine rs_mv rfl rfl ?_
        refine rs_callo [(28, drawOb 103 ls[k] 0)] rfl rfl (fc56 28 103 ls[k] 0 4 (by omega) hL) (.cons (hv_same rfl) (.cons (hv_same rfl) (.nil))) (.cons rfl (.nil)) rfl rfl rfl ?_
        refine rs_mv rfl rfl ?_
        refine rs_mv rfl rfl ?_
        refine rs_callo [(28, drawOb 103 ls[k] (nextA ls[k] 0))] rfl rfl (fc56 28 103 ls[k] (nextA ls[k] 0) q hq hL) (.cons (hv_same rfl) (.cons (hv_same rfl) (.nil))) (.cons rfl (.nil)) rfl rfl rfl ?_
        refine rs_mv rfl rfl ?_
        refine rs_callo [(28, drawOb 103 ls[k] (nextA ls[k] (nextA ls[k] 0)))] rfl rfl (fc56 28 103 ls[k] (nextA ls[k] (nextA ls[k] 0)) 9 (by omega) hL) (.cons (hv_same rfl) (.cons (hv_same rfl) (.nil))) (.cons rfl (.nil)) rfl rfl rfl ?_
        refine rs_build rfl rfl ?_
        refine rs_alloc rfl rfl rfl ?_
        refine rs_st rfl rfl rfl rfl rfl rfl rfl (Nat.le_of_ble_eq_true rfl) rfl rfl ?_
        refine rs_nil fun _ => ?_
        refine th_n ?_
        refine aw_seq ?_
        refine aw_draw hmix ?_
        first | refine rs_fa_p rfl rfl ?_ | refine rs_fa_r rfl rfl rfl ?_
        first | refine rs_ld_r rfl rfl rfl ?_ | refine rs_ld_p rfl rfl rfl rfl rfl ?_ | refine rs_ld_m rfl rfl rfl (by omega) rfl ?_
        refine rs_bslice rfl rfl rfl rfl rfl rfl ?_
        refine rs_mv rfl rfl ?_
        refine rs_callo [(28, drawOb 103 ls[k] (nextA ls[k] (nextA ls[k] (nextA ls[k] 0))))] rfl rfl (fc56 28 103 ls[k] (nextA ls[k] (nextA ls[k] (nextA ls[k] 0))) 4 (by omega) hL) (.cons (hv_same rfl) (.cons (hv_same rfl) (.nil))) (.cons rfl (.nil)) rfl rfl rfl ?_
        have hw := nextV_range ls[k] (nextA ls[k] (nextA ls[k] (nextA ls[k] 0))) 4 (by omega)
        refine rs_ix_s rfl rfl rfl rfl hw.1 hw.2 ?_
        refine rs_ld_p rfl rfl rfl (el := ci (widS (nextV ls[k] (nextA ls[k] (nextA ls[k] (nextA ls[k] 0))) 4))) (wid_at _ hw.1 hw.2) rfl ?_
        have hlo := nextV_range ls[k] (nextA ls[k] (nextA ls[k] 0)) 9 (by omega)
        have hwd := wid_range (nextV ls[k] (nextA ls[k] (nextA ls[k] (nextA ls[k] 0))) 4)
        refine rs_add rfl rfl rfl (by omega) ?_
        first | refine rs_fa_p rfl rfl ?_ | refine rs_fa_r rfl rfl rfl ?_
        refine rs_st rfl rfl rfl rfl rfl rfl rfl (Nat.le_of_ble_eq_true rfl) rfl rfl ?_
        refine rs_nil ⟨by kernel_rfl, fun _ => ?_⟩
        refine th_n ?_
        refine aw_reg ?_
        refine rs_mv rfl rfl ?_
        first | refine rs_ld_pa rfl rfl rfl rfl (Nat.le_of_ble_eq_true rfl) rfl ?_ | refine rs_ld_ra rfl rfl (Nat.le_of_ble_eq_true rfl) rfl ?_ | refine rs_ld_ma rfl rfl rfl (by omega) (Nat.le_of_ble_eq_true rfl) rfl ?_
        refine rs_bslice rfl rfl rfl rfl rfl rfl ?_
        refine rs_app_m (y := mkR q ls[k]) rfl rfl rfl rfl (by simp; omega) rfl rfl rfl (by decide) rfl (by omega) (by omega) rfl ?_
        refine rs_mv rfl rfl ?_
        refine rs_nil fun _ => ?_
        refine in_n ?_
        refine th_n ?_
        refine aw_reg ?_
        refine rs_mv rfl rfl ?_
        refine rs_add rfl rfl rfl (by omega) ?_
        refine rs_mv rfl rfl ?_
        refine rs_nil fun _ => ?_
        refine th_n ?_
        refine ⟨k + 1, ⟨by omega, by omega, by omega⟩, by omega, ?_⟩
        exact weak_to_ren (i := 49) (i' := 1005) (F1 := [(0, .rs 1 (ls.map cL)), (1, .int .i64 q), (5, .sl 49 0 (k + 1)), (6, .int .i64 (((k + 1) : Nat) : Int))]) (H1 := [(49, .cells 50 4 (((ls.take (k + 1)).map (mkR q)).map cR) true)]) (.cons rfl (rc_same rfl (.inl rfl)) (.cons rfl (rc_same rfl (.inl rfl)) (.cons rfl (rc_same rfl (.inl rfl)) (.cons rfl (rc_same rfl (.inl rfl)) (.nil))))) (.keep ((by rw [take_map_succ (mkR q) ls k hkl]; rfl)) rfl (.nil)) (fun i h => by cases h) rfl rfl (.cons rfl (.same _) (.cons rfl (.same _) (.cons rfl (.sl _ _) (.cons rfl (.same _) (.nil))))) (.cons rfl (rc_same rfl (.inl rfl)) (.cons rfl (rc_same rfl (.inl rfl)) (.cons rfl (rc_same rfl (.inl rfl)) (.cons rfl (rc_same rfl (.inl rfl)) (.nil))))) (.keep (rfl) rfl (.nil)) (fun i h => by cases h)
      · skip
        refine rs_pick rfl rfl rfl ?_
        refine rs_nil fun _ => ?_
        refine th_n ?_
        refine aw_cond rfl (fun h => by cases h) (fun _ => ?_)
        refine aw_exit ?_
        refine th_e ?_
        refine th_e ?_
        refine in_hit ?_
        refine th_n ?_
        refine aw_seq ?_
        refine aw_reg ?_
        refine rs_mv rfl rfl ?_
        refine rs_mv rfl rfl ?_
        refine rs_nil fun _ => ?_
        refine th_n ?_
        refine aw_ret ?_
        have hr : readS ls q = (ls.take k).map (mkR q) := by
          unfold readS
          split
          · rename_i hq0
            by_cases hk1 : k = 10
            · rw [hk1]
            · have : k = ls.length := by omega
              subst this
              rw [List.take_of_length_le (by omega), List.take_of_length_le (by omega)]
          · have : k = 0 := by omega
            subst this; simp
        have hlen : ((ls.take k).map (mkR q)).length = k := by simp; omega
        rw [hr, hlen]
        exact ret_new rfl (rc_same rfl (.inr rfl)) (.keep rfl rfl (noROE_map (fun _ => rfl) _) .nil)
    · skip
      refine rs_pick rfl rfl rfl ?_
      refine rs_mv rfl rfl ?_
      refine rs_skip rfl ?_
      refine rs_skip rfl ?_
      refine rs_pick rfl rfl rfl ?_
      refine rs_nil fun _ => ?_
      refine th_n ?_
      refine aw_cond rfl (fun h => by cases h) (fun _ => ?_)
      refine aw_exit ?_
      refine th_e ?_
      refine th_e ?_
      refine in_hit ?_
      refine th_n ?_
      refine aw_seq ?_
      refine aw_reg ?_
      refine rs_mv rfl rfl ?_
      refine rs_mv rfl rfl ?_
      refine rs_nil fun _ => ?_
      refine th_n ?_
      refine aw_ret ?_
      have hr : readS ls q = (ls.take k).map (mkR q) := by
        unfold readS
        split
        · rename_i hq0
          by_cases hk1 : k = 10
          · rw [hk1]
          · have : k = ls.length := by omega
            subst this
            rw [List.take_of_length_le (by omega), List.take_of_length_le (by omega)]
        · have : k = 0 := by omega
          subst this; simp
      have hlen : ((ls.take k).map (mkR q)).length = k := by simp; omega
      rw [hr, hlen]
      exact ret_new rfl (rc_same rfl (.inr rfl)) (.keep rfl rfl (noROE_map (fun _ => rfl) _) .nil)
  · skip
    refine rs_mv rfl rfl ?_
    refine rs_skip rfl ?_
    refine rs_skip rfl ?_
    refine rs_pick rfl rfl rfl ?_
    refine rs_mv rfl rfl ?_
    refine rs_skip rfl ?_
    refine rs_skip rfl ?_
    refine rs_pick rfl rfl rfl ?_
    refine rs_nil fun _ => ?_
    refine th_n ?_
    refine aw_cond rfl (fun h => by cases h) (fun _ => ?_)
    refine aw_exit ?_
    refine th_e ?_
    refine th_e ?_
    refine in_hit ?_
    refine th_n ?_
    refine aw_seq ?_
    refine aw_reg ?_
    refine rs_mv rfl rfl ?_
    refine rs_mv rfl rfl ?_
    refine rs_nil fun _ => ?_
    refine th_n ?_
    refine aw_ret ?_
    have hr : readS ls q = (ls.take k).map (mkR q) := by
      unfold readS
      split
      · rename_i hq0
        by_cases hk1 : k = 10
        · rw [hk1]
        · have : k = ls.length := by omega
          subst this
          rw [List.take_of_length_le (by omega), List.take_of_length_le (by omega)]
      · have : k = 0 := by omega
        subst this; simp
    have hlen : ((ls.take k).map (mkR q)).length = k := by simp; omega
    rw [hr, hlen]
    exact ret_new rfl (rc_same rfl (.inr rfl)) (.keep rfl rfl (noROE_map (fun _ => rfl) _) .nil)

end Go.Proofs.Ytadjdnhnbkcakaa
