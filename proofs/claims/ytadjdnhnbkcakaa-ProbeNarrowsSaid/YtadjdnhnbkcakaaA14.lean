/-
  Walks: A14.
-/
import Derived.Test.YtadjdnhnbkcakaaA13
namespace Go.Proofs.Ytadjdnhnbkcakaa
open Go.RowKit

abbrev cu8 (x : Int) : List AV := [.int .u8 x]
def limAt (L : List Int) (i : Nat) : Int := L.getD i 0
def loF (m : Int) : Int := m.tmod 4
def hiF (m : Int) : Int := m.tmod 4 + (m.tdiv 4).tmod 12
def madeLo (L : List Int) (k : Nat) : List Int := (List.range k).map fun i => loF (limAt L i)
def madeHi (L : List Int) (k : Nat) : List Int := (List.range k).map fun i => hiF (limAt L i)
theorem madeLo_succ (L : List Int) (k : Nat) : madeLo L (k + 1) = madeLo L k ++ [loF (limAt L k)] := by simp [madeLo, List.range_succ]
theorem madeHi_succ (L : List Int) (k : Nat) : madeHi L (k + 1) = madeHi L k ++ [hiF (limAt L k)] := by simp [madeHi, List.range_succ]
theorem length_madeLo (L : List Int) (k : Nat) : (madeLo L k).length = k := by simp [madeLo]
theorem length_madeHi (L : List Int) (k : Nat) : (madeHi L k).length = k := by simp [madeHi]
theorem limAt_in {L : List Int} {k : Nat} (h : k < L.length) : L[k] = limAt L k := by simp [limAt, h]
theorem limAt_out {L : List Int} {k : Nat} (h : ¬ k < L.length) : 0 = limAt L k := by simp [limAt, List.getElem?_eq_none (Nat.le_of_not_lt h)]
theorem limAt_range {L : List Int} (h : ∀ x ∈ L, 0 ≤ x ∧ x < 256) (k : Nat) : 0 ≤ limAt L k ∧ limAt L k < 256 := by
  by_cases hk : k < L.length
  · rw [← limAt_in hk]; exact h _ (List.getElem_mem _)
  · rw [← limAt_out hk]; decide
theorem mfacts (m : Int) (h : 0 ≤ m ∧ m < 256) : (0 ≤ m.tmod 4 ∧ m.tmod 4 < 4) ∧ (0 ≤ (m.tdiv 4).tmod 12 ∧ (m.tdiv 4).tmod 12 < 12) ∧ IntKind.i64.wrap (m.tdiv 4) = m.tdiv 4 ∧ IntKind.i64.wrap (m.tmod 4) = m.tmod 4 := by
  have e1 : m.tmod 4 = m % 4 := Int.tmod_eq_emod_of_nonneg h.1
  have e2 : m.tdiv 4 = m / 4 := Int.tdiv_eq_ediv_of_nonneg h.1
  have e3 : (m / 4).tmod 12 = (m / 4) % 12 := Int.tmod_eq_emod_of_nonneg (by omega)
  rw [e2, e1, e3]
  refine ⟨by omega, by omega, wrap64_eq (by omega), wrap64_eq (by omega)⟩

def mc16 : MC := (.seq (.reg [⟨(some 1), (.box 25 3 (.t 0)), none, []⟩, ⟨(some 2), (.mv (.c .nils)), none, []⟩, ⟨(some 3), (.mv (.c .nils)), none, [1]⟩, ⟨(some 4), (.mv (.c .nils)), none, [2]⟩, ⟨(some 5), (.mv (.c (.int .i64 0))), none, [3]⟩] false) (.seq (.reg [⟨(some 11), (.fa 1 (.t 1)), none, []⟩, ⟨(some 12), (.ld false 1 (.t 11)), none, [0]⟩, ⟨(some 13), (.len (.t 12)), none, [1]⟩, ⟨(some 14), (.bin .rem (.t 13) (.c (.int .i64 3))), none, [2]⟩, ⟨(some 15), (.bin .add (.c (.int .i64 1)) (.t 14)), none, [3]⟩, ⟨(some 6), (.mv (.t 15)), none, [4, 0, 1, 2, 3, 4]⟩] false) (.seq (.reg [⟨(some 7), (.mv (.c .nils)), none, []⟩, ⟨(some 8), (.mv (.c .nils)), none, [0]⟩] false) (.seq (.seq (.reg [⟨(some 9), (.mv (.c (.int .i64 0))), none, []⟩] false) (.block 0 (.loop (.seq (.seq (.reg [⟨(some 16), (.mv (.t 9)), none, []⟩, ⟨(some 17), (.mv (.t 6)), none, []⟩, ⟨(some 18), (.bin .lss (.t 16) (.t 17)), none, [0, 1]⟩] false) (.cond (.t 18) .skip (.exit 0))) (.seq (.block 1 (.seq (.reg [⟨(some 10), (.mv (.c (.int .i64 0))), none, []⟩] false) (.seq (.seq (.reg [⟨(some 21), (.mv (.t 9)), none, []⟩, ⟨(some 22), (.fa 1 (.t 1)), none, []⟩, ⟨(some 23), (.ld false 1 (.t 22)), none, [1]⟩, ⟨(some 24), (.len (.t 23)), none, [2]⟩, ⟨(some 25), (.bin .lss (.t 21) (.t 24)), none, [0, 3]⟩] false) (.cond (.t 25) (.reg [⟨(some 26), (.fa 1 (.t 1)), none, []⟩, ⟨(some 27), (.ld false 1 (.t 26)), none, [0]⟩, ⟨(some 28), (.mv (.t 9)), none, []⟩, ⟨(some 29), (.ixsl 1 (.t 27) (.t 28)), none, [1, 2]⟩, ⟨(some 30), (.ld false 1 (.t 29)), none, [3]⟩, ⟨(some 31), (.cvt .i64 (.t 30)), none, [4]⟩, ⟨(some 10), (.mv (.t 31)), none, [5, 0, 1, 2, 3, 4, 5]⟩] false) .skip)) (.seq (.reg [⟨(some 32), (.mv (.t 7)), none, []⟩, ⟨(some 33), (.mv (.t 10)), none, []⟩, ⟨(some 34), (.bin .rem (.t 33) (.c (.int .i64 4))), none, [1]⟩, ⟨(some 35), (.bslice 3 1 [(.int .i64 0)] 1 [(0, (.t 34))]), none, [2]⟩, ⟨(some 36), (.app 3 1 8 [(.int .i64 0)] (.t 32) (.t 35)), none, [0, 3]⟩, ⟨(some 7), (.mv (.t 36)), none, [4, 4, 0, 1, 2, 3, 4]⟩] false) (.reg [⟨(some 37), (.mv (.t 8)), none, []⟩, ⟨(some 38), (.mv (.t 10)), none, []⟩, ⟨(some 39), (.bin .rem (.t 38) (.c (.int .i64 4))), none, [1]⟩, ⟨(some 40), (.mv (.t 10)), none, []⟩, ⟨(some 41), (.bin .quo (.t 40) (.c (.int .i64 4))), none, [3]⟩, ⟨(some 42), (.bin .rem (.t 41) (.c (.int .i64 12))), none, [4]⟩, ⟨(some 43), (.bin .add (.t 39) (.t 42)), none, [2, 5]⟩, ⟨(some 44), (.bslice 3 1 [(.int .i64 0)] 1 [(0, (.t 43))]), none, [6]⟩, ⟨(some 45), (.app 3 1 8 [(.int .i64 0)] (.t 37) (.t 44)), none, [0, 7]⟩, ⟨(some 8), (.mv (.t 45)), none, [8, 8, 0, 1, 2, 3, 4, 5, 6, 7, 8]⟩] false))))) (.reg [⟨(some 19), (.mv (.t 9)), none, []⟩, ⟨(some 20), (.bin .add (.t 19) (.c (.int .i64 1))), none, [0]⟩, ⟨(some 9), (.mv (.t 20)), none, [1, 0, 1]⟩] false)))))) (.seq (.reg [⟨(some 46), (.fa 0 (.t 1)), none, []⟩, ⟨(some 47), (.ld false 1 (.t 46)), none, [0]⟩, ⟨(some 48), (.mv (.t 6)), none, []⟩, ⟨(some 49), (.call 29 [(.t 47), (.t 48)]), none, [1, 2]⟩, ⟨(some 50), (.mv (.t 7)), none, []⟩, ⟨(some 51), (.mv (.t 8)), none, []⟩, ⟨(some 52), (.fa 2 (.t 1)), none, []⟩, ⟨(some 53), (.ld false 1 (.t 52)), none, [6]⟩, ⟨(some 54), (.bin .rem (.t 53) (.c (.int .u8 4))), none, [7]⟩, ⟨(some 55), (.cvt .i64 (.t 54)), none, [8]⟩, ⟨(some 2), (.mv (.t 49)), none, [3, 3, 0, 1, 2, 3]⟩, ⟨(some 3), (.mv (.t 50)), none, [4, 10, 0, 1, 2, 3, 4, 10]⟩, ⟨(some 4), (.mv (.t 51)), none, [5, 11, 0, 1, 2, 3, 4, 5, 10, 11]⟩, ⟨(some 5), (.mv (.t 55)), none, [9, 12, 0, 1, 2, 3, 4, 5, 6, 7, 8, 9, 10, 11, 12]⟩] true) .ret)))))
theorem mcOk16 : (match Try.f16.body with | some c => compC Try.prog 56 c | none => none) = some mc16 := by kernel_rfl

theorem fc16 (ls : List (List Int)) (lims : List Int) (lies : Int) (hls : ∀ L ∈ ls, L.length ≤ 4611686018427387904) (hlims : ∀ x ∈ lims, 0 ≤ x ∧ x < 256) (hlies : 0 ≤ lies ∧ lies < 256) : FC Try.prog 16 [.agg [.rs 1 (ls.map cL), .rs 1 (lims.map cu8), .int .u8 lies]] [] (.tup [.rs 4 ((readS ls ((1 + lims.length % 3) : Nat)).map cR), ints (madeLo lims (1 + lims.length % 3)), ints (madeHi lims (1 + lims.length % 3)), iv (lies.tmod 4)]) [] true := by
  refine fc_run (nt := 56) Try.func16 rfl rfl mcOk16 (Nat.le_of_ble_eq_true rfl) ?_
  delta mc16
  refine aw_seq ?_
  refine aw_reg ?_
  refine rs_box rfl rfl rfl rfl rfl rfl ?_
  refine rs_mv rfl rfl ?_
  refine rs_mv rfl rfl ?_
  refine rs_mv rfl rfl ?_
  refine rs_mv rfl rfl ?_
  refine rs_nil fun _ => ?_
  refine th_n ?_
  refine aw_seq ?_
  refine aw_reg ?_
  first | refine rs_fa_p rfl rfl ?_ | refine rs_fa_r rfl rfl rfl ?_
  first | refine rs_ld_r rfl rfl rfl ?_ | refine rs_ld_p rfl rfl rfl rfl rfl ?_ | refine rs_ld_m rfl rfl rfl (by omega) rfl ?_
  first | refine rs_len_m rfl rfl ?_ | refine rs_len_s rfl rfl ?_ | refine rs_len_n rfl rfl ?_ | refine rs_len_r rfl rfl rfl ?_
  refine rs_rem (c := ((lims.length % 3 : Nat) : Int)) rfl rfl rfl (by decide) rfl ?_
  first | refine rs_add rfl rfl rfl (by omega) ?_ | refine rs_addw rfl rfl rfl rfl ?_
  refine rs_mv rfl rfl ?_
  refine rs_nil fun _ => ?_
  refine th_n ?_
  refine aw_seq ?_
  refine aw_reg ?_
  refine rs_mv rfl rfl ?_
  refine rs_mv rfl rfl ?_
  refine rs_nil fun _ => ?_
  refine th_n ?_
  refine aw_seq ?_
  refine aw_seq ?_
  refine aw_reg ?_
  refine rs_mv rfl rfl ?_
  refine rs_nil fun _ => ?_
  refine th_n ?_
  refine aw_block ?_
  refine aw_fam (α := Nat) (fun k => (1 + lims.length % 3) - k) (fun k => [(1, .ptr 1 0 0), (6, iv (((1 + lims.length % 3) : Nat) : Int)), (7, .sl 1007 0 (k)), (8, .sl 1008 0 (k)), (9, iv (((k) : Nat) : Int))]) (fun k => [(1, .cells 25 3 [[.rs 1 (ls.map cL), .rs 1 (lims.map cu8), .int .u8 lies]] true), (1007, .cells 3 1 ((madeLo lims (k)).map ci) true), (1008, .cells 3 1 ((madeHi lims (k)).map ci) true)]) (fun k => k ≤ (1 + lims.length % 3)) 0 (by omega)
    (weak_to (.cons rfl (rc_same rfl (.inl rfl)) (.cons rfl (rc_same rfl (.inl rfl)) (.cons rfl (rc_virt rfl rfl) (.cons rfl (rc_virt rfl rfl) (.cons rfl (rc_same rfl (.inl rfl)) (.nil)))))) (.keep (rfl) rfl (.virt rfl (.virt rfl (.nil)))) (fun i h => by cases h)) ?_
  intro k hk
  refine aw_seq ?_
  refine aw_seq ?_
  refine aw_reg ?_
  refine rs_mv rfl rfl ?_
  refine rs_mv rfl rfl ?_
  refine rs_lss rfl rfl rfl ?_
  refine rs_nil fun _ => ?_
  refine th_n ?_
  refine aw_cond rfl (fun h18 => ?_) (fun h18 => ?_)
  · first | replace h18 := of_decide_eq_true h18 | skip
    have hlr := limAt_range hlims k
    have hmf := mfacts _ hlr
    refine aw_skip ?_
    refine th_n ?_
    refine aw_seq ?_
    refine aw_block ?_
    refine aw_seq ?_
    refine aw_reg ?_
    refine rs_mv rfl rfl ?_
    refine rs_nil fun _ => ?_
    refine th_n ?_
    refine aw_seq ?_
    refine aw_seq ?_
    refine aw_reg ?_
    refine rs_mv rfl rfl ?_
    first | refine rs_fa_p rfl rfl ?_ | refine rs_fa_r rfl rfl rfl ?_
    first | refine rs_ld_r rfl rfl rfl ?_ | refine rs_ld_p rfl rfl rfl rfl rfl ?_ | refine rs_ld_m rfl rfl rfl (by omega) rfl ?_
    first | refine rs_len_m rfl rfl ?_ | refine rs_len_s rfl rfl ?_ | refine rs_len_n rfl rfl ?_ | refine rs_len_r rfl rfl rfl ?_
    refine rs_lss rfl rfl rfl ?_
    refine rs_nil fun _ => ?_
    refine th_n ?_
    refine aw_cond rfl (fun h25 => ?_) (fun h25 => ?_)
    · first | replace h25 := of_decide_eq_true h25 | skip
      refine aw_reg ?_
      first | refine rs_fa_p rfl rfl ?_ | refine rs_fa_r rfl rfl rfl ?_
      first | refine rs_ld_r rfl rfl rfl ?_ | refine rs_ld_p rfl rfl rfl rfl rfl ?_ | refine rs_ld_m rfl rfl rfl (by omega) rfl ?_
      refine rs_mv rfl rfl ?_
      first | refine rs_ix_m rfl rfl rfl (by omega) ?_ | refine rs_ix_sm rfl rfl rfl rfl (by omega) ?_
      refine rs_ld_r rfl rfl rfl ?_
      refine rs_cvt (m := limAt lims k) rfl rfl (by rw [limAt_in (by omega)]; exact wrap64_eq (by omega)) ?_
      refine rs_mv rfl rfl ?_
      refine rs_nil fun _ => ?_
      refine th_n ?_
      refine aw_seq ?_
      refine aw_reg ?_
      refine rs_mv rfl rfl ?_
      refine rs_mv rfl rfl ?_
      refine rs_rem (a := limAt lims k) (c := loF (limAt lims k)) rfl (by first | rfl | exact congrArg (fun x => some (AV.int .i64 x)) (limAt_out (by omega))) rfl (by decide) rfl ?_
      refine rs_bslice rfl rfl rfl rfl rfl rfl ?_
      refine rs_app_m (y := loF (limAt lims k)) rfl rfl rfl rfl (length_madeLo _ _) rfl rfl rfl (by decide) rfl (by omega) (by omega) rfl ?_
      refine rs_mv rfl rfl ?_
      refine rs_nil fun _ => ?_
      refine th_n ?_
      refine aw_reg ?_
      refine rs_mv rfl rfl ?_
      refine rs_mv rfl rfl ?_
      refine rs_rem (a := limAt lims k) rfl (by first | rfl | exact congrArg (fun x => some (AV.int .i64 x)) (limAt_out (by omega))) rfl (by decide) rfl ?_
      refine rs_mv rfl rfl ?_
      refine rs_quow (a := limAt lims k) rfl (by first | rfl | exact congrArg (fun x => some (AV.int .i64 x)) (limAt_out (by omega))) rfl (by decide) hmf.2.2.1 ?_
      refine rs_rem rfl rfl rfl (by decide) rfl ?_
      refine rs_add rfl rfl rfl (by omega) ?_
      refine rs_bslice rfl rfl rfl rfl rfl rfl ?_
      refine rs_app_m (y := hiF (limAt lims k)) rfl rfl rfl rfl (length_madeHi _ _) rfl rfl rfl (by decide) rfl (by omega) (by omega) rfl ?_
      refine rs_mv rfl rfl ?_
      refine rs_nil fun _ => ?_
      refine in_n ?_
      refine th_n ?_
      refine aw_reg ?_
      refine rs_mv rfl rfl ?_
      first | refine rs_add rfl rfl rfl (by omega) ?_ | refine rs_addw rfl rfl rfl rfl ?_
      refine rs_mv rfl rfl ?_
      refine rs_nil fun _ => ?_
      refine th_n ?_
      refine ⟨k + 1, by omega, by omega, ?_⟩
      exact Weak.trans (F1 := [(1, .ptr 1 0 0), (6, iv (((1 + lims.length % 3) : Nat) : Int)), (7, .sl 1007 0 (k + 1)), (8, .sl 45 0 (k + 1)), (9, iv (((k + 1) : Nat) : Int))]) (H1 := [(1, .cells 25 3 [[.rs 1 (ls.map cL), .rs 1 (lims.map cu8), .int .u8 lies]] true), (1007, .cells 3 1 ((madeLo lims (k + 1)).map ci) true), (45, .cells 3 1 ((madeHi lims (k + 1)).map ci) true)]) (weak_to_ren (i := 36) (i' := 1007) (F1 := [(1, .ptr 1 0 0), (6, iv (((1 + lims.length % 3) : Nat) : Int)), (7, .sl 36 0 (k + 1)), (8, .sl 45 0 (k + 1)), (9, iv (((k + 1) : Nat) : Int))]) (H1 := [(1, .cells 25 3 [[.rs 1 (ls.map cL), .rs 1 (lims.map cu8), .int .u8 lies]] true), (36, .cells 3 1 ((madeLo lims (k + 1)).map ci) true), (45, .cells 3 1 ((madeHi lims (k + 1)).map ci) true)]) (.cons rfl (rc_same rfl (.inl rfl)) (.cons rfl (rc_same rfl (.inl rfl)) (.cons rfl (rc_same rfl (.inl rfl)) (.cons rfl (rc_same rfl (.inl rfl)) (.cons rfl (rc_same rfl (.inl rfl)) (.nil)))))) (.keep (rfl) rfl (.keep ((by (rw [madeLo_succ]) <;> rfl)) rfl (.keep ((by (rw [madeHi_succ]) <;> rfl)) rfl (.nil)))) (fun i h => by cases h) rfl rfl (.cons rfl (.same _) (.cons rfl (.same _) (.cons rfl (.sl _ _) (.cons rfl (.same _) (.cons rfl (.same _) (.nil)))))) (.cons rfl (rc_same rfl (.inl rfl)) (.cons rfl (rc_same rfl (.inl rfl)) (.cons rfl (rc_same rfl (.inl rfl)) (.cons rfl (rc_same rfl (.inl rfl)) (.cons rfl (rc_same rfl (.inl rfl)) (.nil)))))) (.keep (rfl) rfl (.keep (rfl) rfl (.keep (rfl) rfl (.nil)))) (fun i h => by cases h)) (weak_to_ren (i := 45) (i' := 1008) (F1 := [(1, .ptr 1 0 0), (6, iv (((1 + lims.length % 3) : Nat) : Int)), (7, .sl 1007 0 (k + 1)), (8, .sl 45 0 (k + 1)), (9, iv (((k + 1) : Nat) : Int))]) (H1 := [(1, .cells 25 3 [[.rs 1 (ls.map cL), .rs 1 (lims.map cu8), .int .u8 lies]] true), (1007, .cells 3 1 ((madeLo lims (k + 1)).map ci) true), (45, .cells 3 1 ((madeHi lims (k + 1)).map ci) true)]) (.cons rfl (rc_same rfl (.inl rfl)) (.cons rfl (rc_same rfl (.inl rfl)) (.cons rfl (rc_same rfl (.inl rfl)) (.cons rfl (rc_same rfl (.inl rfl)) (.cons rfl (rc_same rfl (.inl rfl)) (.nil)))))) (.keep (rfl) rfl (.keep (rfl) rfl (.keep (rfl) rfl (.nil)))) (fun i h => by cases h) rfl rfl (.cons rfl (.same _) (.cons rfl (.same _) (.cons rfl (.same _) (.cons rfl (.sl _ _) (.cons rfl (.same _) (.nil)))))) (.cons rfl (rc_same rfl (.inl rfl)) (.cons rfl (rc_same rfl (.inl rfl)) (.cons rfl (rc_same rfl (.inl rfl)) (.cons rfl (rc_same rfl (.inl rfl)) (.cons rfl (rc_same rfl (.inl rfl)) (.nil)))))) (.keep (rfl) rfl (.keep (rfl) rfl (.keep (rfl) rfl (.nil)))) (fun i h => by cases h))
    · first | replace h25 := of_decide_eq_false h25 | skip
      
      refine aw_skip ?_
      refine th_n ?_
      refine aw_seq ?_
      refine aw_reg ?_
      refine rs_mv rfl rfl ?_
      refine rs_mv rfl rfl ?_
      refine rs_rem (a := limAt lims k) (c := loF (limAt lims k)) rfl (by first | rfl | exact congrArg (fun x => some (AV.int .i64 x)) (limAt_out (by omega))) rfl (by decide) rfl ?_
      refine rs_bslice rfl rfl rfl rfl rfl rfl ?_
      refine rs_app_m (y := loF (limAt lims k)) rfl rfl rfl rfl (length_madeLo _ _) rfl rfl rfl (by decide) rfl (by omega) (by omega) rfl ?_
      refine rs_mv rfl rfl ?_
      refine rs_nil fun _ => ?_
      refine th_n ?_
      refine aw_reg ?_
      refine rs_mv rfl rfl ?_
      refine rs_mv rfl rfl ?_
      refine rs_rem (a := limAt lims k) rfl (by first | rfl | exact congrArg (fun x => some (AV.int .i64 x)) (limAt_out (by omega))) rfl (by decide) rfl ?_
      refine rs_mv rfl rfl ?_
      refine rs_quow (a := limAt lims k) rfl (by first | rfl | exact congrArg (fun x => some (AV.int .i64 x)) (limAt_out (by omega))) rfl (by decide) hmf.2.2.1 ?_
      refine rs_rem rfl rfl rfl (by decide) rfl ?_
      refine rs_add rfl rfl rfl (by omega) ?_
      refine rs_bslice rfl rfl rfl rfl rfl rfl ?_
      refine rs_app_m (y := hiF (limAt lims k)) rfl rfl rfl rfl (length_madeHi _ _) rfl rfl rfl (by decide) rfl (by omega) (by omega) rfl ?_
      refine rs_mv rfl rfl ?_
      refine rs_nil fun _ => ?_
      refine in_n ?_
      refine th_n ?_
      refine aw_reg ?_
      refine rs_mv rfl rfl ?_
      first | refine rs_add rfl rfl rfl (by omega) ?_ | refine rs_addw rfl rfl rfl rfl ?_
      refine rs_mv rfl rfl ?_
      refine rs_nil fun _ => ?_
      refine th_n ?_
      refine ⟨k + 1, by omega, by omega, ?_⟩
      exact Weak.trans (F1 := [(1, .ptr 1 0 0), (6, iv (((1 + lims.length % 3) : Nat) : Int)), (7, .sl 1007 0 (k + 1)), (8, .sl 45 0 (k + 1)), (9, iv (((k + 1) : Nat) : Int))]) (H1 := [(1, .cells 25 3 [[.rs 1 (ls.map cL), .rs 1 (lims.map cu8), .int .u8 lies]] true), (1007, .cells 3 1 ((madeLo lims (k + 1)).map ci) true), (45, .cells 3 1 ((madeHi lims (k + 1)).map ci) true)]) (weak_to_ren (i := 36) (i' := 1007) (F1 := [(1, .ptr 1 0 0), (6, iv (((1 + lims.length % 3) : Nat) : Int)), (7, .sl 36 0 (k + 1)), (8, .sl 45 0 (k + 1)), (9, iv (((k + 1) : Nat) : Int))]) (H1 := [(1, .cells 25 3 [[.rs 1 (ls.map cL), .rs 1 (lims.map cu8), .int .u8 lies]] true), (36, .cells 3 1 ((madeLo lims (k + 1)).map ci) true), (45, .cells 3 1 ((madeHi lims (k + 1)).map ci) true)]) (.cons rfl (rc_same rfl (.inl rfl)) (.cons rfl (rc_same rfl (.inl rfl)) (.cons rfl (rc_same rfl (.inl rfl)) (.cons rfl (rc_same rfl (.inl rfl)) (.cons rfl (rc_same rfl (.inl rfl)) (.nil)))))) (.keep (rfl) rfl (.keep ((by (rw [madeLo_succ]) <;> rfl)) rfl (.keep ((by (rw [madeHi_succ]) <;> rfl)) rfl (.nil)))) (fun i h => by cases h) rfl rfl (.cons rfl (.same _) (.cons rfl (.same _) (.cons rfl (.sl _ _) (.cons rfl (.same _) (.cons rfl (.same _) (.nil)))))) (.cons rfl (rc_same rfl (.inl rfl)) (.cons rfl (rc_same rfl (.inl rfl)) (.cons rfl (rc_same rfl (.inl rfl)) (.cons rfl (rc_same rfl (.inl rfl)) (.cons rfl (rc_same rfl (.inl rfl)) (.nil)))))) (.keep (rfl) rfl (.keep (rfl) rfl (.keep (rfl) rfl (.nil)))) (fun i h => by cases h)) (weak_to_ren (i := 45) (i' := 1008) (F1 := [(1, .ptr 1 0 0), (6, iv (((1 + lims.length % 3) : Nat) : Int)), (7, .sl 1007 0 (k + 1)), (8, .sl 45 0 (k + 1)), (9, iv (((k + 1) : Nat) : Int))]) (H1 := [(1, .cells 25 3 [[.rs 1 (ls.map cL), .rs 1 (lims.map cu8), .int .u8 lies]] true), (1007, .cells 3 1 ((madeLo lims (k + 1)).map ci) true), (45, .cells 3 1 ((madeHi lims (k + 1)).map ci) true)]) (.cons rfl (rc_same rfl (.inl rfl)) (.cons rfl (rc_same rfl (.inl rfl)) (.cons rfl (rc_same rfl (.inl rfl)) (.cons rfl (rc_same rfl (.inl rfl)) (.cons rfl (rc_same rfl (.inl rfl)) (.nil)))))) (.keep (rfl) rfl (.keep (rfl) rfl (.keep (rfl) rfl (.nil)))) (fun i h => by cases h) rfl rfl (.cons rfl (.same _) (.cons rfl (.same _) (.cons rfl (.same _) (.cons rfl (.sl _ _) (.cons rfl (.same _) (.nil)))))) (.cons rfl (rc_same rfl (.inl rfl)) (.cons rfl (rc_same rfl (.inl rfl)) (.cons rfl (rc_same rfl (.inl rfl)) (.cons rfl (rc_same rfl (.inl rfl)) (.cons rfl (rc_same rfl (.inl rfl)) (.nil)))))) (.keep (rfl) rfl (.keep (rfl) rfl (.keep (rfl) rfl (.nil)))) (fun i h => by cases h))
  · first | replace h18 := of_decide_eq_false h18 | skip
    refine aw_exit ?_
    refine th_e ?_
    refine th_e ?_
    refine in_hit ?_
    refine th_n ?_
    refine aw_seq ?_
    refine aw_draw hmix ?_
    first | refine rs_fa_p rfl rfl ?_ | refine rs_fa_r rfl rfl rfl ?_
    first | refine rs_ld_r rfl rfl rfl ?_ | refine rs_ld_p rfl rfl rfl rfl rfl ?_ | refine rs_ld_m rfl rfl rfl (by omega) rfl ?_
    refine rs_mv rfl rfl ?_
    refine rs_calln [] rfl rfl (fz29 ls ((1 + lims.length % 3) : Nat) (by omega) hls) (.cons (hv_same rfl) (.cons (hv_same rfl) (.nil))) rfl ?_
    refine rs_mv rfl rfl ?_
    refine rs_mv rfl rfl ?_
    first | refine rs_fa_p rfl rfl ?_ | refine rs_fa_r rfl rfl rfl ?_
    first | refine rs_ld_r rfl rfl rfl ?_ | refine rs_ld_p rfl rfl rfl rfl rfl ?_ | refine rs_ld_m rfl rfl rfl (by omega) rfl ?_
    refine rs_rem rfl rfl rfl (by decide) rfl ?_
    refine rs_cvt rfl rfl (mfacts lies hlies).2.2.2 ?_
    refine rs_mv rfl rfl ?_
    refine rs_mv rfl rfl ?_
    refine rs_mv rfl rfl ?_
    refine rs_mv rfl rfl ?_
    refine rs_nil ⟨by kernel_rfl, fun _ => ?_⟩
    refine th_n ?_
    refine aw_ret ?_
    obtain rfl : k = (1 + lims.length % 3) := by omega
    exact ret_own rfl (rc_tup (.cons (rc_same rfl (.inl rfl)) (.cons (rc_frz rfl rfl (length_madeLo _ _) (fun _ => rfl)) (.cons (rc_frz rfl rfl (length_madeHi _ _) (fun _ => rfl)) (.cons (rc_same rfl (.inl rfl)) .nil))))) .nil .nil

end Go.Proofs.Ytadjdnhnbkcakaa
