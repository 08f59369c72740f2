/-
  Proved: colletlaw38.RevealRoots returns true for every input, and its arguments read as before. No condition.
-/
import Derived.Test.YthfhaoogcpfboaaGreatK5
import Derived.Test.YthfhaoogcpfboaaGreatRows
set_option linter.unusedVariables false
set_option linter.unusedSimpArgs false

/-! Walks: X1. -/
namespace Go.Proofs.YthfhaoogcpfboaaGreat
open Go.RowKit
set_option maxRecDepth 100000
set_option linter.unusedVariables false
def mcv30 : MC := (.seq (.reg [oN 2 (.box 55 3 (.t 0)) [], oN 3 (.box 55 3 (.t 1)) [], oN 4 (.mv (.c (.int .i64 0))) []] false) (.seq (.seq (.reg [oN 7 (.ld true 3 (.t 2)) [], oN 8 (.call 76 [(.t 7)]) [0], oN 9 (.un .not (.t 8)) [1], oM 10 9 [2, 1], oG 11 (.ld true 3 (.t 3)) 10 false [3], oG 12 (.call 76 [(.t 11)]) 10 false [4, 3, 3], oG 13 (.un .not (.t 12)) 10 false [5, 3], oN 14 (.pick (.t 10) (.c (.bool true)) (.t 13)) [3, 6]] false) (.cond (.t 14) (.seq (.reg [oN 4 (.mv (.c (.int .i64 4))) []] false) .ret) .skip)) (.seq (.seq (.reg [oA 15 0 2 [], oD 16 1 15 [0], oA 17 0 3 [], oD 18 1 17 [2], oN 19 (.bin .neq (.t 16) (.t 18)) [1, 3], oM 20 19 [4], pA 21 2 2 20 false [5], pD 22 1 21 20 false [6, 5], pA 23 2 3 20 false [5], pD 24 1 23 20 false [8, 5], oG 25 (.call 34 [(.t 22), (.t 24)]) 20 false [7, 9, 5, 5], oG 26 (.un .not (.t 25)) 20 false [10, 5], oN 27 (.pick (.t 20) (.c (.bool true)) (.t 26)) [5, 11], oM 28 27 [12, 10], oG 29 (.ld true 3 (.t 2)) 28 false [13], oG 30 (.call 33 [(.t 29)]) 28 false [14, 13, 13], oG 31 (.ld true 3 (.t 3)) 28 false [13], oG 32 (.call 33 [(.t 31)]) 28 false [16, 15, 13], oG 33 (.call 32 [(.t 30), (.t 32)]) 28 false [15, 17, 17, 13], oG 34 (.un .not (.t 33)) 28 false [18, 13], oN 35 (.pick (.t 28) (.c (.bool true)) (.t 34)) [13, 19]] true) (.cond (.t 35) (.seq (.reg [oN 4 (.mv (.c (.int .i64 54))) []] false) .ret) .skip)) (.seq (.seq (.reg [oN 5 (.mv (.c (.int .i64 0))) []] false) (.block 0 (.loop (.seq (.seq (.reg [oM 36 5 [], oA 37 1 2 [], oD 38 1 37 [1], oN 39 (.len (.t 38)) [2], oN 40 (.bin .lss (.t 36) (.t 39)) [0, 3]] false) (.cond (.t 40) .skip (.exit 0))) (.seq (.block 1 (.seq (.reg [oA 43 1 2 [], oD 44 1 43 [0], oM 45 5 [], oN 46 (.ixsl 5 (.t 44) (.t 45)) [1, 2], oA 47 1 46 [3], oD 48 1 47 [4], oA 49 1 3 [], oD 50 1 49 [6], oM 51 5 [], oN 52 (.ixsl 5 (.t 50) (.t 51)) [7, 8], oA 53 1 52 [9], oD 54 1 53 [10], oN 55 (.bin .neq (.t 48) (.t 54)) [5, 11], oM 56 55 [12], pA 57 1 2 56 false [13], pD 58 1 57 56 false [14, 13], pM 59 5 56 false [13], oG 60 (.ixsl 5 (.t 58) (.t 59)) 56 false [15, 16, 13], pA 61 4 60 56 false [17, 13], pD 62 1 61 56 false [18, 13], pA 63 1 3 56 false [13], pD 64 1 63 56 false [20, 13], pM 65 5 56 false [13], oG 66 (.ixsl 5 (.t 64) (.t 65)) 56 false [21, 22, 13], pA 67 4 66 56 false [23, 13], pD 68 1 67 56 false [24, 13], oG 69 (.seq true (.t 62) (.t 68)) 56 false [19, 25, 13], oN 70 (.pick (.t 56) (.c (.bool true)) (.t 69)) [13, 26]] true) (.cond (.t 70) (.seq (.reg [oN 4 (.mv (.c (.int .i64 1))) []] false) .ret) .skip))) (.reg [oM 41 5 [], oN 42 (.bin .add (.t 41) (.c (.int .i64 1))) [0], oM 5 42 [1, 0, 1]] false)))))) (.seq (.seq (.reg [oN 6 (.mv (.c (.int .i64 0))) []] false) (.block 2 (.loop (.seq (.seq (.reg [oM 71 6 [], oA 72 1 2 [], oD 73 1 72 [1], oN 74 (.len (.t 73)) [2], oN 75 (.bin .lss (.t 71) (.t 74)) [0, 3]] false) (.cond (.t 75) .skip (.exit 2))) (.seq (.block 3 (.seq (.reg [oA 78 1 2 [], oD 79 1 78 [0], oM 80 6 [], oN 81 (.ixsl 5 (.t 79) (.t 80)) [1, 2], oA 82 2 81 [3], oD 83 1 82 [4], oM 84 83 [5], pA 85 1 3 84 true [6], pD 86 1 85 84 true [7, 6], pM 87 6 84 true [6], oG 88 (.ixsl 5 (.t 86) (.t 87)) 84 true [8, 9, 6], pA 89 2 88 84 true [10, 6], pD 90 1 89 84 true [11, 6], oG 91 (.un .not (.t 90)) 84 true [12, 6], oN 92 (.pick (.t 84) (.t 91) (.c (.bool false))) [6, 13], oM 93 92 [14, 6], pA 94 1 2 93 false [15], pD 95 1 94 93 false [16, 15], pM 96 6 93 false [15], oG 97 (.ixsl 5 (.t 95) (.t 96)) 93 false [17, 18, 15], pA 98 3 97 93 false [19, 15], pD 99 1 98 93 false [20, 15], pM 100 99 93 false [21, 15, 15], pA 101 1 3 100 true [22], pD 102 1 101 100 true [23, 22], pM 103 6 100 true [22], oG 104 (.ixsl 5 (.t 102) (.t 103)) 100 true [24, 25, 22], pA 105 3 104 100 true [26, 22], pD 106 1 105 100 true [27, 22], oG 107 (.un .not (.t 106)) 100 true [28, 22], oG 108 (.pick (.t 100) (.t 107) (.c (.bool false))) 93 false [22, 29, 15], oN 109 (.pick (.t 93) (.c (.bool true)) (.t 108)) [15, 30]] false) (.cond (.t 109) (.seq (.reg [oN 4 (.mv (.c (.int .i64 7))) []] false) .ret) .skip))) (.reg [oM 76 6 [], oN 77 (.bin .add (.t 76) (.c (.int .i64 1))) [0], oM 6 77 [1, 0, 1]] false)))))) (.seq (.reg [oN 4 (.mv (.c (.int .i64 0))) []] false) .ret))))))
theorem mcOkv30 : (match Tryz.f30.body with | some c => Q2 Tryz.prog 110 c | none => none) = some mcv30 := by kernel_rfl
set_option maxHeartbeats 2000000 in
theorem vc30 (z : Int) (lv : List Lf) (hd : List (List Int)) (h : ShOK lv hd) (z2 : Int) (lv2 : List Lf) (hd2 : List (List Int)) (h2 : ShOK lv2 hd2) : FC Tryz.prog 30 [.agg [.int .i64 z, .rs 5 (lv.map cLf), .rs 1 (hd.map cS)], .agg [.int .i64 z2, .rs 5 (lv2.map cLf), .rs 1 (hd2.map cS)]] [] (iv (J8 z lv hd z2 lv2 hd2)) [] false := by
  have hnl := h.nl
  have hnh := h.nh
  have hnl2 := h2.nl
  refine Qs (nt := 110) Tryz.func30 rfl rfl mcOkv30 (nL rfl) ?_
  delta mcv30
  refine Qb (Qc (Qf 3 rfl (Qa fun _ => Qd (Qb (Qb (Qc (Qo rfl rfl rfl rfl (nL rfl) rfl (Qi [] rfl rfl (vc76 z lv hd h.nl h.nh) (.cons (Qg rfl) (.nil)) rfl ?_))))))))
  cases h8 : (fmS z lv hd).isSome
  · skip
    refine Qf 6 rfl (Qa fun _ => Qd (Qh rfl (fun _ => ?_) (fun h => by cases h)))
    refine Qb (Qc (Qe rfl rfl (Qa fun _ => Qd (Ql (Q1 ?_)))))
    rw [ch_1 (by rw [h8]; rfl)]
    exact Qk rfl rfl rfl (.inr rfl)
  · skip
    refine Qf 2 rfl (Qo rfl rfl rfl rfl (nL rfl) rfl (Qi [] rfl rfl (vc76 z2 lv2 hd2 h2.nl h2.nh) (.cons (Qg rfl) (.nil)) rfl ?_))
    cases h12 : (fmS z2 lv2 hd2).isSome
    · skip
      refine Qf 2 rfl (Qa fun _ => Qd (Qh rfl (fun _ => ?_) (fun h => by cases h)))
      refine Qb (Qc (Qe rfl rfl (Qa fun _ => Qd (Ql (Q1 ?_)))))
      rw [ch_1 (by rw [h8, h12]; rfl)]
      exact Qk rfl rfl rfl (.inr rfl)
    · skip
      refine Qf 2 rfl (Qa fun _ => Qd (Qh rfl (fun h => by cases h) (fun _ => ?_)))
      refine Qn (Qd (Qb (Qb (Q8 Xr (Qf 4 rfl (QE rfl rfl rfl rfl (fun h19 => ?_) (fun h19 => ?_)))))))
      · skip
        refine Qf 16 rfl (Qa ⟨by kernel_rfl, fun _ => ?_⟩)
        refine Qd (Qh rfl (fun _ => ?_) (fun h => by cases h))
        refine Qb (Qc (Qe rfl rfl (Qa fun _ => Qd (Ql (Q1 ?_)))))
        rw [ch_2 (by rw [h8, h12]; rfl) (by rw [decide_eq_false h19]; rfl)]
        exact Qk rfl rfl rfl (.inr rfl)
      · skip
        refine Qf 5 rfl (Qi [] rfl rfl (vc34 hd hd2 (fun d hd => (h.b d hd).1) (fun d hd => (h2.b d hd).1) (by omega)) (.cons (Qg rfl) (.cons (Qg rfl) (.nil))) rfl ?_)
        cases h25 : decide (hd = hd2)
        · skip
          refine Qf 10 rfl (Qa ⟨by kernel_rfl, fun _ => ?_⟩)
          refine Qd (Qh rfl (fun _ => ?_) (fun h => by cases h))
          refine Qb (Qc (Qe rfl rfl (Qa fun _ => Qd (Ql (Q1 ?_)))))
          rw [ch_2 (by rw [h8, h12]; rfl) (by rw [h25, Bool.and_false]; rfl)]
          exact Qk rfl rfl rfl (.inr rfl)
        · skip
          refine Qf 3 rfl (Qo rfl rfl rfl rfl (nL rfl) rfl (Qi [] rfl rfl (vc33 z lv hd h.nl) (.cons (Qg rfl) (.nil)) rfl (Qo rfl rfl rfl rfl (nL rfl) rfl (Qi [] rfl rfl (vc33 z2 lv2 hd2 h2.nl) (.cons (Qg rfl) (.nil)) rfl (Qi [] rfl rfl (vc32 (QN lv) (QN lv2) (by simp; omega)) (.cons (Qg rfl) (.cons (Qg rfl) (.nil))) rfl ?_)))))
          cases h33 : decide (QN lv = QN lv2)
          · skip
            refine Qf 2 rfl (Qa ⟨by kernel_rfl, fun _ => ?_⟩)
            refine Qd (Qh rfl (fun _ => ?_) (fun h => by cases h))
            refine Qb (Qc (Qe rfl rfl (Qa fun _ => Qd (Ql (Q1 ?_)))))
            rw [ch_2 (by rw [h8, h12]; rfl) (by rw [h33, Bool.and_false])]
            exact Qk rfl rfl rfl (.inr rfl)
          · skip
            refine Qf 2 rfl (Qa ⟨by kernel_rfl, fun _ => ?_⟩)
            refine Qd (Qh rfl (fun h => by cases h) (fun _ => ?_))
            refine Qn (Qd (Qb (Qb ?_)))
            have hfm : ((fmS z lv hd).isSome && (fmS z2 lv2 hd2).isSome) = true := by rw [h8, h12]; rfl
            have heq : (decide (z = z2) && decide (hd = hd2) && decide (QN lv = QN lv2)) = true := by rw [h25, h33, decide_eq_true (Decidable.byContradiction h19)]; rfl
            have hll : lv.length = lv2.length := by have := congrArg List.length (of_decide_eq_true h33); simpa using this
            refine Qc (Qe rfl rfl (Qa fun _ => Qd (Qm ?_)))
            refine QC (α := Nat) (fun k => lv.length - k) (fun k => [(2, .ptr 2 0 0), (3, .ptr 3 0 0), (5, iv (((k) : Nat) : Int))]) (fun k => [(2, .cells 55 3 [[.int .i64 z, .rs 5 (lv.map cLf), .rs 1 (hd.map cS)]] true), (3, .cells 55 3 [[.int .i64 z2, .rs 5 (lv2.map cLf), .rs 1 (hd2.map cS)]] true)]) (fun k => k ≤ lv.length ∧ allZ XQ (lv.drop k) (lv2.drop k) = allZ XQ lv lv2) 0 (⟨by omega, rfl⟩)
              (Qj (.cs (.cs (.cs (.nil)))) (.keep (rfl) rfl (.keep (rfl) rfl (.nil))) (fun i h => by cases h)) ?_
            rintro k ⟨hk, hinv⟩
            refine Qb (Qb (Qc (Qf 3 rfl (Qq rfl rfl (QJ rfl rfl rfl (Qa fun _ => Qd (Qh rfl (fun h40 => ?_) (fun h40 => ?_))))))))
            · replace h40 := of_decide_eq_true h40
              refine Qn (Qd (Qb (Qm (Qb (Q8 Xr (Qf 3 rfl ?_))))))
              obtain ⟨x, hxk, hxm⟩ := Qy (L := lv) (k := k) (by omega)
              obtain ⟨y, hyk, hym⟩ := Qy (L := lv2) (k := k) (by omega)
              refine Qt (f := cLf) (xs := lv) (y := x) rfl rfl rfl (by omega) hxk (Qf 5 rfl (Qt (f := cLf) (xs := lv2) (y := y) rfl rfl rfl (by omega) hyk (Qf 2 rfl (QE rfl rfl rfl rfl (fun h55 => ?_) (fun h55 => ?_)))))
              · skip
                refine Qf 15 rfl (Qa ⟨by kernel_rfl, fun _ => ?_⟩)
                refine Qd (Qh rfl (fun _ => ?_) (fun h => by cases h))
                refine Qb (Qc (Qe rfl rfl (Qa fun _ => Qd (Ql (QL (Q1 (Q1 (QL ?_))))))))
                refine Q1 ?_
                rw [ch_3 hfm heq (by rw [← hinv, XG hxk hyk, show XQ x y = false from by simp only [XQ, Bool.and_eq_false_iff, decide_eq_false_iff_not]; exact .inl h55]; rfl)]
                exact Qk rfl rfl rfl (.inr rfl)
              · skip
                refine Qf 4 rfl (Qt (f := cLf) (xs := lv) (y := x) rfl rfl rfl (by omega) hxk (Qf 5 rfl (Qt (f := cLf) (xs := lv2) (y := y) rfl rfl rfl (by omega) hyk (Qf 2 rfl (rs_seq (r := decide (x.salt ≠ y.salt)) rfl rfl rfl ((h.ok x hxm).b) ((h2.ok y hym).b) (by by_cases e : x.salt = y.salt <;> simp [e]) ?_)))))
                cases h69 : decide (x.salt ≠ y.salt)
                · skip
                  refine QM rfl rfl rfl (Qa ⟨by kernel_rfl, fun _ => ?_⟩)
                  refine Qd (Qh rfl (fun h => by cases h) (fun _ => ?_))
                  refine Qn (QI (Qd (Qc (Qe rfl rfl (Qx rfl rfl rfl (by omega) (Qe rfl rfl (Qa fun _ => Qd ?_)))))))
                  rw [XG hxk hyk, show XQ x y = true from by simp only [XQ, Bool.and_eq_true, decide_eq_true_eq]; exact ⟨Decidable.byContradiction h55, Decidable.byContradiction fun e => by rw [decide_eq_true e] at h69; cases h69⟩, Bool.true_and] at hinv
                  exact ⟨k + 1, ⟨by omega, hinv⟩, by omega, Qj (.cs (.cs (.cs (.nil)))) (.keep (rfl) rfl (.keep (rfl) rfl (.nil))) (fun i h => by cases h)⟩
                · skip
                  refine QM rfl rfl rfl (Qa ⟨by kernel_rfl, fun _ => ?_⟩)
                  refine Qd (Qh rfl (fun _ => ?_) (fun h => by cases h))
                  refine Qb (Qc (Qe rfl rfl (Qa fun _ => Qd (Ql (QL (Q1 (Q1 (QL ?_))))))))
                  refine Q1 ?_
                  rw [ch_3 hfm heq (by rw [← hinv, XG hxk hyk, show XQ x y = false from by simp only [XQ, Bool.and_eq_false_iff, decide_eq_false_iff_not]; exact .inr (of_decide_eq_true h69)]; rfl)]
                  exact Qk rfl rfl rfl (.inr rfl)
            · replace h40 := of_decide_eq_false h40
              refine Q3 (QB (QB (QA (Qd (Qb (Qb ?_))))))
              have hws : allZ XQ lv lv2 = true := by rw [← hinv]; exact allZ_end (by omega)
              clear hinv
              refine Qc (Qe rfl rfl (Qa fun _ => Qd (Qm ?_)))
              refine QC (α := Nat) (fun k => lv.length - k) (fun k => [(2, .ptr 2 0 0), (3, .ptr 3 0 0), (6, iv (((k) : Nat) : Int))]) (fun k => [(2, .cells 55 3 [[.int .i64 z, .rs 5 (lv.map cLf), .rs 1 (hd.map cS)]] true), (3, .cells 55 3 [[.int .i64 z2, .rs 5 (lv2.map cLf), .rs 1 (hd2.map cS)]] true)]) (fun k => k ≤ lv.length ∧ allZ XD (lv.drop k) (lv2.drop k) = allZ XD lv lv2) 0 (⟨by omega, rfl⟩)
                (Qj (.cs (.cs (.cs (.nil)))) (.keep (rfl) rfl (.keep (rfl) rfl (.nil))) (fun i h => by cases h)) ?_
              rintro k ⟨hk, hinv⟩
              refine Qb (Qb (Qc (Qf 3 rfl (Qq rfl rfl (QJ rfl rfl rfl (Qa fun _ => Qd (Qh rfl (fun h75 => ?_) (fun h75 => ?_))))))))
              · replace h75 := of_decide_eq_true h75
                refine Qn (Qd (Qb (Qm (Qb (Qc (Qf 3 rfl ?_))))))
                obtain ⟨x, hxk, hxm⟩ := Qy (L := lv) (k := k) (by omega)
                obtain ⟨y, hyk, hym⟩ := Qy (L := lv2) (k := k) (by omega)
                refine Qt (f := cLf) (xs := lv) (y := x) rfl rfl rfl (by omega) hxk (Qf 2 rfl ?_)
                cases h83 : x.sure
                · skip
                  refine Qf 13 rfl (Qt (f := cLf) (xs := lv) (y := x) rfl rfl rfl (by omega) hxk (Qf 2 rfl ?_))
                  cases h99 : x.touched
                  · skip
                    refine Qf 10 rfl (Qa fun _ => Qd (Qh rfl (fun h => by cases h) (fun _ => ?_)))
                    refine Qn (QI (Qd (Qc (Qe rfl rfl (Qx rfl rfl rfl (by omega) (Qe rfl rfl (Qa fun _ => Qd ?_)))))))
                    rw [XG hxk hyk, show XD x y = true from by simp only [XD, h83, h99]; rfl, Bool.true_and] at hinv
                    exact ⟨k + 1, ⟨by omega, hinv⟩, by omega, Qj (.cs (.cs (.cs (.nil)))) (.keep (rfl) rfl (.keep (rfl) rfl (.nil))) (fun i h => by cases h)⟩
                  · skip
                    refine Qf 4 rfl (Qt (f := cLf) (xs := lv2) (y := y) rfl rfl rfl (by omega) hyk (Qf 2 rfl ?_))
                    cases h106 : y.touched
                    · skip
                      refine Qf 3 rfl (Qa fun _ => Qd (Qh rfl (fun _ => ?_) (fun h => by cases h)))
                      refine Qb (Qc (Qe rfl rfl (Qa fun _ => Qd (Ql (QL (Q1 (Q1 (QL ?_))))))))
                      refine Q1 ?_
                      rw [ch_4 hfm heq hws (by rw [← hinv, XG hxk hyk, show XD x y = false from by simp only [XD, h83, h99, h106]; rfl]; rfl)]
                      exact Qk rfl rfl rfl (.inr rfl)
                    · skip
                      refine Qf 3 rfl (Qa fun _ => Qd (Qh rfl (fun h => by cases h) (fun _ => ?_)))
                      refine Qn (QI (Qd (Qc (Qe rfl rfl (Qx rfl rfl rfl (by omega) (Qe rfl rfl (Qa fun _ => Qd ?_)))))))
                      rw [XG hxk hyk, show XD x y = true from by simp only [XD, h83, h99, h106]; rfl, Bool.true_and] at hinv
                      exact ⟨k + 1, ⟨by omega, hinv⟩, by omega, Qj (.cs (.cs (.cs (.nil)))) (.keep (rfl) rfl (.keep (rfl) rfl (.nil))) (fun i h => by cases h)⟩
                · skip
                  refine Qf 4 rfl (Qt (f := cLf) (xs := lv2) (y := y) rfl rfl rfl (by omega) hyk (Qf 2 rfl ?_))
                  cases h90 : y.sure
                  · skip
                    refine Qf 19 rfl (Qa fun _ => Qd (Qh rfl (fun _ => ?_) (fun h => by cases h)))
                    refine Qb (Qc (Qe rfl rfl (Qa fun _ => Qd (Ql (QL (Q1 (Q1 (QL ?_))))))))
                    refine Q1 ?_
                    rw [ch_4 hfm heq hws (by rw [← hinv, XG hxk hyk, show XD x y = false from by simp only [XD, h83, h90]; rfl]; rfl)]
                    exact Qk rfl rfl rfl (.inr rfl)
                  · skip
                    refine Qf 6 rfl (Qt (f := cLf) (xs := lv) (y := x) rfl rfl rfl (by omega) hxk (Qf 2 rfl ?_))
                    cases h99 : x.touched
                    · skip
                      refine Qf 10 rfl (Qa fun _ => Qd (Qh rfl (fun h => by cases h) (fun _ => ?_)))
                      refine Qn (QI (Qd (Qc (Qe rfl rfl (Qx rfl rfl rfl (by omega) (Qe rfl rfl (Qa fun _ => Qd ?_)))))))
                      rw [XG hxk hyk, show XD x y = true from by simp only [XD, h83, h90, h99]; rfl, Bool.true_and] at hinv
                      exact ⟨k + 1, ⟨by omega, hinv⟩, by omega, Qj (.cs (.cs (.cs (.nil)))) (.keep (rfl) rfl (.keep (rfl) rfl (.nil))) (fun i h => by cases h)⟩
                    · skip
                      refine Qf 4 rfl (Qt (f := cLf) (xs := lv2) (y := y) rfl rfl rfl (by omega) hyk (Qf 2 rfl ?_))
                      cases h106 : y.touched
                      · skip
                        refine Qf 3 rfl (Qa fun _ => Qd (Qh rfl (fun _ => ?_) (fun h => by cases h)))
                        refine Qb (Qc (Qe rfl rfl (Qa fun _ => Qd (Ql (QL (Q1 (Q1 (QL ?_))))))))
                        refine Q1 ?_
                        rw [ch_4 hfm heq hws (by rw [← hinv, XG hxk hyk, show XD x y = false from by simp only [XD, h83, h90, h99, h106]; rfl]; rfl)]
                        exact Qk rfl rfl rfl (.inr rfl)
                      · skip
                        refine Qf 3 rfl (Qa fun _ => Qd (Qh rfl (fun h => by cases h) (fun _ => ?_)))
                        refine Qn (QI (Qd (Qc (Qe rfl rfl (Qx rfl rfl rfl (by omega) (Qe rfl rfl (Qa fun _ => Qd ?_)))))))
                        rw [XG hxk hyk, show XD x y = true from by simp only [XD, h83, h90, h99, h106]; rfl, Bool.true_and] at hinv
                        exact ⟨k + 1, ⟨by omega, hinv⟩, by omega, Qj (.cs (.cs (.cs (.nil)))) (.keep (rfl) rfl (.keep (rfl) rfl (.nil))) (fun i h => by cases h)⟩
              · replace h75 := of_decide_eq_false h75
                refine Q3 (QB (QB (QA (Qd (Qb (Qc (Qe rfl rfl (Qa fun _ => Qd ?_))))))))
                refine Ql ?_
                rw [ch_5 hfm heq hws (by rw [← hinv]; exact allZ_end (by omega))]
                exact Qk rfl rfl rfl (.inr rfl)
end Go.Proofs.YthfhaoogcpfboaaGreat

/-! Walks: X2. -/
namespace Go.Proofs.YthfhaoogcpfboaaGreat
open Go.RowKit
set_option maxRecDepth 100000
set_option linter.unusedVariables false
def cutL (x : Lf) : Lf := ⟨x.ix, x.want, x.sure, x.touched, x.salt.take 10⟩
/-- A Shown, cut. -/
def cutS (z : Int) (lv : List Lf) (hd : List (List Int)) : Shn := ⟨z, (lv.take 18).map cutL, (hd.take 18).map (List.take 10)⟩
theorem take_min10 (l : List Int) : l.take (min (l.length : Int) 10).toNat = l.take 10 := by
  by_cases h : l.length ≤ 10
  · rw [show (min (l.length : Int) 10).toNat = l.length by omega, List.take_of_length_le (Nat.le_refl _), List.take_of_length_le h]
  · rw [show (min (l.length : Int) 10).toNat = 10 by omega]
theorem take18 {α : Type} {l : List α} {k : Nat} (h : k ≤ l.length) (h18 : k ≤ 18) (h2 : l.length ≤ k ∨ 18 ≤ k) : l.take k = l.take 18 := by
  by_cases e : k = 18
  · rw [e]
  · rw [List.take_of_length_le (show l.length ≤ k by omega), List.take_of_length_le (show l.length ≤ 18 by omega)]
theorem map_snoc_at {α β : Type} {f : α → β} {l : List α} {k : Nat} {x : α} (h : l[k]? = some x) : (l.take (k + 1)).map f = (l.take k).map f ++ [f x] := by rw [QX h, List.map_append]; rfl
theorem cut_b {z : Int} {lv : List Lf} {hd : List (List Int)} (hl : ∀ x ∈ lv, I64 x.ix ∧ I64 x.want ∧ B8 x.salt) (hh : ∀ d ∈ hd, B8 d) : ShB 18 (cutS z lv hd).leaves (cutS z lv hd).hid where
  nl := by show ((lv.take 18).map cutL).length ≤ 18; rw [List.length_map, List.length_take]; omega
  nh := by show ((hd.take 18).map _).length ≤ 18; rw [List.length_map, List.length_take]; omega
  ok x hx := by
    obtain ⟨y, hy, rfl⟩ := List.mem_map.1 hx
    have := hl y (List.mem_of_mem_take hy)
    exact ⟨this.1, this.2.1, fun b hb => this.2.2 b (List.mem_of_mem_take hb), by show (y.salt.take 10).length ≤ 18; rw [List.length_take]; omega⟩
  b d hd := by
    obtain ⟨y, hy, rfl⟩ := List.mem_map.1 hd
    exact ⟨fun b hb => hh y (List.mem_of_mem_take hy) b (List.mem_of_mem_take hb), by rw [List.length_take]; omega⟩
theorem incF_out {n : Nat} {w : List Int} {a : Int} {l : List Int} (hw : w = a :: l) (hb : ∀ x ∈ w, 0 ≤ x ∧ x < (n : Int)) : incF (n : Int) (-1) w = incF (n : Int) a l := by
  subst hw
  have := hb a (List.mem_cons_self ..)
  show (decide (0 ≤ a) && decide (a < (n : Int)) && decide (-1 < a) && incF (n : Int) a l) = _
  rw [decide_eq_true this.1, decide_eq_true this.2, decide_eq_true (show -1 < a by omega)]; rfl
def mcv26 : MC := (.seq (.reg [oN 1 (.box 55 3 (.t 0)) [], oN 2 (.alloc 55 3 [(.int .i64 0), .nils, .nils]) []] false) (.seq (.reg [oA 7 0 1 [], oD 8 1 7 [0], oN 9 (.build [(.int .i64 0), .nils, .nils] [(0, (1, (.t 8)))]) [1], oN 3 (.alloc 55 3 [(.int .i64 0), .nils, .nils]) [], ⟨none, (.st 3 (.t 3) (.t 9)), none, [3, 2, 0, 1, 2, 3]⟩] false) (.seq (.seq (.reg [oN 4 (.mv (.c (.int .i64 0))) []] false) (.block 0 (.loop (.seq (.seq (.reg [oM 10 4 [], oA 11 1 1 [], oD 12 1 11 [1], oN 13 (.len (.t 12)) [2], oN 14 (.bin .lss (.t 10) (.t 13)) [0, 3], oM 15 14 [4], pM 16 4 15 true [5], oG 17 (.bin .lss (.t 16) (.c (.int .i64 18))) 15 true [6, 5], oN 18 (.pick (.t 15) (.t 17) (.c (.bool false))) [5, 7]] false) (.cond (.t 18) .skip (.exit 0))) (.seq (.block 1 (.seq (.reg [oA 21 1 1 [], oD 22 1 21 [0], oM 23 4 [], oN 24 (.ixsl 5 (.t 22) (.t 23)) [1, 2], oN 25 (.ld true 5 (.t 24)) [3], oN 5 (.alloc 51 5 [(.int .i64 0), (.int .i64 0), (.bool false), (.bool false), (.str (Qu []))]) [], ⟨none, (.st 5 (.t 5) (.t 25)), none, [5, 4, 0, 1, 2, 3, 4, 5]⟩] false) (.seq (.reg [oA 26 4 5 [], oD 27 1 26 [0], oA 28 4 5 [], oD 29 1 28 [2], oN 30 (.slen (.t 29)) [3], oN 31 (.mn (.t 30) (.c (.int .i64 10))) [4], oN 32 (.stake (.t 27) (.t 31)) [1, 5], oA 33 4 5 [0, 1, 2, 3, 4, 5, 6], ⟨none, (.st 1 (.t 33) (.t 32)), none, [7, 6, 0, 1, 2, 3, 4, 5, 6]⟩] false) (.reg [oA 34 1 3 [], oD 35 1 34 [0], oN 36 (.ld true 5 (.t 5)) [], oN 37 (.bslice 51 5 [(.int .i64 0), (.int .i64 0), (.bool false), (.bool false), (.str (Qu []))] 1 [(0, (.t 36))]) [2], oN 38 (.app 51 5 40 [(.int .i64 0), (.int .i64 0), (.bool false), (.bool false), (.str (Qu []))] (.t 35) (.t 37)) [1, 3], oA 39 1 3 [0, 1, 2, 3, 4], ⟨none, (.st 1 (.t 39) (.t 38)), none, [5, 4, 4, 0, 1, 2, 3, 4]⟩] false)))) (.reg [oM 19 4 [], oN 20 (.bin .add (.t 19) (.c (.int .i64 1))) [0], oM 4 20 [1, 0, 1]] false)))))) (.seq (.seq (.reg [oN 6 (.mv (.c (.int .i64 0))) []] false) (.block 2 (.loop (.seq (.seq (.reg [oM 40 6 [], oA 41 2 1 [], oD 42 1 41 [1], oN 43 (.len (.t 42)) [2], oN 44 (.bin .lss (.t 40) (.t 43)) [0, 3], oM 45 44 [4], pM 46 6 45 true [5], oG 47 (.bin .lss (.t 46) (.c (.int .i64 18))) 45 true [6, 5], oN 48 (.pick (.t 45) (.t 47) (.c (.bool false))) [5, 7]] false) (.cond (.t 48) .skip (.exit 2))) (.seq (.block 3 (.reg [oA 51 2 3 [], oD 52 1 51 [0], oA 53 2 1 [], oD 54 1 53 [2], oM 55 6 [], oN 56 (.ixsl 1 (.t 54) (.t 55)) [3, 4], oD 57 1 56 [5], oA 58 2 1 [], oD 59 1 58 [7], oM 60 6 [], oN 61 (.ixsl 1 (.t 59) (.t 60)) [8, 9], oD 62 1 61 [10], oN 63 (.slen (.t 62)) [11], oN 64 (.mn (.t 63) (.c (.int .i64 10))) [12], oN 65 (.stake (.t 57) (.t 64)) [6, 13], oN 66 (.bslice 9 1 [(.str (Qu []))] 1 [(0, (.t 65))]) [14], oN 67 (.app 9 1 16 [(.str (Qu []))] (.t 52) (.t 66)) [1, 15], oA 68 2 3 [0, 1, 2, 3, 4, 5, 6, 7, 8, 9, 10, 11, 12, 13, 14, 15, 16], ⟨none, (.st 1 (.t 68) (.t 67)), none, [17, 16, 16, 0, 1, 2, 3, 4, 5, 6, 7, 8, 9, 10, 11, 12, 13, 14, 15, 16]⟩] true)) (.reg [oM 49 6 [], oN 50 (.bin .add (.t 49) (.c (.int .i64 1))) [0], oM 6 50 [1, 0, 1]] false)))))) (.seq (.reg [oN 69 (.ld true 3 (.t 3)) [], ⟨none, (.st 3 (.t 2) (.t 69)), none, [0, 0]⟩] false) .ret)))))
theorem mcOkv26 : (match Tryz.f26.body with | some c => Q2 Tryz.prog 70 c | none => none) = some mcv26 := by kernel_rfl
set_option maxHeartbeats 2000000 in
theorem vc26 (z : Int) (lv : List Lf) (hd : List (List Int)) (hlv : lv.length ≤ 4611686018427387904) (hhd : hd.length ≤ 4611686018427387904) : FC Tryz.prog 26 [.agg [.int .i64 z, .rs 5 (lv.map cLf), .rs 1 (hd.map cS)]] [] (.agg (cSh (cutS z lv hd))) [] false := by
  refine Qs (nt := 70) Tryz.func26 rfl rfl mcOkv26 (nL rfl) ?_
  delta mcv26
  refine Qb (Qc (Qf 2 rfl (Qa fun _ => Qd (Qb (Qc (Qf 4 rfl (Q0 rfl rfl rfl rfl rfl rfl rfl (nL rfl) rfl rfl (Qa fun _ => ?_))))))))
  refine Qd (Qb (Qb (Qc (Qe rfl rfl (Qa fun _ => Qd (Qm (Xm (F0 := [(1, .ptr 1 0 0), (3, .ptr 3 0 0), (2, .ptr 2 0 0), (4, iv (((0) : Nat) : Int))]) (H0 := [(2, .cells 55 3 [[iv 0, .nils, .nils]] true), (1, .cells 55 3 [[.int .i64 z, .rs 5 (lv.map cLf), .rs 1 (hd.map cS)]] true), (3, .cells 55 3 [[iv z, .sl 905 0 (0), .sl 906 0 (0)]] false), (905, .cells 51 5 (((lv.take (0)).map cutL).map cLf) true), (906, .cells 9 1 (((hd.take (0)).map (List.take 10)).map cS) true)]) (Weak.trans (F1 := [(1, .ptr 1 0 0), (3, .ptr 3 0 0), (2, .ptr 2 0 0), (4, iv (((0) : Nat) : Int))]) (H1 := [(2, .cells 55 3 [[iv 0, .nils, .nils]] true), (1, .cells 55 3 [[.int .i64 z, .rs 5 (lv.map cLf), .rs 1 (hd.map cS)]] true), (3, .cells 55 3 [[iv z, .nils, .nils]] true)]) (Qj (.cs (.cs (.cs (.cs (.nil))))) (.keep (rfl) rfl (.keep (rfl) rfl (.keep (rfl) rfl (.nil)))) fun i h => by cases h) (Weak.trans (F1 := [(1, .ptr 1 0 0), (3, .ptr 3 0 0), (2, .ptr 2 0 0), (4, iv (((0) : Nat) : Int))]) (H1 := [(2, .cells 55 3 [[iv 0, .nils, .nils]] true), (1, .cells 55 3 [[.int .i64 z, .rs 5 (lv.map cLf), .rs 1 (hd.map cS)]] true), (3, .cells 55 3 [[iv z, .sl 905 0 0, .nils]] false), (905, .cells 51 5 (((lv.take (0)).map cutL).map cLf) true)]) (Weak.trans (F1 := [(1, .ptr 1 0 0), (3, .ptr 3 0 0), (2, .ptr 2 0 0), (4, iv (((0) : Nat) : Int))]) (XX (i := 905) (k := 3) (e2 := 51) (z2 := 5) (fl2 := true) rfl rfl (.next .here)) (Qj (.cs (.cs (.cs (.cs (.nil))))) (.keep (rfl) rfl (.keep (rfl) rfl (.keep (rfl) rfl (.keep (rfl) rfl (.nil))))) fun i h => by cases h)) (Weak.trans (F1 := [(1, .ptr 1 0 0), (3, .ptr 3 0 0), (2, .ptr 2 0 0), (4, iv (((0) : Nat) : Int))]) (XX (i := 906) (k := 3) (e2 := 9) (z2 := 1) (fl2 := true) rfl rfl (.next (.next .here))) (Qj (.cs (.cs (.cs (.cs (.nil))))) (.keep (rfl) rfl (.keep (rfl) rfl (.keep (rfl) rfl (.keep (rfl) rfl (.keep (rfl) rfl (.nil)))))) fun i h => by cases h)))) ?_)))))))
  refine QC (α := Nat) (fun k => lv.length - k) (fun k => [(1, .ptr 1 0 0), (3, .ptr 3 0 0), (2, .ptr 2 0 0), (4, iv (((k) : Nat) : Int))]) (fun k => [(2, .cells 55 3 [[iv 0, .nils, .nils]] true), (1, .cells 55 3 [[.int .i64 z, .rs 5 (lv.map cLf), .rs 1 (hd.map cS)]] true), (3, .cells 55 3 [[iv z, .sl 905 0 (k), .sl 906 0 (0)]] false), (905, .cells 51 5 (((lv.take (k)).map cutL).map cLf) true), (906, .cells 9 1 (((hd.take (0)).map (List.take 10)).map cS) true)]) (fun k => k ≤ lv.length ∧ k ≤ 18) 0 (⟨by omega, by omega⟩)
    (Qj (.cs (.cs (.cs (.cs (.nil))))) (.keep (rfl) rfl (.keep (rfl) rfl (.keep (rfl) rfl (.keep (rfl) rfl (.keep (rfl) rfl (.nil)))))) (fun i h => by cases h)) ?_
  rintro k ⟨hk, hk18⟩
  refine Qb (Qb (Qc (Qf 3 rfl (Qq rfl rfl (QE rfl rfl rfl rfl (fun h14 => ?_) (fun h14 => ?_))))))
  · skip
    refine Qf 2 rfl (QE rfl rfl rfl rfl (fun h17 => ?_) (fun h17 => ?_))
    · skip
      refine QM rfl rfl rfl (Qa fun _ => Qd (Qh rfl (fun _ => ?_) (fun h => by cases h)))
      refine Qn (Qd (Qb (Qm (Qb (Qc (Qf 3 rfl ?_))))))
      obtain ⟨x, hxk, hxm⟩ := Qy (L := lv) (k := k) (by omega)
      refine Qt (f := cLf) (y := x) rfl rfl rfl (by omega) hxk (QR (cs := cLf x) rfl rfl (nL rfl) rfl (QF rfl rfl rfl (Q0 rfl rfl rfl rfl rfl rfl rfl (nL rfl) rfl rfl (Qa fun _ => Qd (Qb (Qc (Qf 4 rfl (J6 rfl rfl ?_))))))))
      refine rs_mn rfl rfl rfl rfl (rs_stake (c := x.salt.take 10) rfl rfl rfl (by omega) (by omega) (take_min10 _) (Q9 rfl rfl (Q0 rfl rfl rfl rfl rfl rfl rfl (nL rfl) rfl rfl (Qa fun _ => Qd (Qc (Qf 2 rfl (Qo rfl rfl rfl rfl (nL rfl) rfl (Qv (l := (([cutL x] : List Lf)).flatMap cLf) (els := (([cutL x] : List Lf)).map cLf) (fl := true) rfl (by kernel_rfl) rfl rfl (by kernel_rfl) (by kernel_rfl) ?_))))))))
      refine QV (f := cLf) (xs := (lv.take k).map cutL) (y := cutL x) (fl' := true) rfl rfl rfl rfl (by simp; omega) rfl rfl rfl (by decide) rfl (by omega) (by omega) rfl (Q9 rfl rfl (Q0 rfl rfl rfl rfl rfl rfl rfl (nL rfl) rfl rfl (Qa fun _ => QI (Qd (Qc (Qe rfl rfl (Qx rfl rfl rfl (by omega) (Qe rfl rfl ?_))))))))
      refine Qa fun _ => Qd ?_
      exact ⟨k + 1, ⟨by omega, by omega⟩, by omega, show Weak _ _ _ _ [(1, .ptr 1 0 0), (3, .ptr 3 0 0), (2, .ptr 2 0 0), (4, iv (((k + 1) : Nat) : Int))] [(2, .cells 55 3 [[iv 0, .nils, .nils]] true), (1, .cells 55 3 [[.int .i64 z, .rs 5 (lv.map cLf), .rs 1 (hd.map cS)]] true), (3, .cells 55 3 [[iv z, .sl 905 0 (k + 1), .sl 906 0 (0)]] false), (905, .cells 51 5 (((lv.take (k + 1)).map cutL).map cLf) true), (906, .cells 9 1 (((hd.take (0)).map (List.take 10)).map cS) true)] from Weak.trans (F1 := [(1, .ptr 1 0 0), (3, .ptr 3 0 0), (2, .ptr 2 0 0), (4, iv (((k + 1) : Nat) : Int))]) (H1 := [(2, .cells 55 3 [[iv 0, .nils, .nils]] true), (1, .cells 55 3 [[.int .i64 z, .rs 5 (lv.map cLf), .rs 1 (hd.map cS)]] true), (3, .cells 55 3 [[iv z, .sl 38 0 (k + 1), .sl 906 0 (0)]] false), (38, .cells 51 5 (((lv.take (k + 1)).map cutL).map cLf) true), (906, .cells 9 1 (((hd.take (0)).map (List.take 10)).map cS) true)]) (Qj (.cs (.cs (.cs (.cs (.nil))))) (.keep (rfl) rfl (.keep (rfl) rfl (.keep (rfl) rfl (.keep (by rw [map_snoc_at hxk]; rfl) rfl (.keep (rfl) rfl (.nil)))))) fun i h => by cases h) (Weak.trans (F1 := [(1, .ptr 1 0 0), (3, .ptr 3 0 0), (2, .ptr 2 0 0), (4, iv (((k + 1) : Nat) : Int))]) (XI (i := 38) (i' := 905) (k := 3) rfl rfl (.cons rfl (.same _) (.cons rfl (.same _) (.cons rfl (.same _) (.cons rfl (.same _) (.nil))))) (by decide) rfl (.cons (.same _) (.cons (.sl _ _) (RenL.refl _ _ _)))) (Qj (.cs (.cs (.cs (.cs (.nil))))) (.keep (rfl) rfl (.keep (rfl) rfl (.keep (rfl) rfl (.keep (rfl) rfl (.keep (rfl) rfl (.nil)))))) fun i h => by cases h))⟩
    · skip
      refine QM rfl rfl rfl (Qa fun _ => Qd (Qh rfl (fun h => by cases h) (fun _ => ?_)))
      refine Q3 (QB (QB (QA (Qd (Qb (Qb (Qc (Qe rfl rfl (Qa fun _ => ?_)))))))))
      refine Qd (Qm ?_)
      refine QC (α := Nat) (fun j => hd.length - j) (fun j => [(1, .ptr 1 0 0), (3, .ptr 3 0 0), (2, .ptr 2 0 0), (6, iv (((j) : Nat) : Int))]) (fun j => [(2, .cells 55 3 [[iv 0, .nils, .nils]] true), (1, .cells 55 3 [[.int .i64 z, .rs 5 (lv.map cLf), .rs 1 (hd.map cS)]] true), (3, .cells 55 3 [[iv z, .sl 905 0 (k), .sl 906 0 (j)]] false), (905, .cells 51 5 (((lv.take (k)).map cutL).map cLf) true), (906, .cells 9 1 (((hd.take (j)).map (List.take 10)).map cS) true)]) (fun j => j ≤ hd.length ∧ j ≤ 18) 0 (⟨by omega, by omega⟩)
        (Qj (.cs (.cs (.cs (.cs (.nil))))) (.keep (rfl) rfl (.keep (rfl) rfl (.keep (rfl) rfl (.keep (rfl) rfl (.keep (rfl) rfl (.nil)))))) (fun i h => by cases h)) ?_
      rintro j ⟨hj, hj18⟩
      refine Qb (Qb (Qc (Qf 3 rfl (Qq rfl rfl (QE rfl rfl rfl rfl (fun h44 => ?_) (fun h44 => ?_))))))
      · skip
        refine Qf 2 rfl (QE rfl rfl rfl rfl (fun h47 => ?_) (fun h47 => ?_))
        · skip
          refine QM rfl rfl rfl (Qa fun _ => Qd (Qh rfl (fun _ => ?_) (fun h => by cases h)))
          refine Qn (Qd (Qb (Qm (Q8 Xr (Qf 3 rfl ?_)))))
          obtain ⟨d, hdk, hdm⟩ := Qy (L := hd) (k := j) (by omega)
          refine Qf 2 rfl (Qt (f := cS) (y := d) rfl rfl rfl (by omega) hdk (Qf 4 rfl (Qt (f := cS) (y := d) rfl rfl rfl (by omega) hdk (Xh rfl rfl rfl (J6 rfl rfl (rs_mn rfl rfl rfl rfl (rs_stake (c := d.take 10) rfl rfl rfl (by omega) (by omega) (take_min10 _) (Qv (l := (([d.take 10] : List (List Int))).flatMap cS) (els := (([d.take 10] : List (List Int))).map cS) (fl := true) rfl (by kernel_rfl) rfl rfl (by kernel_rfl) (by kernel_rfl) (QV (f := cS) (xs := (hd.take j).map (List.take 10)) (y := d.take 10) (fl' := true) rfl rfl rfl rfl (by simp; omega) rfl rfl rfl (by decide) rfl (by omega) (by omega) rfl ?_)))))))))
          refine Q9 rfl rfl (Q0 rfl rfl rfl rfl rfl rfl rfl (nL rfl) rfl rfl (Qa ⟨by kernel_rfl, fun _ => ?_⟩))
          refine QI (Qd (Qc (Qe rfl rfl (Qx rfl rfl rfl (by omega) (Qe rfl rfl (Qa fun _ => Qd ?_))))))
          exact ⟨j + 1, ⟨by omega, by omega⟩, by omega, show Weak _ _ _ _ [(1, .ptr 1 0 0), (3, .ptr 3 0 0), (2, .ptr 2 0 0), (6, iv (((j + 1) : Nat) : Int))] [(2, .cells 55 3 [[iv 0, .nils, .nils]] true), (1, .cells 55 3 [[.int .i64 z, .rs 5 (lv.map cLf), .rs 1 (hd.map cS)]] true), (3, .cells 55 3 [[iv z, .sl 905 0 (k), .sl 906 0 (j + 1)]] false), (905, .cells 51 5 (((lv.take (k)).map cutL).map cLf) true), (906, .cells 9 1 (((hd.take (j + 1)).map (List.take 10)).map cS) true)] from Weak.trans (F1 := [(1, .ptr 1 0 0), (3, .ptr 3 0 0), (2, .ptr 2 0 0), (6, iv (((j + 1) : Nat) : Int))]) (H1 := [(2, .cells 55 3 [[iv 0, .nils, .nils]] true), (1, .cells 55 3 [[.int .i64 z, .rs 5 (lv.map cLf), .rs 1 (hd.map cS)]] true), (3, .cells 55 3 [[iv z, .sl 905 0 (k), .sl 67 0 (j + 1)]] false), (905, .cells 51 5 (((lv.take (k)).map cutL).map cLf) true), (67, .cells 9 1 (((hd.take (j + 1)).map (List.take 10)).map cS) true)]) (Qj (.cs (.cs (.cs (.cs (.nil))))) (.keep (rfl) rfl (.keep (rfl) rfl (.keep (rfl) rfl (.keep (rfl) rfl (.keep (by rw [map_snoc_at hdk]; rfl) rfl (.nil)))))) fun i h => by cases h) (Weak.trans (F1 := [(1, .ptr 1 0 0), (3, .ptr 3 0 0), (2, .ptr 2 0 0), (6, iv (((j + 1) : Nat) : Int))]) (XI (i := 67) (i' := 906) (k := 3) rfl rfl (.cons rfl (.same _) (.cons rfl (.same _) (.cons rfl (.same _) (.cons rfl (.same _) (.nil))))) (by decide) rfl (.cons (.same _) (.cons (.same _) (.cons (.sl _ _) (RenL.refl _ _ _))))) (Qj (.cs (.cs (.cs (.cs (.nil))))) (.keep (rfl) rfl (.keep (rfl) rfl (.keep (rfl) rfl (.keep (rfl) rfl (.keep (rfl) rfl (.nil)))))) fun i h => by cases h))⟩
        · skip
          refine QM rfl rfl rfl (Qa fun _ => Qd (Qh rfl (fun h => by cases h) (fun _ => ?_)))
          refine Q3 (QB (QB (QA (Qd (Qb (Qc (Qo rfl rfl rfl rfl (nL rfl) rfl (Q0 rfl rfl rfl rfl rfl rfl rfl (nL rfl) rfl rfl (Qa fun _ => ?_)))))))))
          refine Qd (Ql ?_)
          rw [show cSh (cutS z lv hd) = [iv z, .rs 5 (((lv.take k).map cutL).map cLf), .rs 1 (((hd.take j).map (List.take 10)).map cS)] by rw [take18 hk hk18 (by omega), take18 hj hj18 (by omega)]; rfl]
          exact Q5 rfl (Xg (.cons (Q6 rfl (.inr rfl)) (.cons (QK (f := cLf) (xs := (lv.take k).map cutL) rfl rfl (by simp; omega) (fun _ => rfl)) (.cons (QK (f := cS) (xs := (hd.take j).map (List.take 10)) rfl rfl (by simp; omega) (fun _ => rfl)) .nil)))) .nil
      · skip
        refine Qf 4 rfl (Qa fun _ => Qd (Qh rfl (fun h => by cases h) (fun _ => ?_)))
        refine Q3 (QB (QB (QA (Qd (Qb (Qc (Qo rfl rfl rfl rfl (nL rfl) rfl (Q0 rfl rfl rfl rfl rfl rfl rfl (nL rfl) rfl rfl (Qa fun _ => ?_)))))))))
        refine Qd (Ql ?_)
        rw [show cSh (cutS z lv hd) = [iv z, .rs 5 (((lv.take k).map cutL).map cLf), .rs 1 (((hd.take j).map (List.take 10)).map cS)] by rw [take18 hk hk18 (by omega), take18 hj hj18 (by omega)]; rfl]
        exact Q5 rfl (Xg (.cons (Q6 rfl (.inr rfl)) (.cons (QK (f := cLf) (xs := (lv.take k).map cutL) rfl rfl (by simp; omega) (fun _ => rfl)) (.cons (QK (f := cS) (xs := (hd.take j).map (List.take 10)) rfl rfl (by simp; omega) (fun _ => rfl)) .nil)))) .nil
  · skip
    refine Qf 4 rfl (Qa fun _ => Qd (Qh rfl (fun h => by cases h) (fun _ => ?_)))
    refine Q3 (QB (QB (QA (Qd (Qb (Qb (Qc (Qe rfl rfl (Qa fun _ => ?_)))))))))
    refine Qd (Qm ?_)
    refine QC (α := Nat) (fun j => hd.length - j) (fun j => [(1, .ptr 1 0 0), (3, .ptr 3 0 0), (2, .ptr 2 0 0), (6, iv (((j) : Nat) : Int))]) (fun j => [(2, .cells 55 3 [[iv 0, .nils, .nils]] true), (1, .cells 55 3 [[.int .i64 z, .rs 5 (lv.map cLf), .rs 1 (hd.map cS)]] true), (3, .cells 55 3 [[iv z, .sl 905 0 (k), .sl 906 0 (j)]] false), (905, .cells 51 5 (((lv.take (k)).map cutL).map cLf) true), (906, .cells 9 1 (((hd.take (j)).map (List.take 10)).map cS) true)]) (fun j => j ≤ hd.length ∧ j ≤ 18) 0 (⟨by omega, by omega⟩)
      (Qj (.cs (.cs (.cs (.cs (.nil))))) (.keep (rfl) rfl (.keep (rfl) rfl (.keep (rfl) rfl (.keep (rfl) rfl (.keep (rfl) rfl (.nil)))))) (fun i h => by cases h)) ?_
    rintro j ⟨hj, hj18⟩
    refine Qb (Qb (Qc (Qf 3 rfl (Qq rfl rfl (QE rfl rfl rfl rfl (fun h44 => ?_) (fun h44 => ?_))))))
    · skip
      refine Qf 2 rfl (QE rfl rfl rfl rfl (fun h47 => ?_) (fun h47 => ?_))
      · skip
        refine QM rfl rfl rfl (Qa fun _ => Qd (Qh rfl (fun _ => ?_) (fun h => by cases h)))
        refine Qn (Qd (Qb (Qm (Q8 Xr (Qf 3 rfl ?_)))))
        obtain ⟨d, hdk, hdm⟩ := Qy (L := hd) (k := j) (by omega)
        refine Qf 2 rfl (Qt (f := cS) (y := d) rfl rfl rfl (by omega) hdk (Qf 4 rfl (Qt (f := cS) (y := d) rfl rfl rfl (by omega) hdk (Xh rfl rfl rfl (J6 rfl rfl (rs_mn rfl rfl rfl rfl (rs_stake (c := d.take 10) rfl rfl rfl (by omega) (by omega) (take_min10 _) (Qv (l := (([d.take 10] : List (List Int))).flatMap cS) (els := (([d.take 10] : List (List Int))).map cS) (fl := true) rfl (by kernel_rfl) rfl rfl (by kernel_rfl) (by kernel_rfl) (QV (f := cS) (xs := (hd.take j).map (List.take 10)) (y := d.take 10) (fl' := true) rfl rfl rfl rfl (by simp; omega) rfl rfl rfl (by decide) rfl (by omega) (by omega) rfl ?_)))))))))
        refine Q9 rfl rfl (Q0 rfl rfl rfl rfl rfl rfl rfl (nL rfl) rfl rfl (Qa ⟨by kernel_rfl, fun _ => ?_⟩))
        refine QI (Qd (Qc (Qe rfl rfl (Qx rfl rfl rfl (by omega) (Qe rfl rfl (Qa fun _ => Qd ?_))))))
        exact ⟨j + 1, ⟨by omega, by omega⟩, by omega, show Weak _ _ _ _ [(1, .ptr 1 0 0), (3, .ptr 3 0 0), (2, .ptr 2 0 0), (6, iv (((j + 1) : Nat) : Int))] [(2, .cells 55 3 [[iv 0, .nils, .nils]] true), (1, .cells 55 3 [[.int .i64 z, .rs 5 (lv.map cLf), .rs 1 (hd.map cS)]] true), (3, .cells 55 3 [[iv z, .sl 905 0 (k), .sl 906 0 (j + 1)]] false), (905, .cells 51 5 (((lv.take (k)).map cutL).map cLf) true), (906, .cells 9 1 (((hd.take (j + 1)).map (List.take 10)).map cS) true)] from Weak.trans (F1 := [(1, .ptr 1 0 0), (3, .ptr 3 0 0), (2, .ptr 2 0 0), (6, iv (((j + 1) : Nat) : Int))]) (H1 := [(2, .cells 55 3 [[iv 0, .nils, .nils]] true), (1, .cells 55 3 [[.int .i64 z, .rs 5 (lv.map cLf), .rs 1 (hd.map cS)]] true), (3, .cells 55 3 [[iv z, .sl 905 0 (k), .sl 67 0 (j + 1)]] false), (905, .cells 51 5 (((lv.take (k)).map cutL).map cLf) true), (67, .cells 9 1 (((hd.take (j + 1)).map (List.take 10)).map cS) true)]) (Qj (.cs (.cs (.cs (.cs (.nil))))) (.keep (rfl) rfl (.keep (rfl) rfl (.keep (rfl) rfl (.keep (rfl) rfl (.keep (by rw [map_snoc_at hdk]; rfl) rfl (.nil)))))) fun i h => by cases h) (Weak.trans (F1 := [(1, .ptr 1 0 0), (3, .ptr 3 0 0), (2, .ptr 2 0 0), (6, iv (((j + 1) : Nat) : Int))]) (XI (i := 67) (i' := 906) (k := 3) rfl rfl (.cons rfl (.same _) (.cons rfl (.same _) (.cons rfl (.same _) (.cons rfl (.same _) (.nil))))) (by decide) rfl (.cons (.same _) (.cons (.same _) (.cons (.sl _ _) (RenL.refl _ _ _))))) (Qj (.cs (.cs (.cs (.cs (.nil))))) (.keep (rfl) rfl (.keep (rfl) rfl (.keep (rfl) rfl (.keep (rfl) rfl (.keep (rfl) rfl (.nil)))))) fun i h => by cases h))⟩
      · skip
        refine QM rfl rfl rfl (Qa fun _ => Qd (Qh rfl (fun h => by cases h) (fun _ => ?_)))
        refine Q3 (QB (QB (QA (Qd (Qb (Qc (Qo rfl rfl rfl rfl (nL rfl) rfl (Q0 rfl rfl rfl rfl rfl rfl rfl (nL rfl) rfl rfl (Qa fun _ => ?_)))))))))
        refine Qd (Ql ?_)
        rw [show cSh (cutS z lv hd) = [iv z, .rs 5 (((lv.take k).map cutL).map cLf), .rs 1 (((hd.take j).map (List.take 10)).map cS)] by rw [take18 hk hk18 (by omega), take18 hj hj18 (by omega)]; rfl]
        exact Q5 rfl (Xg (.cons (Q6 rfl (.inr rfl)) (.cons (QK (f := cLf) (xs := (lv.take k).map cutL) rfl rfl (by simp; omega) (fun _ => rfl)) (.cons (QK (f := cS) (xs := (hd.take j).map (List.take 10)) rfl rfl (by simp; omega) (fun _ => rfl)) .nil)))) .nil
    · skip
      refine Qf 4 rfl (Qa fun _ => Qd (Qh rfl (fun h => by cases h) (fun _ => ?_)))
      refine Q3 (QB (QB (QA (Qd (Qb (Qc (Qo rfl rfl rfl rfl (nL rfl) rfl (Q0 rfl rfl rfl rfl rfl rfl rfl (nL rfl) rfl rfl (Qa fun _ => ?_)))))))))
      refine Qd (Ql ?_)
      rw [show cSh (cutS z lv hd) = [iv z, .rs 5 (((lv.take k).map cutL).map cLf), .rs 1 (((hd.take j).map (List.take 10)).map cS)] by rw [take18 hk hk18 (by omega), take18 hj hj18 (by omega)]; rfl]
      exact Q5 rfl (Xg (.cons (Q6 rfl (.inr rfl)) (.cons (QK (f := cLf) (xs := (lv.take k).map cutL) rfl rfl (by simp; omega) (fun _ => rfl)) (.cons (QK (f := cS) (xs := (hd.take j).map (List.take 10)) rfl rfl (by simp; omega) (fun _ => rfl)) .nil)))) .nil
end Go.Proofs.YthfhaoogcpfboaaGreat

/-! Walks: X3. -/
namespace Go.Proofs.YthfhaoogcpfboaaGreat
open Go.RowKit
set_option maxRecDepth 100000
set_option linter.unusedVariables false
theorem any_out {n : Nat} {x : Int} (h : x < 0 ∨ x ≥ (n : Int)) : outP n x = true := by simp only [outP, Bool.or_eq_true, decide_eq_true_eq]; omega
theorem any_in {n : Nat} {x : Int} (h1 : ¬ x < 0) (h2 : ¬ x ≥ (n : Int)) : outP n x = false := by simp only [outP, Bool.or_eq_false_iff, decide_eq_false_iff_not]; omega
def mcv23 : MC := (.seq (.reg [oN 4 (.alloc 55 3 [(.int .i64 0), .nils, .nils]) [], oN 5 (.mv (.c (.int .i64 0))) []] false) (.seq (.seq (.reg [oM 11 0 [], oN 12 (.len (.t 11)) [0], oN 13 (.bin .lss (.t 12) (.c (.int .i64 1))) [1], oM 14 13 [2], pM 15 0 14 false [3], oG 16 (.len (.t 15)) 14 false [4, 3], oG 17 (.bin .gtr (.t 16) (.c (.int .i64 16))) 14 false [5, 3], oN 18 (.pick (.t 14) (.c (.bool true)) (.t 17)) [3, 6]] false) (.cond (.t 18) (.seq (.reg [oN 19 (.build [(.int .i64 0), .nils, .nils] []) [], ⟨none, (.st 3 (.t 4) (.t 19)), none, [0, 0]⟩, oN 5 (.mv (.c (.int .i64 2))) [1, 0, 1]] false) .ret) .skip)) (.seq (.seq (.reg [oN 6 (.mv (.c (.int .i64 0))) []] false) (.block 0 (.loop (.seq (.seq (.reg [oM 20 6 [], oM 21 0 [], oN 22 (.len (.t 21)) [1], oN 23 (.bin .lss (.t 20) (.t 22)) [0, 2]] false) (.cond (.t 23) .skip (.exit 0))) (.seq (.block 1 (.seq (.reg [oM 26 0 [], oM 27 6 [], oN 28 (.ixsl 5 (.t 26) (.t 27)) [0, 1], oA 29 0 28 [2], oD 30 1 29 [3], oM 31 6 [], oN 32 (.bin .neq (.t 30) (.t 31)) [4, 5]] false) (.cond (.t 32) (.seq (.reg [oN 33 (.build [(.int .i64 0), .nils, .nils] []) [], ⟨none, (.st 3 (.t 4) (.t 33)), none, [0, 0]⟩, oN 5 (.mv (.c (.int .i64 4))) [1, 0, 1]] false) .ret) .skip))) (.reg [oM 24 6 [], oN 25 (.bin .add (.t 24) (.c (.int .i64 1))) [0], oM 6 25 [1, 0, 1]] false)))))) (.seq (.seq (.reg [oN 7 (.mv (.c (.int .i64 0))) []] false) (.block 2 (.loop (.seq (.seq (.reg [oM 34 7 [], oM 35 1 [], oN 36 (.len (.t 35)) [1], oN 37 (.bin .lss (.t 34) (.t 36)) [0, 2]] false) (.cond (.t 37) .skip (.exit 2))) (.seq (.block 3 (.seq (.reg [oM 40 1 [], oM 41 7 [], oN 42 (.ixsl 1 (.t 40) (.t 41)) [0, 1], oD 43 1 42 [2], oN 44 (.bin .lss (.t 43) (.c (.int .i64 0))) [3], oM 45 44 [4], pM 46 1 45 false [5], pM 47 7 45 false [5], oG 48 (.ixsl 1 (.t 46) (.t 47)) 45 false [6, 7, 5], pD 49 1 48 45 false [8, 5], pM 50 0 45 false [5], oG 51 (.len (.t 50)) 45 false [10, 5], oG 52 (.bin .geq (.t 49) (.t 51)) 45 false [9, 11, 5], oN 53 (.pick (.t 45) (.c (.bool true)) (.t 52)) [5, 12]] false) (.cond (.t 53) (.seq (.reg [oN 54 (.build [(.int .i64 0), .nils, .nils] []) [], ⟨none, (.st 3 (.t 4) (.t 54)), none, [0, 0]⟩, oN 5 (.mv (.c (.int .i64 5))) [1, 0, 1]] false) .ret) .skip))) (.reg [oM 38 7 [], oN 39 (.bin .add (.t 38) (.c (.int .i64 1))) [0], oM 7 39 [1, 0, 1]] false)))))) (.seq (.seq (.reg [oN 8 (.mv (.c (.int .i64 1))) []] false) (.block 4 (.loop (.seq (.seq (.reg [oM 55 8 [], oM 56 1 [], oN 57 (.len (.t 56)) [1], oN 58 (.bin .lss (.t 55) (.t 57)) [0, 2]] false) (.cond (.t 58) .skip (.exit 4))) (.seq (.block 5 (.seq (.reg [oM 61 1 [], oM 62 8 [], oN 63 (.ixsl 1 (.t 61) (.t 62)) [0, 1], oD 64 1 63 [2], oM 65 1 [], oM 66 8 [], oN 67 (.bin .sub (.t 66) (.c (.int .i64 1))) [5], oN 68 (.ixsl 1 (.t 65) (.t 67)) [4, 6], oD 69 1 68 [7], oN 70 (.bin .leq (.t 64) (.t 69)) [3, 8]] true) (.cond (.t 70) (.seq (.reg [oN 71 (.build [(.int .i64 0), .nils, .nils] []) [], ⟨none, (.st 3 (.t 4) (.t 71)), none, [0, 0]⟩, oN 5 (.mv (.c (.int .i64 7))) [1, 0, 1]] false) .ret) .skip))) (.reg [oM 59 8 [], oN 60 (.bin .add (.t 59) (.c (.int .i64 1))) [0], oM 8 60 [1, 0, 1]] false)))))) (.seq (.reg [oM 72 0 [], oN 73 (.len (.t 72)) [0], oM 74 0 [], oM 75 1 [], oM 76 0 [], oN 77 (.len (.t 76)) [4], oN 78 (.call 71 [(.t 77)]) [5], oN 79 (.call 70 [(.t 74), (.t 75), (.c (.int .i64 0)), (.t 78)]) [2, 3, 6, 6], oN 80 (.build [(.int .i64 0), .nils, .nils] [(0, (1, (.t 73))), (2, (1, (.t 79)))]) [1, 7], oN 9 (.alloc 55 3 [(.int .i64 0), .nils, .nils]) [], ⟨none, (.st 3 (.t 9) (.t 80)), none, [9, 8, 7, 0, 1, 2, 3, 4, 5, 6, 7, 8, 9]⟩] false) (.seq (.seq (.reg [oN 10 (.mv (.c (.int .i64 0))) []] false) (.block 6 (.loop (.seq (.seq (.reg [oM 81 10 [], oM 82 1 [], oN 83 (.len (.t 82)) [1], oN 84 (.bin .lss (.t 81) (.t 83)) [0, 2]] false) (.cond (.t 84) .skip (.exit 6))) (.seq (.block 7 (.reg [oA 87 1 9 [], oD 88 1 87 [0], oM 89 0 [], oM 90 1 [], oM 91 10 [], oN 92 (.ixsl 1 (.t 90) (.t 91)) [3, 4], oD 93 1 92 [5], oN 94 (.ixsl 5 (.t 89) (.t 93)) [2, 6], oN 95 (.ld true 5 (.t 94)) [7], oN 96 (.bslice 51 5 [(.int .i64 0), (.int .i64 0), (.bool false), (.bool false), (.str (Qu []))] 1 [(0, (.t 95))]) [8], oN 97 (.app 51 5 40 [(.int .i64 0), (.int .i64 0), (.bool false), (.bool false), (.str (Qu []))] (.t 88) (.t 96)) [1, 9], oA 98 1 9 [0, 1, 2, 3, 4, 5, 6, 7, 8, 9, 10], ⟨none, (.st 1 (.t 98) (.t 97)), none, [11, 10, 10, 0, 1, 2, 3, 4, 5, 6, 7, 8, 9, 10]⟩] true)) (.reg [oM 85 10 [], oN 86 (.bin .add (.t 85) (.c (.int .i64 1))) [0], oM 10 86 [1, 0, 1]] false)))))) (.seq (.reg [oN 99 (.ld true 3 (.t 9)) [], ⟨none, (.st 3 (.t 4) (.t 99)), none, [0, 0]⟩, oN 5 (.mv (.c (.int .i64 0))) [1, 0, 1]] false) .ret))))))))
theorem mcOkv23 : (match Tryz.f23.body with | some c => Q2 Tryz.prog 100 c | none => none) = some mcv23 := by kernel_rfl
set_option maxHeartbeats 2000000 in
theorem vc23 (ls : List Lf) (hl : ls.length ≤ 64) (hok : ∀ x ∈ ls, x.OK) (w : List Int) (hwl : w.length ≤ 64) : FC Tryz.prog 23 [.rs 5 (ls.map cLf), .rs 1 (w.map civ)] [] (.tup [.agg (cSh (showG ls w)), iv (XC ls w)]) [] false := by
  refine Qs (nt := 100) Tryz.func23 rfl rfl mcOkv23 (nL rfl) ?_
  delta mcv23
  refine Qb (Qc (Qf 2 rfl (Qa fun _ => Qd (Qb (Qb (Qc (Qe rfl rfl (Qq rfl rfl ?_))))))))
  refine QE rfl rfl rfl rfl (fun h13 => ?_) (fun h13 => ?_)
  · skip
    refine Qf 5 rfl (Qa fun _ => Qd (Qh rfl (fun _ => ?_) (fun h => by cases h)))
    refine Qb (Qc (QU rfl rfl (Q0 rfl rfl rfl rfl rfl rfl rfl (nL rfl) rfl rfl (Qe rfl rfl (Qa fun _ => Qd (Ql (Q1 ?_)))))))
    have he : XC ls w = 2 := shE_2 (by omega)
    rw [shG_e he (by decide), he]
    exact Q5 rfl (XJ (.cons (Xg (.cons (Q6 rfl (.inr rfl)) (.cons QW (.cons QW .nil)))) (.cons (Q6 rfl (.inr rfl)) .nil))) .nil
  · skip
    refine Qf 2 rfl (Qq rfl rfl (QE rfl rfl rfl rfl (fun h17 => ?_) (fun h17 => ?_)))
    · skip
      refine QM rfl rfl rfl (Qa fun _ => Qd (Qh rfl (fun _ => ?_) (fun h => by cases h)))
      refine Qb (Qc (QU rfl rfl (Q0 rfl rfl rfl rfl rfl rfl rfl (nL rfl) rfl rfl (Qe rfl rfl (Qa fun _ => Qd (Ql (Q1 ?_)))))))
      have he : XC ls w = 2 := shE_2 (by omega)
      rw [shG_e he (by decide), he]
      exact Q5 rfl (XJ (.cons (Xg (.cons (Q6 rfl (.inr rfl)) (.cons QW (.cons QW .nil)))) (.cons (Q6 rfl (.inr rfl)) .nil))) .nil
    · skip
      refine QM rfl rfl rfl (Qa fun _ => Qd (Qh rfl (fun h => by cases h) (fun _ => ?_)))
      refine Qn (Qd (Qb (Qb (Qc (Qe rfl rfl (Qa fun _ => Qd (Qm ?_)))))))
      refine QC (α := Nat) (fun k => ls.length - k) (fun k => [(0, .rs 5 (ls.map cLf)), (1, .rs 1 (w.map civ)), (4, .ptr 4 0 0), (6, iv (((k) : Nat) : Int))]) (fun k => [(4, .cells 55 3 [[iv 0, .nils, .nils]] true)]) (fun k => k ≤ ls.length ∧ ixF k (ls.drop k) = ixF 0 ls) 0 (⟨by omega, rfl⟩)
        (Qj (.cs (.cs (.cs (.cs (.nil))))) (.keep (rfl) rfl (.nil)) (fun i h => by cases h)) ?_
      rintro k ⟨hk, hinv⟩
      refine Qb (Qb (Qc (Qf 2 rfl (Qq rfl rfl (QJ rfl rfl rfl (Qa fun _ => Qd (Qh rfl (fun h23 => ?_) (fun h23 => ?_))))))))
      · replace h23 := of_decide_eq_true h23
        refine Qn (Qd (Qb (Qm (Qb (Qc (Qf 2 rfl ?_))))))
        obtain ⟨x, hxk, hxm⟩ := Qy (L := ls) (k := k) (by omega)
        refine Qt (f := cLf) (y := x) rfl rfl rfl (by omega) hxk (Qf 3 rfl (JD rfl rfl rfl (Qa fun _ => Qd (Qh rfl (fun h32 => ?_) (fun h32 => ?_)))))
        · replace h32 := of_decide_eq_true h32
          refine Qb (Qc (QU rfl rfl (Q0 rfl rfl rfl rfl rfl rfl rfl (nL rfl) rfl rfl (Qe rfl rfl (Qa fun _ => Qd (Ql (QL (Q1 ?_))))))))
          refine Q1 (QL (Q1 ?_))
          have he : XC ls w = 4 := shE_4 (by omega) (by rw [← hinv, ixF_at hxk, decide_eq_false h32]; rfl)
          rw [shG_e he (by decide), he]
          exact Q5 rfl (XJ (.cons (Xg (.cons (Q6 rfl (.inr rfl)) (.cons QW (.cons QW .nil)))) (.cons (Q6 rfl (.inr rfl)) .nil))) .nil
        · replace h32 := of_decide_eq_false h32
          refine Qn (QI (Qd (Qc (Qe rfl rfl (Qx rfl rfl rfl (by omega) (Qe rfl rfl (Qa fun _ => Qd ?_)))))))
          rw [ixF_at hxk, decide_eq_true (Decidable.byContradiction h32), Bool.true_and] at hinv
          exact ⟨k + 1, ⟨by omega, hinv⟩, by omega, Qj (.cs (.cs (.cs (.cs (.nil))))) (.keep (rfl) rfl (.nil)) (fun i h => by cases h)⟩
      · replace h23 := of_decide_eq_false h23
        refine Q3 (QB (QB (QA (Qd (Qb (Qb ?_))))))
        have hix : ixF 0 ls = true := by rw [← hinv, List.drop_eq_nil_of_le (by omega)]; rfl
        clear hinv
        refine Qc (Qe rfl rfl (Qa fun _ => Qd (Qm ?_)))
        refine QC (α := Nat) (fun k => w.length - k) (fun k => [(0, .rs 5 (ls.map cLf)), (1, .rs 1 (w.map civ)), (4, .ptr 4 0 0), (7, iv (((k) : Nat) : Int))]) (fun k => [(4, .cells 55 3 [[iv 0, .nils, .nils]] true)]) (fun k => k ≤ w.length ∧ (w.drop k).any (outP ls.length) = w.any (outP ls.length)) 0 (⟨by omega, rfl⟩)
          (Qj (.cs (.cs (.cs (.cs (.nil))))) (.keep (rfl) rfl (.nil)) (fun i h => by cases h)) ?_
        rintro k ⟨hk, hinv⟩
        refine Qb (Qb (Qc (Qf 2 rfl (Qq rfl rfl (QJ rfl rfl rfl (Qa fun _ => Qd (Qh rfl (fun h37 => ?_) (fun h37 => ?_))))))))
        · replace h37 := of_decide_eq_true h37
          refine Qn (Qd (Qb (Qm (Qb (Qc (Qf 2 rfl ?_))))))
          obtain ⟨b, hbk, hbm⟩ := Qy (L := w) (k := k) (by omega)
          refine Qt (f := civ) (y := b) rfl rfl rfl (by omega) hbk (Xh rfl rfl rfl (QE rfl rfl rfl rfl (fun h44 => ?_) (fun h44 => ?_)))
          · skip
            refine Qf 9 rfl (Qa fun _ => Qd (Qh rfl (fun _ => ?_) (fun h => by cases h)))
            refine Qb (Qc (QU rfl rfl (Q0 rfl rfl rfl rfl rfl rfl rfl (nL rfl) rfl rfl (Qe rfl rfl (Qa fun _ => Qd (Ql (QL (Q1 ?_))))))))
            refine Q1 (QL (Q1 ?_))
            have he : XC ls w = 5 := shE_5 (by omega) hix (by rw [← hinv, any_at hbk, any_out (by omega)]; rfl)
            rw [shG_e he (by decide), he]
            exact Q5 rfl (XJ (.cons (Xg (.cons (Q6 rfl (.inr rfl)) (.cons QW (.cons QW .nil)))) (.cons (Q6 rfl (.inr rfl)) .nil))) .nil
          · skip
            refine Qf 3 rfl (Qt (f := civ) (y := b) rfl rfl rfl (by omega) hbk (Qf 2 rfl (Qq rfl rfl (QE rfl rfl rfl rfl (fun h52 => ?_) (fun h52 => ?_)))))
            · skip
              refine QM rfl rfl rfl (Qa fun _ => Qd (Qh rfl (fun _ => ?_) (fun h => by cases h)))
              refine Qb (Qc (QU rfl rfl (Q0 rfl rfl rfl rfl rfl rfl rfl (nL rfl) rfl rfl (Qe rfl rfl (Qa fun _ => Qd (Ql (QL (Q1 ?_))))))))
              refine Q1 (QL (Q1 ?_))
              have he : XC ls w = 5 := shE_5 (by omega) hix (by rw [← hinv, any_at hbk, any_out (by omega)]; rfl)
              rw [shG_e he (by decide), he]
              exact Q5 rfl (XJ (.cons (Xg (.cons (Q6 rfl (.inr rfl)) (.cons QW (.cons QW .nil)))) (.cons (Q6 rfl (.inr rfl)) .nil))) .nil
            · skip
              refine QM rfl rfl rfl (Qa fun _ => Qd (Qh rfl (fun h => by cases h) (fun _ => ?_)))
              refine Qn (QI (Qd (Qc (Qe rfl rfl (Qx rfl rfl rfl (by omega) (Qe rfl rfl (Qa fun _ => Qd ?_)))))))
              rw [any_at hbk, any_in h44 h52, Bool.false_or] at hinv
              exact ⟨k + 1, ⟨by omega, hinv⟩, by omega, Qj (.cs (.cs (.cs (.cs (.nil))))) (.keep (rfl) rfl (.nil)) (fun i h => by cases h)⟩
        · replace h37 := of_decide_eq_false h37
          refine Q3 (QB (QB (QA (Qd (Qb (Qb ?_))))))
          have hout : w.any (outP ls.length) = false := by rw [← hinv, List.drop_eq_nil_of_le (by omega)]; rfl
          clear hinv
          have hbd := out_bd hout
          refine Qc (Qe rfl rfl (Qa fun _ => Qd (Qm ?_)))
          refine QC (α := Nat) (fun k => w.length - k) (fun k => [(0, .rs 5 (ls.map cLf)), (1, .rs 1 (w.map civ)), (4, .ptr 4 0 0), (8, iv (((k) : Nat) : Int))]) (fun k => [(4, .cells 55 3 [[iv 0, .nils, .nils]] true)]) (fun k => 1 ≤ k ∧ (k ≤ w.length ∨ w = []) ∧ (w = [] ∨ ∃ p, w[k - 1]? = some p ∧ incF (ls.length : Int) p (w.drop k) = incF (ls.length : Int) (-1) w)) 1 (⟨Nat.le_refl _, by cases w with | nil => exact .inr rfl | cons a l => exact .inl (by simp), by cases hw : w with | nil => exact .inl rfl | cons a l => exact .inr ⟨a, rfl, by rw [← hw, incF_out hw hbd, hw]; rfl⟩⟩)
            (Qj (.cs (.cs (.cs (.cs (.nil))))) (.keep (rfl) rfl (.nil)) (fun i h => by cases h)) ?_
          rintro k ⟨hk1, hk, hpp⟩
          refine Qb (Qb (Qc (Qf 2 rfl (Qq rfl rfl (QJ rfl rfl rfl (Qa fun _ => Qd (Qh rfl (fun h58 => ?_) (fun h58 => ?_))))))))
          · replace h58 := of_decide_eq_true h58
            refine Qn (Qd (Qb (Qm (Qb (Q8 Xr (Qf 2 rfl ?_))))))
            obtain ⟨b, hbk, hbm⟩ := Qy (L := w) (k := k) (by omega)
            obtain ⟨hb0, hb1⟩ := hbd b hbm
            obtain ⟨a, ha, hinv2⟩ := hpp.resolve_left (fun e => by rw [e] at hbk; simp at hbk)
            refine Qt (f := civ) (y := b) rfl rfl rfl (by omega) hbk (Qf 3 rfl (rs_sub rfl rfl rfl (by omega) (Qt (f := civ) (y := a) rfl rfl rfl (by omega) (by rw [show ((k : Int) - 1).toNat = k - 1 by omega]; exact ha) (Xh rfl rfl rfl (rs_leq rfl rfl rfl (Qa ⟨by kernel_rfl, fun _ => ?_⟩))))))
            refine Qd (Qh rfl (fun h70 => ?_) (fun h70 => ?_))
            · replace h70 := of_decide_eq_true h70
              refine Qb (Qc (QU rfl rfl (Q0 rfl rfl rfl rfl rfl rfl rfl (nL rfl) rfl rfl (Qe rfl rfl (Qa fun _ => Qd (Ql (QL (Q1 ?_))))))))
              refine Q1 (QL (Q1 ?_))
              have he : XC ls w = 7 := shE_7 (by omega) hix hout (by rw [← hinv2, incF_at hbk, decide_eq_false (show ¬ a < b by omega), Bool.and_false]; rfl)
              rw [shG_e he (by decide), he]
              exact Q5 rfl (XJ (.cons (Xg (.cons (Q6 rfl (.inr rfl)) (.cons QW (.cons QW .nil)))) (.cons (Q6 rfl (.inr rfl)) .nil))) .nil
            · replace h70 := of_decide_eq_false h70
              refine Qn (QI (Qd (Qc (Qe rfl rfl (Qx rfl rfl rfl (by omega) (Qe rfl rfl (Qa fun _ => Qd ?_)))))))
              rw [incF_at hbk, show (decide (0 ≤ b) && decide (b < (ls.length : Int)) && decide (a < b)) = true from by simp only [Bool.and_eq_true, decide_eq_true_eq]; exact ⟨⟨hb0, hb1⟩, by omega⟩, Bool.true_and] at hinv2
              exact ⟨k + 1, ⟨by omega, by omega, .inr ⟨b, by rw [show k + 1 - 1 = k by omega]; exact hbk, hinv2⟩⟩, by omega, Qj (.cs (.cs (.cs (.cs (.nil))))) (.keep (rfl) rfl (.nil)) (fun i h => by cases h)⟩
          · replace h58 := of_decide_eq_false h58
            refine Q3 (QB (QB (QA (Qd (Qb ?_)))))
            have hinc : incF (ls.length : Int) (-1) w = true := by
              rcases hpp with e | ⟨p, hp1, hp2⟩
              · rw [e]; rfl
              · rw [← hp2, List.drop_eq_nil_of_le (by omega)]; rfl
            have hlv : LvsOK ls := ⟨by omega, fun i x h => by rw [ixF_ix hix i x h]; omega, hok⟩
            have he : XC ls w = 0 := shE_0 (by omega) hix hout hinc
            have hha := hidA_len (w := w) hlv.n.2
            have hlg := lg16 hlv.n.2
            refine Qc (Qe rfl rfl (Qq rfl rfl (Qf 3 rfl (Qq rfl rfl (Qi [] rfl rfl (vc71 ls.length hlv.n.2) (.cons (Qg rfl) (.nil)) rfl (Qi [] rfl rfl (vc70 ls hlv.ls w (by omega) (lg ls.length) 0 901 (by omega)) (.cons (Qg rfl) (.cons (Qg rfl) (.cons (Qg rfl) (.cons (Qg rfl) .nil)))) rfl (Qf 2 rfl (Q0 rfl rfl rfl rfl rfl rfl rfl (nL rfl) rfl rfl (Qa fun _ => ?_)))))))))
            refine Qd (Qb (Qb (Qc (Qe rfl rfl (Qa fun _ => Qd (Qm (Xm (F0 := [(0, .rs 5 (ls.map cLf)), (1, .rs 1 (w.map civ)), (4, .ptr 4 0 0), (9, .ptr 9 0 0), (10, iv (((0) : Nat) : Int))]) (H0 := [(4, .cells 55 3 [[iv 0, .nils, .nils]] true), (9, .cells 55 3 [[iv (ls.length : Int), .sl 905 0 (0), .sl 901 0 (QO ls.length w (lg ls.length) 0).length]] false), (905, .cells 51 5 (((w.take (0)).map (Xt ls)).map cLf) true), (901, .cells 9 1 (((QO ls.length w (lg ls.length) 0).map (Xb ls)).map cS) true)]) (Weak.trans (F1 := [(0, .rs 5 (ls.map cLf)), (1, .rs 1 (w.map civ)), (4, .ptr 4 0 0), (9, .ptr 9 0 0), (10, iv (((0) : Nat) : Int))]) (H1 := [(4, .cells 55 3 [[iv 0, .nils, .nils]] true), (9, .cells 55 3 [[iv (ls.length : Int), .nils, .sl 901 0 (QO ls.length w (lg ls.length) 0).length]] false), (901, .cells 9 1 (((QO ls.length w (lg ls.length) 0).map (Xb ls)).map cS) true)]) (Qj (.cs (.cs (.cs (.cs (.cs (.nil)))))) (.keep (rfl) rfl (.keep (rfl) rfl (.keep (rfl) rfl (.nil)))) fun i h => by cases h) (Weak.trans (F1 := [(0, .rs 5 (ls.map cLf)), (1, .rs 1 (w.map civ)), (4, .ptr 4 0 0), (9, .ptr 9 0 0), (10, iv (((0) : Nat) : Int))]) (XX (i := 905) (k := 9) (e2 := 51) (z2 := 5) (fl2 := true) rfl rfl (.next .here)) (Qj (.cs (.cs (.cs (.cs (.cs (.nil)))))) (.keep (rfl) rfl (.keep (rfl) rfl (.keep (rfl) rfl (.keep (rfl) rfl (.nil))))) fun i h => by cases h))) ?_)))))))
            refine QC (α := Nat) (fun k => w.length - k) (fun k => [(0, .rs 5 (ls.map cLf)), (1, .rs 1 (w.map civ)), (4, .ptr 4 0 0), (9, .ptr 9 0 0), (10, iv (((k) : Nat) : Int))]) (fun k => [(4, .cells 55 3 [[iv 0, .nils, .nils]] true), (9, .cells 55 3 [[iv (ls.length : Int), .sl 905 0 (k), .sl 901 0 (QO ls.length w (lg ls.length) 0).length]] false), (905, .cells 51 5 (((w.take (k)).map (Xt ls)).map cLf) true), (901, .cells 9 1 (((QO ls.length w (lg ls.length) 0).map (Xb ls)).map cS) true)]) (fun k => k ≤ w.length) 0 (by omega)
              (Qj (.cs (.cs (.cs (.cs (.cs (.nil)))))) (.keep (rfl) rfl (.keep (rfl) rfl (.keep (rfl) rfl (.keep (rfl) rfl (.nil))))) (fun i h => by cases h)) ?_
            intro k hk
            refine Qb (Qb (Qc (Qf 2 rfl (Qq rfl rfl (QJ rfl rfl rfl (Qa fun _ => Qd (Qh rfl (fun h84 => ?_) (fun h84 => ?_))))))))
            · replace h84 := of_decide_eq_true h84
              refine Qn (Qd (Qb (Qm (Q8 Xr (Qf 5 rfl ?_)))))
              obtain ⟨b, hbk, hbm⟩ := Qy (L := w) (k := k) (by omega)
              obtain ⟨hb0, hb1⟩ := hbd b hbm
              obtain ⟨x, hx, hxm⟩ := Qy (L := ls) (k := b.toNat) (by omega)
              refine Qt (f := civ) (y := b) rfl rfl rfl (by omega) hbk (Xh rfl rfl rfl (Qt (f := cLf) (y := x) rfl rfl rfl hb0 hx (QR (cs := cLf x) rfl rfl (nL rfl) rfl (Qv (l := (([x] : List Lf)).flatMap cLf) (els := (([x] : List Lf)).map cLf) (fl := true) rfl (by kernel_rfl) rfl rfl (by kernel_rfl) (by kernel_rfl) (QV (f := cLf) (xs := (w.take k).map (Xt ls)) (y := x) (fl' := true) rfl rfl rfl rfl (by simp; omega) rfl rfl rfl (by decide) rfl (by omega) (by omega) rfl (Q9 rfl rfl (Q0 rfl rfl rfl rfl rfl rfl rfl (nL rfl) rfl rfl (Qa ⟨by kernel_rfl, fun _ => ?_⟩))))))))
              refine QI (Qd (Qc (Qe rfl rfl (Qx rfl rfl rfl (by omega) (Qe rfl rfl (Qa fun _ => Qd ?_))))))
              exact ⟨k + 1, by omega, by omega, show Weak _ _ _ _ [(0, .rs 5 (ls.map cLf)), (1, .rs 1 (w.map civ)), (4, .ptr 4 0 0), (9, .ptr 9 0 0), (10, iv (((k + 1) : Nat) : Int))] [(4, .cells 55 3 [[iv 0, .nils, .nils]] true), (9, .cells 55 3 [[iv (ls.length : Int), .sl 905 0 (k + 1), .sl 901 0 (QO ls.length w (lg ls.length) 0).length]] false), (905, .cells 51 5 (((w.take (k + 1)).map (Xt ls)).map cLf) true), (901, .cells 9 1 (((QO ls.length w (lg ls.length) 0).map (Xb ls)).map cS) true)] from Weak.trans (F1 := [(0, .rs 5 (ls.map cLf)), (1, .rs 1 (w.map civ)), (4, .ptr 4 0 0), (9, .ptr 9 0 0), (10, iv (((k + 1) : Nat) : Int))]) (H1 := [(4, .cells 55 3 [[iv 0, .nils, .nils]] true), (9, .cells 55 3 [[iv (ls.length : Int), .sl 97 0 (k + 1), .sl 901 0 (QO ls.length w (lg ls.length) 0).length]] false), (97, .cells 51 5 (((w.take (k + 1)).map (Xt ls)).map cLf) true), (901, .cells 9 1 (((QO ls.length w (lg ls.length) 0).map (Xb ls)).map cS) true)]) (Qj (.cs (.cs (.cs (.cs (.cs (.nil)))))) (.keep (rfl) rfl (.keep (rfl) rfl (.keep (by rw [sel_succ hbk hx]; rfl) rfl (.keep (rfl) rfl (.nil))))) fun i h => by cases h) (Weak.trans (F1 := [(0, .rs 5 (ls.map cLf)), (1, .rs 1 (w.map civ)), (4, .ptr 4 0 0), (9, .ptr 9 0 0), (10, iv (((k + 1) : Nat) : Int))]) (XI (i := 97) (i' := 905) (k := 9) rfl rfl (.cons rfl (.same _) (.cons rfl (.same _) (.cons rfl (.same _) (.cons rfl (.same _) (.cons rfl (.same _) (.nil)))))) (by decide) rfl (.cons (.same _) (.cons (.sl _ _) (RenL.refl _ _ _)))) (Qj (.cs (.cs (.cs (.cs (.cs (.nil)))))) (.keep (rfl) rfl (.keep (rfl) rfl (.keep (rfl) rfl (.keep (rfl) rfl (.nil))))) fun i h => by cases h))⟩
            · replace h84 := of_decide_eq_false h84
              refine Q3 (QB (QB (QA (Qd (Qb (Qc (Qo rfl rfl rfl rfl (nL rfl) rfl (Q0 rfl rfl rfl rfl rfl rfl rfl (nL rfl) rfl rfl (Qe rfl rfl ?_)))))))))
              refine Qa fun _ => Qd (Ql ?_)
              obtain rfl : k = w.length := by omega
              rw [shG_0 he, he, show cSh (showS ls w) = [iv (ls.length : Int), .rs 5 (((w.take w.length).map (Xt ls)).map cLf), .rs 1 (((QO ls.length w (lg ls.length) 0).map (Xb ls)).map cS)] by rw [List.take_of_length_le (Nat.le_refl _)]; rfl]
              exact Q5 rfl (XJ (.cons (Xg (.cons (Q6 rfl (.inr rfl)) (.cons (QK rfl rfl (by simp) (fun _ => rfl)) (.cons (QK rfl rfl (by simp) (fun _ => rfl)) .nil)))) (.cons (Q6 rfl (.inr rfl)) .nil))) .nil
end Go.Proofs.YthfhaoogcpfboaaGreat

/-! Walks: VV. -/
namespace Go.Proofs.YthfhaoogcpfboaaGreat
open Go.RowKit
set_option maxRecDepth 100000
set_option linter.unusedVariables false
theorem show_ok {ls : List Lf} (h : LvsOK ls) {w : List Int} (hw : IxOK ls.length w) : ShOK (w.map (Xt ls)) ((Xc ls.length w).map (Xb ls)) where
  nl := by rw [List.length_map]; have := hw.n; omega
  nh := by rw [List.length_map]; have := hidA_len (w := w) h.n.2; omega
  ok x hx := by
    obtain ⟨i, hi, rfl⟩ := List.mem_map.1 hx
    exact h.ok _ (sel_mem (hw.bd i hi).1 (hw.bd i hi).2)
  b d hd := by
    obtain ⟨s, _, rfl⟩ := List.mem_map.1 hd
    exact (ofK_ok ls).tree _ _
end Go.Proofs.YthfhaoogcpfboaaGreat

/-! Walks: X0. -/
namespace Go.Proofs.YthfhaoogcpfboaaGreat
open Go.RowKit
set_option maxRecDepth 100000
set_option linter.unusedVariables false
theorem made_b (L : List Int) : ∀ x ∈ madeS L, I64 x.ix ∧ I64 x.want ∧ B8 x.salt ∧ x.salt.length ≤ 16 := fun x hx => by
  have h := (made_ok L).ok x hx
  obtain ⟨k, hk⟩ := List.mem_iff_getElem?.1 hx
  exact ⟨h.i, h.w, h.b, by rw [mkS_at L _ k x hk, show (leafM L k (mkS L k).2).salt.length = 8 from (Jb _).2]; decide⟩
theorem show_b {ls : List Lf} (h : LvsOK ls) (hb : ∀ x ∈ ls, I64 x.ix ∧ I64 x.want ∧ B8 x.salt ∧ x.salt.length ≤ 16) {w : List Int} (hw : IxOK ls.length w) : ShB 16 (w.map (Xt ls)) ((Xc ls.length w).map (Xb ls)) where
  nl := by rw [List.length_map]; exact hw.n
  nh := by rw [List.length_map]; exact hidA_len h.n.2
  ok x hx := by
    obtain ⟨i, hi, rfl⟩ := List.mem_map.1 hx
    exact hb _ (sel_mem (hw.bd i hi).1 (hw.bd i hi).2)
  b d hd := by
    obtain ⟨s, _, rfl⟩ := List.mem_map.1 hd
    exact ⟨((ofK_ok ls).tree _ _).1, by rw [hidT_8]; decide⟩
theorem root_8o {z : Int} {lv : List Lf} {hd : List (List Int)} (h : ∀ d ∈ hd, B8 d ∧ d.length ≤ LIM) (hok : ∀ x ∈ lv, x.OK) : B8 ((Jx z lv hd).getD []) := by
  cases hf : fmS z lv hd with
  | none => rw [root_none (by rw [hf]; rfl)]; intro x hx; cases hx
  | some sp =>
    rw [← dgR_root hf]
    exact (dgR_8 h _ _ _).1
end Go.Proofs.YthfhaoogcpfboaaGreat

/-! Walks: X4. -/
namespace Go.Proofs.YthfhaoogcpfboaaGreat
open Go.RowKit
set_option maxRecDepth 100000
set_option linter.unusedVariables false
theorem show_E {ls : List Lf} (h : LvsOK ls) {w : List Int} (hw : IxOK ls.length w) : XC ls w = 0 := by
  have hn := h.n
  refine shE_0 (by omega) ?_ (IxOK.out hw.bd) hw.incF
  have key : ∀ (l : List Lf) (k : Nat), (∀ (i : Nat) (x : Lf), l[i]? = some x → x.ix = ((k + i : Nat) : Int)) → ixF k l = true := by
    intro l
    induction l with
    | nil => intro k _; rfl
    | cons a l ih =>
      intro k hk
      simp only [ixF, Bool.and_eq_true, decide_eq_true_eq]
      exact ⟨by have := hk 0 a rfl; simpa using this, ih (k + 1) fun i x hx => by rw [hk (i + 1) x (by simpa using hx)]; omega⟩
  exact key ls 0 fun i x hx => by rw [h.ix i x hx]; omega
structure RawOK (lv : List Lf) (hd : List (List Int)) : Prop where
  nl : lv.length ≤ 4611686018427387904
  nh : hd.length ≤ 4611686018427387904
  l : ∀ x ∈ lv, I64 x.ix ∧ I64 x.want ∧ B8 x.salt
  h : ∀ d ∈ hd, B8 d
def mcv4 : MC := (.seq (.reg [oN 6 (.box 26 6 (.t 2)) [], oN 7 (.box 55 3 (.t 3)) [], oN 8 (.mv (.c (.bool false))) []] false) (.seq (.reg [oN 23 (.call 8 []) [], oM 9 23 [0, 0, 0]] false) (.seq (.reg [oM 24 0 [], oN 25 (.call 14 [(.t 24)]) [0], oM 10 25 [1, 1, 0, 1]] false) (.seq (.reg [oM 27 10 [], oM 28 1 [], oM 29 10 [], oN 30 (.len (.t 29)) [2], oN 31 (.call 21 [(.t 28), (.t 30)]) [1, 3], oN 32 (.call 23 [(.t 27), (.t 31)]) [0, 4, 4], oM 26 32 [5], oN 33 (.ext (.t 26) 0) [6], oN 34 (.ext (.t 26) 1) [6], oN 11 (.alloc 55 3 [(.int .i64 0), .nils, .nils]) [], ⟨none, (.st 3 (.t 11) (.t 33)), none, [9, 7, 5, 0, 1, 2, 3, 4, 5, 6, 7, 9]⟩, oM 12 34 [8, 10, 0, 1, 2, 3, 4, 5, 6, 7, 8, 9, 10]] false) (.seq (.reg [oN 35 (.ld true 3 (.t 11)) [], oN 36 (.ixarr 2 3 (.t 6) (.c (.int .i64 0))) [], oN 37 (.ld true 3 (.t 36)) [1], oN 38 (.call 25 [(.t 35), (.t 37)]) [0, 2], oN 13 (.alloc 55 3 [(.int .i64 0), .nils, .nils]) [], ⟨none, (.st 3 (.t 13) (.t 38)), none, [4, 3, 3, 0, 1, 2, 3, 4]⟩] false) (.seq (.reg [oN 39 (.ld true 3 (.t 11)) [], oN 40 (.ld true 3 (.t 13)) [], oN 41 (.ld true 3 (.t 13)) [], oN 42 (.ixarr 2 3 (.t 6) (.c (.int .i64 1))) [], oN 43 (.ld true 3 (.t 42)) [3], oN 44 (.call 25 [(.t 41), (.t 43)]) [2, 4], oN 45 (.ld true 3 (.t 7)) [], oN 46 (.call 26 [(.t 45)]) [6, 5], oN 47 (.bslice 55 3 [(.int .i64 0), .nils, .nils] 4 [(0, (.t 39)), (1, (.t 40)), (2, (.t 44)), (3, (.t 46))]) [0, 1, 5, 7], oM 14 47 [8, 7, 0, 1, 2, 3, 4, 5, 6, 7, 8]] true) (.seq (.seq (.reg [oM 48 14 [], oN 49 (.len (.t 48)) [0], oN 50 (.mv (.c (.int .i64 0))) []] false) (.block 0 (.loop (.seq (.reg [oN 51 (.bin .lss (.t 50) (.t 49)) []] false) (.seq (.cond (.t 51) .skip (.exit 0)) (.seq (.block 1 (.seq (.reg [oN 52 (.ixsl 3 (.t 48) (.t 50)) [], oN 53 (.ld true 3 (.t 52)) [0], oN 16 (.alloc 55 3 [(.int .i64 0), .nils, .nils]) [], ⟨none, (.st 3 (.t 16) (.t 53)), none, [2, 1, 0, 1, 2]⟩] false) (.seq (.reg [oN 55 (.ld true 3 (.t 16)) [], oN 56 (.call 27 [(.t 55)]) [0], oM 54 56 [1], oN 57 (.ext (.t 54) 0) [2], oN 58 (.ext (.t 54) 1) [2], oM 17 57 [3, 1, 0, 1, 2, 3], oM 18 58 [4, 5, 0, 1, 2, 3, 4, 5]] false) (.seq (.reg [oN 60 (.ld true 3 (.t 16)) [], oN 61 (.call 28 [(.t 60)]) [0], oM 59 61 [1], oN 62 (.ext (.t 59) 0) [2], oN 63 (.ext (.t 59) 1) [2], oM 19 62 [3, 1, 0, 1, 2, 3], oM 20 63 [4, 5, 0, 1, 2, 3, 4, 5]] false) (.seq (.seq (.reg [oM 64 17 [], oM 65 19 [], oN 66 (.seq true (.t 64) (.t 65)) [0, 1], oM 67 66 [2], pM 68 18 67 false [3], pM 69 20 67 false [3], oG 70 (.beq true (.t 68) (.t 69)) 67 false [4, 5, 3], oN 71 (.pick (.t 67) (.c (.bool true)) (.t 70)) [3, 6]] false) (.cond (.t 71) (.seq (.reg [oN 8 (.mv (.c (.bool false))) []] false) .ret) .skip)) (.seq (.reg [oM 72 14 [], oN 73 (.len (.t 72)) [0], oN 74 (.mv (.c (.int .i64 0))) []] false) (.block 2 (.loop (.seq (.reg [oN 75 (.bin .lss (.t 74) (.t 73)) []] false) (.seq (.cond (.t 75) .skip (.exit 2)) (.seq (.block 3 (.seq (.reg [oN 76 (.ixsl 3 (.t 72) (.t 74)) [], oN 77 (.ld true 3 (.t 76)) [0], oN 22 (.alloc 55 3 [(.int .i64 0), .nils, .nils]) [], ⟨none, (.st 3 (.t 22) (.t 77)), none, [2, 1, 0, 1, 2]⟩] false) (.seq (.reg [oN 78 (.ld true 3 (.t 16)) [], oN 79 (.ld true 3 (.t 22)) [], oN 80 (.call 29 [(.t 78), (.t 79)]) [0, 1], oN 81 (.ld true 3 (.t 16)) [], oN 82 (.ld true 3 (.t 22)) [], oN 83 (.call 30 [(.t 81), (.t 82)]) [3, 4, 2], oN 84 (.bin .neq (.t 80) (.t 83)) [2, 5]] true) (.cond (.t 84) (.seq (.reg [oN 8 (.mv (.c (.bool false))) []] false) .ret) .skip)))) (.reg [oN 85 (.bin .add (.t 74) (.c (.int .i64 1))) [], oM 74 85 [0]] false)))))))))))) (.reg [oN 86 (.bin .add (.t 50) (.c (.int .i64 1))) [], oM 50 86 [0]] false))))))) (.seq (.reg [oM 87 9 [], oM 8 87 [0, 0]] false) .ret))))))))
theorem mcOkv4 : (match Tryz.f4.body with | some c => Q2 Tryz.prog 88 c | none => none) = some mcv4 := by kernel_rfl
set_option maxHeartbeats 4000000 in
theorem vc4 (L : List Int) (hL : L.length ≤ 4611686018427387904) (s q00 q01 q02 q10 q11 q12 : Int) (hq0 : I64 q02) (hq1 : I64 q12) (z : Int) (lv : List Lf) (hd : List (List Int)) (hr : RawOK lv hd) : FC Tryz.prog 4 [ints L, iv s, .agg [iv q00, iv q01, iv q02, iv q10, iv q11, iv q12], .agg [.int .i64 z, .rs 5 (lv.map cLf), .rs 1 (hd.map cS)]] [] (.bool true) [] false := by
  refine Qs (nt := 88) Tryz.func4 rfl rfl mcOkv4 (nL rfl) ?_
  delta mcv4
  refine Qb (Qc (Qf 3 rfl (Qa fun _ => Qd (Qb (Qc (Qi [] rfl rfl (vc8) (.nil) rfl (Qe rfl rfl (Qa fun _ => ?_))))))))
  refine Qd (Qb (Qc (Qe rfl rfl (Qi [] rfl rfl (vc14 L hL) (.cons (Qg rfl) (.nil)) rfl (Qe rfl rfl (Qa fun _ => Qd (Qb ?_)))))))
  have hl := made_ok L
  have hlb := made_b L
  generalize madeS L = ls at hl hlb ⊢
  have hln := hl.n
  refine Qc (Qf 3 rfl (Qq rfl rfl (Qi [] rfl rfl (vc21 s ls.length (by omega)) (.cons (Qg rfl) (.cons (Qg rfl) (.nil))) rfl ?_)))
  have hw := some_ix s hl.n.2
  generalize JA s ls.length = w at hw ⊢
  have hwn := hw.n
  have hsb := show_b hl hlb hw
  have ho1 := odd_ok (z := (ls.length : Int)) (q0 := q00) (q1 := q01) hsb (by decide) hq0
  have ho2 := odd_ok (z := (XU (ls.length : Int) (w.map (Xt ls)) ((Xc ls.length w).map (Xb ls)) q00 q01 q02).size) (q0 := q10) (q1 := q11) ho1 (by decide) hq1
  refine Qi [] rfl rfl (vc23 ls (by omega) hl.ok w (by omega)) (.cons (Qg rfl) (.cons (Qg rfl) (.nil))) rfl ?_
  rw [shG_0 (show_E hl hw)]
  refine Qf 4 rfl (Q0 rfl rfl rfl rfl rfl rfl rfl (nL rfl) rfl rfl (Qe rfl rfl (Qa fun _ => Qd (Qb (Qc (Qo rfl rfl rfl rfl (nL rfl) rfl (Q7 rfl rfl rfl (by decide) (by decide) (Qo rfl rfl rfl rfl (nL rfl) rfl ?_))))))))
  refine Qi [] rfl rfl (vc25 (ls.length : Int) (w.map (Xt ls)) ((Xc ls.length w).map (Xb ls)) (show_ok hl hw) q00 q01 q02) (.cons (Qg rfl) (.cons (Qg rfl) (.nil))) rfl (QF rfl rfl rfl (Q0 rfl rfl rfl rfl rfl rfl rfl (nL rfl) rfl rfl (Qa fun _ => Qd (Qb (Q8 Xr (Qo rfl rfl rfl rfl (nL rfl) rfl (Qo rfl rfl rfl rfl (nL rfl) rfl (Qo rfl rfl rfl rfl (nL rfl) rfl ?_))))))))
  refine Q7 rfl rfl rfl (by decide) (by decide) (Qo rfl rfl rfl rfl (nL rfl) rfl (Qi [] rfl rfl (vc25 (XU (ls.length : Int) (w.map (Xt ls)) ((Xc ls.length w).map (Xb ls)) q00 q01 q02).size (XU (ls.length : Int) (w.map (Xt ls)) ((Xc ls.length w).map (Xb ls)) q00 q01 q02).leaves (XU (ls.length : Int) (w.map (Xt ls)) ((Xc ls.length w).map (Xb ls)) q00 q01 q02).hid (ShB.sh ho1 (by decide)) q10 q11 q12) (.cons (Qg rfl) (.cons (Qg rfl) (.nil))) rfl (Qo rfl rfl rfl rfl (nL rfl) rfl (Qi [] rfl rfl (vc26 z lv hd hr.nl hr.nh) (.cons (Qg rfl) (.nil)) rfl (Qv (l := (([showS ls w, (XU (ls.length : Int) (w.map (Xt ls)) ((Xc ls.length w).map (Xb ls)) q00 q01 q02), (XU (XU (ls.length : Int) (w.map (Xt ls)) ((Xc ls.length w).map (Xb ls)) q00 q01 q02).size (XU (ls.length : Int) (w.map (Xt ls)) ((Xc ls.length w).map (Xb ls)) q00 q01 q02).leaves (XU (ls.length : Int) (w.map (Xt ls)) ((Xc ls.length w).map (Xb ls)) q00 q01 q02).hid q10 q11 q12), (cutS z lv hd)] : List Shn)).flatMap cSh) (els := (([showS ls w, (XU (ls.length : Int) (w.map (Xt ls)) ((Xc ls.length w).map (Xb ls)) q00 q01 q02), (XU (XU (ls.length : Int) (w.map (Xt ls)) ((Xc ls.length w).map (Xb ls)) q00 q01 q02).size (XU (ls.length : Int) (w.map (Xt ls)) ((Xc ls.length w).map (Xb ls)) q00 q01 q02).leaves (XU (ls.length : Int) (w.map (Xt ls)) ((Xc ls.length w).map (Xb ls)) q00 q01 q02).hid q10 q11 q12), (cutS z lv hd)] : List Shn)).map cSh) (fl := true) rfl (by kernel_rfl) rfl rfl (by kernel_rfl) (by kernel_rfl) (Qe rfl rfl (Qa ⟨by kernel_rfl, fun _ => ?_⟩)))))))
  refine Qd (Qb (Qb (Xm (F0 := [(9, .bool true), (14, .rs 3 (([showS ls w, (XU (ls.length : Int) (w.map (Xt ls)) ((Xc ls.length w).map (Xb ls)) q00 q01 q02), (XU (XU (ls.length : Int) (w.map (Xt ls)) ((Xc ls.length w).map (Xb ls)) q00 q01 q02).size (XU (ls.length : Int) (w.map (Xt ls)) ((Xc ls.length w).map (Xb ls)) q00 q01 q02).leaves (XU (ls.length : Int) (w.map (Xt ls)) ((Xc ls.length w).map (Xb ls)) q00 q01 q02).hid q10 q11 q12), (cutS z lv hd)] : List Shn).map cSh))]) (H0 := []) (Qj (.cs (.cons rfl (rc_freeze (j := 0) (n := 4) (els := ([showS ls w, (XU (ls.length : Int) (w.map (Xt ls)) ((Xc ls.length w).map (Xb ls)) q00 q01 q02), (XU (XU (ls.length : Int) (w.map (Xt ls)) ((Xc ls.length w).map (Xb ls)) q00 q01 q02).size (XU (ls.length : Int) (w.map (Xt ls)) ((Xc ls.length w).map (Xb ls)) q00 q01 q02).leaves (XU (ls.length : Int) (w.map (Xt ls)) ((Xc ls.length w).map (Xb ls)) q00 q01 q02).hid q10 q11 q12), (cutS z lv hd)] : List Shn).map cSh) rfl rfl (by simp) (.inl rfl)) (.nil))) (.nil) (fun i h => by cases h)) ?_)))
  have hall : ∀ x ∈ ([showS ls w, (XU (ls.length : Int) (w.map (Xt ls)) ((Xc ls.length w).map (Xb ls)) q00 q01 q02), (XU (XU (ls.length : Int) (w.map (Xt ls)) ((Xc ls.length w).map (Xb ls)) q00 q01 q02).size (XU (ls.length : Int) (w.map (Xt ls)) ((Xc ls.length w).map (Xb ls)) q00 q01 q02).leaves (XU (ls.length : Int) (w.map (Xt ls)) ((Xc ls.length w).map (Xb ls)) q00 q01 q02).hid q10 q11 q12), (cutS z lv hd)] : List Shn), ShOK x.leaves x.hid := fun x hx => by
    simp only [List.mem_cons, List.not_mem_nil, or_false] at hx
    rcases hx with rfl | rfl | rfl | rfl
    · exact show_ok hl hw
    · exact ShB.sh ho1 (by decide)
    · exact ShB.sh ho2 (by decide)
    · exact ShB.sh (cut_b hr.l hr.h) (by decide)
  have hlen : ([showS ls w, (XU (ls.length : Int) (w.map (Xt ls)) ((Xc ls.length w).map (Xb ls)) q00 q01 q02), (XU (XU (ls.length : Int) (w.map (Xt ls)) ((Xc ls.length w).map (Xb ls)) q00 q01 q02).size (XU (ls.length : Int) (w.map (Xt ls)) ((Xc ls.length w).map (Xb ls)) q00 q01 q02).leaves (XU (ls.length : Int) (w.map (Xt ls)) ((Xc ls.length w).map (Xb ls)) q00 q01 q02).hid q10 q11 q12), (cutS z lv hd)] : List Shn).length ≤ 4 := Nat.le_refl _
  generalize ([showS ls w, (XU (ls.length : Int) (w.map (Xt ls)) ((Xc ls.length w).map (Xb ls)) q00 q01 q02), (XU (XU (ls.length : Int) (w.map (Xt ls)) ((Xc ls.length w).map (Xb ls)) q00 q01 q02).size (XU (ls.length : Int) (w.map (Xt ls)) ((Xc ls.length w).map (Xb ls)) q00 q01 q02).leaves (XU (ls.length : Int) (w.map (Xt ls)) ((Xc ls.length w).map (Xb ls)) q00 q01 q02).hid q10 q11 q12), (cutS z lv hd)] : List Shn) = all at hall hlen ⊢
  refine Qc (Qe rfl rfl (Qq rfl rfl (Qe rfl rfl (Qa fun _ => Qd (Qm ?_)))))
  refine QC (α := Nat) (fun i => all.length - i) (fun i => [(9, .bool true), (14, .rs 3 (all.map cSh)), (48, .rs 3 (all.map cSh)), (49, iv (all.length : Int)), (50, iv (((i) : Nat) : Int))]) (fun i => []) (fun i => i ≤ all.length) 0 (by omega)
    (Qj (.cs (.cs (.cs (.cs (.cs (.nil)))))) (.nil) (fun i h => by cases h)) ?_
  intro i hi
  refine Qb (Qc (QJ rfl rfl rfl (Qa fun _ => Qd (Qb (Qh rfl (fun h51 => ?_) (fun h51 => ?_))))))
  · replace h51 := of_decide_eq_true h51
    refine Qn (Qd (Qb (Qm (Qb (Qc ?_)))))
    obtain ⟨x, hxk, hxm⟩ := Qy (L := all) (k := i) (by omega)
    have hx := hall x hxm
    refine Qt (f := cSh) (y := x) rfl rfl rfl (by omega) hxk (QR (cs := cSh x) rfl rfl (nL rfl) rfl (QF rfl rfl rfl (Q0 rfl rfl rfl rfl rfl rfl rfl (nL rfl) rfl rfl (Qa fun _ => Qd (Qb (Qc (Qo rfl rfl rfl rfl (nL rfl) rfl (Qi [] rfl rfl (vc27 x.size x.leaves x.hid hx) (.cons (Qg rfl) (.nil)) rfl ?_))))))))
    refine Qf 5 rfl (Qa fun _ => Qd (Qb (Qc (Qo rfl rfl rfl rfl (nL rfl) rfl (Qi [] rfl rfl (vc28 x.size x.leaves x.hid hx) (.cons (Qg rfl) (.nil)) rfl (Qf 5 rfl (Qa fun _ => Qd ?_)))))))
    refine Qb (Qb (Qc (Qf 2 rfl (rs_seq (r := false) rfl rfl rfl (root_8o hx.b hx.ok) (root_8o hx.b hx.ok) (by simp) (Qf 3 rfl (rs_beq rfl rfl rfl ?_))))))
    rw [show (true != ((Jx x.size x.leaves x.hid).isSome == (Jx x.size x.leaves x.hid).isSome)) = false from by simp]
    refine QM rfl rfl rfl (Qa fun _ => Qd (Qh rfl (fun h => by cases h) (fun _ => ?_)))
    refine Qn (Qd (Qb (Qc (Qe rfl rfl (Qq rfl rfl (Qe rfl rfl (Qa fun _ => Qd (Qm ?_))))))))
    refine QC (α := Nat) (fun j => all.length - j) (fun j => [(9, .bool true), (14, .rs 3 (all.map cSh)), (48, .rs 3 (all.map cSh)), (49, iv (all.length : Int)), (50, iv (((i) : Nat) : Int)), (16, .ptr 16 0 0), (72, .rs 3 (all.map cSh)), (73, iv (all.length : Int)), (74, iv (((j) : Nat) : Int))]) (fun j => [(16, .cells 55 3 [cSh x] true)]) (fun j => j ≤ all.length) 0 (by omega)
      (Qj (.cs (.cs (.cs (.cs (.cs (.cs (.cs (.cs (.cs (.nil)))))))))) (.keep (rfl) rfl (.nil)) (fun i h => by cases h)) ?_
    intro j hj
    refine Qb (Qc (QJ rfl rfl rfl (Qa fun _ => Qd (Qb (Qh rfl (fun h75 => ?_) (fun h75 => ?_))))))
    · replace h75 := of_decide_eq_true h75
      refine Qn (Qd (Qb (Qm (Qb (Qc ?_)))))
      obtain ⟨y, hyk, hym⟩ := Qy (L := all) (k := j) (by omega)
      refine Qt (f := cSh) (y := y) rfl rfl rfl (by omega) hyk (QR (cs := cSh y) rfl rfl (nL rfl) rfl (QF rfl rfl rfl (Q0 rfl rfl rfl rfl rfl rfl rfl (nL rfl) rfl rfl (Qa fun _ => Qd (Qb (Q8 Xr (Qo rfl rfl rfl rfl (nL rfl) rfl (Qo rfl rfl rfl rfl (nL rfl) rfl ?_))))))))
      refine Qi [] rfl rfl (vc29 x.size x.leaves x.hid hx y.size y.leaves y.hid (hall y hym)) (.cons (Qg rfl) (.cons (Qg rfl) (.nil))) rfl (Qo rfl rfl rfl rfl (nL rfl) rfl (Qo rfl rfl rfl rfl (nL rfl) rfl (Qi [] rfl rfl (vc30 x.size x.leaves x.hid hx y.size y.leaves y.hid (hall y hym)) (.cons (Qg rfl) (.cons (Qg rfl) (.nil))) rfl (Qz rfl rfl rfl rfl (fun h => h rfl) (Qa ⟨by kernel_rfl, fun _ => ?_⟩)))))
      refine Qd (Qh rfl (fun h => by cases h) (fun _ => ?_))
      refine Qn (QI (Qd (Qc (Qx rfl rfl rfl (by omega) (Qe rfl rfl (Qa fun _ => Qd ?_))))))
      exact ⟨j + 1, by omega, by omega, Qj (.cs (.cs (.cs (.cs (.cs (.cs (.cs (.cs (.cs (.nil)))))))))) (.keep (rfl) rfl (.nil)) (fun i h => by cases h)⟩
    · replace h75 := of_decide_eq_false h75
      refine Q3 (QB (QB (QA (QI (Qd (Qc (Qx rfl rfl rfl (by omega) (Qe rfl rfl (Qa fun _ => ?_)))))))))
      refine Qd ?_
      exact ⟨i + 1, by omega, by omega, Qj (.cs (.cs (.cs (.cs (.cs (.nil)))))) (.nil) (fun i h => by cases h)⟩
  · replace h51 := of_decide_eq_false h51
    refine Q3 (QB (QB (QA (Qd (Qb (Qc (Qf 2 rfl (Qa fun _ => Qd ?_))))))))
    refine Ql ?_
    exact Qk rfl rfl rfl (.inr rfl)
end Go.Proofs.YthfhaoogcpfboaaGreat

/-! The arguments of the laws of reveal, as they are read. -/
namespace Go.Proofs.YthfhaoogcpfboaaGreat
open Go.RowKit Go.WideShapes Go.ChangeShapes Go.ChangeAt
set_option maxRecDepth 100000
theorem own_knob : ownKnob Tryz.prog.godebug = none := by kernel_rfl
theorem laid_out : laidOutB Tryz.prog = true := by kernel_rfl
theorem rd_i {H : Type} (d : DataW H) (h : Gd (.int .i64) d) : ∃ n : Int, True ∧ avD (.int .i64) d = ci n := by
  obtain ⟨n, _, e⟩ := rd_int d h
  exact ⟨n, trivial, e⟩
theorem rd_i6 {H : Type} (d : DataW H) (h : Gd (.int .i64) d) : ∃ n : Int, (-9223372036854775808 ≤ n ∧ n < 9223372036854775808) ∧ avD (.int .i64) d = ci n := by
  obtain ⟨n, hw, e⟩ := rd_int d h
  have := bounds_i64 hw
  exact ⟨n, by omega, e⟩
end Go.Proofs.YthfhaoogcpfboaaGreat

/-! Leaves and Showns, as the rows' arguments are read. -/
namespace Go.Proofs.YthfhaoogcpfboaaGreat
open Go.RowKit Go.WideShapes Go.ChangeShapes Go.ChangeAt
set_option maxRecDepth 100000
theorem strN_of (l : List UInt8) : (⟨l.toArray⟩ : ByteArray) = Qu (l.map fun b => (b.toNat : Int)) := by
  unfold Qu
  congr 1
  rw [List.map_map]
  congr 1
  conv => lhs; rw [← List.map_id l]
  refine List.map_congr_left fun b _ => ?_
  simp
theorem bytes_8 (l : List UInt8) : B8 (l.map fun b => (b.toNat : Int)) := fun x hx => by
  obtain ⟨b, _, rfl⟩ := List.mem_map.1 hx
  have := b.toNat_lt
  omega
theorem rd_s {H : Type} (d : DataW H) (h : Gd .str d) : ∃ s : List Int, B8 s ∧ avD .str d = cS s := by
  simp only [Gd] at h
  obtain ⟨l, rfl, _⟩ := h
  exact ⟨_, bytes_8 l, by simp only [avD]; rw [strN_of]⟩
abbrev shL : Sh := .st [.int .i64, .int .i64, .bool, .bool, .str]
theorem rd_lf {H : Type} (d : DataW H) (h : Gd shL d) : ∃ x : Lf, (I64 x.ix ∧ I64 x.want ∧ B8 x.salt) ∧ avD shL d = cLf x := by
  obtain ⟨ps, g, e⟩ := rd_st d h
  obtain ⟨d0, r0, g0, g, e0⟩ := rd_cons ps g
  obtain ⟨d1, r1, g1, g, e1⟩ := rd_cons r0 g
  obtain ⟨d2, r2, g2, g, e2⟩ := rd_cons r1 g
  obtain ⟨d3, r3, g3, g, e3⟩ := rd_cons r2 g
  obtain ⟨d4, r4, g4, g, e4⟩ := rd_cons r3 g
  obtain ⟨n0, h0, a0⟩ := rd_i6 d0 g0
  obtain ⟨n1, h1, a1⟩ := rd_i6 d1 g1
  obtain ⟨b2, a2⟩ := rd_bool d2 g2
  obtain ⟨b3, a3⟩ := rd_bool d3 g3
  obtain ⟨s4, h4, a4⟩ := rd_s d4 g4
  exact ⟨⟨n0, n1, b2, b3, s4⟩, ⟨h0, h1, h4⟩, by rw [e, e0, e1, e2, e3, e4, rd_nil r4 g, a0, a1, a2, a3, a4]; rfl⟩
abbrev shSn : Sh := .st [.int .i64, .sl 5 shL, .sl 1 .str]
theorem rd_sn {H : Type} (d : DataW H) (h : Gd shSn d) : ∃ (z : Int) (lv : List Lf) (hd : List (List Int)), RawOK lv hd ∧ argA shSn d = .agg [iv z, .rs 5 (lv.map cLf), .rs 1 (hd.map cS)] := by
  obtain ⟨ps, g, e⟩ := rd_st d h
  obtain ⟨d0, r0, g0, g, e0⟩ := rd_cons ps g
  obtain ⟨d1, r1, g1, g, e1⟩ := rd_cons r0 g
  obtain ⟨d2, r2, g2, g, e2⟩ := rd_cons r1 g
  obtain ⟨n0, _, a0⟩ := rd_i6 d0 g0
  obtain ⟨lv, ⟨l1, l2⟩, a1⟩ := rd_sl _ cLf rd_lf d1 g1
  obtain ⟨hd, ⟨h1, h2⟩, a2⟩ := rd_sl _ cS rd_s d2 g2
  exact ⟨n0, lv, hd, ⟨Nat.le_trans l1 (by decide), Nat.le_trans h1 (by decide), l2, h2⟩, by simp only [argA]; rw [e, e0, e1, e2, rd_nil r2 g, a0, a1, a2]; rfl⟩
theorem rd_q6 {H : Type} (d : DataW H) (h : Gd (.arr 2 (.arr 3 (.int .i64))) d) : ∃ a0 a1 a2 b0 b1 b2 : Int, (I64 a2 ∧ I64 b2) ∧ argA (.arr 2 (.arr 3 (.int .i64))) d = .agg [iv a0, iv a1, iv a2, iv b0, iv b1, iv b2] := by
  obtain ⟨q, ⟨hq, hr⟩, e⟩ := rd_arr (fun L : List Int => L.length = 3 ∧ ∀ x ∈ L, I64 x) (fun L => L.flatMap ci) (fun d h => by
    obtain ⟨xs, ⟨h1, h2⟩, e⟩ := rd_arr _ ci rd_i6 d h
    exact ⟨xs, ⟨h1, h2⟩, e⟩) d h
  match q, hq with
  | [x, y], _ =>
    match x, y, hr x (by simp), hr y (by simp) with
    | [a0, a1, a2], [b0, b1, b2], h1, h2 => exact ⟨a0, a1, a2, b0, b1, b2, ⟨h1.2 a2 (by simp), h2.2 b2 (by simp)⟩, by simp only [argA]; rw [e]; rfl⟩
end Go.Proofs.YthfhaoogcpfboaaGreat
namespace Go.Proofs.YthfhaoogcpfboaaGreat
open Go.RowKit Go.WideShapes Go.ChangeShapes Go.ChangeAt
set_option maxRecDepth 100000
abbrev shs4 : List Sh := [.sl 1 (.int .i64), .int .i64, .arr 2 (.arr 3 (.int .i64)), shSn]
theorem lifted4 (os : Os) (started : os.Started) (H : Type) (enc : TypeId × Value → H) :
    ReturnsInHanded {} Tryz.checked os 4 .any (Rows.revealRootsSpec.pre6 enc Tryz.prog Tryz.f4 Rows.revealRootsRow.domain false) (Rows.revealRootsSpec.post enc Tryz.prog Tryz.f4 false true false false) := by
  refine law_row (C := Tryz.checked) own_knob started (by kernel_rfl) Tryz.func4 laid_out rfl (tb := 4) rfl Tryz.underlying4 shs4 (by kernel_rfl) (fun ds h => ?_)
    (ChangeSpec.witness6 (enc := enc) (C := Tryz.checked) false ⟨#[], #[.slice none 0 0, .int .i64 0, .agg #[.int .i64 0, .int .i64 0, .int .i64 0, .int .i64 0, .int .i64 0, .int .i64 0], .agg #[.int .i64 0, .slice none 0 0, .slice none 0 0]], []⟩ 8 (by kernel_rfl) (by kernel_rfl) (by kernel_rfl) (by kernel_rfl)) fun ds hg => ⟨false, ?_⟩
  · match ds, h with
    | [_, _, _, _], _ => rfl
  · simp only [shs4, GdFs] at hg
    obtain ⟨d0, _, rfl, g0, d1, _, rfl, g1, d2, _, rfl, g2, d3, _, rfl, g3, rfl⟩ := hg
    obtain ⟨L, ⟨hl_L, hr_L⟩, e0⟩ := rd_sl _ ci rd_i d0 g0
    obtain ⟨s, _, e1⟩ := rd_i d1 g1
    obtain ⟨a0, a1, a2, b0, b1, b2, ⟨hq0, hq1⟩, e2⟩ := rd_q6 d2 g2
    obtain ⟨z, lv, hd, hr, e3⟩ := rd_sn d3 g3
    have e : argAs shs4 [d0, d1, d2, d3] = [.rs 1 (L.map ci), iv s, .agg [iv a0, iv a1, iv a2, iv b0, iv b1, iv b2], .agg [iv z, .rs 5 (lv.map cLf), .rs 1 (hd.map cS)]] := by
      simp only [argAs, shs4]
      rw [e2]
      rw [e3]
      simp only [argA]
      rw [e0, e1]
      rfl
    rw [e]
    exact vc4 L (Nat.le_trans hl_L (by decide)) s a0 a1 a2 b0 b1 b2 hq0 hq1 z lv hd hr
theorem over4 : Rows.revealRootsRow.holds Tryz.pinned (OpenSpec.ofChange Rows.revealRootsSpec) :=
  OpenClaim.holds_of_wide 4 Tryz.f4 rfl rfl rfl rfl rfl rfl rfl ⟨rfl, rfl, rfl, rfl, rfl⟩ rfl rfl rfl rfl rfl (by kernel_rfl) Tryz.func4 (by kernel_rfl)
    (of_decide_eq_true (by kernel_rfl)) (by unfold Func.isWrapper; rw [if_neg (of_decide_eq_false (by kernel_rfl))]; exact ⟨rfl, rfl⟩)
    (fun os started H enc _ => lifted4 os started H enc)
theorem revealRoots_holds : Rows.RevealRootsSaid := over4
#print axioms revealRoots_holds
end Go.Proofs.YthfhaoogcpfboaaGreat
