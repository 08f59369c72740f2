/-
  Proved: colletlaw21.ProbeNarrows returns true for every input, and its arguments read as before. No condition.
-/
import Derived.Test.YtadjdnhnbkcakaaA17
import Derived.Test.YtadjdnhnbkcakaaL25
import Derived.Test.YtadjdnhnbkcakaaRows
namespace Go.Proofs.Ytadjdnhnbkcakaa
open Go.RowKit Go.WideShapes Go.ChangeShapes Go.ChangeAt
set_option maxRecDepth 100000

theorem own_knob : ownKnob Try.prog.godebug = none := by kernel_rfl
theorem laid_out : laidOutB Try.prog = true := by kernel_rfl

abbrev shCase21 : Sh := .st [.sl 1 (.sl 1 (.int .i64)), .sl 1 (.int .u8), .int .u8]
abbrev shRd : Sh := .st [.int .i64, .int .i64, .int .i64, .int .i64]
abbrev shs3 : List Sh := [shCase21, .arr 3 (.int .i64), .sl 4 shRd, .arr 2 (.sl 1 (.int .i64)), .int .i64]

theorem rd_i {H : Type} (d : DataW H) (h : Gd (.int .i64) d) : ∃ n : Int, True ∧ avD (.int .i64) d = ci n := by
  obtain ⟨n, _, e⟩ := rd_int d h
  exact ⟨n, trivial, e⟩
theorem rd_u8 {H : Type} (d : DataW H) (h : Gd (.int .u8) d) : ∃ n : Int, (0 ≤ n ∧ n < 256) ∧ avD (.int .u8) d = cu8 n := by
  obtain ⟨n, hw, e⟩ := rd_int d h
  have := bounds_u8 hw
  exact ⟨n, by omega, e⟩
theorem rd_ints {H : Type} (d : DataW H) (h : Gd (.sl 1 (.int .i64)) d) : ∃ L : List Int, L.length ≤ 140737488351232 ∧ avD (.sl 1 (.int .i64)) d = cL L := by
  obtain ⟨L, ⟨h1, _⟩, e⟩ := rd_sl (fun _ => True) ci rd_i d h
  exact ⟨L, h1, e⟩
theorem rd_lists {H : Type} (d : DataW H) (h : Gd (.sl 1 (.sl 1 (.int .i64))) d) : ∃ ls : List (List Int), (ls.length ≤ 140737488351232 ∧ ∀ L ∈ ls, L.length ≤ 140737488351232) ∧ avD (.sl 1 (.sl 1 (.int .i64))) d = [.rs 1 (ls.map cL)] :=
  rd_sl _ cL rd_ints d h
theorem rd_u8s {H : Type} (d : DataW H) (h : Gd (.sl 1 (.int .u8)) d) : ∃ ls : List Int, (ls.length ≤ 140737488351232 ∧ ∀ x ∈ ls, 0 ≤ x ∧ x < 256) ∧ avD (.sl 1 (.int .u8)) d = [.rs 1 (ls.map cu8)] :=
  rd_sl _ cu8 rd_u8 d h
theorem rd_rd {H : Type} (d : DataW H) (h : Gd shRd d) : ∃ r : Rd, True ∧ avD shRd d = cR r := by
  obtain ⟨ps, g, e⟩ := rd_st d h
  obtain ⟨d0, r0, g0, g, e0⟩ := rd_cons ps g
  obtain ⟨d1, r1, g1, g, e1⟩ := rd_cons r0 g
  obtain ⟨d2, r2, g2, g, e2⟩ := rd_cons r1 g
  obtain ⟨d3, r3, g3, g, e3⟩ := rd_cons r2 g
  obtain ⟨n0, _, a0⟩ := rd_i d0 g0
  obtain ⟨n1, _, a1⟩ := rd_i d1 g1
  obtain ⟨n2, _, a2⟩ := rd_i d2 g2
  obtain ⟨n3, _, a3⟩ := rd_i d3 g3
  exact ⟨⟨n0, n1, n2, n3⟩, trivial, by rw [e, e0, e1, e2, e3, rd_nil r3 g, a0, a1, a2, a3]; rfl⟩
theorem rd_case21 {H : Type} (d : DataW H) (h : Gd shCase21 d) : ∃ (ls : List (List Int)) (lims : List Int) (lies : Int), ((ls.length ≤ 140737488351232 ∧ ∀ L ∈ ls, L.length ≤ 140737488351232) ∧ (lims.length ≤ 140737488351232 ∧ ∀ x ∈ lims, 0 ≤ x ∧ x < 256) ∧ (0 ≤ lies ∧ lies < 256)) ∧
    argA shCase21 d = .agg [.rs 1 (ls.map cL), .rs 1 (lims.map cu8), .int .u8 lies] := by
  obtain ⟨ps, g, e⟩ := rd_st d h
  obtain ⟨d0, r0, g0, g, e0⟩ := rd_cons ps g
  obtain ⟨d1, r1, g1, g, e1⟩ := rd_cons r0 g
  obtain ⟨d2, r2, g2, g, e2⟩ := rd_cons r1 g
  obtain ⟨n0, k0, a0⟩ := rd_lists d0 g0
  obtain ⟨n1, k1, a1⟩ := rd_u8s d1 g1
  obtain ⟨n2, k2, a2⟩ := rd_u8 d2 g2
  exact ⟨n0, n1, n2, ⟨k0, k1, k2⟩, by simp only [argA]; rw [e, e0, e1, e2, rd_nil r2 g, a0, a1, a2]; rfl⟩

theorem lifted3 (os : Os) (started : os.Started) (H : Type) (enc : TypeId × Value → H) :
    ReturnsInHanded {} Try.checked os 3 .any (Rows.probeNarrowsSpec.pre6 enc Try.prog Try.f3 Rows.probeNarrowsRow.domain false) (Rows.probeNarrowsSpec.post enc Try.prog Try.f3 false true false false) := by
  refine law_row (C := Try.checked) own_knob started (by kernel_rfl) Try.func3 laid_out rfl (tb := 4) rfl Try.underlying4 shs3 (by kernel_rfl) (fun ds h => ?_)
    (ChangeSpec.witness6 (enc := enc) (C := Try.checked) false ⟨#[], #[.agg #[.slice none 0 0, .slice none 0 0, .int .u8 0], .agg #[.int .i64 0, .int .i64 0, .int .i64 0], .slice none 0 0, .agg #[.slice none 0 0, .slice none 0 0], .int .i64 0], []⟩ 8 (by kernel_rfl) (by kernel_rfl) (by kernel_rfl) (by kernel_rfl)) fun ds hg => ⟨false, ?_⟩
  · match ds, h with
    | [_, _, _, _, _], _ => rfl
  · simp only [shs3, GdFs] at hg
    obtain ⟨d0, _, rfl, g0, d1, _, rfl, g1, d2, _, rfl, g2, d3, _, rfl, g3, d4, _, rfl, g4, rfl⟩ := hg
    obtain ⟨ls, lims, lies8, ⟨⟨_, hls⟩, ⟨_, hlims⟩, hl8⟩, e0⟩ := rd_case21 d0 g0
    obtain ⟨q, ⟨hq, _⟩, e1⟩ := rd_arr _ ci rd_i d1 g1
    obtain ⟨wild, _, e2⟩ := rd_sl _ cR rd_rd d2 g2
    obtain ⟨lm, ⟨hlm, _⟩, e3⟩ := rd_arr _ cL rd_ints d3 g3
    obtain ⟨lies, _, e4⟩ := rd_i d4 g4
    match q, hq, lm, hlm with
    | [q0, q1, q2], _, [l0, l1], _ =>
      have := fc3 ls lims lies8 q0 q1 q2 wild l0 l1 lies (fun L h => Nat.le_trans (hls L h) (by decide)) hlims hl8
      have e : argAs shs3 [d0, d1, d2, d3, d4] = [.agg [.rs 1 (ls.map cL), .rs 1 (lims.map cu8), .int .u8 lies8], .agg [iv q0, iv q1, iv q2], .rs 4 (wild.map cR), .agg [ints l0, ints l1], iv lies] := by
        simp only [argAs, shs3]
        rw [e0]
        simp only [argA]
        rw [e1, e2, e3, e4]
        rfl
      rw [e]
      exact this

theorem over3 : Rows.probeNarrowsRow.holds Try.pinned (OpenSpec.ofChange Rows.probeNarrowsSpec) :=
  OpenClaim.holds_of_wide 3 Try.f3 rfl rfl rfl rfl rfl rfl rfl ⟨rfl, rfl, rfl, rfl, rfl⟩ rfl rfl rfl rfl rfl (by kernel_rfl) Try.func3 (by kernel_rfl)
    (of_decide_eq_true (by kernel_rfl)) (by unfold Func.isWrapper; rw [if_neg (of_decide_eq_false (by kernel_rfl))]; exact ⟨rfl, rfl⟩)
    (fun os started H enc _ => lifted3 os started H enc)

theorem probeNarrows_holds : Rows.ProbeNarrowsSaid := over3
#print axioms probeNarrows_holds
end Go.Proofs.Ytadjdnhnbkcakaa
